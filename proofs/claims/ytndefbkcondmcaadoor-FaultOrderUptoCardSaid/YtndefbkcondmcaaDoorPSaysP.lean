/- What errors say, as texts: plain, and in a world. No condition. -/
import Derived.Test.YtndefbkcondmcaaDoorPChain
import Derived.Lib.ItoaNum
import Derived.Lib.Join
namespace Go.Proofs.YtndefbkcondmcaaDoor
open Go Go.RowKit

/-- The words of a code. -/
def wordsL : List (List UInt8) := [[116, 111, 111, 32, 108, 111, 110, 103], [115, 121, 110, 116, 97, 120], [116, 111, 111, 32, 100, 101, 101, 112], [116, 111, 111, 32, 109, 97, 110, 121], [110, 97, 109, 101], [100, 101, 102, 105, 110, 105, 116, 105, 111, 110, 32, 99, 121, 99, 108, 101], [114, 101, 112, 101, 97, 116], [116, 111, 111, 32, 109, 97, 110, 121, 32, 112, 111, 115, 105, 116, 105, 111, 110, 115], [116, 114, 97, 105, 108, 105, 110, 103, 32, 99, 111, 110, 116, 101, 120, 116], [116, 111, 111, 32, 109, 97, 110, 121, 32, 115, 116, 97, 116, 101, 115], [105, 109, 97, 103, 101], [109, 111, 100, 101, 32, 115, 116, 97, 99, 107], [99, 108, 111, 115, 101, 100], [97, 114, 103, 117, 109, 101, 110, 116], [99, 111, 109, 109, 97, 110, 100], [104, 97, 110, 100, 108, 101]]
def wordP (k : Nat) : List UInt8 := wordsL.getD (k - 2) []
theorem wordP_len : ∀ k, (wordP k).length ≤ 18 := fun k => by
  unfold wordP
  rw [List.getD_eq_getElem?_getD]
  rcases Nat.lt_or_ge (k - 2) 16 with h | h
  · have hh : ∀ j : Fin 16, (wordsL[j.val]?.getD []).length ≤ 18 := by decide
    exact hh ⟨k - 2, h⟩
  · rw [List.getElem?_eq_none (by show wordsL.length ≤ _; exact h)]; decide
theorem wordP_pos (k : Nat) (h1 : 2 ≤ k) (h2 : k ≤ 17) : 0 < (wordP k).length := by
  unfold wordP
  have hh : ∀ j : Fin 16, 0 < (wordsL.getD j.val []).length := by decide
  exact hh ⟨k - 2, by omega⟩
def joinN (ns : List (List UInt8)) : List UInt8 := Lib.join ns [44, 32]
def headW : Wr → List UInt8
  | .placed => [97, 116, 32]
  | .named => []
  | .ruled => [114, 117, 108, 101, 32]
  | .staged => [115, 116, 97, 103, 101, 32]
/-- What one wrapper says. -/
def sayW (x : WrP) : List UInt8 := match kindOf x.kind with
  | none => []
  | some .named => joinN x.names ++ [58, 32]
  | some k => headW k ++ (Lib.itoa x.n ++ [58, 32])
def textP (s : List UInt8) (l : List WrP) : List UInt8 := l.foldl (fun a x => sayW x ++ a) s
theorem textP_snoc (s : List UInt8) (l : List WrP) (x : WrP) : textP s (l ++ [x]) = sayW x ++ textP s l := by unfold textP; rw [List.foldl_append]; rfl

/-- How many bytes names have. -/
def namesLen (ns : List (List UInt8)) : Nat := (ns.map List.length).sum
theorem join_len : ∀ ns : List (List UInt8), (joinN ns).length ≤ namesLen ns + 2 * ns.length
  | [] => by simp [joinN, Lib.join, namesLen]
  | [a] => by simp [joinN, Lib.join, namesLen]
  | a :: b :: l => by
    have := join_len (b :: l)
    unfold joinN Lib.join namesLen at *
    rw [List.intercalate_cons_cons]
    simp only [List.length_append, List.map_cons, List.sum_cons, List.length_cons, List.length_nil] at *
    omega
theorem itoa_len (n : Int) (h1 : -9223372036854775808 ≤ n) (h2 : n ≤ 9223372036854775807) : (Lib.itoa n).length ≤ 21 := by
  have hd : ∀ u : Nat, u ≤ 9223372036854775808 → (Lib.decDigits u).length ≤ 20 := fun u hu => by
    rw [Lib.decDigits_length]
    have aux : ∀ (k : Nat) (u : Nat), u < 10 ^ k → 0 < k → Lib.nDigits u ≤ k := by
      intro k
      induction k with
      | zero => intro u _ h; omega
      | succ k ih =>
        intro u hu _
        by_cases h : u < 10
        · rw [Lib.nDigits_small h]; omega
        · rw [Lib.nDigits_big h]
          rw [Nat.pow_succ] at hu
          rcases Nat.eq_zero_or_pos k with hk | hk
          · subst hk; omega
          · have := ih (u / 10) (by omega) hk; omega
    exact aux 20 u (by omega) (by omega)
  unfold Lib.itoa
  split
  · have := hd n.natAbs (by omega); simp only [List.length_cons]; omega
  · have := hd n.toNat (by omega); omega
/-- A wrapper's bulk. -/
def wrBulk (x : WrP) : Nat := 40 + namesLen x.names + 2 * x.names.length
def chBulk (l : List WrP) : Nat := (l.map wrBulk).sum
theorem chBulk_snoc (l : List WrP) (x : WrP) : chBulk (l ++ [x]) = chBulk l + wrBulk x := by simp [chBulk]
theorem sayW_len (x : WrP) (h1 : -9223372036854775808 ≤ x.n) (h2 : x.n ≤ 9223372036854775807) : (sayW x).length ≤ wrBulk x := by
  have hi := itoa_len x.n h1 h2
  have hj := join_len x.names
  unfold sayW wrBulk
  split
  · simp
  · simp only [List.length_append, List.length_cons, List.length_nil]; omega
  · rename_i k _ _
    have hk : (headW k).length ≤ 6 := by cases k <;> decide
    simp only [List.length_append, List.length_cons, List.length_nil]; omega
/-- An error says a text. -/
def Says (W : World) : Er → List UInt8 → Prop
  | .leaf a, t => W.cell? a = some (.string (st t))
  | .wrap k _ x e, t => ∃ t', Says W e t' ∧ ((k = .named ∧ ∃ ns : List (List UInt8), Sl W x 1 ns.length (ns.map vS) ∧ t = joinN ns ++ ([58, 32] ++ t')) ∨ (k ≠ .named ∧ ∃ n : Int, (-9223372036854775808 ≤ n ∧ n ≤ 9223372036854775807) ∧ x = .int .i64 n ∧ t = headW k ++ (Lib.itoa n ++ ([58, 32] ++ t'))))
theorem Says.later {W W' : World} (hG : Gr W W') : ∀ {e : Er} {t : List UInt8}, Says W e t → Says W' e t
  | .leaf _, _, h => hG.cell h
  | .wrap _ _ _ _, _, ⟨t', h1, h2⟩ => ⟨t', h1.later hG, by
    rcases h2 with ⟨hk, ns, h3, h4⟩ | h3
    · exact .inl ⟨hk, ns, h3.later hG, h4⟩
    · exact .inr h3⟩
/-- A chain, and what it says. -/
structure Ch (W : World) (s : Addr) (t : List UInt8) (l : List WrP) (e : Er) : Prop where
  chain : Chain W s l e
  says : Says W e (textP t l)
theorem Ch.later {W W' : World} {s : Addr} {t : List UInt8} {l : List WrP} {e : Er} (h : Ch W s t l e) (hG : Gr W W') : Ch W' s t l e := ⟨h.chain.later hG, h.says.later hG⟩
theorem Ch.leaf {W : World} {s : Addr} {t : List UInt8} (h : (Er.leaf s).In W) (ht : W.cell? s = some (.string (st t))) : Ch W s t [] (.leaf s) := ⟨Chain.leaf h, ht⟩
theorem Ch.skip {W : World} {s : Addr} {t : List UInt8} {l : List WrP} {e : Er} {x : WrP} (h : Ch W s t l e) (hk : kindOf x.kind = none) : Ch W s t (l ++ [x]) e :=
  ⟨h.chain.skip hk, by rw [textP_snoc]; unfold sayW; rw [hk]; exact h.says⟩
theorem Ch.num {W W' : World} {s : Addr} {t : List UInt8} {l : List WrP} {e : Er} {x : WrP} {k : Wr} {b : Nat} (h : Ch W s t l e) (hn : k ≠ .named) (hk : kindOf x.kind = some k) (hi : -9223372036854775808 ≤ x.n ∧ x.n ≤ 9223372036854775807) (hG : Gr W W') (hb : boxAt W' b [e.val, .int .i64 x.n]) :
    Ch W' s t (l ++ [x]) (.wrap k b (.int .i64 x.n) e) := by
  refine ⟨h.chain.num hn hk hG hb, ?_⟩
  refine ⟨_, h.says.later hG, .inr ⟨hn, x.n, hi, rfl, ?_⟩⟩
  rw [textP_snoc]; unfold sayW; rw [hk]
  cases k
  · simp
  · exact absurd rfl hn
  · simp
  · simp
theorem Ch.nam {W W' : World} {s : Addr} {t : List UInt8} {l : List WrP} {e : Er} {x : WrP} {b : Nat} {nv : Value} (h : Ch W s t l e) (hk : kindOf x.kind = some .named) (hG : Gr W W') (hb : boxAt W' b [e.val, nv]) (hs : Sl W' nv 1 x.names.length (x.names.map vS)) (hl : x.names.length * 16 ≤ 140737488355328) :
    Ch W' s t (l ++ [x]) (.wrap .named b nv e) := by
  refine ⟨h.chain.nam hk hG hb hs hl, ?_⟩
  refine ⟨_, h.says.later hG, .inl ⟨rfl, x.names, hs, ?_⟩⟩
  rw [textP_snoc]; unfold sayW; rw [hk]; simp

end Go.Proofs.YtndefbkcondmcaaDoor
