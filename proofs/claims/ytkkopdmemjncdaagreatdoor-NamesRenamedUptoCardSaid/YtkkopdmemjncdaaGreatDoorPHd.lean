/- Texts of mine, put together: Str0, Texts, ImgA. No condition but what each says. -/
import Derived.Test.YtkkopdmemjncdaaGreatDoorPGa
import Derived.ShutString
import Derived.Laws.Concat
import Derived.Laws.RangeString
import Derived.Laws.BytesString
import Derived.Test.YtkkopdmemjncdaaGreatDoorPHc
import Derived.Test.YtkkopdmemjncdaaGreatDoorPGb
import Derived.Lib.Hide
import Derived.WalkKit
import Derived.WalkSpells
import Derived.WalkLawsBesides

/- Strings as lists of bytes. Plain; no condition. -/
namespace Go.Proofs.YtkkopdmemjncdaaGreatDoor
open Go

/-- The string of a list of bytes. -/
def st (l : List UInt8) : ByteArray := ⟨l.toArray⟩
theorem st_of (s : ByteArray) : s = st s.data.toList := by cases s; simp [st]
theorem st_size (l : List UInt8) : (st l).size = l.length := by simp [st, ByteArray.size]
theorem st_list (l : List UInt8) : (st l).toList = l := ByteArray.toList_mk l
theorem st_data (l : List UInt8) : (st l).data.toList = l := by simp [st]
theorem st_append (a b : List UInt8) : st a ++ st b = st (a ++ b) := ByteArray.mk_append_mk a b
theorem st_extract (l : List UInt8) (a b : Nat) : (st l).extract a b = st ((l.drop a).take (b - a)) := ByteArray.extract_mk l a b
theorem st_from (l : List UInt8) (a : Nat) (h : a ≤ l.length) : (st l).extract a l.length = st (l.drop a) := by
  rw [st_extract, List.take_of_length_le (by rw [List.length_drop]; omega)]
theorem st_get (l : List UInt8) (n : Nat) (h : n < (st l).size) : (st l)[n]'h = l[n]'(by rw [st_size] at h; exact h) := by
  simp [st, ByteArray.getElem_eq_getElem_data]
theorem st_inj {a b : List UInt8} (h : st a = st b) : a = b := by
  have := congrArg (fun s => s.data.toList) h
  simpa [st_data] using this
theorem st_beq (a b : List UInt8) : ((st a).toList == (st b).toList) = (a == b) := by rw [st_list, st_list]
/-- A byte of a string. -/
theorem run_at {P : Program} (w : World) (t : TypeId) (l : List UInt8) (i : Nat) (b : UInt8) (k : IntKind) (ht : P.underlying t = some .string) (hb : l[i]? = some b) :
    (Instr.index t (.string (st l)) (.int k (i : Int))).run P w = .ok (.int .u8 (b.toNat : Int)) w := by
  obtain ⟨hl, rfl⟩ := List.getElem?_eq_some_iff.1 hb
  rw [run_index_string w t (st l) k i ht, dif_pos (by rw [st_size]; omega)]
  congr 2
/-- A string from a place on. -/
theorem run_from {P : Program} (w : World) (t : TypeId) (l : List UInt8) (i : Nat) (k : IntKind) (ht : P.underlying t = some .string) (h : i ≤ l.length) :
    (Instr.slice t (.string (st l)) (some (.int k (i : Int))) none none).run P w = .ok (.string (st (l.drop i))) w := by
  rw [run_slice_string_from_if w t (st l) k i ht, if_pos (by rw [st_size]; omega), st_size, Int.toNat_natCast, st_from l i h]
theorem run_cat {P : Program} (w : World) (a b : List UInt8) (h : a.length + b.length ≤ 9223372036854775807) :
    (Op.stringOp .add (st a) (st b)).run P w = .ok (.string (st (a ++ b))) w := by
  rw [run_string_add_sum w _ _ (by rw [st_size, st_size]; exact h), st_append]

theorem fold_push : ∀ (l : List UInt8) (s : List UInt8), (l.map fun b => (b.toNat : Int)).foldl (fun r n => r.push (UInt8.ofNat n.toNat)) (st s) = st (s ++ l)
  | [], s => by simp
  | b :: l, s => by
    rw [List.map_cons, List.foldl_cons]
    have : (st s).push (UInt8.ofNat ((b.toNat : Int)).toNat) = st (s ++ [b]) := by
      rw [Int.toNat_natCast, UInt8.ofNat_toNat]
      apply ByteArray.ext
      simp [st, ByteArray.push]
    rw [this, fold_push l, List.append_assoc]; rfl
/-- Bytes turned to a string. -/
theorem conv_bytes {P : Program} (w : World) (src dst e : TypeId) (a : Addr) (c n : Nat) (l : List UInt8) (hs : P.underlying src = some (.slice e)) (he : P.underlying e = some (.int .u8)) (hd : P.underlying dst = some .string) (hn : l.length = n)
    (h : ∀ j v, (l.map vB)[j]? = some v → w.cell? (a.add j) = some v) : (convert src dst (.slice (some a) n c)).run P w = .ok (.string (st l)) w := by
  subst hn
  rw [run_convert_bytes_string w src dst e (some a) _ c hs he hd]
  have h2 : (loadCells a l.length).run P w = .ok ((l.map fun b => (b.toNat : Int)).map (Value.int .u8)).toArray w := by
    have := run_loadCells_list (P := P) w a (l.map vB) h
    rw [List.length_map] at this
    rw [this, List.map_map]; rfl
  rw [run_bytesToString w a _ c _ h2]
  have := fold_push l []
  rw [List.nil_append] at this
  exact congrArg (fun x => Result.ok (Value.string x) w) this
theorem conv_none {P : Program} (w : World) (src dst e : TypeId) (c : Nat) (hs : P.underlying src = some (.slice e)) (he : P.underlying e = some (.int .u8)) (hd : P.underlying dst = some .string) :
    (convert src dst (.slice none 0 c)).run P w = .ok (.string (st [])) w := by
  rw [run_convert_bytes_string w src dst e none _ c hs he hd]
  simp [Conv.bytesToString, st]; rfl

end Go.Proofs.YtkkopdmemjncdaaGreatDoor

/- Slices of texts. No condition. -/
namespace Go.Proofs.YtkkopdmemjncdaaGreatDoor
open Go Go.RowKit

theorem flat_at {α : Type} (f : α → List Value) (k : Nat) (hf : ∀ a, (f a).length = k) : ∀ (l : List α) (i : Nat) (a : α) (j : Nat), l[i]? = some a → j < k → (l.flatMap f)[i * k + j]? = (f a)[j]?
  | [], i, a, j, h, _ => by simp at h
  | x :: l, 0, a, j, h, hj => by
    simp only [List.getElem?_cons_zero, Option.some.injEq] at h
    subst h
    rw [List.flatMap_cons, Nat.zero_mul, Nat.zero_add, List.getElem?_append_left (by rw [hf]; exact hj)]
  | x :: l, i + 1, a, j, h, hj => by
    rw [List.flatMap_cons, List.getElem?_append_right (by rw [hf, Nat.add_mul]; omega), hf, show (i + 1) * k + j - k = i * k + j by rw [Nat.add_mul]; omega]
    exact flat_at f k hf l i a j (by simpa using h) hj
def vS (l : List UInt8) : Value := .string (st l)
/-- A text of a slice of texts. -/
theorem str_at {w : World} {p : Option Addr} {c : Nat} {l : List (List UInt8)} (h : Sl w (.slice p l.length c) 1 l.length (l.map vS)) {k : Nat} {s : List UInt8} (hk : l[k]? = some s) :
    ∃ b off, p = some ⟨b, off, none⟩ ∧ b < w.heap.size ∧ w.cell? ⟨b, off + k, none⟩ = some (.string (st s)) := by
  have hl : k < l.length := (List.getElem?_eq_some_iff.1 hk).1
  obtain ⟨_, _, ⟨_, h0⟩ | ⟨b, off, cap, hv, hb, hc⟩⟩ := h
  · omega
  · injection hv with hp _ _
    exact ⟨b, off, hp, hb (by omega), hc k _ (by rw [List.getElem?_map, hk]; rfl)⟩

end Go.Proofs.YtkkopdmemjncdaaGreatDoor

/- image: named, cuts, acts, classes. No condition but a bound of lengths. -/
namespace Go.Proofs.YtkkopdmemjncdaaGreatDoor
open Go Go.RowKit

def chB (i : Nat) (c : UInt8) : Bool := letB c || (decide (i ≠ 0) && digB c)
theorem nameB_allI (s : List UInt8) : nameB s = (decide (s ≠ []) && (decide (s.length ≤ 32) && allI chB 0 s)) := by
  cases s with
  | nil => rfl
  | cons c r =>
    have aux : ∀ (l : List UInt8) (i : Nat), i ≠ 0 → allI chB i l = l.all fun d => letB d || digB d := fun l => by
      induction l with
      | nil => intro i _; rfl
      | cons d l ih => intro i hi; rw [allI, ih (i + 1) (by omega), List.all_cons]; unfold chB; rw [decide_eq_true hi, Bool.true_and]
    rw [allI, aux r 1 (by omega)]
    unfold nameB chB
    simp
/-- What a byte of a name may be. -/
theorem ch_key (c : UInt8) : (97 ≤ c.toNat ∧ c.toNat ≤ 122 ∧ letB c = true) ∨ (65 ≤ c.toNat ∧ c.toNat ≤ 90 ∧ letB c = true) ∨ (c.toNat = 95 ∧ letB c = true) ∨
    (48 ≤ c.toNat ∧ c.toNat ≤ 57 ∧ letB c = false ∧ digB c = true) ∨ ((c.toNat < 97 ∨ 122 < c.toNat) ∧ (c.toNat < 65 ∨ 90 < c.toNat) ∧ c.toNat ≠ 95 ∧ (c.toNat < 48 ∨ 57 < c.toNat) ∧ letB c = false ∧ digB c = false) := by
  unfold letB digB
  by_cases h1 : 97 ≤ c.toNat ∧ c.toNat ≤ 122
  · left; exact ⟨h1.1, h1.2, by simp [h1]⟩
  by_cases h2 : 65 ≤ c.toNat ∧ c.toNat ≤ 90
  · right; left; exact ⟨h2.1, h2.2, by simp [h2]⟩
  by_cases h3 : c.toNat = 95
  · right; right; left; exact ⟨h3, by simp [h3]⟩
  by_cases h4 : 48 ≤ c.toNat ∧ c.toNat ≤ 57
  · right; right; right; left; exact ⟨h4.1, h4.2, by simp; omega, by simp [h4]⟩
  · right; right; right; right; exact ⟨by omega, by omega, h3, by omega, by simp; omega, by simp; omega⟩

def vI (n : Int) : Value := .int .i64 n
/-- Numbers of a slice. -/
theorem int_at {w : World} {p : Option Addr} {c : Nat} {l : List Int} (h : Sl w (.slice p l.length c) 1 l.length (l.map vI)) {k : Nat} {x : Int} (hk : l[k]? = some x) :
    ∃ b off, p = some ⟨b, off, none⟩ ∧ b < w.heap.size ∧ w.cell? ⟨b, off + k, none⟩ = some (.int .i64 x) := by
  have hl : k < l.length := (List.getElem?_eq_some_iff.1 hk).1
  obtain ⟨_, _, ⟨_, h0⟩ | ⟨b, off, cap, hv, hb, hc⟩⟩ := h
  · omega
  · injection hv with hp _ _
    exact ⟨b, off, hp, hb (by omega), hc k _ (by rw [List.getElem?_map, hk]; rfl)⟩
def prC (a : Int × Int) : List Value := [.int .i64 a.1, .int .i64 a.2]
theorem prC_len (a : Int × Int) : (prC a).length = 2 := rfl
/-- Pairs of a slice. -/
theorem pr_at {w : World} {p : Option Addr} {c : Nat} {l : List (Int × Int)} (h : Sl w (.slice p l.length c) 2 l.length (l.flatMap prC)) {k : Nat} {x : Int × Int} (hk : l[k]? = some x) :
    ∃ b off, p = some ⟨b, off, none⟩ ∧ b < w.heap.size ∧ w.cell? ⟨b, off + k * 2, none⟩ = some (.int .i64 x.1) ∧ w.cell? ⟨b, off + k * 2 + 1, none⟩ = some (.int .i64 x.2) := by
  have hl : k < l.length := (List.getElem?_eq_some_iff.1 hk).1
  obtain ⟨_, _, ⟨_, h0⟩ | ⟨b, off, cap, hv, hb, hc⟩⟩ := h
  · omega
  · injection hv with hp _ _
    refine ⟨b, off, hp, hb (by omega), ?_, ?_⟩
    · have := hc (k * 2 + 0) _ (by rw [flat_at prC 2 prC_len l k x 0 hk (by omega)]; rfl); rw [← Nat.add_assoc] at this; simpa using this
    · have := hc (k * 2 + 1) _ (by rw [flat_at prC 2 prC_len l k x 1 hk (by omega)]; rfl); rw [← Nat.add_assoc] at this; exact this

end Go.Proofs.YtkkopdmemjncdaaGreatDoor
