/- wakes of bolterlaw3: it answers true. No condition but the errors' variables. -/
import Derived.Test.YtihjmeoklbmnmaaDoorParse
import Derived.Test.YtihjmeoklbmnmaaDoorRefText
import Derived.Test.YtihjmeoklbmnmaaDoorSetEq
namespace Go.Proofs.YtihjmeoklbmnmaaDoor
open Go Go.RowKit

def Rd.isOk (s : BitVec 256) (r : List UInt8) : Rd → Bool
  | .ok s' r' => s' == s && r' == r
  | .bad _ _ => false
theorem Rd.of_isOk {s : BitVec 256} {r : List UInt8} : ∀ {x : Rd}, x.isOk s r = true → x = .ok s r
  | .ok s' r', h => by
    unfold Rd.isOk at h
    simp only [Bool.and_eq_true, beq_iff_eq] at h
    rw [h.1, h.2]
  | .bad _ _, h => by cases h
theorem wake_parse : parseP [120, 91, 97, 45, 99, 45, 45, 91, 98, 93, 93, 121] 1 = .ok (ofList [97, 99]) [121] := Rd.of_isOk (by decide +kernel)
/-- A set's text, told by its spans. -/
theorem text_is (s : BitVec 256) (r : List Sp) (h : Runs r (bytesOf s)) (w : World) : Calls Tryd.prog 8 #[.agg #[.int .u64 (wd s 0), .int .u64 (wd s 1), .int .u64 (wd s 2), .int .u64 (wd s 3)]] w fun e w' => e = .returned (.string (st (textL r))) ∧ Gr w w' := by
  refine (text_any s w).mono ?_
  rintro e w' ⟨r', h', rfl, hg⟩
  rw [h.one r' h']; exact ⟨rfl, hg⟩
theorem wake_bytes : bytesOf (ofList [97, 99]) = [97, 99] := by decide +kernel
theorem wake_runs : Runs [(97, 97), (99, 99)] [97, 99] :=
  Runs.new [(97, 97)] [97] 99 (Runs.new [] [] 97 .nil (fun p h => by simp at h)) (fun p h => by simp at h; subst h; decide)

set_option maxRecDepth 100000 in
set_option maxHeartbeats 8000000 in
theorem wakes_any (w : World) (es ed : Value) (hS : Sy0 w es ed) : Calls Tryd.prog 12 #[] w fun e w' => e = .returned (.bool true) ∧ Gr w w' := by
  have hp := fun w' h => parse_any [120, 91, 97, 45, 99, 45, 45, 91, 98, 93, 93, 121] 1 es ed w' (by decide) h
  rw [wake_parse] at hp
  obtain ⟨S, hSS⟩ : ∃ S, ofList [97, 99] = S := ⟨_, rfl⟩
  have ht := fun w' => text_is S [(97, 97), (99, 99)] (by rw [← hSS, wake_bytes]; exact wake_runs) w'
  rw [hSS] at hp
  have HP := Lib.hid hp
  have HT := Lib.hid ht
  have HO := Lib.hid hSS
  have hq : ∀ w' : World, Calls Tryd.prog 10 #[.string { data := #[97, 10] }] w' fun e w'' => e = .returned (.string (st (quoteL [97, 10]))) ∧ Gr w' w'' := fun w' => quote_any [97, 10] w' (by decide)
  have HQ := Lib.hid hq
  clear hq
  have HS := Lib.hid hS
  have s1 : (st (textL [(97, 97), (99, 99)])).toList = [91, 97, 99, 93] := by rw [st_list]; decide
  have s2 : (st (quoteL [97, 10])).toList = [34, 97, 92, 110, 34] := by rw [st_list]; decide
  clear hp ht hSS hS
  go_enter Tryd.func12, Tryd.ntmps12
  go_wp2_with fail
  go_at_call 13
  refine (HP.out w HS.out).mono ?_; rintro e w1 ⟨hg, rfl⟩
  go_wp2_with fail
  refine name_world (fun W hW => ?_)
  have xs : boxAt W w1.heap.size [.int .u64 (wd S 0), .int .u64 (wd S 1), .int .u64 (wd S 2), .int .u64 (wd S 3)] := boxAt.new _ _ hW
  have hgW : Gr w W := by rw [hW]; exact hg.trans (Gr.alloc _ _)
  clear hW hg
  have c_s0 := xs.cell 0 _ rfl
  have c_s1 := xs.cell 1 _ rfl
  have c_s2 := xs.cell 2 _ rfl
  have c_s3 := xs.cell 3 _ rfl
  have m_s0 := xs.mark 0 _ rfl
  have m_s1 := xs.mark 1 _ rfl
  have m_s2 := xs.mark 2 _ rfl
  have m_s3 := xs.mark 3 _ rfl
  have l_s := xs.lt (Nat.succ_pos _)
  have hsl : Sl (W.alloc (.cells #[.int .u8 97, .int .u8 99] 5)).drew (.slice (some ⟨W.heap.size, 0, none⟩) 2 2) 1 2 (([97, 99] : List UInt8).map vB) := (sl_alloc W (([97, 99] : List UInt8).map vB) 5 1 2 rfl (by unfold maxLen; omega)).later (Gr.drew _)
  have hof : Calls Tryd.prog 19 #[.slice (some ⟨W.heap.size, 0, none⟩) 2 2] (W.alloc (.cells #[.int .u8 97, .int .u8 99] 5)).drew fun e w' => e = .returned (.agg #[.int .u64 (wd S 0), .int .u64 (wd S 1), .int .u64 (wd S 2), .int .u64 (wd S 3)]) ∧ Gr W w' := by
    refine (of_is [97, 99] S _ _ hsl HO.out).mono ?_; rintro e w' ⟨rfl, h⟩
    exact ⟨rfl, ((Gr.alloc _ _).trans (Gr.drew _)).trans h⟩
  have HOF := Lib.hid hof
  clear hsl hof
  go_region_with (first
    | (go_at_call 19; (with_reducible refine (HOF.out).mono ?_); rintro e w3 ⟨rfl, hg3⟩; have hc := hg3.cells)
    | (go_at_call 8; (with_reducible refine (HT.out _).mono ?_); rintro e w4 ⟨rfl, hg4⟩)
    | (go_at_call 10; (with_reducible refine (HQ.out _).mono ?_); rintro e w5 ⟨rfl, hg5⟩))
  all_goals
    go_wp2
    go_ret
    exact ⟨rfl, ((hgW.trans hg3).trans hg4).trans hg5⟩

/-! Slices of sets and of texts. -/
def setCells (s : BitVec 256) : List Value := [.int .u64 (wd s 0), .int .u64 (wd s 1), .int .u64 (wd s 2), .int .u64 (wd s 3)]
theorem setCells_len (s : BitVec 256) : (setCells s).length = 4 := rfl
theorem flat_at {α : Type} (f : α → List Value) (k : Nat) (hf : ∀ a, (f a).length = k) : ∀ (l : List α) (i : Nat) (a : α) (j : Nat), l[i]? = some a → j < k → (l.flatMap f)[i * k + j]? = (f a)[j]?
  | [], i, a, j, h, _ => by simp at h
  | x :: l, 0, a, j, h, hj => by
    simp only [List.getElem?_cons_zero, Option.some.injEq] at h
    subst h
    rw [List.flatMap_cons, Nat.zero_mul, Nat.zero_add, List.getElem?_append_left (by rw [hf]; exact hj)]
  | x :: l, i + 1, a, j, h, hj => by
    rw [List.flatMap_cons, List.getElem?_append_right (by rw [hf, Nat.add_mul]; omega), hf, show (i + 1) * k + j - k = i * k + j by rw [Nat.add_mul]; omega]
    exact flat_at f k hf l i a j (by simpa using h) hj
/-- A set of a slice of sets. -/
theorem set_at {w : World} {p : Option Addr} {c : Nat} {l : List (BitVec 256)} (h : Sl w (.slice p l.length c) 4 l.length (l.flatMap setCells)) {k : Nat} {s : BitVec 256} (hk : l[k]? = some s) :
    ∃ b off, p = some ⟨b, off, none⟩ ∧ b < w.heap.size ∧ w.cell? ⟨b, off + k * 4, none⟩ = some (.int .u64 (wd s 0)) ∧ w.cell? ⟨b, off + k * 4 + 1, none⟩ = some (.int .u64 (wd s 1)) ∧
      w.cell? ⟨b, off + k * 4 + 2, none⟩ = some (.int .u64 (wd s 2)) ∧ w.cell? ⟨b, off + k * 4 + 3, none⟩ = some (.int .u64 (wd s 3)) := by
  have hl : k < l.length := (List.getElem?_eq_some_iff.1 hk).1
  obtain ⟨_, _, ⟨_, h0⟩ | ⟨b, off, cap, hv, hb, hc⟩⟩ := h
  · omega
  · injection hv with hp _ _
    refine ⟨b, off, hp, hb (by omega), ?_, ?_, ?_, ?_⟩
    · have := hc (k * 4 + 0) _ (by rw [flat_at setCells 4 setCells_len l k s 0 hk (by omega)]; rfl); rw [← Nat.add_assoc] at this; simpa using this
    · have := hc (k * 4 + 1) _ (by rw [flat_at setCells 4 setCells_len l k s 1 hk (by omega)]; rfl); rw [← Nat.add_assoc] at this; exact this
    · have := hc (k * 4 + 2) _ (by rw [flat_at setCells 4 setCells_len l k s 2 hk (by omega)]; rfl); rw [← Nat.add_assoc] at this; exact this
    · have := hc (k * 4 + 3) _ (by rw [flat_at setCells 4 setCells_len l k s 3 hk (by omega)]; rfl); rw [← Nat.add_assoc] at this; exact this
def vS (l : List UInt8) : Value := .string (st l)
/-- A text of a slice of texts. -/
theorem str_at {w : World} {p : Option Addr} {c : Nat} {l : List (List UInt8)} (h : Sl w (.slice p l.length c) 1 l.length (l.map vS)) {k : Nat} {s : List UInt8} (hk : l[k]? = some s) :
    ∃ b off, p = some ⟨b, off, none⟩ ∧ b < w.heap.size ∧ w.cell? ⟨b, off + k, none⟩ = some (.string (st s)) := by
  have hl : k < l.length := (List.getElem?_eq_some_iff.1 hk).1
  obtain ⟨_, _, ⟨_, h0⟩ | ⟨b, off, cap, hv, hb, hc⟩⟩ := h
  · omega
  · injection hv with hp _ _
    exact ⟨b, off, hp, hb (by omega), hc k _ (by rw [List.getElem?_map, hk]; rfl)⟩

end Go.Proofs.YtihjmeoklbmnmaaDoor
