/- bolterlaw2: an argument's error; short. No condition but a bound of the argument's bulk. -/
import Derived.Test.YtndefbkcondmcaaDoorPWrapF
namespace Go.Proofs.YtndefbkcondmcaaDoor
open Go Go.RowKit

/-- A wrapper's three cells. -/
def wrC (p : WrP × Value) : List Value := [.int .i64 p.1.kind, .int .i64 p.1.n, p.2]
theorem wrC_len (p : WrP × Value) : (wrC p).length = 3 := rfl
/-- A wrapper's parts lie in a world. -/
structure WrIn (W : World) (p : WrP × Value) : Prop where
  names : Sl W p.2 1 p.1.names.length (p.1.names.map vS)
  nily : Nily p.2
  room : p.1.names.length * 16 ≤ 140737488355328
  fit : -9223372036854775808 ≤ p.1.n ∧ p.1.n ≤ 9223372036854775807
theorem WrIn.later {W W' : World} {p : WrP × Value} (h : WrIn W p) (hG : Gr W W') : WrIn W' p := ⟨h.names.later hG, h.nily, h.room, h.fit⟩
def wlen (x : WrP) : Nat := 40 + namesLen x.names
def shN (own : List UInt8) (l : List (WrP × Value)) : Nat := own.length + (l.map fun p => wlen p.1).sum
def shortP (own : List UInt8) (l : List (WrP × Value)) : Bool := decide (shN own l < 20000) && decide (l.length < 300)
/-- An error of an argument. -/
structure EIn (W : World) (own : List UInt8) (lv : Value) (L : List (WrP × Value)) : Prop where
  row : Sl W lv 3 L.length (L.flatMap wrC)
  each : ∀ p ∈ L, WrIn W p
  bulk : shN own L ≤ 1000000000
theorem EIn.later {W W' : World} {own : List UInt8} {lv : Value} {L : List (WrP × Value)} (h : EIn W own lv L) (hG : Gr W W') : EIn W' own lv L := ⟨h.row.later hG, fun p hp => (h.each p hp).later hG, h.bulk⟩
theorem shN_take (own : List UInt8) (L : List (WrP × Value)) (k : Nat) (p : WrP × Value) (h : L[k]? = some p) : shN own (L.take (k + 1)) = shN own (L.take k) + wlen p.1 := by
  obtain ⟨hk, rfl⟩ := List.getElem?_eq_some_iff.1 h
  unfold shN
  rw [List.take_succ_eq_append_getElem hk, List.map_append, List.sum_append]
  simp only [List.map_cons, List.map_nil, List.sum_cons, List.sum_nil]; omega
theorem sum_take_le (l : List Nat) : ∀ k, (l.take k).sum ≤ l.sum := fun k => by
  induction l generalizing k with
  | nil => simp
  | cons a l ih =>
    cases k with
    | zero => simp
    | succ k => simp only [List.take_succ_cons, List.sum_cons]; have := ih k; omega
theorem shN_le (own : List UInt8) (L : List (WrP × Value)) (k : Nat) : shN own (L.take k) ≤ shN own L := by
  unfold shN
  rw [List.map_take]
  have := sum_take_le (L.map fun p => wlen p.1) k
  omega
theorem namesLen_take (ns : List (List UInt8)) (k : Nat) (t : List UInt8) (h : ns[k]? = some t) : namesLen (ns.take (k + 1)) = namesLen (ns.take k) + t.length := by
  obtain ⟨hk, rfl⟩ := List.getElem?_eq_some_iff.1 h
  unfold namesLen
  rw [List.take_succ_eq_append_getElem hk, List.map_append, List.sum_append]
  simp only [List.map_cons, List.map_nil, List.sum_cons, List.sum_nil]; omega
theorem namesLen_le (ns : List (List UInt8)) (k : Nat) : namesLen (ns.take k) ≤ namesLen ns := by
  unfold namesLen
  rw [List.map_take]
  exact sum_take_le _ k
/-- A part of a slice of parts. -/
theorem sl_part {α : Type} {f : α → List Value} {m : Nat} (hf : ∀ a, (f a).length = m) {w : World} {p : Option Addr} {c : Nat} {l : List α} (h : Sl w (.slice p l.length c) m l.length (l.flatMap f)) {k : Nat} {x : α} (hk : l[k]? = some x) :
    ∃ b off, p = some ⟨b, off, none⟩ ∧ b < w.heap.size ∧ ∀ j u, j < m → (f x)[j]? = some u → w.cell? ⟨b, off + k * m + j, none⟩ = some u := by
  have hl : k < l.length := (List.getElem?_eq_some_iff.1 hk).1
  obtain ⟨_, _, ⟨_, h0⟩ | ⟨b, off, cap, hv, hb, hc⟩⟩ := h
  · omega
  · injection hv with hp _ _
    refine ⟨b, off, hp, hb (by omega), fun j u hj hu => ?_⟩
    have := hc (k * m + j) u (by rw [flat_at f m hf l k x j hk hj]; exact hu)
    rw [← Nat.add_assoc] at this; exact this

set_option maxRecDepth 100000 in
set_option maxHeartbeats 4000000 in
theorem short_any (W : World) (code : Int) (own : List UInt8) (lv : Value) (L : List (WrP × Value)) (h : EIn W own lv L) :
    Calls Tryd.prog 8 #[.agg #[.int .i64 code, .string (st own), lv]] W fun e w' => e = .returned (.bool (shortP own L)) ∧ Gr W w' := by
  obtain ⟨p, c, rfl⟩ := h.row.len
  have H := Lib.hid h
  have hmx := h.row.2.1
  unfold maxLen at hmx
  obtain ⟨R, hR⟩ : ∃ R, shortP own L = R := ⟨_, rfl⟩
  rw [hR]
  have HR := Lib.hid hR
  clear h hR
  have hsz : ((st own).size : Int) = (own.length : Int) := by rw [st_size]
  go_enter Tryd.func8, Tryd.ntmps8
  go_wp2_with fail
  refine name_world (fun W1 hW => ?_)
  have xe : boxAt W1 W.heap.size [.int .i64 code, .string (st own), .slice p L.length c] := boxAt.new _ _ hW
  have hg : Gr W W1 := by rw [hW]; exact Gr.alloc _ _
  clear hW
  have c_e0 := xe.cell 0 _ rfl
  have c_e1 := xe.cell 1 _ rfl
  have c_e2 := xe.cell 2 _ rfl
  have m_e0 := xe.mark 0 _ rfl
  have m_e1 := xe.mark 1 _ rfl
  have m_e2 := xe.mark 2 _ rfl
  have l_e := xe.lt (Nat.succ_pos _)
  go_wp2_with fail
  go_loopw [3, 4] (fun n i wr => ∃ k : Nat, k ≤ L.length ∧ n = .int .i64 ((shN own (L.take k) : Nat) : Int) ∧ i = .int .i64 (k : Int) ∧ W1 = wr) (fun _ i _ => L.length - (intOf i).toNat)
  case atStart => exact ⟨0, Nat.zero_le _, by simp [shN, st_size], rfl, rfl⟩
  case round =>
    obtain ⟨k, hk, rfl, rfl, rfl⟩ := hrel
    obtain ⟨m, hm⟩ : ∃ m, shN own (L.take k) = m := ⟨_, rfl⟩
    have HM := Lib.hid hm
    have hm1 : m ≤ 1000000000 := by rw [← hm]; exact Nat.le_trans (shN_le _ _ _) H.out.bulk
    rw [hm]
    clear hm
    cases hx : L[k]? with
    | none =>
      have hkl : k = L.length := by
        rcases Nat.lt_or_ge k L.length with h | h
        · rw [List.getElem?_eq_getElem h] at hx; cases hx
        · omega
      subst hkl
      have HM2 := Lib.hid (show shN own L = m by rw [← HM.out, List.take_length])
      clear hx hk
      by_cases hlt : (m : Int) < 20000
      · by_cases hl3 : (L.length : Int) < 300
        · go_wp2_with fail
          go_ret
          exact ⟨ret_bool (by rw [← HR.out]; unfold shortP; rw [HM2.out, decide_eq_true (by omega), decide_eq_true (by omega)]; rfl), hg⟩
        · go_wp2_with fail
          go_ret
          exact ⟨ret_bool (by rw [← HR.out]; unfold shortP; rw [HM2.out, decide_eq_true (by omega), decide_eq_false (by omega)]; rfl), hg⟩
      · go_wp2_with fail
        go_ret
        exact ⟨ret_bool (by rw [← HR.out]; unfold shortP; rw [HM2.out, decide_eq_false (by omega)]; rfl), hg⟩
    | some x =>
      have hkl : k < L.length := (List.getElem?_eq_some_iff.1 hx).1
      have HX := Lib.hid hx
      have hn := H.out.each x (List.mem_of_getElem? hx)
      obtain ⟨q, d, hq⟩ := hn.names.len
      obtain ⟨b, off, rfl, hb, hc⟩ := sl_part wrC_len (H.out.row.later hg) hx
      have a2 := hc 2 _ (by omega) rfl
      rw [hq] at a2
      have HN := Lib.hid (hq ▸ hn.names : Sl W (.slice q x.1.names.length d) 1 x.1.names.length (x.1.names.map vS))
      have hnl := hn.names.2.1
      unfold maxLen at hnl
      have hml : m + wlen x.1 ≤ 1000000000 := by
        have h1 := shN_take own L k x hx
        rw [HM.out] at h1
        rw [← h1]; exact Nat.le_trans (shN_le _ _ _) H.out.bulk
      unfold wlen at hml
      have hkI : (k : Int) < (L.length : Int) := by omega
      clear hx hk hn hq hc
      go_wp2_with fail
      go_loopw [3, 5] (fun n i wr => ∃ j : Nat, j ≤ x.1.names.length ∧ n = .int .i64 ((m + 40 + namesLen (x.1.names.take j) : Nat) : Int) ∧ i = .int .i64 (j : Int) ∧ W1 = wr) (fun _ i _ => x.1.names.length - (intOf i).toNat)
      case atStart => exact ⟨0, Nat.zero_le _, by go_num, rfl, rfl⟩
      case round =>
        obtain ⟨j, hj, rfl, rfl, rfl⟩ := hrel
        obtain ⟨m2, hm2⟩ : ∃ m2, m + 40 + namesLen (x.1.names.take j) = m2 := ⟨_, rfl⟩
        have HM2 := Lib.hid hm2
        rw [hm2]
        have hm3 : m2 ≤ 1000000000 := by
          have := namesLen_le x.1.names j
          omega
        clear hm2
        cases hy : x.1.names[j]? with
        | none =>
          have hjl : j = x.1.names.length := by
            rcases Nat.lt_or_ge j x.1.names.length with h | h
            · rw [List.getElem?_eq_getElem h] at hy; cases hy
            · omega
          subst hjl
          clear hy hj
          go_wp2_with fail
          go_roundw
          case rel => exact ⟨k + 1, by omega, by rw [shN_take own L k x HX.out, HM.out, ← HM2.out, List.take_length]; unfold wlen; congr 2; omega, by go_num, trivial⟩
          case measure => simp [intOf]; omega
        | some y =>
          have hjl : j < x.1.names.length := (List.getElem?_eq_some_iff.1 hy).1
          obtain ⟨b2, off2, rfl, hb2, hc2⟩ := str_at (HN.out.later hg) hy
          have HY := Lib.hid hy
          have hyl : m2 + y.length ≤ 1000000000 := by
            have h1 := namesLen_take x.1.names j y hy
            have h2 := namesLen_le x.1.names (j + 1)
            have h3 := HM2.out
            omega
          have hjI : (j : Int) < (x.1.names.length : Int) := by omega
          have hys : ((st y).size : Int) = (y.length : Int) := by rw [st_size]
          clear hy hj
          go_wp2_with fail
          go_roundw
          case rel => exact ⟨j + 1, by omega, by rw [namesLen_take _ _ _ HY.out]; have := HM2.out; congr 1; omega, by go_num, trivial⟩
          case measure => simp [intOf]; omega

end Go.Proofs.YtndefbkcondmcaaDoor
