/- Texts of mine, put together: Parse, WakesC, ErrS. No condition but what each says. -/
import Derived.Test.YtihjmeoklbmnmaaDoorPClass
import Derived.Test.YtihjmeoklbmnmaaDoorPGb
import Derived.Test.YtihjmeoklbmnmaaDoorPGa
import Derived.Test.YtihjmeoklbmnmaaDoorPGc
import Derived.Deep.DeepWitnessRowRef
import Derived.Deep.DeepHandedRow
import Derived.Stop.LaidErr
import Derived.Lay

/- class: first, Parse. No condition but a length's bound and the errors' variables. -/
namespace Go.Proofs.YtihjmeoklbmnmaaDoor
open Go Go.RowKit

/-- The errors' variables, and the library's. -/
structure Sy0 (w : World) (es ed : Value) : Prop where
  syn : w.cell? ⟨1, 0, none⟩ = some es
  deep : w.cell? ⟨0, 0, none⟩ = some ed
  synI : ∃ t x, es = .iface t x
  deepI : ∃ t x, ed = .iface t x
  max : ∃ m, w.cell? ⟨17, 0, none⟩ = some (.int .i64 m)
theorem Sy0.later {w w' : World} {es ed : Value} (h : Sy0 w es ed) (hG : Gr w w') : Sy0 w' es ed :=
  ⟨hG.cell h.syn, hG.cell h.deep, h.synI, h.deepI, by obtain ⟨m, hm⟩ := h.max; exact ⟨m, hG.cell hm⟩⟩
theorem Sy0.sy {w w' : World} {p : Nat} {es ed : Value} (h : Sy0 w es ed) (hG : Gr w w') (hp : w.heap.size ≤ p) : Sy w' p es ed := by
  have h1 := World.block_lt_of_cell? w _ h.syn
  have h2 := World.block_lt_of_cell? w _ h.deep
  obtain ⟨m, hm⟩ := h.max
  have h3 := World.block_lt_of_cell? w _ hm
  simp only at h1 h2 h3
  exact ⟨hG.cell h.syn, hG.cell h.deep, h.synI, h.deepI, ⟨m, hG.cell hm⟩, by omega, by omega, by omega⟩

/-- How a reader is put at a byte. -/
def FirstEnd (es : Value) (t : List UInt8) (n : Nat) (want : UInt8) (w : World) (e : Ending) (w' : World) : Prop :=
  Gr w w' ∧ ((t[n]? = some want ∧ e = .returned (.tuple #[.pointer (some ⟨w.heap.size, 0, none⟩), .nilIface]) ∧ Rdr w' w.heap.size t n) ∨
    (t[n]? ≠ some want ∧ ∃ er, e = .returned (.tuple #[.pointer none, er]) ∧ Refused w' w.heap.size es er (n : Int)))

set_option maxRecDepth 100000 in
set_option maxHeartbeats 4000000 in
theorem first_any (t : List UInt8) (a : Int) (want : UInt8) (n : Nat) (es ed : Value) (w : World) (hS : Sy0 w es ed) (hn : (if a < 0 ∨ (t.length : Int) < a then t.length else a.toNat) = n) :
    Calls Tryd.prog 30 #[.string (st t), .int .i64 a, .int .u8 (want.toNat : Int)] w (FirstEnd es t n want w) := by
  have hsz := st_size t
  have HS := Lib.hid hS
  clear hS
  by_cases h1 : a < 0 ∨ (t.length : Int) < a
  · rw [if_pos h1] at hn
    have HN := Lib.hid hn
    clear hn
    rcases h1 with h1 | h1
    all_goals
      go_enter Tryd.func30, Tryd.ntmps30
      go_wp2_with fail
      go_at_call 32
      refine name_calls (fun W hW => ?_)
      have hR : Rdr W w.heap.size t t.length := boxAt.new _ _ hW
      have hgW : Gr w W := by rw [hW]; exact Gr.alloc _ _
      clear hW
      refine (here_none w.heap.size t.length t W hR (Nat.le_refl _)).mono ?_; rintro e w1 ⟨rfl, hg⟩
      replace hgW := hgW.trans hg
      have lp1 : w.heap.size < w1.heap.size := boxAt.lt (boxAt.later hR hg) (Nat.succ_pos _)
      clear hg hR
      go_wp2_with (go_at_call 33; (with_reducible refine (syntax_any _ w.heap.size es ed w1 (HS.out.sy hgW (Nat.le_refl _)) lp1).mono ?_); rintro e w2 ⟨er, rfl, hr, hg2⟩)
      refine bodyPost_ret (v := .tuple #[.pointer none, er]) (by simp [results, Tryd.results30, go_sem]) rfl ⟨hgW.trans hg2, .inr ⟨?_, er, rfl, ?_⟩⟩
      · rw [← HN.out, List.getElem?_eq_none (Nat.le_refl _)]; simp
      · rw [← HN.out]; exact hr.mono (by omega)
  · rw [if_neg h1] at hn
    have ha : a = (n : Int) := by omega
    have hnl : n ≤ t.length := by omega
    clear hn
    subst ha
    have g1 : ¬ (n : Int) < 0 := by omega
    have g2 : ¬ (t.length : Int) < (n : Int) := by omega
    have g3 : ¬ t.length < n := by omega
    clear h1
    go_enter Tryd.func30, Tryd.ntmps30
    go_wp2_with fail
    go_at_call 32
    refine name_calls (fun W hW => ?_)
    have hR : Rdr W w.heap.size t n := boxAt.new _ _ hW
    have hgW : Gr w W := by rw [hW]; exact Gr.alloc _ _
    clear hW
    cases hc : t[n]? with
    | none =>
      have hl : t.length ≤ n := by
        rcases Nat.lt_or_ge n t.length with h | h
        · rw [List.getElem?_eq_getElem h] at hc; cases hc
        · exact h
      refine (here_none w.heap.size n t W hR hl).mono ?_; rintro e w1 ⟨rfl, hg⟩
      replace hgW := hgW.trans hg
      have lp1 : w.heap.size < w1.heap.size := boxAt.lt (boxAt.later hR hg) (Nat.succ_pos _)
      have HC := Lib.hid hc
      clear hg hR hc
      go_wp2_with (go_at_call 33; (with_reducible refine (syntax_any _ w.heap.size es ed w1 (HS.out.sy hgW (Nat.le_refl _)) lp1).mono ?_); rintro e w2 ⟨er, rfl, hr, hg2⟩)
      refine bodyPost_ret (v := .tuple #[.pointer none, er]) (by simp [results, Tryd.results30, go_sem]) rfl ⟨hgW.trans hg2, .inr ⟨?_, er, rfl, hr.mono (by omega)⟩⟩
      rw [HC.out]; simp
    | some c =>
      refine (here_some w.heap.size n t c W hR hc).mono ?_; rintro e w1 ⟨rfl, hg⟩
      replace hgW := hgW.trans hg
      have hR1 : Rdr w1 w.heap.size t n := boxAt.later hR hg
      have lp1 : w.heap.size < w1.heap.size := boxAt.lt hR1 (Nat.succ_pos _)
      have HC := Lib.hid hc
      have HR1 := Lib.hid hR1
      clear hg hR hc hR1
      by_cases hw : c = want
      · subst hw
        go_wp2_with fail
        refine bodyPost_ret (v := .tuple #[.pointer (some ⟨w.heap.size, 0, none⟩), .nilIface]) (by simp [results, Tryd.results30, go_sem]) rfl ⟨hgW, .inl ⟨HC.out, rfl, HR1.out⟩⟩
      · have hne : ¬ c.toNat = want.toNat := fun h => hw (UInt8.toNat_inj.1 h)
        have hneI : ¬ (c.toNat : Int) = (want.toNat : Int) := by omega
        have HW := Lib.hid hw
        clear hw
        go_wp2_with (go_at_call 33; (with_reducible refine (syntax_any _ w.heap.size es ed w1 (HS.out.sy hgW (Nat.le_refl _)) lp1).mono ?_); rintro e w2 ⟨er, rfl, hr, hg2⟩)
        refine bodyPost_ret (v := .tuple #[.pointer none, er]) (by simp [results, Tryd.results30, go_sem]) rfl ⟨hgW.trans hg2, .inr ⟨?_, er, rfl, hr.mono (by omega)⟩⟩
        rw [HC.out]; intro h; exact HW.out (Option.some.inj h)

/-- What Parse tells. -/
def ParseEnd (es ed : Value) (t : List UInt8) (w : World) (x : Rd) (e : Ending) (w' : World) : Prop :=
  Gr w w' ∧ match x with
    | .ok s r => e = .returned (.tuple #[.agg #[.int .u64 (wd s 0), .int .u64 (wd s 1), .int .u64 (wd s 2), .int .u64 (wd s 3)], .int .i64 ((t.length - r.length : Nat) : Int), .nilIface])
    | .bad d r => ∃ er, e = .returned (.tuple #[.agg #[.int .u64 (wd emptyS 0), .int .u64 (wd emptyS 1), .int .u64 (wd emptyS 2), .int .u64 (wd emptyS 3)], .int .i64 0, er]) ∧ Refused w' w.heap.size (refE es ed d) er ((t.length - r.length : Nat) : Int)

set_option maxRecDepth 100000 in
set_option maxHeartbeats 4000000 in
theorem parse_any (t : List UInt8) (a : Int) (es ed : Value) (w : World) (hT : (t.length : Int) ≤ 4294967280) (hS : Sy0 w es ed) :
    Calls Tryd.prog 13 #[.string (st t), .int .i64 a] w (ParseEnd es ed t w (parseP t a)) := by
  obtain ⟨n, hn⟩ : ∃ n, (if a < 0 ∨ (t.length : Int) < a then t.length else a.toNat) = n := ⟨_, rfl⟩
  have hnl : n ≤ t.length := by rw [← hn]; split <;> omega
  obtain ⟨X, hX⟩ : ∃ X, parseP t a = X := ⟨_, rfl⟩
  rw [hX]
  rw [parseP_eq, hn] at hX
  have HX := Lib.hid hX
  have HS := Lib.hid hS
  clear hX hS
  go_enter Tryd.func13, Tryd.ntmps13
  go_wp2_with fail
  go_at_call 30
  refine name_calls (fun W hW => ?_)
  have xr : boxAt W w.heap.size [.int .u64 0, .int .u64 0, .int .u64 0, .int .u64 0] := boxAt.new _ _ hW
  have hgW : Gr w W := by rw [hW]; exact Gr.alloc _ _
  clear hW
  have hlW : w.heap.size < W.heap.size := by
    have := xr.lt (by simp); exact this
  refine (first_any t a 91 n es ed W (HS.out.later hgW) hn).mono ?_; rintro e w1 ⟨hg, ⟨hc, rfl, hR⟩ | ⟨hc, er, rfl, hr⟩⟩
  · clear hn hc
    replace xr := xr.later hg
    have hg1 := hgW.trans hg
    have hlR : W.heap.size < w1.heap.size := boxAt.lt hR (Nat.succ_pos _)
    go_wp2_with fail
    go_at_call 31
    refine (class_any t es ed hT (t.length + 1) 0 n W.heap.size w1 hR hnl (by rw [List.length_drop]; omega) (by omega) (HS.out.sy hg1 (by omega))).mono ?_
    rintro e w2 ⟨hK, hm⟩
    rw [HX.out] at hm
    have hg2 : Gr w w2 := hK.of_gr hg1 (by omega)
    replace xr := xr.kept hK (by omega) (by simp)
    clear hR
    cases X with
    | ok s r =>
      obtain ⟨rfl, hR⟩ := hm
      obtain ⟨j, hj⟩ : ∃ j, t.length - r.length = j := ⟨_, rfl⟩
      rw [hj] at hR
      have HJ := Lib.hid hj
      clear hj
      have c_r0 := xr.cell 0 _ rfl
      have c_r1 := xr.cell 1 _ rfl
      have c_r2 := xr.cell 2 _ rfl
      have c_r3 := xr.cell 3 _ rfl
      have m_r0 := xr.mark 0 _ rfl
      have m_r1 := xr.mark 1 _ rfl
      have m_r2 := xr.mark 2 _ rfl
      have m_r3 := xr.mark 3 _ rfl
      have l_r := xr.lt (Nat.succ_pos _)
      go_wp2_with fail
      refine name_world (fun W3 hW => ?_)
      have xr3 : boxAt W3 w.heap.size [.int .u64 (wd s 0), .int .u64 (wd s 1), .int .u64 (wd s 2), .int .u64 (wd s 3)] := by rw [hW]; exact xr.put4 _ _ _ _
      have hR3 : Rdr W3 W.heap.size t j := by rw [hW]; exact boxAt.far4 hR (by omega) _ _ _ _
      have hg3 : Gr w W3 := by rw [hW]; exact Below.put4 hg2 (Nat.le_refl _) _ _ _ _
      clear c_r0 c_r1 c_r2 c_r3 m_r0 m_r1 m_r2 m_r3 l_r
      clear hW hR
      have c1 := boxAt.cell hR3 1 _ rfl
      have lp3 := boxAt.lt hR3 (Nat.succ_pos _)
      have c_r0 := xr3.cell 0 _ rfl
      have c_r1 := xr3.cell 1 _ rfl
      have c_r2 := xr3.cell 2 _ rfl
      have c_r3 := xr3.cell 3 _ rfl
      have m_r0 := xr3.mark 0 _ rfl
      have m_r1 := xr3.mark 1 _ rfl
      have m_r2 := xr3.mark 2 _ rfl
      have m_r3 := xr3.mark 3 _ rfl
      have l_r := xr3.lt (Nat.succ_pos _)
      go_region
      all_goals
        go_wp2
        refine name_end (fun W9 hW => ?_)
        have xr9 : boxAt W9 w.heap.size [.int .u64 (wd s 0), .int .u64 (wd s 1), .int .u64 (wd s 2), .int .u64 (wd s 3)] := by rw [hW]; exact (xr3.later (Gr.drew _)).put4 _ _ _ _
        have hg9 : Gr w W9 := by rw [hW]; exact Below.put4 (hg3.trans (Gr.drew _)) (Nat.le_refl _) _ _ _ _
        have c_q0 := xr9.cell 0 _ rfl
        have c_q1 := xr9.cell 1 _ rfl
        have c_q2 := xr9.cell 2 _ rfl
        have c_q3 := xr9.cell 3 _ rfl
        have m_q0 := xr9.mark 0 _ rfl
        have m_q1 := xr9.mark 1 _ rfl
        have m_q2 := xr9.mark 2 _ rfl
        have m_q3 := xr9.mark 3 _ rfl
        have l_q := xr9.lt (Nat.succ_pos _)
        refine bodyPost_ret (v := .tuple #[.agg #[.int .u64 (wd s 0), .int .u64 (wd s 1), .int .u64 (wd s 2), .int .u64 (wd s 3)], .int .i64 (j : Int), .nilIface]) (by simp [results, Tryd.results13, go_sem, c_q0, c_q1, c_q2, c_q3]) rfl ⟨hg9, ?_⟩
        show _ = _
        rw [HJ.out]
    | bad d r =>
      obtain ⟨s, er, rfl, hr, _⟩ := hm
      obtain ⟨ty, y, rfl⟩ := hr.iface
      have HR := Lib.hid hr
      clear hr
      have c_r0 := xr.cell 0 _ rfl
      have c_r1 := xr.cell 1 _ rfl
      have c_r2 := xr.cell 2 _ rfl
      have c_r3 := xr.cell 3 _ rfl
      have m_r0 := xr.mark 0 _ rfl
      have m_r1 := xr.mark 1 _ rfl
      have m_r2 := xr.mark 2 _ rfl
      have m_r3 := xr.mark 3 _ rfl
      have l_r := xr.lt (Nat.succ_pos _)
      go_wp2
      refine name_end (fun W9 hW => ?_)
      have xr9 : boxAt W9 w.heap.size [.int .u64 (wd emptyS 0), .int .u64 (wd emptyS 1), .int .u64 (wd emptyS 2), .int .u64 (wd emptyS 3)] := by rw [hW]; simp only [wd_zero]; exact (xr.put4 (.int .u64 (wd s 0)) (.int .u64 (wd s 1)) (.int .u64 (wd s 2)) (.int .u64 (wd s 3))).put4 _ _ _ _
      have hg9 : Gr w W9 := by rw [hW]; exact Below.put4 (Below.put4 hg2 (Nat.le_refl _) _ _ _ _) (Nat.le_refl _) _ _ _ _
      have c_q0 := xr9.cell 0 _ rfl
      have c_q1 := xr9.cell 1 _ rfl
      have c_q2 := xr9.cell 2 _ rfl
      have c_q3 := xr9.cell 3 _ rfl
      have m_q0 := xr9.mark 0 _ rfl
      have m_q1 := xr9.mark 1 _ rfl
      have m_q2 := xr9.mark 2 _ rfl
      have m_q3 := xr9.mark 3 _ rfl
      have l_q := xr9.lt (Nat.succ_pos _)
      refine bodyPost_ret (v := .tuple #[.agg #[.int .u64 (wd emptyS 0), .int .u64 (wd emptyS 1), .int .u64 (wd emptyS 2), .int .u64 (wd emptyS 3)], .int .i64 0, .iface ty y]) (by simp [results, Tryd.results13, go_sem, c_q0, c_q1, c_q2, c_q3]) rfl ⟨hg9, _, rfl, ?_⟩
      refine Refused.mono (B := w1.heap.size) ?_ hg1.size
      rw [hW]; exact (HR.out.put4 w.heap.size (by omega) _ _ _ _).put4 w.heap.size (by omega) _ _ _ _
  · obtain ⟨ty, y, rfl⟩ := hr.iface
    have hX2 : X = .bad false (t.drop n) := by
      rw [← HX.out]
      refine classF_none 0 _ ?_
      cases hd : t[n]? with
      | none =>
        rw [List.drop_of_length_le]; rfl
        rcases Nat.lt_or_ge n t.length with h | h
        · rw [List.getElem?_eq_getElem h] at hd; cases hd
        · exact h
      | some c =>
        rw [drop_at t n c hd]
        exact pre_no (fun h => hc (by rw [hd, h]))
    have HX2 := Lib.hid hX2
    have HR := Lib.hid hr
    replace xr := xr.later hg
    have hg1 := hgW.trans hg
    clear hX2 hr hc hn
    have c_r0 := xr.cell 0 _ rfl
    have c_r1 := xr.cell 1 _ rfl
    have c_r2 := xr.cell 2 _ rfl
    have c_r3 := xr.cell 3 _ rfl
    have m_r0 := xr.mark 0 _ rfl
    have m_r1 := xr.mark 1 _ rfl
    have m_r2 := xr.mark 2 _ rfl
    have m_r3 := xr.mark 3 _ rfl
    have l_r := xr.lt (Nat.succ_pos _)
    go_wp2
    refine name_end (fun W9 hW => ?_)
    have xr9 : boxAt W9 w.heap.size [.int .u64 (wd emptyS 0), .int .u64 (wd emptyS 1), .int .u64 (wd emptyS 2), .int .u64 (wd emptyS 3)] := by rw [hW]; simp only [wd_zero]; exact xr.put4 _ _ _ _
    have hg9 : Gr w W9 := by rw [hW]; exact Below.put4 hg1 (Nat.le_refl _) _ _ _ _
    have c_q0 := xr9.cell 0 _ rfl
    have c_q1 := xr9.cell 1 _ rfl
    have c_q2 := xr9.cell 2 _ rfl
    have c_q3 := xr9.cell 3 _ rfl
    have m_q0 := xr9.mark 0 _ rfl
    have m_q1 := xr9.mark 1 _ rfl
    have m_q2 := xr9.mark 2 _ rfl
    have m_q3 := xr9.mark 3 _ rfl
    have l_q := xr9.lt (Nat.succ_pos _)
    refine bodyPost_ret (v := .tuple #[.agg #[.int .u64 (wd emptyS 0), .int .u64 (wd emptyS 1), .int .u64 (wd emptyS 2), .int .u64 (wd emptyS 3)], .int .i64 0, .iface ty y]) (by simp [results, Tryd.results13, go_sem, c_q0, c_q1, c_q2, c_q3]) rfl ⟨hg9, ?_⟩
    rw [HX2.out]
    refine ⟨_, rfl, Refused.mono (B := W.heap.size) ?_ hgW.size⟩
    rw [hW, List.length_drop, show t.length - (t.length - n) = n by omega]
    exact HR.out.put4 _ hlW _ _ _ _

end Go.Proofs.YtihjmeoklbmnmaaDoor

/- wakes of bolterlaw3: it answers true. No condition but the errors' variables. -/
namespace Go.Proofs.YtihjmeoklbmnmaaDoor
open Go Go.RowKit

def Rd.isOk (s : BitVec 256) (r : List UInt8) : Rd → Bool
  | .ok s' r' => s' == s && r' == r
  | .bad _ _ => false
theorem Rd.of_isOk {s : BitVec 256} {r : List UInt8} : ∀ {x : Rd}, x.isOk s r = true → x = .ok s r
  | .ok s' r', h => by
    unfold Rd.isOk at h
    simp only [Bool.and_eq_true, beq_iff_eq] at h
    rw [h.1, h.2]
  | .bad _ _, h => by cases h
theorem wake_parse : parseP [120, 91, 97, 45, 99, 45, 45, 91, 98, 93, 93, 121] 1 = .ok (ofList [97, 99]) [121] := Rd.of_isOk (by decide +kernel)
/-- A set's text, told by its spans. -/
theorem text_is (s : BitVec 256) (r : List Sp) (h : Runs r (bytesOf s)) (w : World) : Calls Tryd.prog 8 #[.agg #[.int .u64 (wd s 0), .int .u64 (wd s 1), .int .u64 (wd s 2), .int .u64 (wd s 3)]] w fun e w' => e = .returned (.string (st (textL r))) ∧ Gr w w' := by
  refine (text_any s w).mono ?_
  rintro e w' ⟨r', h', rfl, hg⟩
  rw [h.one r' h']; exact ⟨rfl, hg⟩
theorem wake_bytes : bytesOf (ofList [97, 99]) = [97, 99] := by decide +kernel
theorem wake_runs : Runs [(97, 97), (99, 99)] [97, 99] :=
  Runs.new [(97, 97)] [97] 99 (Runs.new [] [] 97 .nil (fun p h => by simp at h)) (fun p h => by simp at h; subst h; decide)

set_option maxRecDepth 100000 in
set_option maxHeartbeats 8000000 in
theorem wakes_any (w : World) (es ed : Value) (hS : Sy0 w es ed) : Calls Tryd.prog 12 #[] w fun e w' => e = .returned (.bool true) ∧ Gr w w' := by
  have hp := fun w' h => parse_any [120, 91, 97, 45, 99, 45, 45, 91, 98, 93, 93, 121] 1 es ed w' (by decide) h
  rw [wake_parse] at hp
  obtain ⟨S, hSS⟩ : ∃ S, ofList [97, 99] = S := ⟨_, rfl⟩
  have ht := fun w' => text_is S [(97, 97), (99, 99)] (by rw [← hSS, wake_bytes]; exact wake_runs) w'
  rw [hSS] at hp
  have HP := Lib.hid hp
  have HT := Lib.hid ht
  have HO := Lib.hid hSS
  have hq : ∀ w' : World, Calls Tryd.prog 10 #[.string { data := #[97, 10] }] w' fun e w'' => e = .returned (.string (st (quoteL [97, 10]))) ∧ Gr w' w'' := fun w' => quote_any [97, 10] w' (by decide)
  have HQ := Lib.hid hq
  clear hq
  have HS := Lib.hid hS
  have s1 : (st (textL [(97, 97), (99, 99)])).toList = [91, 97, 99, 93] := by rw [st_list]; decide
  have s2 : (st (quoteL [97, 10])).toList = [34, 97, 92, 110, 34] := by rw [st_list]; decide
  clear hp ht hSS hS
  go_enter Tryd.func12, Tryd.ntmps12
  go_wp2_with fail
  go_at_call 13
  refine (HP.out w HS.out).mono ?_; rintro e w1 ⟨hg, rfl⟩
  go_wp2_with fail
  refine name_world (fun W hW => ?_)
  have xs : boxAt W w1.heap.size [.int .u64 (wd S 0), .int .u64 (wd S 1), .int .u64 (wd S 2), .int .u64 (wd S 3)] := boxAt.new _ _ hW
  have hgW : Gr w W := by rw [hW]; exact hg.trans (Gr.alloc _ _)
  clear hW hg
  have c_s0 := xs.cell 0 _ rfl
  have c_s1 := xs.cell 1 _ rfl
  have c_s2 := xs.cell 2 _ rfl
  have c_s3 := xs.cell 3 _ rfl
  have m_s0 := xs.mark 0 _ rfl
  have m_s1 := xs.mark 1 _ rfl
  have m_s2 := xs.mark 2 _ rfl
  have m_s3 := xs.mark 3 _ rfl
  have l_s := xs.lt (Nat.succ_pos _)
  have hsl : Sl (W.alloc (.cells #[.int .u8 97, .int .u8 99] 5)).drew (.slice (some ⟨W.heap.size, 0, none⟩) 2 2) 1 2 (([97, 99] : List UInt8).map vB) := (sl_alloc W (([97, 99] : List UInt8).map vB) 5 1 2 rfl (by unfold maxLen; omega)).later (Gr.drew _)
  have hof : Calls Tryd.prog 19 #[.slice (some ⟨W.heap.size, 0, none⟩) 2 2] (W.alloc (.cells #[.int .u8 97, .int .u8 99] 5)).drew fun e w' => e = .returned (.agg #[.int .u64 (wd S 0), .int .u64 (wd S 1), .int .u64 (wd S 2), .int .u64 (wd S 3)]) ∧ Gr W w' := by
    refine (of_is [97, 99] S _ _ hsl HO.out).mono ?_; rintro e w' ⟨rfl, h⟩
    exact ⟨rfl, ((Gr.alloc _ _).trans (Gr.drew _)).trans h⟩
  have HOF := Lib.hid hof
  clear hsl hof
  go_region_with (first
    | (go_at_call 19; (with_reducible refine (HOF.out).mono ?_); rintro e w3 ⟨rfl, hg3⟩; have hc := hg3.cells)
    | (go_at_call 8; (with_reducible refine (HT.out _).mono ?_); rintro e w4 ⟨rfl, hg4⟩)
    | (go_at_call 10; (with_reducible refine (HQ.out _).mono ?_); rintro e w5 ⟨rfl, hg5⟩))
  all_goals
    go_wp2
    go_ret
    exact ⟨rfl, ((hgW.trans hg3).trans hg4).trans hg5⟩

/-! Slices of sets and of texts. -/
def setCells (s : BitVec 256) : List Value := [.int .u64 (wd s 0), .int .u64 (wd s 1), .int .u64 (wd s 2), .int .u64 (wd s 3)]
theorem setCells_len (s : BitVec 256) : (setCells s).length = 4 := rfl
theorem flat_at {α : Type} (f : α → List Value) (k : Nat) (hf : ∀ a, (f a).length = k) : ∀ (l : List α) (i : Nat) (a : α) (j : Nat), l[i]? = some a → j < k → (l.flatMap f)[i * k + j]? = (f a)[j]?
  | [], i, a, j, h, _ => by simp at h
  | x :: l, 0, a, j, h, hj => by
    simp only [List.getElem?_cons_zero, Option.some.injEq] at h
    subst h
    rw [List.flatMap_cons, Nat.zero_mul, Nat.zero_add, List.getElem?_append_left (by rw [hf]; exact hj)]
  | x :: l, i + 1, a, j, h, hj => by
    rw [List.flatMap_cons, List.getElem?_append_right (by rw [hf, Nat.add_mul]; omega), hf, show (i + 1) * k + j - k = i * k + j by rw [Nat.add_mul]; omega]
    exact flat_at f k hf l i a j (by simpa using h) hj
/-- A set of a slice of sets. -/
theorem set_at {w : World} {p : Option Addr} {c : Nat} {l : List (BitVec 256)} (h : Sl w (.slice p l.length c) 4 l.length (l.flatMap setCells)) {k : Nat} {s : BitVec 256} (hk : l[k]? = some s) :
    ∃ b off, p = some ⟨b, off, none⟩ ∧ b < w.heap.size ∧ w.cell? ⟨b, off + k * 4, none⟩ = some (.int .u64 (wd s 0)) ∧ w.cell? ⟨b, off + k * 4 + 1, none⟩ = some (.int .u64 (wd s 1)) ∧
      w.cell? ⟨b, off + k * 4 + 2, none⟩ = some (.int .u64 (wd s 2)) ∧ w.cell? ⟨b, off + k * 4 + 3, none⟩ = some (.int .u64 (wd s 3)) := by
  have hl : k < l.length := (List.getElem?_eq_some_iff.1 hk).1
  obtain ⟨_, _, ⟨_, h0⟩ | ⟨b, off, cap, hv, hb, hc⟩⟩ := h
  · omega
  · injection hv with hp _ _
    refine ⟨b, off, hp, hb (by omega), ?_, ?_, ?_, ?_⟩
    · have := hc (k * 4 + 0) _ (by rw [flat_at setCells 4 setCells_len l k s 0 hk (by omega)]; rfl); rw [← Nat.add_assoc] at this; simpa using this
    · have := hc (k * 4 + 1) _ (by rw [flat_at setCells 4 setCells_len l k s 1 hk (by omega)]; rfl); rw [← Nat.add_assoc] at this; exact this
    · have := hc (k * 4 + 2) _ (by rw [flat_at setCells 4 setCells_len l k s 2 hk (by omega)]; rfl); rw [← Nat.add_assoc] at this; exact this
    · have := hc (k * 4 + 3) _ (by rw [flat_at setCells 4 setCells_len l k s 3 hk (by omega)]; rfl); rw [← Nat.add_assoc] at this; exact this
def vS (l : List UInt8) : Value := .string (st l)
/-- A text of a slice of texts. -/
theorem str_at {w : World} {p : Option Addr} {c : Nat} {l : List (List UInt8)} (h : Sl w (.slice p l.length c) 1 l.length (l.map vS)) {k : Nat} {s : List UInt8} (hk : l[k]? = some s) :
    ∃ b off, p = some ⟨b, off, none⟩ ∧ b < w.heap.size ∧ w.cell? ⟨b, off + k, none⟩ = some (.string (st s)) := by
  have hl : k < l.length := (List.getElem?_eq_some_iff.1 hk).1
  obtain ⟨_, _, ⟨_, h0⟩ | ⟨b, off, cap, hv, hb, hc⟩⟩ := h
  · omega
  · injection hv with hp _ _
    exact ⟨b, off, hp, hb (by omega), hc k _ (by rw [List.getElem?_map, hk]; rfl)⟩

end Go.Proofs.YtihjmeoklbmnmaaDoor

/- The errors of syntax and depth, and the library's number, out of a row; slices of sets and of texts that are handed in. No condition. -/
namespace Go.Proofs.YtihjmeoklbmnmaaDoor
open Go Go.ChangeShapes Go.WideShapes Go.ChangeAt Go.RowKit

theorem g_syn : Tryd.prog.globalNamed "bolter/fault.ErrSyntax" = some 1 := by kernel_rfl
theorem g_synT : (Tryd.prog.globals[1]?).map (·.type) = some 34 := by kernel_rfl
theorem g_deep : Tryd.prog.globalNamed "bolter/fault.ErrDeep" = some 0 := by kernel_rfl
theorem g_deepT : (Tryd.prog.globals[0]?).map (·.type) = some 34 := by kernel_rfl
theorem sy0_of {t1 t2 : List UInt8} {r : List (String × DataW Unit)} {W : World} (h : laidMet Tryd.prog (("bolter/fault.ErrSyntax", .iface "*errors.errorString" (.ptr (.agg [.lit (.string t1)]))) :: ("bolter/fault.ErrDeep", .iface "*errors.errorString" (.ptr (.agg [.lit (.string t2)]))) :: r) W)
    (hsh : W.ShapedOpen Tryd.prog) : ∃ es ed, Sy0 W es ed := by
  obtain ⟨es, h1, h2⟩ := err_of h g_syn g_synT
  obtain ⟨ed, h3, h4⟩ := err_of h.tail g_deep g_deepT
  exact ⟨es, ed, h1, h3, h2, h4, Tryd.laysM145.s1_3 W hsh⟩


section
variable {H : Type} {enc : TypeId × Value → H}
theorem set_read {w : World} {base : Nat} {spare : Nat → Bool} {held : Bool} (n : Nat) (cs : List Value) (x : DataW H × List MemPlace) (h : DataW.trod enc Tryd.prog w base spare held n 29 cs = some x) : ∃ y, cs = setCells y ∧ True := by
  obtain ⟨s, e⟩ := trod_set h
  exact ⟨s, e, trivial⟩
theorem str_read {w : World} {base : Nat} {spare : Nat → Bool} {held : Bool} (n : Nat) (cs : List Value) (x : DataW H × List MemPlace) (h : DataW.trod enc Tryd.prog w base spare held n 9 cs = some x) : ∃ y, cs = [vS y] ∧ True := by
  obtain ⟨s, e, _⟩ := DataW.trod_string Tryd.underlying9 h
  exact ⟨s.data.toList, by rw [e]; unfold vS; rw [← st_of], trivial⟩
theorem sets_read {w : World} {base fuel : Nat} {spare : Nat → Bool} {held : Bool} {cs : List Value} {x : DataW H × List MemPlace} (h : DataW.trod enc Tryd.prog w base spare held fuel 22 cs = some x) (hw : Reached Tryd.prog 22 x.1) :
    ∃ (v : Value) (l : List (BitVec 256)), cs = [v] ∧ Sl w v 4 l.length (l.flatMap setCells) := by
  obtain ⟨v, l, e, h1, _⟩ := slice_read (f := setCells) (Q := fun _ => True) Tryd.underlying22 cells_set (by omega) setCells_len (fun n cs x h _ => set_read n cs x h) h hw
  exact ⟨v, l, e, h1⟩
theorem flat_one {α : Type} (f : α → Value) (l : List α) : l.flatMap (fun y => [f y]) = l.map f := by
  induction l with
  | nil => rfl
  | cons a l ih => rw [List.flatMap_cons, ih]; rfl
theorem strs_read {w : World} {base fuel : Nat} {spare : Nat → Bool} {held : Bool} {cs : List Value} {x : DataW H × List MemPlace} (h : DataW.trod enc Tryd.prog w base spare held fuel 23 cs = some x) (hw : Reached Tryd.prog 23 x.1) :
    ∃ (v : Value) (l : List (List UInt8)), cs = [v] ∧ Sl w v 1 l.length (l.map vS) := by
  obtain ⟨v, l, e, h1, _⟩ := slice_read (f := fun y => [vS y]) (Q := fun _ => True) Tryd.underlying23 cells_st (by omega) (fun _ => rfl) (fun n cs x h _ => str_read n cs x h) h hw
  rw [flat_one] at h1
  exact ⟨v, l, e, h1⟩
theorem cells_sets : Tryd.prog.cellsOf 22 = 1 := by kernel_rfl
theorem cells_strs : Tryd.prog.cellsOf 23 = 1 := by kernel_rfl
theorem cells_writ : Tryd.prog.cellsOf 25 = 2 := by kernel_rfl
set_option maxRecDepth 100000 in
/-- Sets and texts among the cells. -/
theorem writ_read {w : World} {base fuel : Nat} {spare : Nat → Bool} {held : Bool} {cs : List Value} {x : DataW H × List MemPlace} (hl : cs.length = 2) (h : DataW.trod enc Tryd.prog w base spare held fuel 25 cs = some x) (hw : Reached Tryd.prog 25 x.1) :
    ∃ (vs vt : Value) (ls : List (BitVec 256)) (lt : List (List UInt8)), cs = [vs, vt] ∧ Sl w vs 4 ls.length (ls.flatMap setCells) ∧ Sl w vt 1 lt.length (lt.map vS) := by
  obtain ⟨y0, y1, n, hx, _, h0, h1⟩ := trod_struct2 Tryd.underlying25 h
  subst hx
  have hr : ∀ m', (m' ∈ y0.1.weights Tryd.prog 22 ∨ m' ∈ y1.1.weights Tryd.prog 23) → m' ≤ reachBytes := fun m' hm' => hw m' (by
    unfold DataW.weights
    rw [Tryd.underlying25]
    simp only [List.map_cons, List.map_nil, DataW.weightsEach, List.append_nil]
    rcases hm' with hm' | hm'
    · exact List.mem_append_left _ hm'
    · exact List.mem_append_right _ hm')
  match cs, hl with
  | [v0, v1], _ =>
    simp only [cells_sets, cells_strs] at h0 h1
    obtain ⟨vs, ls, e0, hs⟩ := sets_read h0 (fun m hm => hr m (.inl hm))
    obtain ⟨vt, lt, e1, ht⟩ := strs_read h1 (fun m hm => hr m (.inr hm))
    simp only [List.drop_zero, List.take_succ_cons, List.take_zero, List.drop_succ_cons, List.cons.injEq, and_true] at e0 e1
    subst e0 e1
    exact ⟨_, _, ls, lt, rfl, hs, ht⟩
end
set_option maxRecDepth 100000 in
theorem writ_form {H : Type} {enc : TypeId × Value → H} {w : World} {r : Reach} {b0 base : Nat} {spare : Nat → Bool} {held : Bool} {v : Value} {d : DataW H} {p : List MemPlace}
    (hv : Value.okWide Tryd.prog w r b0 25 v) (h : DataW.Trod enc Tryd.prog w base spare held 25 v d p) (hw : Reached Tryd.prog 25 d) :
    ∃ (p q : Option Addr) (c d : Nat) (ls : List (BitVec 256)) (lt : List (List UInt8)), v = .agg #[.slice p ls.length c, .slice q lt.length d] ∧ Sl w (.slice p ls.length c) 4 ls.length (ls.flatMap setCells) ∧ Sl w (.slice q lt.length d) 1 lt.length (lt.map vS) := by
  obtain ⟨cs, rfl, hsz⟩ := okWide_struct Tryd.underlying25 hv
  rw [cells_writ] at hsz
  obtain ⟨fuel, hf⟩ := h
  obtain ⟨l⟩ := cs
  simp only [Value.cells] at hf
  obtain ⟨vs, vt, ls, lt, e, hs, ht⟩ := writ_read (by simpa using hsz) hf hw
  obtain ⟨p, c, rfl⟩ := hs.len
  obtain ⟨q, d, rfl⟩ := ht.len
  exact ⟨p, q, c, d, ls, lt, by rw [← e], hs, ht⟩

set_option maxRecDepth 100000 in
theorem sets_form {H : Type} {enc : TypeId × Value → H} {w : World} {r : Reach} {b0 base : Nat} {spare : Nat → Bool} {held : Bool} {v : Value} {d : DataW H} {p : List MemPlace}
    (hv : Value.okWide Tryd.prog w r b0 22 v) (h : DataW.Trod enc Tryd.prog w base spare held 22 v d p) (hw : Reached Tryd.prog 22 d) :
    ∃ (p : Option Addr) (c : Nat) (ls : List (BitVec 256)), v = .slice p ls.length c ∧ Sl w (.slice p ls.length c) 4 ls.length (ls.flatMap setCells) := by
  obtain ⟨fuel, hf0⟩ := h
  obtain ⟨a0, n0, c0, rfl⟩ := okWide_slice Tryd.underlying22 hv
  obtain ⟨v', l, e, h1⟩ := sets_read hf0 hw
  obtain rfl : Value.slice a0 n0 c0 = v' := by simpa [Value.cells] using e
  obtain ⟨p, c, hh⟩ := h1.len
  rw [hh] at h1 ⊢
  exact ⟨p, c, l, rfl, h1⟩

set_option maxRecDepth 100000 in
theorem strs_form {H : Type} {enc : TypeId × Value → H} {w : World} {r : Reach} {b0 base : Nat} {spare : Nat → Bool} {held : Bool} {v : Value} {d : DataW H} {p : List MemPlace}
    (hv : Value.okWide Tryd.prog w r b0 23 v) (h : DataW.Trod enc Tryd.prog w base spare held 23 v d p) (hw : Reached Tryd.prog 23 d) :
    ∃ (p : Option Addr) (c : Nat) (ls : List (List UInt8)), v = .slice p ls.length c ∧ Sl w (.slice p ls.length c) 1 ls.length (ls.map vS) := by
  obtain ⟨fuel, hf0⟩ := h
  obtain ⟨a0, n0, c0, rfl⟩ := okWide_slice Tryd.underlying23 hv
  obtain ⟨v', l, e, h1⟩ := strs_read hf0 hw
  obtain rfl : Value.slice a0 n0 c0 = v' := by simpa [Value.cells] using e
  obtain ⟨p, c, hh⟩ := h1.len
  rw [hh] at h1 ⊢
  exact ⟨p, c, l, rfl, h1⟩

end Go.Proofs.YtihjmeoklbmnmaaDoor
