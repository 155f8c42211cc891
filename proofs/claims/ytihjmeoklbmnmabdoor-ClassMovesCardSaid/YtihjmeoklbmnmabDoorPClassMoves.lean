/- ClassMoves of bolterlaw3, walked: it answers true. No condition but the errors' variables. -/
import Derived.Test.YtihjmeoklbmnmabDoorPMovesP
import Derived.Test.YtihjmeoklbmnmabDoorPPlaces
import Derived.Test.YtihjmeoklbmnmabDoorPGb
import Derived.Test.YtihjmeoklbmnmabDoorPGe
import Derived.Deep.DeepCutAuto
namespace Go.Proofs.YtihjmeoklbmnmabDoor
open Go Go.RowKit

set_option maxRecDepth 100000 in
set_option maxHeartbeats 4000000 in
theorem moved_any {W : World} {s : Nat → Addr} (hF : FaultsIn W s) (x : Option (Bool × Nat)) (a b : Value) (ha : ErrIn s W x a) (hb : ErrIn s W (later3 x) b) (hx : ∀ d k, x = some (d, k) → (k : Int) ≤ 4294967296) :
    Calls Tryd.prog 11 #[a, b] W fun e w' => e = .returned (.bool true) ∧ Gr W w' := by
  have HA := Lib.hid (fun W' (hg : Gr W W') => tell_lex (hF.later hg) x a (ha.later hg))
  have HB := Lib.hid (fun W' (hg : Gr W W') => tell_lex (hF.later hg) (later3 x) b (hb.later hg))
  clear ha hb hF
  obtain ⟨c, hc⟩ : ∃ c, codeO x = c := ⟨_, rfl⟩
  obtain ⟨k, hk⟩ : ∃ k, placeO x = k := ⟨_, rfl⟩
  obtain ⟨k3, hk3⟩ : ∃ k, placeO (later3 x) = k := ⟨_, rfl⟩
  have hc3 : codeO (later3 x) = c := by rw [← hc]; cases x <;> rfl
  rw [hc, hk] at HA
  rw [hc3, hk3] at HB
  have hcase : (c = 0) ∨ (((c : Int) == 0) = false ∧ IntKind.i64.wrap ((k : Int) + 3) = (k3 : Int)) := by
    cases x with
    | none => left; rw [← hc]; rfl
    | some dk =>
      obtain ⟨d, q⟩ := dk
      right
      have h1 : 2 ≤ c := by rw [← hc]; exact (codeB_is d).1
      have h2 : q = k := hk
      have h3 : q + 3 = k3 := hk3
      have := hx d q rfl
      exact ⟨by rw [beq_eq_false_iff_ne]; omega, by rw [IntWalk.i64_in _ (by omega)]; omega⟩
  clear hc hk hk3 hc3 hx
  rcases hcase with rfl | ⟨e0, ew⟩
  all_goals
    go_enter Tryd.func11, Tryd.ntmps11
    go_wp2_with fail
    go_at_call 21
    refine (HA.out W (Gr.refl _)).mono ?_; rintro e w1 ⟨rfl, hg1⟩
    go_wp2_with fail
    go_at_call 21
    refine name_calls (fun W1 hW => ?_)
    have xa := boxAt.new (w := w1) (W := W1) _ _ hW
    have hb1 : Gr w1 W1 := by rw [hW]; exact Gr.alloc _ _
    clear hW
    refine (HB.out W1 (hg1.trans hb1)).mono ?_; rintro e w2 ⟨rfl, hg2⟩
    have xa2 := xa.later hg2
    have hgr := (hg1.trans hb1).trans hg2
    clear xa hg1 hb1 hg2
    have c_a0 := xa2.cell 0 _ rfl
    have c_a1 := xa2.cell 1 _ rfl
    have c_a2 := xa2.cell 2 _ rfl
    have c_a3 := xa2.cell 3 _ rfl
    have c_a4 := xa2.cell 4 _ rfl
    have m_a0 := xa2.mark 0 _ rfl
    have m_a1 := xa2.mark 1 _ rfl
    have m_a2 := xa2.mark 2 _ rfl
    have m_a3 := xa2.mark 3 _ rfl
    have m_a4 := xa2.mark 4 _ rfl
    have l_a := xa2.lt (Nat.succ_pos _)
    go_wp2_with fail
    go_ret
    exact ⟨rfl, hgr.trans (Gr.alloc _ _)⟩

/-- What Parse answers of a text, and behind other text. -/
theorem parse_moves (t : List UInt8) (s : Nat → Addr) (w : World) (hT : (t.length : Int) ≤ 4000) (hF : FaultsIn w s) (hm : ∃ m, w.cell? ⟨17, 0, none⟩ = some (.int .i64 m)) :
    ∃ (S : BitVec 256) (m m' : Nat) (xx : Option (Bool × Nat)),
      (∀ W, Gr w W → Calls Tryd.prog 10 #[.string (st t), .int .i64 0] W fun e w' => Gr W w' ∧ ∃ err, e = .returned (.tuple #[.agg #[.int .u64 (wd S 0), .int .u64 (wd S 1), .int .u64 (wd S 2), .int .u64 (wd S 3)], .int .i64 (m : Int), err]) ∧ ErrIn s w' xx err) ∧
      (∀ W, Gr w W → Calls Tryd.prog 10 #[.string (st ([91, 34, 97] ++ t)), .int .i64 3] W fun e w' => Gr W w' ∧ ∃ err, e = .returned (.tuple #[.agg #[.int .u64 (wd S 0), .int .u64 (wd S 1), .int .u64 (wd S 2), .int .u64 (wd S 3)], .int .i64 (m' : Int), err]) ∧ ErrIn s w' (later3 xx) err) ∧
      (xx = none → m' = m + 3) ∧ m ≤ 4000 ∧ ∀ d k, xx = some (d, k) → (k : Int) ≤ 4294967296 := by
  have hS := fun W (hW : Gr w W) => (hF.later hW).sy0 (by obtain ⟨m, hm⟩ := hm; exact ⟨m, hW.cell hm⟩)
  have h1 := fun W (hW : Gr w W) => parse_any t 0 (esV s 3) (esV s 4) W (by omega) (hS W hW)
  have h2 := fun W (hW : Gr w W) => parse_any ([91, 34, 97] ++ t) 3 (esV s 3) (esV s 4) W (by simp; omega) (hS W hW)
  have hp : parseP ([91, 34, 97] ++ t) 3 = parseP t 0 := parse_moved [91, 34, 97] t
  have hl := parseP_len t
  have hu : ([91, 34, 97] ++ t).length = t.length + 3 := by simp
  rw [hp] at h2
  cases hx : parseP t 0 with
  | ok S r =>
    rw [hx] at h1 h2
    have := hl.1 S r hx
    refine ⟨S, t.length - r.length, t.length + 3 - r.length, none, fun W hW => (h1 W hW).mono ?_, fun W hW => (h2 W hW).mono ?_, fun _ => by omega, by omega, fun d k h => by cases h⟩
    · rintro e w' ⟨hg, rfl⟩
      exact ⟨hg, _, rfl, rfl⟩
    · rintro e w' ⟨hg, rfl⟩
      rw [hu]
      exact ⟨hg, _, rfl, rfl⟩
  | bad d r =>
    rw [hx] at h1 h2
    have := hl.2 d r hx
    refine ⟨emptyS, 0, 0, some (d, t.length - r.length), fun W hW => (h1 W hW).mono ?_, fun W hW => (h2 W hW).mono ?_, fun h => (by cases h), by omega, fun d' k h => by injection h with h; injection h with _ h; omega⟩
    · rintro e w' ⟨hg, er, rfl, hr⟩
      exact ⟨hg, er, rfl, ErrIn.refused hr⟩
    · rintro e w' ⟨hg, er, rfl, hr⟩
      rw [hu, show t.length + 3 - r.length = t.length - r.length + 3 by omega] at hr
      exact ⟨hg, er, rfl, ErrIn.refused hr⟩
theorem unq_moves (t : List UInt8) (s : Nat → Addr) (w : World) (hT : (t.length : Int) ≤ 4000) (hF : FaultsIn w s) (hm : ∃ m, w.cell? ⟨17, 0, none⟩ = some (.int .i64 m)) :
    ∃ (S : List UInt8) (m m' : Nat) (xx : Option (Bool × Nat)),
      (∀ W, Gr w W → Calls Tryd.prog 6 #[.string (st t), .int .i64 0] W fun e w' => Gr W w' ∧ ∃ err, e = .returned (.tuple #[.string (st S), .int .i64 (m : Int), err]) ∧ ErrIn s w' xx err) ∧
      (∀ W, Gr w W → Calls Tryd.prog 6 #[.string (st ([91, 34, 97] ++ t)), .int .i64 3] W fun e w' => Gr W w' ∧ ∃ err, e = .returned (.tuple #[.string (st S), .int .i64 (m' : Int), err]) ∧ ErrIn s w' (later3 xx) err) ∧
      (xx = none → m' = m + 3) ∧ m ≤ 4000 ∧ ∀ d k, xx = some (d, k) → (k : Int) ≤ 4294967296 := by
  have hS := fun W (hW : Gr w W) => (hF.later hW).sy0 (by obtain ⟨m, hm⟩ := hm; exact ⟨m, hW.cell hm⟩)
  have h1 := fun W (hW : Gr w W) => unquote_any t 0 (esV s 3) (esV s 4) W (by omega) (hS W hW)
  have h2 := fun W (hW : Gr w W) => unquote_any ([91, 34, 97] ++ t) 3 (esV s 3) (esV s 4) W (by simp; omega) (hS W hW)
  have hp : unquoteP ([91, 34, 97] ++ t) 3 = unquoteP t 0 := unquote_moved [91, 34, 97] t
  have hl := unquoteP_len t
  have hu : ([91, 34, 97] ++ t).length = t.length + 3 := by simp
  rw [hp] at h2
  cases hx : unquoteP t 0 with
  | ok S r =>
    rw [hx] at h1 h2
    have := hl.1 S r hx
    refine ⟨S, t.length - r.length, t.length + 3 - r.length, none, fun W hW => (h1 W hW).mono ?_, fun W hW => (h2 W hW).mono ?_, fun _ => by omega, by omega, fun d k h => by cases h⟩
    · rintro e w' ⟨hg, rfl⟩
      exact ⟨hg, _, rfl, rfl⟩
    · rintro e w' ⟨hg, rfl⟩
      rw [hu]
      exact ⟨hg, _, rfl, rfl⟩
  | bad r =>
    rw [hx] at h1 h2
    have := hl.2 r hx
    refine ⟨[], 0, 0, some (false, t.length - r.length), fun W hW => (h1 W hW).mono ?_, fun W hW => (h2 W hW).mono ?_, fun h => (by cases h), by omega, fun d' k h => by injection h with h; injection h with _ h; omega⟩
    · rintro e w' ⟨hg, er, rfl, hr⟩
      exact ⟨hg, er, rfl, ErrIn.refused (d := false) hr⟩
    · rintro e w' ⟨hg, er, rfl, hr⟩
      rw [hu, show t.length + 3 - r.length = t.length - r.length + 3 by omega] at hr
      exact ⟨hg, er, rfl, ErrIn.refused (d := false) hr⟩
theorem err_case {s : Nat → Addr} {w : World} {x : Option (Bool × Nat)} {err : Value} (h : ErrIn s w x err) : (x = none ∧ err = .nilIface) ∨ (∃ y, x = some y) ∧ ∃ t v, err = .iface t v := by
  cases x with
  | none => exact .inl ⟨rfl, h⟩
  | some y => exact .inr ⟨⟨y, rfl⟩, h.iface⟩

set_option maxRecDepth 100000 in
set_option maxHeartbeats 16000000 in
theorem classMoves_any (ls : List (List UInt8 × Int)) (p : Option Addr) (c0 : Nat) (s : Nat → Addr) (w : World) (hs : Sl w (.slice p ls.length c0) 2 ls.length (ls.flatMap plCells)) (hF : FaultsIn w s) (hm : ∃ m, w.cell? ⟨17, 0, none⟩ = some (.int .i64 m)) :
    Calls Tryd.prog 4 #[.slice p ls.length c0] w fun e w' => e = .returned (.bool true) ∧ Gr w w' := by
  have HSS := Lib.hid hs
  have HS := Lib.hid (hF.sy0 hm)
  have HF := Lib.hid hF
  have HP := Lib.hid (fun t W (hW : Gr w W) hT => parse_moves t s W hT (hF.later hW) (by obtain ⟨m, hm⟩ := hm; exact ⟨m, hW.cell hm⟩))
  have HU := Lib.hid (fun t W (hW : Gr w W) hT => unq_moves t s W hT (hF.later hW) (by obtain ⟨m, hm⟩ := hm; exact ⟨m, hW.cell hm⟩))
  clear hs hF hm
  go_enter Tryd.func4, Tryd.ntmps4
  go_wp2_with fail
  go_loopw [3] (fun i wr => ∃ k : Nat, k ≤ ls.length ∧ k ≤ 20 ∧ i = .int .i64 k ∧ Gr w wr) (fun i _ => ls.length - (intOf i).toNat)
  case atStart => exact ⟨0, by omega, by omega, rfl, Gr.refl _⟩
  case round =>
    obtain ⟨k, hk, hk20, rfl, hg⟩ := hrel
    by_cases hlt : k < ls.length ∧ k < 20
    rotate_left
    · have hx : (ls.length ≤ k) ∨ ((k : Int) < (ls.length : Int) ∧ (k : Int) = 20) := by omega
      clear hlt hk hk20
      rcases hx with hx | ⟨hx1, hx2⟩
      · have hb1 : decide ((k : Int) < (ls.length : Int)) = false := by simp; omega
        have hb2 : decide (k < ls.length) = false := by simp; omega
        clear hx
        go_wp2_with (go_at_call 9; (with_reducible refine (wakes_any _ _ _ (HS.out.later hg)).mono ?_); rintro e w5 ⟨rfl, hb⟩)
        go_ret
        exact ⟨rfl, hg.trans hb⟩
      · go_wp2_with (go_at_call 9; (with_reducible refine (wakes_any _ _ _ (HS.out.later hg)).mono ?_); rintro e w5 ⟨rfl, hb⟩)
        go_ret
        exact ⟨rfl, hg.trans hb⟩
    obtain ⟨⟨t, a⟩, hkt⟩ : ∃ x, ls[k]? = some x := ⟨_, List.getElem?_eq_getElem hlt.1⟩
    obtain ⟨bl, off, rfl, hbl, d0, d1⟩ := place_at HSS.out hkt
    replace d0 := hg.cell d0
    have hsz := st_size t
    have hbr : bl < wr.heap.size := by have := hg.size; omega
    have hkI : (k : Int) < (ls.length : Int) := by omega
    have hk2 : (k : Int) < 20 := by omega
    obtain ⟨k1, hk1⟩ : ∃ x, k + 1 = x := ⟨_, rfl⟩
    have hw1 : IntKind.i64.wrap ((k : Int) + 1) = (k1 : Int) := by rw [IntWalk.i64_in _ (by omega)]; omega
    have HK1 := Lib.hid (show k + 1 = k1 ∧ k < ls.length ∧ k < 20 from ⟨hk1, hlt.1, hlt.2⟩)
    clear hlt hk hk20 hkt hk1 d1
    by_cases hA : (4000 : Int) < (t.length : Int)
    · go_wp2_with fail
      go_roundw
      case rel => exact ⟨k1, by have := HK1.out; omega, by have := HK1.out; omega, rfl, hg⟩
      case measure => have := HK1.out; simp [intOf]; omega
    obtain ⟨S, m, m', xx, p1, p2, p3, p4, p5⟩ := HP.out t wr hg (by omega)
    obtain ⟨T, n, n', yy, q1, q2, q3, q4, q5⟩ := HU.out t wr hg (by omega)
    obtain ⟨u, hu⟩ : ∃ u, [91, 34, 97] ++ t = u := ⟨_, rfl⟩
    have cu := cat_is (P := Tryd.prog) { data := #[91, 34, 97] } (st t) (st u) [91, 34, 97] t rfl rfl (by rw [hu]) (by simp; omega)
    rw [hu] at p2 q2
    have P1 := Lib.hid p1
    have P2 := Lib.hid p2
    have Q1 := Lib.hid q1
    have Q2 := Lib.hid q2
    have HX := Lib.hid (And.intro p3 (And.intro p5 (And.intro q3 q5)))
    have hwm : IntKind.i64.wrap ((m : Int) + 3) = ((m + 3 : Nat) : Int) := by rw [IntWalk.i64_in _ (by omega)]; omega
    have hwn : IntKind.i64.wrap ((n : Int) + 3) = ((n + 3 : Nat) : Int) := by rw [IntWalk.i64_in _ (by omega)]; omega
    obtain ⟨m3, hm3⟩ : ∃ x, m + 3 = x := ⟨_, rfl⟩
    obtain ⟨n3, hn3⟩ : ∃ x, n + 3 = x := ⟨_, rfl⟩
    rw [hm3] at hwm
    rw [hn3] at hwn
    have HM := Lib.hid (And.intro hm3 hn3)
    clear p1 p2 p3 p4 p5 q1 q2 q3 q4 q5 hu hm3 hn3
    go_wp2_with fail
    go_at_call 10
    refine (P1.out wr (Gr.refl _)).mono ?_; rintro e w1 ⟨g1, e1, rfl, i1⟩
    go_wp2_with fail
    go_at_call 10
    refine name_calls (fun W1 hW => ?_)
    have xs := boxAt.new (w := w1) (W := W1) [.int .u64 (wd S 0), .int .u64 (wd S 1), .int .u64 (wd S 2), .int .u64 (wd S 3)] _ hW
    have h1 : Gr w1 W1 := by rw [hW]; exact Gr.alloc _ _
    replace i1 := i1.later h1
    replace g1 := g1.trans h1
    clear hW h1
    refine (P2.out W1 g1).mono ?_; rintro e w2 ⟨g2, e2, rfl, i2⟩
    replace i1 := i1.later g2
    replace xs := xs.later g2
    replace g1 := g1.trans g2
    clear g2
    go_wp2_with fail
    go_at_call 6
    refine name_calls (fun W2 hW => ?_)
    have ys := boxAt.new (w := w2) (W := W2) [.int .u64 (wd S 0), .int .u64 (wd S 1), .int .u64 (wd S 2), .int .u64 (wd S 3)] _ hW
    have h1 : Gr w2 W2 := by rw [hW]; exact Gr.alloc _ _
    replace i1 := i1.later h1
    replace i2 := i2.later h1
    replace xs := xs.later h1
    replace g1 := g1.trans h1
    clear hW h1
    refine (Q1.out W2 g1).mono ?_; rintro e w3 ⟨g2, e3, rfl, i3⟩
    replace i1 := i1.later g2
    replace i2 := i2.later g2
    replace xs := xs.later g2
    replace ys := ys.later g2
    replace g1 := g1.trans g2
    clear g2
    go_wp2_with fail
    go_at_call 6
    refine (Q2.out w3 g1).mono ?_; rintro e w4 ⟨g2, e4, rfl, i4⟩
    replace i1 := i1.later g2
    replace i2 := i2.later g2
    replace i3 := i3.later g2
    replace xs := xs.later g2
    replace ys := ys.later g2
    replace g1 := g1.trans g2
    clear g2 d0 hbr cu
    have HMV : Hid (∀ W, Gr w4 W → Calls Tryd.prog 11 #[e1, e2] W fun e w' => e = .returned (.bool true) ∧ Gr W w') := fun W hW => moved_any (HF.out.later ((hg.trans g1).trans hW)) xx e1 e2 (i1.later hW) (i2.later hW) HX.out.2.1
    have HMW : Hid (∀ W, Gr w4 W → Calls Tryd.prog 11 #[e3, e4] W fun e w' => e = .returned (.bool true) ∧ Gr W w') := fun W hW => moved_any (HF.out.later ((hg.trans g1).trans hW)) yy e3 e4 (i3.later hW) (i4.later hW) HX.out.2.2.2
    have hcx : (e1 = .nilIface ∧ m' = m3) ∨ ∃ ty v, e1 = .iface ty v := by
      rcases err_case i1 with ⟨h1, h2⟩ | ⟨_, h2⟩
      · exact .inl ⟨h2, by rw [HX.out.1 h1, HM.out.1]⟩
      · exact .inr h2
    have hcy : (e3 = .nilIface ∧ n' = n3) ∨ ∃ ty v, e3 = .iface ty v := by
      rcases err_case i3 with ⟨h1, h2⟩ | ⟨_, h2⟩
      · exact .inl ⟨h2, by rw [HX.out.2.2.1 h1, HM.out.2]⟩
      · exact .inr h2
    have c_s0 := xs.cell 0 _ rfl
    have c_s1 := xs.cell 1 _ rfl
    have c_s2 := xs.cell 2 _ rfl
    have c_s3 := xs.cell 3 _ rfl
    have m_s0 := xs.mark 0 _ rfl
    have m_s1 := xs.mark 1 _ rfl
    have m_s2 := xs.mark 2 _ rfl
    have m_s3 := xs.mark 3 _ rfl
    have l_s := xs.lt (Nat.succ_pos _)
    have c_y0 := ys.cell 0 _ rfl
    have c_y1 := ys.cell 1 _ rfl
    have c_y2 := ys.cell 2 _ rfl
    have c_y3 := ys.cell 3 _ rfl
    have m_y0 := ys.mark 0 _ rfl
    have m_y1 := ys.mark 1 _ rfl
    have m_y2 := ys.mark 2 _ rfl
    have m_y3 := ys.mark 3 _ rfl
    have l_y := ys.lt (Nat.succ_pos _)
    clear i1 i2 i3 i4 xs ys
    rcases hcx with ⟨rfl, rfl⟩ | ⟨ty, v, rfl⟩ <;> rcases hcy with ⟨rfl, rfl⟩ | ⟨ty2, v2, rfl⟩
    all_goals
      go_wp2_with fail
      go_at_call 11
      refine (HMV.out _ (Gr.refl _)).mono ?_; rintro e w6 ⟨rfl, hb6⟩
      go_wp2_with fail
      go_at_call 11
      refine (HMW.out _ hb6).mono ?_; rintro e w7 ⟨rfl, hb7⟩
      go_wp2_with fail
      go_roundw
      case rel => exact ⟨k1, by have := HK1.out; omega, by have := HK1.out; omega, rfl, (hg.trans g1).trans (hb6.trans hb7)⟩
      case measure => have := HK1.out; simp [intOf]; omega

end Go.Proofs.YtihjmeoklbmnmabDoor
