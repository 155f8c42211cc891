/- folded of length, over cat and alt. No condition but bounds. -/
import Derived.Test.YtpcmgkohebihmaaDoorForm
namespace Go.Proofs.YtpcmgkohebihmaaDoor
open Go Go.RowKit

set_option maxRecDepth 100000 in
set_option maxHeartbeats 4000000 in
theorem folded_cat (x : Le) (r : List Le) (g cap : Nat) (w : World) (hg : g < w.heap.size) (hcap : r.length + 1 ≤ cap) (hmax : cap ≤ maxLen) (hc : ∀ (j : Nat) (u : Value), ((x :: r).flatMap leCells)[j]? = some u → w.cell? ⟨g, j, none⟩ = some u)
    (hel : ∀ y ∈ r, small y) (hpre : ∀ j, small ((r.take j).foldl catL x)) :
    Calls Tryd.prog 37 #[.slice (some ⟨g, 0, none⟩) (r.length + 1) cap, .func (.func 38) #[] #[]] w fun e' w' => e' = .returned (.agg #[.bool (r.foldl catL x).none, .int .i64 (r.foldl catL x).least, .int .i64 (r.foldl catL x).most]) ∧ Gr w w' := by
  unfold maxLen at hmax
  have HC := Lib.hid hc
  have HEL := Lib.hid hel
  have HP := Lib.hid hpre
  have hget : ∀ (k : Nat) (y : Le), (x :: r)[k]? = some y → w.cell? ⟨g, k * 3, none⟩ = some (.bool y.none) ∧ w.cell? ⟨g, k * 3 + 1, none⟩ = some (.int .i64 y.least) ∧ w.cell? ⟨g, k * 3 + 2, none⟩ = some (.int .i64 y.most) := fun k y hy => by
    have h0 := flatMap_get_of leCells 3 (x :: r) (fun _ _ => rfl) k 0 y hy (by omega)
    have h1 := flatMap_get_of leCells 3 (x :: r) (fun _ _ => rfl) k 1 y hy (by omega)
    have h2 := flatMap_get_of leCells 3 (x :: r) (fun _ _ => rfl) k 2 y hy (by omega)
    exact ⟨hc _ _ h0, hc _ _ h1, hc _ _ h2⟩
  have HG := Lib.hid hget
  have z := hget 0 x rfl
  rw [Nat.zero_mul, Nat.zero_add, Nat.zero_add] at z
  obtain ⟨z0, z1, z2⟩ := z
  clear hc hel hpre hget
  have hcI : (r.length : Int) + 1 ≤ (cap : Int) := by omega
  by_cases hc1 : cap = 1
  · have hr0 : r = [] := List.eq_nil_of_length_eq_zero (by omega)
    subst hr0 hc1
    go_enter Tryd.func37, Tryd.ntmps37
    go_wp2_with fail
    refine wp_loop_rounds 1 ?_
    rw [rounds_succ]
    go_wp2_with fail
    exact bodyPost_ret (v := .agg #[.bool x.none, .int .i64 x.least, .int .i64 x.most]) (by simp [results, Tryd.results37, go_sem]) rfl ⟨rfl, (Gr.alloc _ _).trans (Gr.alloc _ _)⟩
  · go_enter Tryd.func37, Tryd.ntmps37
    go_wp2_with fail
    go_loopw [14] (fun i wr => ∃ (j : Nat) (z : Le), j ≤ r.length ∧ i = .int .i64 (j : Int) ∧ Hid (z = (r.take j).foldl catL x) ∧ Gr w wr ∧ w.heap.size + 2 ≤ wr.heap.size ∧ boxAt wr w.heap.size [.bool false, .int .i64 0, .int .i64 0] ∧ boxAt wr (w.heap.size + 1) [.bool z.none, .int .i64 z.least, .int .i64 z.most]) (fun i _ => r.length - (intOf i).toNat)
    case atStart =>
      obtain ⟨h0, h1, h2, h3⟩ := bx2 w [.bool false, .int .i64 0, .int .i64 0] [.bool x.none, .int .i64 x.least, .int .i64 x.most] 33 33
      exact ⟨0, x, by omega, rfl, Lib.hid rfl, h2, by rw [h3]; exact Nat.le_refl _, h0, h1⟩
    case round =>
      obtain ⟨j, z, hj, rfl, HZ, hgr, hsz, xr, xz⟩ := hrel
      by_cases hlt : j < r.length
      · obtain ⟨y, hy⟩ : ∃ y, r[j]? = some y := ⟨_, List.getElem?_eq_getElem hlt⟩
        have hz := HG.out (j + 1) y (by simpa using hy)
        have e0 := hgr.cell hz.1
        have e1 := hgr.cell hz.2.1
        have e2 := hgr.cell hz.2.2
        rw [show (j + 1) * 3 = 3 + j * 3 by omega] at e0 e1 e2
        have hys := HEL.out y (List.mem_of_getElem? hy)
        have HYS := Lib.hid hys
        have HNX := Lib.hid (show catL z y = (r.take (j + 1)).foldl catL x by
          obtain ⟨g1, g2⟩ := List.getElem?_eq_some_iff.1 hy
          rw [List.take_succ_eq_append_getElem g1, List.foldl_append, g2, ← HZ.out]; rfl)
        have HZS := Lib.hid (show small z by rw [HZ.out]; exact HP.out j)
        have hgr2 : g < wr.heap.size := by have := hgr.size; omega
        have hjI : (j : Int) < (r.length : Int) := by omega
        have HLT := Lib.hid hlt
        clear hlt hj hy hz hys
        have c_z0 := xz.cell 0 _ rfl
        have c_z1 := xz.cell 1 _ rfl
        have c_z2 := xz.cell 2 _ rfl
        have m_z0 := xz.mark 0 _ rfl
        have m_z1 := xz.mark 1 _ rfl
        have m_z2 := xz.mark 2 _ rfl
        have l_z := xz.lt (Nat.succ_pos _)
        go_wp2_with fail
        clear c_z0 c_z1 c_z2 m_z0 m_z1 m_z2 l_z
        go_at_call 38
        refine name_calls (fun W hW => ?_)
        have hb0 : Gr wr W := by rw [hW]; exact Gr.alloc _ _
        clear hW
        replace xr := xr.later hb0
        replace xz := xz.later hb0
        refine (cat_any z y W HZS.out HYS.out).mono ?_; rintro e' w2 ⟨rfl, hb⟩
        replace xr := xr.later hb
        replace xz := xz.later hb
        have hg2 := (hgr.trans hb0).trans hb
        have hs2 : w.heap.size + 2 ≤ w2.heap.size := by have := hb0.size; have := hb.size; omega
        clear hb hb0 hsz hgr
        obtain ⟨q, hq⟩ : ∃ q, catL z y = q := ⟨_, rfl⟩
        have HQ := Lib.hid hq
        simp only [hq]
        clear hq
        have c_z0 := xz.cell 0 _ rfl
        have c_z1 := xz.cell 1 _ rfl
        have c_z2 := xz.cell 2 _ rfl
        have m_z0 := xz.mark 0 _ rfl
        have m_z1 := xz.mark 1 _ rfl
        have m_z2 := xz.mark 2 _ rfl
        have l_z := xz.lt (Nat.succ_pos _)
        go_wp2_with fail
        go_roundw
        case rel =>
          refine ⟨j + 1, q, by have := HLT.out; omega, by go_num, Lib.hid (by rw [← HQ.out]; exact HNX.out), put3 hg2 (by omega) _ _ _, by simp only [size_put1]; exact hs2, ((xr.far _ _ ?_).far _ _ ?_).far _ _ ?_, ((xz.put 0 _ (by simp)).put 1 _ (by simp)).put 2 _ (by simp)⟩ <;> (show w.heap.size + 1 ≠ w.heap.size; omega)
        case measure => have := HLT.out; simp [intOf]; omega
      · have hjE : j = r.length := by omega
        clear hlt hj
        subst hjE
        obtain rfl : z = r.foldl catL x := by rw [HZ.out, List.take_length]
        clear HZ
        have c_r0 := xr.cell 0 _ rfl
        have c_r1 := xr.cell 1 _ rfl
        have c_r2 := xr.cell 2 _ rfl
        have m_r0 := xr.mark 0 _ rfl
        have m_r1 := xr.mark 1 _ rfl
        have m_r2 := xr.mark 2 _ rfl
        have l_r := xr.lt (Nat.succ_pos _)
        have c_z0 := xz.cell 0 _ rfl
        have c_z1 := xz.cell 1 _ rfl
        have c_z2 := xz.cell 2 _ rfl
        have m_z0 := xz.mark 0 _ rfl
        have m_z1 := xz.mark 1 _ rfl
        have m_z2 := xz.mark 2 _ rfl
        have l_z := xz.lt (Nat.succ_pos _)
        go_wp2_with fail
        exact bodyPost_ret (v := .agg #[.bool (r.foldl catL x).none, .int .i64 (r.foldl catL x).least, .int .i64 (r.foldl catL x).most]) (by simp [results, Tryd.results37, go_sem, c_r0, c_r1, c_r2]) rfl ⟨rfl, put3 hgr (by omega) _ _ _⟩

set_option maxRecDepth 100000 in
set_option maxHeartbeats 4000000 in
theorem folded_alt (x : Le) (r : List Le) (g cap : Nat) (w : World) (hg : g < w.heap.size) (hcap : r.length + 1 ≤ cap) (hmax : cap ≤ maxLen) (hc : ∀ (j : Nat) (u : Value), ((x :: r).flatMap leCells)[j]? = some u → w.cell? ⟨g, j, none⟩ = some u)
    (hel : ∀ y ∈ r, small y) (hpre : ∀ j, small ((r.take j).foldl altL x)) :
    Calls Tryd.prog 37 #[.slice (some ⟨g, 0, none⟩) (r.length + 1) cap, .func (.func 39) #[] #[]] w fun e' w' => e' = .returned (.agg #[.bool (r.foldl altL x).none, .int .i64 (r.foldl altL x).least, .int .i64 (r.foldl altL x).most]) ∧ Gr w w' := by
  unfold maxLen at hmax
  have HC := Lib.hid hc
  have HEL := Lib.hid hel
  have HP := Lib.hid hpre
  have hget : ∀ (k : Nat) (y : Le), (x :: r)[k]? = some y → w.cell? ⟨g, k * 3, none⟩ = some (.bool y.none) ∧ w.cell? ⟨g, k * 3 + 1, none⟩ = some (.int .i64 y.least) ∧ w.cell? ⟨g, k * 3 + 2, none⟩ = some (.int .i64 y.most) := fun k y hy => by
    have h0 := flatMap_get_of leCells 3 (x :: r) (fun _ _ => rfl) k 0 y hy (by omega)
    have h1 := flatMap_get_of leCells 3 (x :: r) (fun _ _ => rfl) k 1 y hy (by omega)
    have h2 := flatMap_get_of leCells 3 (x :: r) (fun _ _ => rfl) k 2 y hy (by omega)
    exact ⟨hc _ _ h0, hc _ _ h1, hc _ _ h2⟩
  have HG := Lib.hid hget
  have z := hget 0 x rfl
  rw [Nat.zero_mul, Nat.zero_add, Nat.zero_add] at z
  obtain ⟨z0, z1, z2⟩ := z
  clear hc hel hpre hget
  have hcI : (r.length : Int) + 1 ≤ (cap : Int) := by omega
  by_cases hc1 : cap = 1
  · have hr0 : r = [] := List.eq_nil_of_length_eq_zero (by omega)
    subst hr0 hc1
    go_enter Tryd.func37, Tryd.ntmps37
    go_wp2_with fail
    refine wp_loop_rounds 1 ?_
    rw [rounds_succ]
    go_wp2_with fail
    exact bodyPost_ret (v := .agg #[.bool x.none, .int .i64 x.least, .int .i64 x.most]) (by simp [results, Tryd.results37, go_sem]) rfl ⟨rfl, (Gr.alloc _ _).trans (Gr.alloc _ _)⟩
  · go_enter Tryd.func37, Tryd.ntmps37
    go_wp2_with fail
    go_loopw [14] (fun i wr => ∃ (j : Nat) (z : Le), j ≤ r.length ∧ i = .int .i64 (j : Int) ∧ Hid (z = (r.take j).foldl altL x) ∧ Gr w wr ∧ w.heap.size + 2 ≤ wr.heap.size ∧ boxAt wr w.heap.size [.bool false, .int .i64 0, .int .i64 0] ∧ boxAt wr (w.heap.size + 1) [.bool z.none, .int .i64 z.least, .int .i64 z.most]) (fun i _ => r.length - (intOf i).toNat)
    case atStart =>
      obtain ⟨h0, h1, h2, h3⟩ := bx2 w [.bool false, .int .i64 0, .int .i64 0] [.bool x.none, .int .i64 x.least, .int .i64 x.most] 33 33
      exact ⟨0, x, by omega, rfl, Lib.hid rfl, h2, by rw [h3]; exact Nat.le_refl _, h0, h1⟩
    case round =>
      obtain ⟨j, z, hj, rfl, HZ, hgr, hsz, xr, xz⟩ := hrel
      by_cases hlt : j < r.length
      · obtain ⟨y, hy⟩ : ∃ y, r[j]? = some y := ⟨_, List.getElem?_eq_getElem hlt⟩
        have hz := HG.out (j + 1) y (by simpa using hy)
        have e0 := hgr.cell hz.1
        have e1 := hgr.cell hz.2.1
        have e2 := hgr.cell hz.2.2
        rw [show (j + 1) * 3 = 3 + j * 3 by omega] at e0 e1 e2
        have hys := HEL.out y (List.mem_of_getElem? hy)
        have HYS := Lib.hid hys
        have HNX := Lib.hid (show altL z y = (r.take (j + 1)).foldl altL x by
          obtain ⟨g1, g2⟩ := List.getElem?_eq_some_iff.1 hy
          rw [List.take_succ_eq_append_getElem g1, List.foldl_append, g2, ← HZ.out]; rfl)
        have HZS := Lib.hid (show small z by rw [HZ.out]; exact HP.out j)
        have hgr2 : g < wr.heap.size := by have := hgr.size; omega
        have hjI : (j : Int) < (r.length : Int) := by omega
        have HLT := Lib.hid hlt
        clear hlt hj hy hz hys
        have c_z0 := xz.cell 0 _ rfl
        have c_z1 := xz.cell 1 _ rfl
        have c_z2 := xz.cell 2 _ rfl
        have m_z0 := xz.mark 0 _ rfl
        have m_z1 := xz.mark 1 _ rfl
        have m_z2 := xz.mark 2 _ rfl
        have l_z := xz.lt (Nat.succ_pos _)
        go_wp2_with fail
        clear c_z0 c_z1 c_z2 m_z0 m_z1 m_z2 l_z
        go_at_call 39
        refine name_calls (fun W hW => ?_)
        have hb0 : Gr wr W := by rw [hW]; exact Gr.alloc _ _
        clear hW
        replace xr := xr.later hb0
        replace xz := xz.later hb0
        refine (alt_any z y W HZS.out HYS.out).mono ?_; rintro e' w2 ⟨rfl, hb⟩
        replace xr := xr.later hb
        replace xz := xz.later hb
        have hg2 := (hgr.trans hb0).trans hb
        have hs2 : w.heap.size + 2 ≤ w2.heap.size := by have := hb0.size; have := hb.size; omega
        clear hb hb0 hsz hgr
        obtain ⟨q, hq⟩ : ∃ q, altL z y = q := ⟨_, rfl⟩
        have HQ := Lib.hid hq
        simp only [hq]
        clear hq
        have c_z0 := xz.cell 0 _ rfl
        have c_z1 := xz.cell 1 _ rfl
        have c_z2 := xz.cell 2 _ rfl
        have m_z0 := xz.mark 0 _ rfl
        have m_z1 := xz.mark 1 _ rfl
        have m_z2 := xz.mark 2 _ rfl
        have l_z := xz.lt (Nat.succ_pos _)
        go_wp2_with fail
        go_roundw
        case rel =>
          refine ⟨j + 1, q, by have := HLT.out; omega, by go_num, Lib.hid (by rw [← HQ.out]; exact HNX.out), put3 hg2 (by omega) _ _ _, by simp only [size_put1]; exact hs2, ((xr.far _ _ ?_).far _ _ ?_).far _ _ ?_, ((xz.put 0 _ (by simp)).put 1 _ (by simp)).put 2 _ (by simp)⟩ <;> (show w.heap.size + 1 ≠ w.heap.size; omega)
        case measure => have := HLT.out; simp [intOf]; omega
      · have hjE : j = r.length := by omega
        clear hlt hj
        subst hjE
        obtain rfl : z = r.foldl altL x := by rw [HZ.out, List.take_length]
        clear HZ
        have c_r0 := xr.cell 0 _ rfl
        have c_r1 := xr.cell 1 _ rfl
        have c_r2 := xr.cell 2 _ rfl
        have m_r0 := xr.mark 0 _ rfl
        have m_r1 := xr.mark 1 _ rfl
        have m_r2 := xr.mark 2 _ rfl
        have l_r := xr.lt (Nat.succ_pos _)
        have c_z0 := xz.cell 0 _ rfl
        have c_z1 := xz.cell 1 _ rfl
        have c_z2 := xz.cell 2 _ rfl
        have m_z0 := xz.mark 0 _ rfl
        have m_z1 := xz.mark 1 _ rfl
        have m_z2 := xz.mark 2 _ rfl
        have l_z := xz.lt (Nat.succ_pos _)
        go_wp2_with fail
        exact bodyPost_ret (v := .agg #[.bool (r.foldl altL x).none, .int .i64 (r.foldl altL x).least, .int .i64 (r.foldl altL x).most]) (by simp [results, Tryd.results37, go_sem, c_r0, c_r1, c_r2]) rfl ⟨rfl, put3 hgr (by omega) _ _ _⟩

end Go.Proofs.YtpcmgkohebihmaaDoor
