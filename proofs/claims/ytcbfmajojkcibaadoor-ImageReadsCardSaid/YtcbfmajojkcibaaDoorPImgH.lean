/- image: the reader's text. No condition but that the bytes lie elsewhere than the reader. -/
import Derived.Test.YtcbfmajojkcibaaDoorPImgG
namespace Go.Proofs.YtcbfmajojkcibaaDoor
open Go Go.RowKit

/-- How the reader's text ends. -/
def TxtEnd (w : World) (rb : Nat) (pb : Option Addr) (c : Nat) (bs : List UInt8) (k : Nat) (e : Ending) (w' : World) : Prop := KpP rb w w' ∧ match txR (bs.drop k) with
  | some (s, r) => e = .returned (.string (st s)) ∧ ∃ k', RdI w' rb pb c bs k' ∧ bs.drop k' = r
  | none => e = .panicked [{ v := refusalV, recovered := false }] ∧ ∃ k', RdI w' rb pb c bs k'

set_option maxRecDepth 100000 in
set_option maxHeartbeats 4000000 in
theorem textR_any (w : World) (rb : Nat) (pb : Option Addr) (c : Nat) (bs : List UInt8) (k : Nat) (h : RdI w rb pb c bs k) :
    Calls Tryd.prog 66 #[.pointer (some ⟨rb, 0, none⟩)] w (TxtEnd w rb pb c bs k) := by
  have H := Lib.hid h
  have hsm := h.small
  obtain ⟨L, hL⟩ : ∃ L, bs.drop k = L := ⟨_, rfl⟩
  have HL := Lib.hid hL
  have hN : Calls Tryd.prog 65 #[.pointer (some ⟨rb, 0, none⟩), .int .i64 32] w (NumEnd w rb pb c bs k 32) := number_any w rb pb c bs k 32 h (by omega)
  have HN := Lib.hid hN
  clear hN
  clear h hL
  go_enter Tryd.func66, Tryd.ntmps66
  go_wp2_with fail
  go_at_call 65
  (with_reducible refine HN.out.mono ?_); rintro e w1 ⟨hk, hE⟩
  rw [HL.out] at hE
  cases hn : numR 32 L with
  | none =>
    rw [hn] at hE
    obtain ⟨rfl, k', hr⟩ := hE
    have Z : TxtEnd w rb pb c bs k (.panicked [{ v := refusalV, recovered := false }]) w1 := ⟨hk, by rw [HL.out]; unfold txR; rw [hn]; exact ⟨rfl, k', hr⟩⟩
    unfold refusalV at Z ⊢
    have Z2 := Lib.hid Z
    clear Z hk hr hn
    go_wp2_with fail
    exact ⟨rfl, Z2.out⟩
  | some y =>
    obtain ⟨m, r⟩ := y
    rw [hn] at hE
    obtain ⟨rfl, q, hr, hdr⟩ := hE
    have xr := hr.box
    have hql := hr.le
    have HR := Lib.hid hr
    have hrl : r.length = bs.length - q := by rw [← hdr, List.length_drop]
    have HDR := Lib.hid hdr
    have hm32 := (var_numR hn).2
    have HNN := Lib.hid hn
    clear hr hn hdr
    have c_e0 := xr.cell 0 _ rfl
    have c_e1 := xr.cell 1 _ rfl
    have m_e0 := xr.mark 0 _ rfl
    have m_e1 := xr.mark 1 _ rfl
    have l_e := xr.lt (Nat.succ_pos _)
    have hw1 : IntKind.i64.wrap ((bs.length : Int) - (q : Int)) = (bs.length : Int) - (q : Int) := by rw [IntWalk.i64_in _ (by omega)]
    by_cases hmr : m ≤ r.length
    · have hI : (m : Int) ≤ (bs.length : Int) - (q : Int) := by omega
      have hw2 : IntKind.i64.wrap ((q : Int) + (m : Int)) = ((q + m : Nat) : Int) := by rw [IntWalk.i64_in _ (by omega)]; omega
      have hpos : 0 < bs.length := by
        have h1 := congrArg List.length (var_numR HNN.out).1
        rw [List.length_append, ← HL.out, List.length_drop] at h1
        have := varB_pos m
        omega
      obtain ⟨b, off, rfl, hbl, hcs⟩ : ∃ b off, pb = some ⟨b, off, none⟩ ∧ b < w1.heap.size ∧ ∀ j u, (bs.map vB)[j]? = some u → w1.cell? ⟨b, off + j, none⟩ = some u := by
        obtain ⟨_, _, ⟨_, h0⟩ | ⟨b, off, cap, hv, hb, hc⟩⟩ := HR.out.bytes
        · omega
        · injection hv with hp _ _
          exact ⟨b, off, hp, hb (by omega), hc⟩
      have hbrb := HR.out.apart b off rfl
      have hroom := HR.out.room
      have Z := Lib.hid (fun (w' : World) (k' : Nat) (hkp : KpP rb w w') (hr : RdI w' rb (some ⟨b, off, none⟩) c bs k') (hk' : bs.drop k' = r.drop m) => (show TxtEnd w rb (some ⟨b, off, none⟩) c bs k (.returned (.string (st (r.take m)))) w' from ⟨hkp, by
        rw [HL.out]; unfold txR; rw [HNN.out]; simp only [if_pos hmr]; exact ⟨trivial, k', hr, hk'⟩⟩))
      obtain ⟨QQ, hQQ⟩ : ∃ Q, q + m = Q := ⟨_, rfl⟩
      have hcast : (QQ : Int) = (q : Int) + (m : Int) := by omega
      have hr2 := Lib.hid (fun w' (hG : Gr w1 w') => (HR.out.later hG).put (k' := QQ) (by omega))
      have hk2 := Lib.hid (fun w' (hG : Gr w1 w') => (hk.trans (KpP.gr hG)).at_p 1 (.int .i64 (QQ : Int)))
      have hw4 : IntKind.i64.wrap ((QQ : Int) - (m : Int)) = (q : Int) := by rw [IntWalk.i64_in _ (by omega)]; omega
      have hqq1 : q ≤ QQ := by omega
      have hqq2 : QQ ≤ c := by omega
      have hqm : QQ - q = m := by omega
      have HB := Lib.hid hcs
      have HQQ := Lib.hid hQQ
      have HMR := Lib.hid hmr
      have HCA := Lib.hid hcast
      clear hcs hmr hQQ hcast hw2
      have hw2 : IntKind.i64.wrap ((q : Int) + (m : Int)) = (QQ : Int) := by rw [IntWalk.i64_in _ (by omega)]; have := HCA.out; omega
      go_wp2_with fail
      refine wp_region_G (.take 0 (.take 1 (.take 2 (.take 3 (.take 4 (.take 5 (.take 6 (.take 7 (.take 8 (.take 9 (.take 10 (.take 11 .nil)))))))))))) (by kernel_rfl) (by kernel_rfl) ?_
      simp only [pickOps, nthOp]
      intro wq hG
      repeat (first | (refine wpG_skip_take ?_ ?_; (focus rfl); try simp only [Act.put, List.setIfInBounds_toArray, List.set_cons_zero, List.set_cons_succ]) | (refine wpG_skip_run ?_ ?_; (focus rfl); try simp only [Act.put, List.setIfInBounds_toArray, List.set_cons_zero, List.set_cons_succ]) | (refine wpG_take ?_ ?_; (focus rfl); apply Exists.intro; refine ⟨fun w' hw' => ?_, ?_⟩; (focus (have hc := Gr.cells hw'; go_simp; (try rfl); done)); try simp only [Act.put, List.setIfInBounds_toArray, List.set_cons_zero, List.set_cons_succ]))
      refine wpG_done ?_
      clear c_e0 c_e1 m_e0 m_e1 l_e
      replace xr := xr.later hG
      have hr3 := hr2.out _ hG
      have hk3 := hk2.out _ hG
      have hc3 : ∀ j u, (bs.map vB)[j]? = some u → (wq.setCell ⟨rb, 1, none⟩ (.int .i64 (QQ : Int))).cell? ⟨b, off + j, none⟩ = some u := fun j u hj => by
        rw [World.cell?_setCell_other]
        · exact hG.cell (HB.out j u hj)
        · intro e; injection e with e1 _; exact hbrb e1.symm
      have c_e0 := xr.cell 0 _ rfl
      have c_e1 := xr.cell 1 _ rfl
      have m_e0 := xr.mark 0 _ rfl
      have m_e1 := xr.mark 1 _ rfl
      have l_e := xr.lt (Nat.succ_pos _)
      go_wp2_with fail
      clear c_e0 c_e1 m_e0 m_e1 l_e
      refine name_world (fun W6 hW => ?_)
      rw [← hW] at hr3 hk3 hc3
      clear hW
      have xr6 := hr3.box
      have c_e0 := xr6.cell 0 _ rfl
      have c_e1 := xr6.cell 1 _ rfl
      have m_e0 := xr6.mark 0 _ rfl
      have m_e1 := xr6.mark 1 _ rfl
      have l_e := xr6.lt (Nat.succ_pos _)
      have hcv : ∀ w', Gr W6 w' → (convert 32 9 (.slice (if c = q then some ⟨b, off, none⟩ else some ⟨b, off + q, none⟩) m (c - q))).run Tryd.prog w' = .ok (.string (st (r.take m))) w' := fun w' hg => by
        have hlen : (r.take m).length = m := by rw [List.length_take]; have := HMR.out; omega
        by_cases hcq : c = q
        · have hm0 : m = 0 := by omega
          rw [if_pos hcq]
          refine conv_bytes w' 32 9 5 ⟨b, off, none⟩ (c - q) m (r.take m) Tryd.underlying32 Tryd.underlying5 Tryd.underlying9 hlen (fun j u hj => ?_)
          rw [hm0] at hj; simp at hj
        · rw [if_neg hcq]
          refine conv_bytes w' 32 9 5 ⟨b, off + q, none⟩ (c - q) m (r.take m) Tryd.underlying32 Tryd.underlying5 Tryd.underlying9 hlen (fun j u hj => ?_)
          rw [addr_add, Nat.add_assoc]
          refine hg.cell (hc3 (q + j) u ?_)
          rw [List.getElem?_map] at hj ⊢
          obtain ⟨x, hx, hx2⟩ := Option.map_eq_some_iff.1 hj
          have hjm : j < m := by
            have := (List.getElem?_eq_some_iff.1 hx).1
            rw [hlen] at this; exact this
          have hx3 := hx
          rw [List.getElem?_take_of_lt hjm, ← HDR.out, List.getElem?_drop] at hx3
          rw [hx3]; exact congrArg some hx2
      have HCV := Lib.hid hcv
      clear hcv
      have hqI : (q : Int) ≤ (QQ : Int) := by omega
      have hqcI : (QQ : Int) ≤ (c : Int) := by omega
      have Z2 := Lib.hid (fun w' (hg : Gr W6 w') => Z.out w' QQ (hk3.trans (KpP.gr hg)) (hr3.later hg) (by rw [← HQQ.out, ← List.drop_drop, HDR.out]))
      go_wp2_with fail
      refine wp_region_G (.take 0 (.take 1 (.take 2 (.take 3 (.take 4 (.take 5 (.take 6 (.take 7 (.take 8 (.take 9 (.take 10 (.take 11 (.take 12 (.take 13 (.take 14 (.take 15 (.run 16 true .nil))))))))))))))))) (by kernel_rfl) (by kernel_rfl) ?_
      simp only [pickOps, nthOp]
      intro wq hG
      repeat (first | (refine wpG_skip_take ?_ ?_; (focus rfl); try simp only [Act.put, List.setIfInBounds_toArray, List.set_cons_zero, List.set_cons_succ]) | (refine wpG_skip_run ?_ ?_; (focus rfl); try simp only [Act.put, List.setIfInBounds_toArray, List.set_cons_zero, List.set_cons_succ]) | (refine wpG_take ?_ ?_; (focus rfl); apply Exists.intro; refine ⟨fun w' hw' => ?_, ?_⟩; (focus (have hc := Gr.cells hw'; go_simp; (try rfl); done)); try simp only [Act.put, List.setIfInBounds_toArray, List.set_cons_zero, List.set_cons_succ]))
      refine wpG_take ?_ ?_; (focus rfl); apply Exists.intro; refine ⟨fun w' hw' => ?_, ?_⟩; (focus (have hcq := HCV.out w' hw'; simp [execOp, Act.eval, hcq]; rfl))
      try simp only [Act.put, List.setIfInBounds_toArray, List.set_cons_zero, List.set_cons_succ]
      generalize (if c = q then (some ⟨b, off, none⟩ : Option Addr) else some ⟨b, off + q, none⟩) = pv
      refine wpG_last ?_ (fun K hK => ?_); (focus rfl)
      have hc := hG.cells
      have hm := hG.marks
      go_simp
      refine hK.out _ _ ?_
      try simp only [Act.put, List.setIfInBounds_toArray, List.set_cons_zero, List.set_cons_succ]
      clear hK K hc hm
      refine wpG_done ?_
      go_wp2_with fail
      go_ret
      exact Z2.out _ hG
    · have hI : (bs.length : Int) - (q : Int) < (m : Int) := by omega
      have Z := Lib.hid (fun (w' : World) (hg : Gr w1 w') => (show TxtEnd w rb pb c bs k (.panicked [{ v := refusalV, recovered := false }]) w' from ⟨hk.trans (KpP.gr hg), by rw [HL.out]; unfold txR; rw [HNN.out]; simp only [if_neg hmr]; exact ⟨trivial, q, HR.out.later hg⟩⟩))
      clear hmr hrl hql hm32
      go_wp2_with fail
      refine wp_region_G (.take 0 (.take 1 (.take 2 (.take 3 (.take 4 (.take 5 (.take 6 (.take 7 (.take 8 (.take 9 (.take 10 (.take 11 .nil)))))))))))) (by kernel_rfl) (by kernel_rfl) ?_
      simp only [pickOps, nthOp]
      intro wq hG
      repeat (first | (refine wpG_skip_take ?_ ?_; (focus rfl); try simp only [Act.put, List.setIfInBounds_toArray, List.set_cons_zero, List.set_cons_succ]) | (refine wpG_skip_run ?_ ?_; (focus rfl); try simp only [Act.put, List.setIfInBounds_toArray, List.set_cons_zero, List.set_cons_succ]) | (refine wpG_take ?_ ?_; (focus rfl); apply Exists.intro; refine ⟨fun w' hw' => ?_, ?_⟩; (focus (have hc := Gr.cells hw'; go_simp; (try rfl); done)); try simp only [Act.put, List.setIfInBounds_toArray, List.set_cons_zero, List.set_cons_succ]))
      refine wpG_done ?_
      go_wp2_with fail
      exact ⟨rfl, Z.out _ hG⟩

end Go.Proofs.YtcbfmajojkcibaaDoor
