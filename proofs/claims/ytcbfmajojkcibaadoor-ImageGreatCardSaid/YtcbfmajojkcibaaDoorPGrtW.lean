/- bolterlaw17.ImageGreat: the tables are made. No condition but that the errors' variables hold them. -/
import Derived.Test.YtcbfmajojkcibaaDoorPGrtA
namespace Go.Proofs.YtcbfmajojkcibaaDoor
open Go Go.RowKit

theorem cls_set (a : Nat) (h : a < 256) : ((List.range a).map (fun i : Nat => (i : Int)) ++ List.replicate (256 - a) 0).set a (a : Int) = (List.range (a + 1)).map (fun i : Nat => (i : Int)) ++ List.replicate (256 - (a + 1)) 0 := by
  rw [List.set_append_right _ _ (by simp), List.range_succ, List.map_append, List.append_assoc]
  congr 1
  rw [show 256 - a = (256 - (a + 1)) + 1 by omega, List.replicate_succ]
  simp
theorem least_great : leastT = { gTb 0 0 0 0 1 with count := 1, label := [-1], base := [0], dflt := [-1] } := by
  unfold leastT gTb
  congr 1
theorem g_cls (a s q r m : Nat) (h : a < 256) : { gTb a s q r m with classes := (gTb a s q r m).classes.set a (a : Int) } = gTb (a + 1) s q r m := by
  unfold gTb; simp only [cls_set a h]
theorem g_state (a s q r m : Nat) : (⟨(gTb a s q r m).modes, (gTb a s q r m).labels, (gTb a s q r m).cuts, (gTb a s q r m).acts, (gTb a s q r m).classes, (gTb a s q r m).count, (gTb a s q r m).starts, (gTb a s q r m).label ++ [(s : Int) % 201 - 1], (gTb a s q r m).base ++ [256 * (s : Int)], (gTb a s q r m).dflt ++ [(s : Int) - 1], (gTb a s q r m).next, (gTb a s q r m).check⟩ : Tb) = gTb a (s + 1) q r m := by
  unfold gTb; simp [List.range_succ, gLab, gBas, gDfl]
theorem g_slot (a s q r m : Nat) : (⟨(gTb a s q r m).modes, (gTb a s q r m).labels, (gTb a s q r m).cuts, (gTb a s q r m).acts, (gTb a s q r m).classes, (gTb a s q r m).count, (gTb a s q r m).starts, (gTb a s q r m).label, (gTb a s q r m).base, (gTb a s q r m).dflt, (gTb a s q r m).next ++ [gNxt q], (gTb a s q r m).check ++ [gChk q]⟩ : Tb) = gTb a s (q + 1) r m := by
  unfold gTb; simp [List.range_succ]
theorem g_slot2 (a s r m k : Nat) (hk : k < 256) : (⟨(gTb a (s + 1) (256 * s + k) r m).modes, (gTb a (s + 1) (256 * s + k) r m).labels, (gTb a (s + 1) (256 * s + k) r m).cuts, (gTb a (s + 1) (256 * s + k) r m).acts, (gTb a (s + 1) (256 * s + k) r m).classes, (gTb a (s + 1) (256 * s + k) r m).count, (gTb a (s + 1) (256 * s + k) r m).starts, (gTb a (s + 1) (256 * s + k) r m).label, (gTb a (s + 1) (256 * s + k) r m).base, (gTb a (s + 1) (256 * s + k) r m).dflt,
    (gTb a (s + 1) (256 * s + k) r m).next ++ [((s : Int) * 31 + (k : Int) * 7) % 601 - 1], (gTb a (s + 1) (256 * s + k) r m).check ++ [(s : Int)]⟩ : Tb) = gTb a (s + 1) (256 * s + (k + 1)) r m := by
  have e1 : gChk (256 * s + k) = (s : Int) := by unfold gChk; omega
  have e2 : gNxt (256 * s + k) = ((s : Int) * 31 + (k : Int) * 7) % 601 - 1 := by
    unfold gNxt
    rw [show (256 * s + k) / 256 = s by omega, show (256 * s + k) % 256 = k by omega]
  have := g_slot a (s + 1) (256 * s + k) r m
  rw [e1, e2] at this
  exact this
theorem g_rule (a s q r m : Nat) (T2 : Tb) (h : T2 = ⟨(gTb a s q r m).modes, (gTb a s q r m).labels ++ [gName], (gTb a s q r m).cuts ++ [((r : Int) % 3, 65536 * (((r : Int) % 3 + 1) / 2))], (gTb a s q r m).acts, (gTb a s q r m).classes, (gTb a s q r m).count, (gTb a s q r m).starts, (gTb a s q r m).label, (gTb a s q r m).base, (gTb a s q r m).dflt, (gTb a s q r m).next, (gTb a s q r m).check⟩) :
    { T2 with acts := T2.acts ++ [gActs 8] } = gTb a s q (r + 1) m := by
  subst h
  unfold gTb; simp [List.range_succ, gCut]
theorem rows_actsN (t : Tb) (v : TbV) (u : Value) (l : List (Int × Int)) (x : Value) (n : Nat) (hn : l.length = n) (h : v.rows.length = t.acts.length) : rowsOf { t with acts := t.acts ++ [l] } { v with acts := u, rows := v.rows ++ [x] } ++ [] = (rowsOf t v ++ [(⟨x, 61, 2, n, l.flatMap prC⟩ : RwE)]).set 3 ⟨u, 59, 1, t.acts.length + 1, v.rows ++ [x]⟩ := by
  subst hn; exact rows_acts t v u l x h
theorem g_mode (a s q r m : Nat) : (⟨(gTb a s q r m).modes ++ [gMode m], (gTb a s q r m).labels, (gTb a s q r m).cuts, (gTb a s q r m).acts, (gTb a s q r m).classes, (gTb a s q r m).count, (gTb a s q r m).starts ++ [gStart m], (gTb a s q r m).label, (gTb a s q r m).base, (gTb a s q r m).dflt, (gTb a s q r m).next, (gTb a s q r m).check⟩ : Tb) = gTb a s q r (m + 1) := by
  unfold gTb; simp [List.range_succ]
theorem tst_mode {w0 w : World} {B tb : Nat} {v : TbV} {ex : List RwE} (a s q r m : Nat) (hm : m ≠ 0) (h : Tst w0 B tb w (⟨(gTb a s q r m).modes ++ [gMode m], (gTb a s q r m).labels, (gTb a s q r m).cuts, (gTb a s q r m).acts, (gTb a s q r m).classes, (gTb a s q r m).count, (gTb a s q r m).starts ++ [600 - (m : Int)], (gTb a s q r m).label, (gTb a s q r m).base, (gTb a s q r m).dflt, (gTb a s q r m).next, (gTb a s q r m).check⟩ : Tb) v ex) : Tst w0 B tb w (gTb a s q r (m + 1)) v ex := by
  rw [show (600 - (m : Int)) = gStart m from by unfold gStart; rw [if_neg hm], g_mode] at h
  exact h

set_option maxRecDepth 100000 in
set_option maxHeartbeats 16000000 in
theorem imageGreat_any (w : World) (s0 : Nat → Addr) (hF : FaultsIn w s0) : Calls Tryd.prog 6 #[] w fun e w' => e = .returned (.bool true) ∧ Gr w w' := by
  have HF := Lib.hid hF
  have HW := Lib.hid (fun w' (hg : Gr w w') => wakes17_any w' s0 (hF.later hg))
  clear hF
  obtain ⟨iS, hiS, hiS0, hiS1, hiS2⟩ := info_parts info_string
  obtain ⟨iI, hiI, hiI0, hiI1, hiI2⟩ := info_parts info_int
  obtain ⟨iC, hiC, hiC0, hiC1, hiC2⟩ := info_parts info_cut
  obtain ⟨iT, hiT, hiT0, hiT1, hiT2⟩ := info_parts info_step
  obtain ⟨iA, hiA, hiA0, hiA1, hiA2⟩ := info_parts info_steps
  go_enter Tryd.func6, Tryd.ntmps6
  go_wp2_with fail
  go_at_call 24
  (with_reducible refine (least17_any w).mono ?_); rintro e w1 ⟨hg1, ⟨v0, v1, v2, v3, vr, v4, v5, v6, v7, v8, v9, v10⟩, rfl, hT1⟩
  have HI := Lib.hid (hT1.tabs least_txt)
  obtain ⟨p0, c0, rfl⟩ : ∃ p c, v0 = .slice p 1 c := HI.out.modes.len
  obtain ⟨p1, c1, rfl⟩ : ∃ p c, v1 = .slice p 0 c := HI.out.labels.len
  obtain ⟨p2, c2, rfl⟩ : ∃ p c, v2 = .slice p 0 c := HI.out.cuts.len
  obtain ⟨p3, c3, rfl⟩ : ∃ p c, v3 = .slice p 0 c := HI.out.acts.len
  obtain ⟨p5, c5, rfl⟩ : ∃ p c, v5 = .slice p 1 c := HI.out.starts.len
  obtain ⟨p6, c6, rfl⟩ : ∃ p c, v6 = .slice p 1 c := HI.out.label.len
  obtain ⟨p7, c7, rfl⟩ : ∃ p c, v7 = .slice p 1 c := HI.out.base.len
  obtain ⟨p8, c8, rfl⟩ : ∃ p c, v8 = .slice p 1 c := HI.out.dflt.len
  obtain ⟨p9, c9, rfl⟩ : ∃ p c, v9 = .slice p 0 c := HI.out.next.len
  obtain ⟨p10, c10, rfl⟩ : ∃ p c, v10 = .slice p 0 c := HI.out.check.len
  obtain ⟨g, c4, rfl, hgB, hgl, _⟩ : ∃ g cap, v4 = .slice (some ⟨g, 0, none⟩) 256 cap ∧ w.heap.size ≤ g ∧ g < w1.heap.size ∧ 256 ≤ maxLen := by
    exact owns_block (hT1.rows.own _ (List.mem_of_getElem? (show (rowsOf leastT _)[4]? = some _ from rfl))) (by decide)
  unfold tbV
  dsimp only
  rw [show leastT.count = 1 from rfl]
  go_wp2_with fail
  refine name_world (fun W0 hW0 => ?_)
  have hg0 : Gr w1 W0 := by rw [hW0]; exact Gr.alloc _ _
  have x0 : boxAt W0 w1.heap.size [.slice p0 1 c0, .slice p1 0 c1, .slice p2 0 c2, .slice p3 0 c3, .slice (some ⟨g, 0, none⟩) 256 c4, .int .i64 256, .slice p5 1 c5, .slice none 0 0, .slice none 0 0, .slice none 0 0, .slice none 0 0, .slice none 0 0] := by rw [hW0]; exact boxAt.new_at [.slice p0 1 c0, .slice p1 0 c1, .slice p2 0 c2, .slice p3 0 c3, .slice (some ⟨g, 0, none⟩) 256 c4, .int .i64 256, .slice p5 1 c5, .slice none 0 0, .slice none 0 0, .slice none 0 0, .slice none 0 0, .slice none 0 0] _ _ rfl rfl
  have hS0 : Tst w w.heap.size w1.heap.size W0 (gTb 0 0 0 0 1) ⟨.slice p0 1 c0, .slice p1 0 c1, .slice p2 0 c2, .slice p3 0 c3, vr, .slice (some ⟨g, 0, none⟩) 256 c4, .slice p5 1 c5, .slice none 0 0, .slice none 0 0, .slice none 0 0, .slice none 0 0, .slice none 0 0⟩ [] := by
    refine ⟨hg1.trans hg0, x0, ?_, hT1.len, ⟨hg1.size, x0.lt (by simp)⟩, Nat.le_refl _⟩
    have h1 := hT1.rows.keep (w' := W0) (fun k hk _ _ => Below.block hg0 k hk)
    have h2 : Rws W0 w.heap.size [w1.heap.size] (rowsOf leastT ⟨.slice p0 1 c0, .slice p1 0 c1, .slice p2 0 c2, .slice p3 0 c3, vr, .slice (some ⟨g, 0, none⟩) 256 c4, .slice p5 1 c5, .slice p6 1 c6, .slice p7 1 c7, .slice p8 1 c8, .slice p9 0 c9, .slice p10 0 c10⟩) := (hT1.rows.addX (Nat.le_refl _)).keep (fun k hk _ _ => Below.block hg0 k hk)
    have h3 := ((((h2.setNil 6 3 1).setNil 7 3 1).setNil 8 3 1).setNil 9 3 1).setNil 10 3 1
    have e : rowsOf (gTb 0 0 0 0 1) ⟨.slice p0 1 c0, .slice p1 0 c1, .slice p2 0 c2, .slice p3 0 c3, vr, .slice (some ⟨g, 0, none⟩) 256 c4, .slice p5 1 c5, .slice none 0 0, .slice none 0 0, .slice none 0 0, .slice none 0 0, .slice none 0 0⟩ ++ [] = (((((rowsOf leastT ⟨.slice p0 1 c0, .slice p1 0 c1, .slice p2 0 c2, .slice p3 0 c3, vr, .slice (some ⟨g, 0, none⟩) 256 c4, .slice p5 1 c5, .slice p6 1 c6, .slice p7 1 c7, .slice p8 1 c8, .slice p9 0 c9, .slice p10 0 c10⟩).set 6 ⟨.slice none 0 0, 3, 1, 0, []⟩).set 7 ⟨.slice none 0 0, 3, 1, 0, []⟩).set 8 ⟨.slice none 0 0, 3, 1, 0, []⟩).set 9 ⟨.slice none 0 0, 3, 1, 0, []⟩).set 10 ⟨.slice none 0 0, 3, 1, 0, []⟩ := by
      rw [least_great]; simp [rowsOf, gTb]
    rw [e]; exact h3
  generalize w1.heap.size = tb at *
  clear hW0 x0 hg0 hT1 HI hg1
  go_loopw [2] (fun i wr => ∃ a : Nat, i = .int .i64 (a : Int) ∧ a ≤ 256 ∧ Tst w w.heap.size tb wr (gTb a 0 0 0 1) ⟨.slice p0 1 c0, .slice p1 0 c1, .slice p2 0 c2, .slice p3 0 c3, vr, .slice (some ⟨g, 0, none⟩) 256 c4, .slice p5 1 c5, .slice none 0 0, .slice none 0 0, .slice none 0 0, .slice none 0 0, .slice none 0 0⟩ []) (fun i _ => 256 - (intOf i).toNat)
  case atStart => exact ⟨0, rfl, by omega, hS0⟩
  case round =>
    obtain ⟨a, rfl, ha, hT⟩ := hrel
    by_cases hal : a < 256
    · have haI : (a : Int) < 256 := by omega
      have hcl : (gTb a 0 0 0 1).classes.length = 256 := by simp [gTb]; omega
      have hT2 := Lib.hid (hT.cls rfl hcl a hal (a : Int))
      have xb := hT.box
      unfold tbC at xb
      dsimp only at xb
      have z4 := xb.cell 4 _ rfl
      have y4 := xb.mark 4 _ rfl
      have lb := xb.lt (Nat.succ_pos _)
      clear xb
      have hrow := hT.row_own (i := 4) rfl
      have hown : wr.ownsRow w.heap.size 3 1 (.slice (some ⟨g, 0, none⟩) 256 c4) 256 ((gTb a 0 0 0 1).classes.map vI) := by
        have e : (⟨.slice (some ⟨g, 0, none⟩) 256 c4, 3, 1, (gTb a 0 0 0 1).classes.length, (gTb a 0 0 0 1).classes.map vI⟩ : RwE).n = 256 := hcl
        rw [e] at hrow
        exact hrow
      obtain ⟨u, hu⟩ : ∃ u, ((gTb a 0 0 0 1).classes.map vI)[a]? = some u := ⟨_, List.getElem?_eq_getElem (by rw [List.length_map, hcl]; exact hal)⟩
      have hcell := owns_cell hown a u hu
      have hmark := owns_mark hown a
      have hgl2 := (World.ownsRow.lt hown g rfl).2
      clear hT hrow hown hu hcl
      go_wp2_with fail
      go_roundw
      case rel => exact ⟨a + 1, by go_num, by omega, by have := hT2.out; rw [g_cls a 0 0 0 1 hal] at this; exact this⟩
      case measure => simp [intOf]; omega
    · have ha2 : a = 256 := by omega
      have hT1 : ∃ v, Tst w w.heap.size tb wr (gTb 256 0 (256 * 0) 0 1) v [] := ⟨_, by rw [ha2] at hT; exact hT⟩
      have haI : ¬ (a : Int) < 256 := by omega
      clear hT hS0 hgl hgB ha2
      clear W0
      go_wp2_with fail
      go_loopw [3, 4] (fun i _ wr => ∃ (s : Nat) (v : TbV), i = .int .i64 (s : Int) ∧ s ≤ 600 ∧ Tst w w.heap.size tb wr (gTb 256 s (256 * s) 0 1) v []) (fun i _ _ => 600 - (intOf i).toNat)
      case atStart =>
        obtain ⟨v, hv⟩ := hT1
        exact ⟨0, v, rfl, by omega, hv⟩
      case round =>
        obtain ⟨s, ⟨vm, vl, vc, va, vrows, vcl, vst, vlb, vba, vdf, vne, vch⟩, rfl, hs, hT⟩ := hrel
        by_cases hsl : s < 600
        · have hsI : (s : Int) < 600 := by omega
          obtain ⟨pa, ca, rfl⟩ : ∃ p c, vlb = .slice p (s) c := by
            obtain ⟨p, c, hv⟩ := (Sl.of_owns (hT.row_own (i := 6) rfl)).len
            exact ⟨p, c, by have h2 : vlb = _ := hv; rw [h2]; simp [gTb]⟩
          obtain ⟨pb, cb, rfl⟩ : ∃ p c, vba = .slice p (s) c := by
            obtain ⟨p, c, hv⟩ := (Sl.of_owns (hT.row_own (i := 7) rfl)).len
            exact ⟨p, c, by have h2 : vba = _ := hv; rw [h2]; simp [gTb]⟩
          obtain ⟨pd, cd, rfl⟩ : ∃ p c, vdf = .slice p (s) c := by
            obtain ⟨p, c, hv⟩ := (Sl.of_owns (hT.row_own (i := 8) rfl)).len
            exact ⟨p, c, by have h2 : vdf = _ := hv; rw [h2]; simp [gTb]⟩
          have xb := hT.box
          unfold tbC at xb
          dsimp only at xb
          have z7 := xb.cell 7 _ rfl
          have z8 := xb.cell 8 _ rfl
          have z9 := xb.cell 9 _ rfl
          have y7 := xb.mark 7 _ rfl
          have lb := xb.lt (Nat.succ_pos _)
          clear xb
          have HT := Lib.hid hT
          clear hT hT1
          go_wp2_with (at_builtin; refine wpList_append_own_at _ rfl (.tmp 34) (.tmp 38) 23 rfl w.heap.size 3 iI (.int .i64 0) 1 8 Tryd.underlying23 hiI hiI0 hiI1 hiI2 rfl (by decide) _ _ _ rfl ((HT.out.later (Gr.alloc _ _)).row_own (i := 6) rfl) ⟨wr.heap.size, 0, none⟩ 1 1 [.int .i64 ((s : Int) % 201 - 1)] rfl rfl ?c1a ?c2a ?c3a ?c4a ?c5a ?_)
          try (case c1a => exact new_cells _ [.int .i64 ((s : Int) % 201 - 1)] _)
          case c2a => first | rfl | (simp [Value.oneCell']; done) | (intro u hu; simp at hu; (first | (subst hu; rfl) | (rcases hu with rfl | rfl <;> rfl)))
          case c3a => (try simp [gTb]); unfold maxLen; omega
          case c4a => (try simp [gTb]); omega
          case c5a => first | exact (HT.out.later (Gr.alloc _ _)).bsz | (have h := HT.out.bsz; simp [World.setCell] at h ⊢; omega)
          intro v' w4a ho hg _ hat
          replace ho : w4a.ownsRow w.heap.size 3 1 v' ((gTb 256 s (256 * s) 0 1).label.length + 1) (List.map vI (gTb 256 s (256 * s) 0 1).label ++ [.int .i64 ((s : Int) % 201 - 1)]) := by simpa [vI] using ho
          have hSa := HT.out.later (Gr.alloc _ (.cells #[.int .i64 ((s : Int) % 201 - 1)] 3))
          have xb4 := hSa.box.grown hg (by simp [tbC]) (fun e => hSa.row_ne (i := 6) rfl e)
          have hTa := hSa.grow (i := 6) rfl hg ho (hat.imp id (fun h => h.trans (by simp [World.setCell]))) 7 (by omega) (rows_label _ _ [] v' ((s : Int) % 201 - 1)) rfl hSa.len
          rw [show (gTb 256 s (256 * s) 0 1).label.length = s from by simp [gTb]] at ho
          obtain ⟨p4a, c4a, rfl⟩ := (Sl.of_owns ho).len
          clear ho hg hat hSa
          unfold tbC at xb4
          dsimp only at xb4
          have z4a := xb4.cell 7 _ rfl
          have y4a := xb4.mark 7 _ rfl
          have l4a := xb4.lt (Nat.succ_pos _)
          have n8a := xb4.cell 8 _ rfl
          have n9a := xb4.cell 9 _ rfl
          clear xb4
          have HTa := Lib.hid hTa
          clear z7 z8 z9 y7 lb
          go_wp2_with (at_builtin; refine wpList_append_own_at _ rfl (.tmp 43) (.tmp 46) 23 rfl w.heap.size 3 iI (.int .i64 0) 1 8 Tryd.underlying23 hiI hiI0 hiI1 hiI2 rfl (by decide) _ _ _ rfl ((HTa.out.later (Gr.alloc _ _)).row_own (i := 7) rfl) ⟨w4a.heap.size, 0, none⟩ 1 1 [.int .i64 (256 * (s : Int))] rfl rfl ?c1b ?c2b ?c3b ?c4b ?c5b ?_)
          try (case c1b => have hnc := new_cells (w4a.setCell ⟨tb, 7, none⟩ (.slice p4a (s + 1) c4a)) [.int .i64 (256 * (s : Int))] 3; rw [show (w4a.setCell ⟨tb, 7, none⟩ (.slice p4a (s + 1) c4a)).heap.size = w4a.heap.size by simp [World.setCell]] at hnc; exact hnc)
          case c2b => first | rfl | (simp [Value.oneCell']; done) | (intro u hu; simp at hu; (first | (subst hu; rfl) | (rcases hu with rfl | rfl <;> rfl)))
          case c3b => (try simp [gTb]); unfold maxLen; omega
          case c4b => (try simp [gTb]); omega
          case c5b => first | exact (HTa.out.later (Gr.alloc _ _)).bsz | (have h := HTa.out.bsz; simp [World.setCell] at h ⊢; omega)
          intro v' w4b ho hg _ hat
          replace ho : w4b.ownsRow w.heap.size 3 1 v' ((gTb 256 s (256 * s) 0 1).base.length + 1) (List.map vI (gTb 256 s (256 * s) 0 1).base ++ [.int .i64 (256 * (s : Int))]) := by simpa [vI] using ho
          have hSa := HTa.out.later (Gr.alloc _ (.cells #[.int .i64 (256 * (s : Int))] 3))
          have xb4 := hSa.box.grown hg (by simp [tbC]) (fun e => hSa.row_ne (i := 7) rfl e)
          have hTb := hSa.grow (i := 7) rfl hg ho (hat.imp id (fun h => h.trans (by simp [World.setCell]))) 8 (by omega) (rows_base _ _ [] v' (256 * (s : Int))) rfl hSa.len
          rw [show (gTb 256 s (256 * s) 0 1).base.length = s from by simp [gTb]] at ho
          obtain ⟨p4b, c4b, rfl⟩ := (Sl.of_owns ho).len
          clear ho hg hat hSa
          unfold tbC at xb4
          dsimp only at xb4
          have z4b := xb4.cell 8 _ rfl
          have y4b := xb4.mark 8 _ rfl
          have l4b := xb4.lt (Nat.succ_pos _)
          have n9b := xb4.cell 9 _ rfl
          clear xb4
          have HTb := Lib.hid hTb
          clear z4a y4a l4a n8a n9a hTa hTb
          go_wp2_with (at_builtin; refine wpList_append_own_at _ rfl (.tmp 52) (.tmp 55) 23 rfl w.heap.size 3 iI (.int .i64 0) 1 8 Tryd.underlying23 hiI hiI0 hiI1 hiI2 rfl (by decide) _ _ _ rfl ((HTb.out.later (Gr.alloc _ _)).row_own (i := 8) rfl) ⟨w4b.heap.size, 0, none⟩ 1 1 [.int .i64 ((s : Int) - 1)] rfl rfl ?c1c ?c2c ?c3c ?c4c ?c5c ?_)
          try (case c1c => have hnc := new_cells (w4b.setCell ⟨tb, 8, none⟩ (.slice p4b (s + 1) c4b)) [.int .i64 ((s : Int) - 1)] 3; rw [show (w4b.setCell ⟨tb, 8, none⟩ (.slice p4b (s + 1) c4b)).heap.size = w4b.heap.size by simp [World.setCell]] at hnc; exact hnc)
          case c2c => first | rfl | (simp [Value.oneCell']; done) | (intro u hu; simp at hu; (first | (subst hu; rfl) | (rcases hu with rfl | rfl <;> rfl)))
          case c3c => (try simp [gTb]); unfold maxLen; omega
          case c4c => (try simp [gTb]); omega
          case c5c => first | exact (HTb.out.later (Gr.alloc _ _)).bsz | (have h := HTb.out.bsz; simp [World.setCell] at h ⊢; omega)
          intro v' w4c ho hg _ hat
          replace ho : w4c.ownsRow w.heap.size 3 1 v' ((gTb 256 s (256 * s) 0 1).dflt.length + 1) (List.map vI (gTb 256 s (256 * s) 0 1).dflt ++ [.int .i64 ((s : Int) - 1)]) := by simpa [vI] using ho
          have hSa := HTb.out.later (Gr.alloc _ (.cells #[.int .i64 ((s : Int) - 1)] 3))
          have xb4 := hSa.box.grown hg (by simp [tbC]) (fun e => hSa.row_ne (i := 8) rfl e)
          have hTc := hSa.grow (i := 8) rfl hg ho (hat.imp id (fun h => h.trans (by simp [World.setCell]))) 9 (by omega) (rows_dflt _ _ [] v' ((s : Int) - 1)) rfl hSa.len
          rw [show (gTb 256 s (256 * s) 0 1).dflt.length = s from by simp [gTb]] at ho
          obtain ⟨p4c, c4c, rfl⟩ := (Sl.of_owns ho).len
          clear ho hg hat hSa
          unfold tbC at xb4
          dsimp only at xb4
          have z4c := xb4.cell 9 _ rfl
          have y4c := xb4.mark 9 _ rfl
          have l4c := xb4.lt (Nat.succ_pos _)
          clear xb4
          have HTc := Lib.hid hTc
          clear z4b y4b l4b n9b HTb hTc
          go_wp2_with fail
          refine name_world (fun Wn hWn => ?_)
          have hTn := HTc.out
          rw [← hWn, g_state] at hTn
          clear hWn HT HTa HTc z4c y4c l4c
          go_loopw [4] (fun i wr => ∃ (k : Nat) (v : TbV), i = .int .i64 (k : Int) ∧ k ≤ 256 ∧ Tst w w.heap.size tb wr (gTb 256 (s + 1) (256 * s + k) 0 1) v []) (fun i _ => 256 - (intOf i).toNat)
          case atStart => exact ⟨0, _, rfl, by omega, hTn⟩
          case round =>
            obtain ⟨k, ⟨vm, vl, vc, va, vrows, vcl, vst, vlb, vba, vdf, vne, vch⟩, rfl, hk, hT⟩ := hrel
            clear hTn
            by_cases hkl : k < 256
            · have hkI : (k : Int) < 256 := by omega
              obtain ⟨px, cx, rfl⟩ : ∃ p c, vch = .slice p (256 * s + k) c := by
                obtain ⟨p, c, hv⟩ := (Sl.of_owns (hT.row_own (i := 10) rfl)).len
                exact ⟨p, c, by have h2 : vch = _ := hv; rw [h2]; simp [gTb]⟩
              obtain ⟨py, cy, rfl⟩ : ∃ p c, vne = .slice p (256 * s + k) c := by
                obtain ⟨p, c, hv⟩ := (Sl.of_owns (hT.row_own (i := 9) rfl)).len
                exact ⟨p, c, by have h2 : vne = _ := hv; rw [h2]; simp [gTb]⟩
              have xb := hT.box
              unfold tbC at xb
              dsimp only at xb
              have z11 := xb.cell 11 _ rfl
              have z10 := xb.cell 10 _ rfl
              have y11 := xb.mark 11 _ rfl
              have lb := xb.lt (Nat.succ_pos _)
              clear xb
              have HT := Lib.hid hT
              clear hT
              go_wp2_with (at_builtin; refine wpList_append_own_at _ rfl (.tmp 65) (.tmp 67) 23 rfl w.heap.size 3 iI (.int .i64 0) 1 8 Tryd.underlying23 hiI hiI0 hiI1 hiI2 rfl (by decide) _ _ _ rfl ((HT.out.later (Gr.alloc _ _)).row_own (i := 10) rfl) ⟨wr.heap.size, 0, none⟩ 1 1 [.int .i64 (s : Int)] rfl rfl ?c1d ?c2d ?c3d ?c4d ?c5d ?_)
              try (case c1d => exact new_cells _ [.int .i64 (s : Int)] _)
              case c2d => first | rfl | (simp [Value.oneCell']; done) | (intro u hu; simp at hu; (first | (subst hu; rfl) | (rcases hu with rfl | rfl <;> rfl)))
              case c3d => (try simp [gTb]); unfold maxLen; omega
              case c4d => (try simp [gTb]); omega
              case c5d => first | exact (HT.out.later (Gr.alloc _ _)).bsz | (have h := HT.out.bsz; simp [World.setCell] at h ⊢; omega)
              intro v' w4d ho hg _ hat
              replace ho : w4d.ownsRow w.heap.size 3 1 v' ((gTb 256 (s + 1) (256 * s + k) 0 1).check.length + 1) (List.map vI (gTb 256 (s + 1) (256 * s + k) 0 1).check ++ [.int .i64 (s : Int)]) := by simpa [vI] using ho
              have hSa := HT.out.later (Gr.alloc _ (.cells #[.int .i64 (s : Int)] 3))
              have xb4 := hSa.box.grown hg (by simp [tbC]) (fun e => hSa.row_ne (i := 10) rfl e)
              have hTd := hSa.grow (i := 10) rfl hg ho (hat.imp id (fun h => h.trans (by simp [World.setCell]))) 11 (by omega) (rows_check _ _ [] v' (s : Int)) rfl hSa.len
              rw [show (gTb 256 (s + 1) (256 * s + k) 0 1).check.length = 256 * s + k from by simp [gTb]] at ho
              obtain ⟨p4d, c4d, rfl⟩ := (Sl.of_owns ho).len
              clear ho hg hat hSa
              unfold tbC at xb4
              dsimp only at xb4
              have z4d := xb4.cell 11 _ rfl
              have y4d := xb4.mark 11 _ rfl
              have l4d := xb4.lt (Nat.succ_pos _)
              have n10d := xb4.cell 10 _ rfl
              clear xb4
              have HTd := Lib.hid hTd
              clear z10 z11 y11 lb
              go_wp2_with (at_builtin; refine wpList_append_own_at _ rfl (.tmp 73) (.tmp 81) 23 rfl w.heap.size 3 iI (.int .i64 0) 1 8 Tryd.underlying23 hiI hiI0 hiI1 hiI2 rfl (by decide) _ _ _ rfl ((HTd.out.later (Gr.alloc _ _)).row_own (i := 9) rfl) ⟨w4d.heap.size, 0, none⟩ 1 1 [.int .i64 (((s : Int) * 31 + (k : Int) * 7) % 601 - 1)] rfl rfl ?c1e ?c2e ?c3e ?c4e ?c5e ?_)
              try (case c1e => have hnc := new_cells (w4d.setCell ⟨tb, 11, none⟩ (.slice p4d (256 * s + k + 1) c4d)) [.int .i64 (((s : Int) * 31 + (k : Int) * 7) % 601 - 1)] 3; rw [show (w4d.setCell ⟨tb, 11, none⟩ (.slice p4d (256 * s + k + 1) c4d)).heap.size = w4d.heap.size by simp [World.setCell]] at hnc; exact hnc)
              case c2e => first | rfl | (simp [Value.oneCell']; done) | (intro u hu; simp at hu; (first | (subst hu; rfl) | (rcases hu with rfl | rfl <;> rfl)))
              case c3e => (try simp [gTb]); unfold maxLen; omega
              case c4e => (try simp [gTb]); omega
              case c5e => first | exact (HTd.out.later (Gr.alloc _ _)).bsz | (have h := HTd.out.bsz; simp [World.setCell] at h ⊢; omega)
              intro v' w4e ho hg _ hat
              replace ho : w4e.ownsRow w.heap.size 3 1 v' ((gTb 256 (s + 1) (256 * s + k) 0 1).next.length + 1) (List.map vI (gTb 256 (s + 1) (256 * s + k) 0 1).next ++ [.int .i64 (((s : Int) * 31 + (k : Int) * 7) % 601 - 1)]) := by simpa [vI] using ho
              have hSa := HTd.out.later (Gr.alloc _ (.cells #[.int .i64 (((s : Int) * 31 + (k : Int) * 7) % 601 - 1)] 3))
              have xb4 := hSa.box.grown hg (by simp [tbC]) (fun e => hSa.row_ne (i := 9) rfl e)
              have hTe := hSa.grow (i := 9) rfl hg ho (hat.imp id (fun h => h.trans (by simp [World.setCell]))) 10 (by omega) (rows_next _ _ [] v' (((s : Int) * 31 + (k : Int) * 7) % 601 - 1)) rfl hSa.len
              rw [show (gTb 256 (s + 1) (256 * s + k) 0 1).next.length = 256 * s + k from by simp [gTb]] at ho
              obtain ⟨p4e, c4e, rfl⟩ := (Sl.of_owns ho).len
              clear ho hg hat hSa
              unfold tbC at xb4
              dsimp only at xb4
              have z4e := xb4.cell 10 _ rfl
              have y4e := xb4.mark 10 _ rfl
              have l4e := xb4.lt (Nat.succ_pos _)
              clear xb4
              have HTe := Lib.hid hTe
              clear z4d y4d l4d n10d hTd hTe
              go_wp2_with fail
              go_roundw
              case rel => exact ⟨k + 1, _, by go_num, by omega, by have := HTe.out; rw [g_slot2 256 s 0 1 k hkl] at this; exact this⟩
              case measure => simp [intOf]; omega
            · have hk2 : k = 256 := by omega
              have hTk : ∃ v, Tst w w.heap.size tb wr (gTb 256 (s + 1) (256 * (s + 1)) 0 1) v [] := ⟨_, by rw [hk2] at hT; rw [show 256 * (s + 1) = 256 * s + 256 by omega]; exact hT⟩
              have hkI : ¬ (k : Int) < 256 := by omega
              clear hT hk2
              go_wp2_with fail
              go_roundw
              case rel =>
                obtain ⟨v, hv⟩ := hTk
                first | exact ⟨s + 1, v, by go_num, by omega, hv⟩ | exact ⟨s + 1, by omega, by omega, v, hv⟩ | ((repeat apply Exists.intro); exact ⟨⟨s + 1, v, by go_num, by omega, hv⟩, rfl⟩)
              case measure => simp [intOf]; omega
        · have hs2 : s = 600 := by omega
          have hT3 : ∃ v, Tst w w.heap.size tb wr (gTb 256 600 153600 0 1) v [] := ⟨_, by rw [hs2] at hT; exact hT⟩
          have hsI : ¬ (s : Int) < 600 := by omega
          clear hT hT1 hs2
          go_wp2_with fail
          go_loopw [5, 6, 7] (fun i _ _ wr => ∃ (r : Nat) (v : TbV), i = .int .i64 (r : Int) ∧ r ≤ 200 ∧ Tst w w.heap.size tb wr (gTb 256 600 153600 r 1) v []) (fun i _ _ _ => 200 - (intOf i).toNat)
          case atStart =>
            obtain ⟨v, hv⟩ := hT3
            exact ⟨0, v, rfl, by omega, hv⟩
          case round =>
            obtain ⟨r, ⟨vm, vl, vc, va, vrows, vcl, vst, vlb, vba, vdf, vne, vch⟩, rfl, hr, hT⟩ := hrel
            by_cases hrl : r < 200
            · have hrI : (r : Int) < 200 := by omega
              obtain ⟨pl, cl, rfl⟩ : ∃ p c, vl = .slice p (r) c := by
                obtain ⟨p, c, hv⟩ := (Sl.of_owns (hT.row_own (i := 1) rfl)).len
                exact ⟨p, c, by have h2 : vl = _ := hv; rw [h2]; simp [gTb]⟩
              obtain ⟨pu, cu, rfl⟩ : ∃ p c, vc = .slice p (r) c := by
                obtain ⟨p, c, hv⟩ := (Sl.of_owns (hT.row_own (i := 2) rfl)).len
                exact ⟨p, c, by have h2 : vc = _ := hv; rw [h2]; simp [gTb]⟩
              have xb := hT.box
              unfold tbC at xb
              dsimp only at xb
              have z1 := xb.cell 1 _ rfl
              have z2 := xb.cell 2 _ rfl
              have z3 := xb.cell 3 _ rfl
              have y1 := xb.mark 1 _ rfl
              have lb := xb.lt (Nat.succ_pos _)
              clear xb
              have HT := Lib.hid hT
              clear hT
              go_wp2_with (at_builtin; refine wpList_append_own_at _ rfl (.tmp 90) (.tmp 91) 26 rfl w.heap.size 9 iS (.string { data := #[] }) 1 16 Tryd.underlying26 hiS hiS0 hiS1 hiS2 rfl (by decide) _ _ _ rfl ((HT.out.later (Gr.alloc _ _)).row_own (i := 1) rfl) ⟨wr.heap.size, 0, none⟩ 1 1 [.string { data := #[97, 98, 99, 100, 101, 102, 103, 104, 105, 106, 107, 108, 109, 110, 111, 112, 113, 114, 115, 116, 117, 118, 119, 120, 121, 122, 97, 98, 99, 100, 101, 102] }] rfl rfl ?c1f ?c2f ?c3f ?c4f ?c5f ?_)
              try (case c1f => exact new_cells _ [.string { data := #[97, 98, 99, 100, 101, 102, 103, 104, 105, 106, 107, 108, 109, 110, 111, 112, 113, 114, 115, 116, 117, 118, 119, 120, 121, 122, 97, 98, 99, 100, 101, 102] }] _)
              case c2f => first | rfl | (simp [Value.oneCell']; done) | (intro u hu; simp at hu; (first | (subst hu; rfl) | (rcases hu with rfl | rfl <;> rfl)))
              case c3f => (try simp [gTb]); unfold maxLen; omega
              case c4f => (try simp [gTb]); omega
              case c5f => first | exact (HT.out.later (Gr.alloc _ _)).bsz | (have h := HT.out.bsz; simp [World.setCell] at h ⊢; omega)
              intro v' w4f ho hg _ hat
              replace ho : w4f.ownsRow w.heap.size 9 1 v' ((gTb 256 600 153600 r 1).labels.length + 1) (List.map vS (gTb 256 600 153600 r 1).labels ++ [vS gName]) := by have e : vS gName = .string { data := #[97, 98, 99, 100, 101, 102, 103, 104, 105, 106, 107, 108, 109, 110, 111, 112, 113, 114, 115, 116, 117, 118, 119, 120, 121, 122, 97, 98, 99, 100, 101, 102] } := rfl; rw [e]; simpa using ho
              have hSa := HT.out.later (Gr.alloc _ (.cells #[.string { data := #[97, 98, 99, 100, 101, 102, 103, 104, 105, 106, 107, 108, 109, 110, 111, 112, 113, 114, 115, 116, 117, 118, 119, 120, 121, 122, 97, 98, 99, 100, 101, 102] }] 9))
              have xb4 := hSa.box.grown hg (by simp [tbC]) (fun e => hSa.row_ne (i := 1) rfl e)
              have hTf := hSa.grow (i := 1) rfl hg ho (hat.imp id (fun h => h.trans (by simp [World.setCell]))) 1 (by omega) (rows_labels _ _ [] v' gName) rfl hSa.len
              rw [show (gTb 256 600 153600 r 1).labels.length = r from by simp [gTb]] at ho
              obtain ⟨p4f, c4f, rfl⟩ := (Sl.of_owns ho).len
              clear ho hg hat hSa
              unfold tbC at xb4
              dsimp only at xb4
              have z4f := xb4.cell 1 _ rfl
              have y4f := xb4.mark 1 _ rfl
              have l4f := xb4.lt (Nat.succ_pos _)
              have n2f := xb4.cell 2 _ rfl
              have n3f := xb4.cell 3 _ rfl
              clear xb4
              have HTf := Lib.hid hTf
              clear z1 z2 z3 y1 lb
              go_wp2_with (at_builtin; refine wpList_append_own_at _ rfl (.tmp 95) (.tmp 104) 27 rfl w.heap.size 58 iC (.agg #[.int .i64 0, .int .i64 0]) 2 16 Tryd.underlying27 hiC hiC0 hiC1 hiC2 rfl (by decide) _ _ _ rfl ((HTf.out.later (Gr.alloc _ _)).row_own (i := 2) rfl) ⟨w4f.heap.size, 0, none⟩ 1 1 [.int .i64 ((r : Int) % 3), .int .i64 (65536 * (((r : Int) % 3 + 1) / 2))] rfl rfl ?c1g ?c2g ?c3g ?c4g ?c5g ?_)
              try (case c1g => have hnc := new_cells (w4f.setCell ⟨tb, 1, none⟩ (.slice p4f (r + 1) c4f)) [.int .i64 ((r : Int) % 3), .int .i64 (65536 * (((r : Int) % 3 + 1) / 2))] 58; rw [show (w4f.setCell ⟨tb, 1, none⟩ (.slice p4f (r + 1) c4f)).heap.size = w4f.heap.size by simp [World.setCell]] at hnc; exact hnc)
              case c2g => first | rfl | (simp [Value.oneCell']; done) | (intro u hu; simp at hu; (first | (subst hu; rfl) | (rcases hu with rfl | rfl <;> rfl)))
              case c3g => (try simp [gTb]); unfold maxLen; omega
              case c4g => (try simp [gTb]); omega
              case c5g => first | exact (HTf.out.later (Gr.alloc _ _)).bsz | (have h := HTf.out.bsz; simp [World.setCell] at h ⊢; omega)
              intro v' w4g ho hg _ hat
              replace ho : w4g.ownsRow w.heap.size 58 2 v' ((gTb 256 600 153600 r 1).cuts.length + 1) (List.flatMap prC (gTb 256 600 153600 r 1).cuts ++ [.int .i64 ((r : Int) % 3), .int .i64 (65536 * (((r : Int) % 3 + 1) / 2))]) := by simpa [vI] using ho
              have hSa := HTf.out.later (Gr.alloc _ (.cells #[.int .i64 ((r : Int) % 3), .int .i64 (65536 * (((r : Int) % 3 + 1) / 2))] 58))
              have xb4 := hSa.box.grown hg (by simp [tbC]) (fun e => hSa.row_ne (i := 2) rfl e)
              have hTg := hSa.grow (i := 2) rfl hg ho (hat.imp id (fun h => h.trans (by simp [World.setCell]))) 2 (by omega) (rows_cuts _ _ [] v' ((r : Int) % 3, 65536 * (((r : Int) % 3 + 1) / 2))) rfl hSa.len
              rw [show (gTb 256 600 153600 r 1).cuts.length = r from by simp [gTb]] at ho
              obtain ⟨p4g, c4g, rfl⟩ := (Sl.of_owns ho).len
              clear ho hg hat hSa
              unfold tbC at xb4
              dsimp only at xb4
              have z4g := xb4.cell 2 _ rfl
              have y4g := xb4.mark 2 _ rfl
              have l4g := xb4.lt (Nat.succ_pos _)
              have n3g := xb4.cell 3 _ rfl
              clear xb4
              have HTg := Lib.hid hTg
              clear z4f y4f l4f n2f n3f hTf hTg HT HTf
              go_wp2_with fail
              refine name_world (fun Wn hWn => ?_)
              have hTn := HTg.out
              rw [← hWn] at hTn
              clear hWn HTg z4g y4g l4g n3g
              obtain ⟨T2, hT2, hTE⟩ : ∃ T2, Tst w w.heap.size tb Wn T2 ⟨vm, .slice p4f (r + 1) c4f, .slice p4g (r + 1) c4g, va, vrows, vcl, vst, vlb, vba, vdf, vne, vch⟩ [] ∧ T2 = (⟨(gTb 256 600 153600 r 1).modes, (gTb 256 600 153600 r 1).labels ++ [gName], (gTb 256 600 153600 r 1).cuts ++ [((r : Int) % 3, 65536 * (((r : Int) % 3 + 1) / 2))], (gTb 256 600 153600 r 1).acts, (gTb 256 600 153600 r 1).classes, (gTb 256 600 153600 r 1).count, (gTb 256 600 153600 r 1).starts, (gTb 256 600 153600 r 1).label, (gTb 256 600 153600 r 1).base, (gTb 256 600 153600 r 1).dflt, (gTb 256 600 153600 r 1).next, (gTb 256 600 153600 r 1).check⟩ : Tb) := ⟨_, hTn, rfl⟩
              have HTE := Lib.hid hTE
              have hacl : T2.acts.length = r := by rw [hTE]; simp [gTb]
              clear hTn hTE
              go_loopw [6, 7] (fun lv i wr => ∃ (k : Nat) (p : Option Addr) (c : Nat), i = .int .i64 (k : Int) ∧ k ≤ 8 ∧ lv = .slice p k c ∧ Tst w w.heap.size tb wr T2 ⟨vm, .slice p4f (r + 1) c4f, .slice p4g (r + 1) c4g, va, vrows, vcl, vst, vlb, vba, vdf, vne, vch⟩ [⟨.slice p k c, 61, 2, k, (gActs k).flatMap prC⟩]) (fun _ i _ => 8 - (intOf i).toNat)
              case atStart => exact ⟨0, none, 0, rfl, by omega, rfl, hT2.push _ 2⟩
              case round =>
                obtain ⟨k, p, c, rfl, hk, rfl, hT⟩ := hrel
                clear hT2
                by_cases hkl : k < 8
                · have hkI : (k : Int) < 8 := by omega
                  have HT := Lib.hid hT
                  clear hT
                  go_wp2_with (at_builtin; refine wpList_append_own_at _ rfl (.tmp 111) (.tmp 115) 59 rfl w.heap.size 61 iT (.agg #[.int .i64 0, .int .i64 0]) 2 16 Tryd.underlying59 hiT hiT0 hiT1 hiT2 rfl (by decide) _ _ _ rfl ((HT.out.later (Gr.alloc _ _)).row_own (i := (rowsOf T2 ⟨vm, .slice p4f (r + 1) c4f, .slice p4g (r + 1) c4g, va, vrows, vcl, vst, vlb, vba, vdf, vne, vch⟩).length) (r := ⟨.slice p k c, 61, 2, k, (gActs k).flatMap prC⟩) (by simp)) ⟨wr.heap.size, 0, none⟩ 1 1 [.int .i64 2, .int .i64 ((k : Int) % 2)] rfl rfl ?q1 ?q2 ?q3 ?q4 ?q5 ?_)
                  try (case q1 => exact new_cells _ [.int .i64 2, .int .i64 ((k : Int) % 2)] _)
                  case q2 => first | rfl | (intro u hu; simp at hu; rcases hu with rfl | rfl <;> rfl)
                  case q3 => unfold maxLen; omega
                  case q4 => omega
                  case q5 => exact (HT.out.later (Gr.alloc _ _)).bsz
                  intro v' w5 ho hg _ hat
                  replace ho : w5.ownsRow w.heap.size 61 2 v' (k + 1) ((gActs (k + 1)).flatMap prC) := by
                    rw [show gActs (k + 1) = gActs k ++ [(2, (k : Int) % 2)] by unfold gActs; rw [List.range_succ, List.map_append]; rfl, List.flatMap_append]
                    exact ho
                  have hSa := HT.out.later (Gr.alloc _ (.cells #[.int .i64 2, .int .i64 ((k : Int) % 2)] 61))
                  obtain ⟨p5, c5, rfl⟩ := (Sl.of_owns ho).len
                  have hSc := Lib.hid (hSa.growEx (i := (rowsOf T2 ⟨vm, .slice p4f (r + 1) c4f, .slice p4g (r + 1) c4g, va, vrows, vcl, vst, vlb, vba, vdf, vne, vch⟩).length) (r := ⟨.slice p k c, 61, 2, k, (gActs k).flatMap prC⟩) (by simp) hg ho (hat.imp id (fun h => h.trans (by simp))) (ex2 := [⟨.slice p5 (k + 1) c5, 61, 2, k + 1, (gActs (k + 1)).flatMap prC⟩]) (by simp [List.set_append_right]))
                  clear ho hg hat hSa
                  go_wp2_with fail
                  go_roundw
                  case rel => exact ⟨k + 1, p5, c5, by go_num, by omega, rfl, hSc.out⟩
                  case measure => simp [intOf]; omega
                · have hk2 : k = 8 := by omega
                  have HK8 := Lib.hid hk2
                  have hkI : ¬ (k : Int) < 8 := by omega
                  clear hk2
                  obtain ⟨pa, ca, rfl⟩ : ∃ p c, va = .slice p r c := by
                    obtain ⟨p, c, hv⟩ := (Sl.of_owns (hT.row_own (i := 3) rfl)).len
                    exact ⟨p, c, by have h2 : va = _ := hv; rw [h2]; exact congrArg (fun n => Value.slice p n c) hacl⟩
                  have xb := hT.box
                  unfold tbC at xb
                  dsimp only at xb
                  have z3 := xb.cell 3 _ rfl
                  have y3 := xb.mark 3 _ rfl
                  have lb := xb.lt (Nat.succ_pos _)
                  clear xb
                  have HT := Lib.hid hT
                  have hlen := hT.len
                  clear hT
                  go_wp2_with (at_builtin; refine wpList_append_own_at _ rfl (.tmp 118) (.tmp 120) 28 rfl w.heap.size 59 iA (.slice none 0 0) 1 24 Tryd.underlying28 hiA hiA0 hiA1 hiA2 rfl (by decide) _ _ _ rfl ((HT.out.later (Gr.alloc _ _)).row_own (i := 3) rfl) ⟨wr.heap.size, 0, none⟩ 1 1 [.slice p k c] rfl rfl ?c1h ?c2h ?c3h ?c4h ?c5h ?_)
                  try (case c1h => exact new_cells _ [.slice p k c] _)
                  case c2h => first | rfl | (simp [Value.oneCell']; done) | (intro u hu; simp at hu; (first | (subst hu; rfl) | (rcases hu with rfl | rfl <;> rfl)))
                  case c3h => (try simp [gTb]); unfold maxLen; omega
                  case c4h => (try simp [gTb]); omega
                  case c5h => first | exact (HT.out.later (Gr.alloc _ _)).bsz | (have h := HT.out.bsz; simp [World.setCell] at h ⊢; omega)
                  intro v' w4h ho hg _ hat
                  replace ho : w4h.ownsRow w.heap.size 59 1 v' (T2.acts.length + 1) (vrows ++ [.slice p k c]) := by rw [hacl]; simpa using ho
                  have hSa := HT.out.later (Gr.alloc _ (.cells #[.slice p k c] 59))
                  have xb4 := hSa.box.grown hg (by simp [tbC]) (fun e => hSa.row_ne (i := 3) rfl e)
                  have hTh := hSa.grow (i := 3) rfl hg ho (hat.imp id (fun h => h.trans (by simp [World.setCell]))) 3 (by omega) (rows_actsN T2 ⟨vm, .slice p4f (r + 1) c4f, .slice p4g (r + 1) c4g, va, vrows, vcl, vst, vlb, vba, vdf, vne, vch⟩ v' (gActs k) (.slice p k c) k (by simp [gActs]) hlen) rfl (by rw [List.length_append, List.length_append, hlen]; rfl)
                  rw [hacl] at ho
                  obtain ⟨p4h, c4h, rfl⟩ := (Sl.of_owns ho).len
                  clear ho hg hat hSa
                  unfold tbC at xb4
                  dsimp only at xb4
                  have z4h := xb4.cell 3 _ rfl
                  have y4h := xb4.mark 3 _ rfl
                  have l4h := xb4.lt (Nat.succ_pos _)
                  clear xb4
                  have HTh := Lib.hid hTh
                  clear z3 y3 lb HT hTh hlen
                  go_wp2_with fail
                  go_roundw
                  case rel =>
                    have hfin := HTh.out
                    rw [HK8.out, g_rule 256 600 153600 r 1 T2 HTE.out] at hfin
                    first | exact ⟨r + 1, _, by go_num, by omega, hfin⟩ | exact ⟨r + 1, by omega, by omega, _, hfin⟩ | ((repeat apply Exists.intro); exact ⟨⟨r + 1, _, by go_num, by omega, hfin⟩, rfl⟩)
                  case measure => simp [intOf]; omega
            · have hr2 : r = 200 := by omega
              have hT4 : ∃ v, Tst w w.heap.size tb wr (gTb 256 600 153600 200 1) v [] := ⟨_, by rw [hr2] at hT; exact hT⟩
              have hrI : ¬ (r : Int) < 200 := by omega
              clear hT hT3 hr2
              go_wp2_with fail
              go_loopw [8] (fun i wr => ∃ (m : Nat) (v : TbV), i = .int .i64 (m : Int) ∧ 1 ≤ m ∧ m ≤ 16 ∧ Tst w w.heap.size tb wr (gTb 256 600 153600 200 m) v []) (fun i _ => 16 - (intOf i).toNat)
              case atStart =>
                obtain ⟨v, hv⟩ := hT4
                exact ⟨1, v, rfl, by omega, by omega, hv⟩
              case round =>
                obtain ⟨m, ⟨vm, vl, vc, va, vrows, vcl, vst, vlb, vba, vdf, vne, vch⟩, rfl, hm1, hm, hT⟩ := hrel
                by_cases hml : m < 16
                · have hmI : (m : Int) < 16 := by omega
                  have hm1I : (1 : Int) ≤ (m : Int) := by omega
                  obtain ⟨pm, cm, rfl⟩ : ∃ p c, vm = .slice p (m) c := by
                    obtain ⟨p, c, hv⟩ := (Sl.of_owns (hT.row_own (i := 0) rfl)).len
                    exact ⟨p, c, by have h2 : vm = _ := hv; rw [h2]; simp [gTb]⟩
                  obtain ⟨ps, cs, rfl⟩ : ∃ p c, vst = .slice p (m) c := by
                    obtain ⟨p, c, hv⟩ := (Sl.of_owns (hT.row_own (i := 5) rfl)).len
                    exact ⟨p, c, by have h2 : vst = _ := hv; rw [h2]; simp [gTb]⟩
                  have xb := hT.box
                  unfold tbC at xb
                  dsimp only at xb
                  have z0 := xb.cell 0 _ rfl
                  have z6 := xb.cell 6 _ rfl
                  have y0 := xb.mark 0 _ rfl
                  have lb := xb.lt (Nat.succ_pos _)
                  clear xb
                  have HT := Lib.hid hT
                  clear hT
                  obtain ⟨x, hx⟩ : ∃ x : UInt8, x = UInt8.ofNat (97 + m) := ⟨_, rfl⟩
                  have hxn : (x.toNat : Int) = 97 + (m : Int) := by rw [hx, UInt8.toNat_ofNat_of_lt' (by show _ < 256; omega)]; omega
                  have hgm : gMode m = [109, x] := by unfold gMode; rw [if_neg (by omega), hx]
                  have hcv := conv_bytes (P := Tryd.prog) (wr.alloc (.cells #[.int .u8 (97 + (m : Int))] 5)) 32 9 5 ⟨wr.heap.size, 0, none⟩ 1 1 [x] Tryd.underlying32 Tryd.underlying5 Tryd.underlying9 rfl (by
                    rw [← hxn]; exact new_cells wr [vB x] _)
                  have HGM := Lib.hid hgm
                  obtain ⟨X, hX⟩ : ∃ X, st [x] = X := ⟨_, rfl⟩
                  rw [hX] at hcv
                  have HX := Lib.hid hX
                  have hXs : X.size = 1 := by rw [← hX]; rfl
                  clear hx hxn hgm hX
                  have HT0 := Lib.hid (HT.out.later (Gr.alloc wr (.cells #[.int .u8 (97 + (m : Int))] 5)))
                  go_wp2_with (at_builtin; refine wpList_append_own_at _ rfl (.tmp 128) (.tmp 135) 26 rfl w.heap.size 9 iS (.string { data := #[] }) 1 16 Tryd.underlying26 hiS hiS0 hiS1 hiS2 rfl (by decide) _ _ _ rfl ((HT0.out.later (Gr.alloc _ _)).row_own (i := 0) rfl) ⟨wr.heap.size + 1, 0, none⟩ 1 1 [.string ({ data := #[109] } ++ X)] rfl rfl ?c1i ?c2i ?c3i ?c4i ?c5i ?_)
                  try (case c1i => have hnc := new_cells (wr.alloc (.cells #[.int .u8 (97 + (m : Int))] 5)) [.string ({ data := #[109] } ++ X)] 9; rw [show ((wr.alloc (.cells #[.int .u8 (97 + (m : Int))] 5))).heap.size = wr.heap.size + 1 by simp] at hnc; exact hnc)
                  case c2i => first | rfl | (simp [Value.oneCell']; done) | (intro u hu; simp at hu; (first | (subst hu; rfl) | (rcases hu with rfl | rfl <;> rfl)))
                  case c3i => (try simp [gTb]); unfold maxLen; omega
                  case c4i => (try simp [gTb]); omega
                  case c5i => first | exact (HT0.out.later (Gr.alloc _ _)).bsz | (have h := HT0.out.bsz; simp [World.setCell] at h ⊢; omega)
                  intro v' w4i ho hg _ hat
                  replace ho : w4i.ownsRow w.heap.size 9 1 v' ((gTb 256 600 153600 200 m).modes.length + 1) (List.map vS (gTb 256 600 153600 200 m).modes ++ [vS (gMode m)]) := by have e : vS (gMode m) = .string ({ data := #[109] } ++ X) := (by rw [HGM.out, ← HX.out]; unfold vS; exact congrArg Value.string (st_append [109] [x]).symm); rw [e]; simpa using ho
                  have hSa := HT0.out.later (Gr.alloc _ (.cells #[.string ({ data := #[109] } ++ X)] 9))
                  have xb4 := hSa.box.grown hg (by simp [tbC]) (fun e => hSa.row_ne (i := 0) rfl e)
                  have hTi := hSa.grow (i := 0) rfl hg ho (hat.imp id (fun h => h.trans (by simp [World.setCell]))) 0 (by omega) (rows_modes _ _ [] v' (gMode m)) rfl hSa.len
                  rw [show (gTb 256 600 153600 200 m).modes.length = m from by simp [gTb]] at ho
                  obtain ⟨p4i, c4i, rfl⟩ := (Sl.of_owns ho).len
                  clear ho hg hat hSa
                  unfold tbC at xb4
                  dsimp only at xb4
                  have z4i := xb4.cell 0 _ rfl
                  have y4i := xb4.mark 0 _ rfl
                  have l4i := xb4.lt (Nat.succ_pos _)
                  have n6i := xb4.cell 6 _ rfl
                  clear xb4
                  have HTi := Lib.hid hTi
                  clear z0 z6 y0 lb hcv
                  go_wp2_with (at_builtin; refine wpList_append_own_at _ rfl (.tmp 139) (.tmp 142) 23 rfl w.heap.size 3 iI (.int .i64 0) 1 8 Tryd.underlying23 hiI hiI0 hiI1 hiI2 rfl (by decide) _ _ _ rfl ((HTi.out.later (Gr.alloc _ _)).row_own (i := 5) rfl) ⟨w4i.heap.size, 0, none⟩ 1 1 [.int .i64 (600 - (m : Int))] rfl rfl ?c1j ?c2j ?c3j ?c4j ?c5j ?_)
                  try (case c1j => have hnc := new_cells (w4i.setCell ⟨tb, 0, none⟩ (.slice p4i (m + 1) c4i)) [.int .i64 (600 - (m : Int))] 3; rw [show (w4i.setCell ⟨tb, 0, none⟩ (.slice p4i (m + 1) c4i)).heap.size = w4i.heap.size by simp [World.setCell]] at hnc; exact hnc)
                  case c2j => first | rfl | (simp [Value.oneCell']; done) | (intro u hu; simp at hu; (first | (subst hu; rfl) | (rcases hu with rfl | rfl <;> rfl)))
                  case c3j => (try simp [gTb]); unfold maxLen; omega
                  case c4j => (try simp [gTb]); omega
                  case c5j => first | exact (HTi.out.later (Gr.alloc _ _)).bsz | (have h := HTi.out.bsz; simp [World.setCell] at h ⊢; omega)
                  intro v' w4j ho hg _ hat
                  replace ho : w4j.ownsRow w.heap.size 3 1 v' ((gTb 256 600 153600 200 m).starts.length + 1) (List.map vI (gTb 256 600 153600 200 m).starts ++ [.int .i64 (600 - (m : Int))]) := by simpa [vI] using ho
                  have hSa := HTi.out.later (Gr.alloc _ (.cells #[.int .i64 (600 - (m : Int))] 3))
                  have xb4 := hSa.box.grown hg (by simp [tbC]) (fun e => hSa.row_ne (i := 5) rfl e)
                  have hTj := hSa.grow (i := 5) rfl hg ho (hat.imp id (fun h => h.trans (by simp [World.setCell]))) 6 (by omega) (rows_starts _ _ [] v' (600 - (m : Int))) rfl hSa.len
                  rw [show (gTb 256 600 153600 200 m).starts.length = m from by simp [gTb]] at ho
                  obtain ⟨p4j, c4j, rfl⟩ := (Sl.of_owns ho).len
                  clear ho hg hat hSa
                  unfold tbC at xb4
                  dsimp only at xb4
                  have z4j := xb4.cell 6 _ rfl
                  have y4j := xb4.mark 6 _ rfl
                  have l4j := xb4.lt (Nat.succ_pos _)
                  clear xb4
                  have HTj := Lib.hid hTj
                  clear z4i y4i l4i n6i hTi hTj HTi HT HT0
                  go_wp2_with fail
                  go_roundw
                  case rel =>
                    have hfin := HTj.out
                    dsimp only at hfin
                    replace hfin := tst_mode 256 600 153600 200 m (by omega) hfin
                    first | exact ⟨m + 1, _, by go_num, by omega, by omega, hfin⟩ | exact ⟨m + 1, by omega, by omega, by omega, _, hfin⟩
                  case measure => simp [intOf]; omega
                · have hm2 : m = 16 := by omega
                  have hT5 := hT
                  rw [hm2] at hT5
                  have hmI : ¬ (m : Int) < 16 := by omega
                  obtain ⟨G, hG⟩ : ∃ G, gTb 256 600 153600 200 16 = G := ⟨_, rfl⟩
                  have hmy : mayB G = true := by rw [← hG]; exact great_may
                  have hcn : G.count = 256 := by rw [← hG]; rfl
                  rw [hG] at hT5
                  clear hG hT hT4 hm2
                  obtain ⟨htx, hfit⟩ := may_fit hmy
                  have h := hT5.tabs htx
                  have hlt := hT5.lt
                  obtain ⟨n0, hn0⟩ : ∃ n, G.modes.length = n := ⟨_, rfl⟩
                  obtain ⟨n1, hn1⟩ : ∃ n, G.labels.length = n := ⟨_, rfl⟩
                  obtain ⟨n2, hn2⟩ : ∃ n, G.cuts.length = n := ⟨_, rfl⟩
                  obtain ⟨n3, hn3⟩ : ∃ n, G.acts.length = n := ⟨_, rfl⟩
                  obtain ⟨n4, hn4⟩ : ∃ n, G.classes.length = n := ⟨_, rfl⟩
                  obtain ⟨n5, hn5⟩ : ∃ n, G.starts.length = n := ⟨_, rfl⟩
                  obtain ⟨n6, hn6⟩ : ∃ n, G.label.length = n := ⟨_, rfl⟩
                  obtain ⟨n7, hn7⟩ : ∃ n, G.base.length = n := ⟨_, rfl⟩
                  obtain ⟨n8, hn8⟩ : ∃ n, G.dflt.length = n := ⟨_, rfl⟩
                  obtain ⟨n9, hn9⟩ : ∃ n, G.next.length = n := ⟨_, rfl⟩
                  obtain ⟨n10, hn10⟩ : ∃ n, G.check.length = n := ⟨_, rfl⟩
                  obtain ⟨p0, c0, rfl⟩ : ∃ p c, vm = .slice p n0 c := by rw [← hn0]; exact h.modes.len
                  obtain ⟨p1, c1, rfl⟩ : ∃ p c, vl = .slice p n1 c := by rw [← hn1]; exact h.labels.len
                  obtain ⟨p2, c2, rfl⟩ : ∃ p c, vc = .slice p n2 c := by rw [← hn2]; exact h.cuts.len
                  obtain ⟨p3, c3, rfl⟩ : ∃ p c, va = .slice p n3 c := by rw [← hn3]; exact h.acts.len
                  obtain ⟨p4, c4, rfl⟩ : ∃ p c, vcl = .slice p n4 c := by rw [← hn4]; exact h.classes.len
                  obtain ⟨p5, c5, rfl⟩ : ∃ p c, vst = .slice p n5 c := by rw [← hn5]; exact h.starts.len
                  obtain ⟨p6, c6, rfl⟩ : ∃ p c, vlb = .slice p n6 c := by rw [← hn6]; exact h.label.len
                  obtain ⟨p7, c7, rfl⟩ : ∃ p c, vba = .slice p n7 c := by rw [← hn7]; exact h.base.len
                  obtain ⟨p8, c8, rfl⟩ : ∃ p c, vdf = .slice p n8 c := by rw [← hn8]; exact h.dflt.len
                  obtain ⟨p9, c9, rfl⟩ : ∃ p c, vne = .slice p n9 c := by rw [← hn9]; exact h.next.len
                  obtain ⟨p10, c10, rfl⟩ : ∃ p c, vch = .slice p n10 c := by rw [← hn10]; exact h.check.len
                  have xb := hT5.box
                  unfold tbC at xb
                  dsimp only at xb
                  rw [hcn] at xb
                  have hg := hT5.gr
                  have HM := Lib.hid hmy
                  have HTX := Lib.hid htx
                  have HCN := Lib.hid hcn
                  have HEG := Lib.hid (fun (w' : World) (hg : Gr wr w') => encI_ok G ⟨.slice p0 n0 c0, .slice p1 n1 c1, .slice p2 n2 c2, .slice p3 n3 c3, vrows, .slice p4 n4 c4, .slice p5 n5 c5, .slice p6 n6 c6, .slice p7 n7 c7, .slice p8 n8 c8, .slice p9 n9 c9, .slice p10 n10 c10⟩ w' (h.later hg) hfit hmy)
                  have HCK := Lib.hid (fun (w' : World) (hg : Gr wr w') => checkI_any G ⟨.slice p0 n0 c0, .slice p1 n1 c1, .slice p2 n2 c2, .slice p3 n3 c3, vrows, .slice p4 n4 c4, .slice p5 n5 c5, .slice p6 n6 c6, .slice p7 n7 c7, .slice p8 n8 c8, .slice p9 n9 c9, .slice p10 n10 c10⟩ w' (h.later hg) hfit)
                  have HEQ := Lib.hid (fun (w' : World) (hg : Gr wr w') (u : TbV) (hu : TbIn w' G u) => eqTables17 G ⟨.slice p0 n0 c0, .slice p1 n1 c1, .slice p2 n2 c2, .slice p3 n3 c3, vrows, .slice p4 n4 c4, .slice p5 n5 c5, .slice p6 n6 c6, .slice p7 n7 c7, .slice p8 n8 c8, .slice p9 n9 c9, .slice p10 n10 c10⟩ u w' (h.later hg) hu)
                  unfold tbV at HEG HCK HEQ
                  dsimp only at HEG HCK HEQ
                  rw [hcn] at HEG HCK HEQ
                  have hbl := encT_len hmy
                  have HDEC := Lib.hid (dec_enc hmy 2 3 255 (by omega) (by omega) (by omega))
                  obtain ⟨L, hL⟩ : ∃ L, encT G = L := ⟨_, rfl⟩
                  rw [hL] at HEG hbl HDEC
                  obtain ⟨N, hN⟩ : ∃ N, L.length = N := ⟨_, rfl⟩
                  rw [hN] at hbl
                  have HN := Lib.hid hN
                  have hNI : (N : Int) ≤ 2097152 := by omega
                  obtain ⟨K, hK⟩ : ∃ K : Nat, 2097153 = K := ⟨_, rfl⟩
                  obtain ⟨i0, hi, hz0, hz1, hz2⟩ := info_parts info_byte
                  obtain ⟨cs, hcs⟩ : ∃ cs, madeCells (Value.int .u8 0).cells (K * 1) = cs := ⟨_, rfl⟩
                  have hmk : ∀ W, (Instr.makeSlice 32 (.int .i64 2097153) (.int .i64 2097153)).run Tryd.prog W = .ok (.slice (some ⟨W.heap.size, 0, none⟩) K K) (W.alloc (.cells cs 5)) := fun W => by
                    have h1 := run_makeSlice (P := Tryd.prog) W 32 5 i0 (.int .u8 0) Tryd.underlying32 hi hz0 .i64 .i64 (K : Int) (K : Int) (by omega) (by omega) (by rw [hz1, Int.toNat_natCast]; omega) (by rw [hz2]; omega) (by omega)
                    rw [Int.toNat_natCast, hz1, hcs] at h1
                    rw [show (2097153 : Int) = (K : Int) by omega]
                    exact h1
                  have hown : ∀ (W : World) (B : Nat), B ≤ W.heap.size → OwnB (W.alloc (.cells cs 5)) B (.slice (some ⟨W.heap.size, 0, none⟩) K K) (List.replicate K 0) := fun W B hB => by
                    unfold OwnB
                    have h1 := World.ownsRow_lit (base := B) (e := 5) (size := 1) W (madeCells (Value.int .u8 0).cells (K * 1)) K hB (by unfold maxLen; omega) (size_madeCells _ _)
                    rw [show (madeCells (Value.int .u8 0).cells (K * 1)).toList = List.replicate (K * 1) (.int .u8 0) from toList_madeCells_one _ _, hcs, Nat.mul_one] at h1
                    rw [List.length_replicate, List.map_replicate]
                    exact h1
                  have hdk : decT 2 3 255 (List.replicate K 0) = none := by
                    unfold decT
                    rw [if_neg (by rw [List.length_replicate]; omega)]
                  have HOWN := Lib.hid hown
                  have HDK := Lib.hid hdk
                  have HK := Lib.hid hK
                  clear hown hdk hcs hi hz0 hz1 hz2 hL hN hmy htx hcn hT5 h hfit hK hm1 hm hml
                  clear i0
                  clear hn0 hn1 hn2 hn3 hn4 hn5 hn6 hn7 hn8 hn9 hn10
                  have c_e0 := xb.cell 0 _ rfl
                  have c_e1 := xb.cell 1 _ rfl
                  have c_e2 := xb.cell 2 _ rfl
                  have c_e3 := xb.cell 3 _ rfl
                  have c_e4 := xb.cell 4 _ rfl
                  have c_e5 := xb.cell 5 _ rfl
                  have c_e6 := xb.cell 6 _ rfl
                  have c_e7 := xb.cell 7 _ rfl
                  have c_e8 := xb.cell 8 _ rfl
                  have c_e9 := xb.cell 9 _ rfl
                  have c_e10 := xb.cell 10 _ rfl
                  have c_e11 := xb.cell 11 _ rfl
                  have m_e0 := xb.mark 0 _ rfl
                  have m_e1 := xb.mark 1 _ rfl
                  have m_e2 := xb.mark 2 _ rfl
                  have m_e3 := xb.mark 3 _ rfl
                  have m_e4 := xb.mark 4 _ rfl
                  have m_e5 := xb.mark 5 _ rfl
                  have m_e6 := xb.mark 6 _ rfl
                  have m_e7 := xb.mark 7 _ rfl
                  have m_e8 := xb.mark 8 _ rfl
                  have m_e9 := xb.mark 9 _ rfl
                  have m_e10 := xb.mark 10 _ rfl
                  have m_e11 := xb.mark 11 _ rfl
                  have l_e := xb.lt (Nat.succ_pos _)
                  go_wp2_with fail
                  clear c_e0 c_e1 c_e2 c_e3 c_e4 c_e5 c_e6 c_e7 c_e8 c_e9 c_e10 c_e11 m_e0 m_e1 m_e2 m_e3 m_e4 m_e5 m_e6 m_e7 m_e8 m_e9 m_e10 m_e11 l_e
                  go_at_call 10
                  (with_reducible refine (HEG.out wr (Gr.refl _)).mono ?_); rintro e w1 ⟨ub, rfl, hob, hb⟩
                  have hgr := hb
                  replace xb := xb.later hb
                  replace hg := hg.trans hb
                  clear hb HEG
                  have HDC := Lib.hid (fun p c (hv : ub = .slice p L.length c) => decode_any w1 p c L s0 (HF.out.later hg) (by rw [← hv]; exact Sl.of_owns hob) (by rw [HN.out]; omega) (hob.cap _ _ _ hv))
                  obtain ⟨pb2, cb2, rfl⟩ := (Sl.of_owns hob).len
                  have HDC2 := Lib.hid (HDC.out _ _ rfl)
                  rw [HN.out] at HDC2 ⊢
                  clear HDC hob
                  go_wp2_with fail
                  go_at_call 19
                  (with_reducible refine HDC2.out.mono ?_); rintro e w2 ⟨hb, hE⟩
                  rw [HDEC.out] at hE
                  obtain ⟨⟨u0, u1, u2, u3, ur, u4, u5, u6, u7, u8, u9, u10⟩, rfl, hTO⟩ := hE
                  replace xb := xb.later hb
                  replace hg := hg.trans hb
                  replace hgr := hgr.trans hb
                  clear hb HDC2
                  have hU := hTO.tabs HTX.out
                  obtain ⟨r0, m0, e0, rfl⟩ : ∃ p n c, u0 = .slice p n c := by obtain ⟨p, c, hv⟩ := hU.modes.len; exact ⟨p, _, c, hv⟩
                  obtain ⟨r1, m1, e1, rfl⟩ : ∃ p n c, u1 = .slice p n c := by obtain ⟨p, c, hv⟩ := hU.labels.len; exact ⟨p, _, c, hv⟩
                  obtain ⟨r2, m2, e2, rfl⟩ : ∃ p n c, u2 = .slice p n c := by obtain ⟨p, c, hv⟩ := hU.cuts.len; exact ⟨p, _, c, hv⟩
                  obtain ⟨r3, m3, e3, rfl⟩ : ∃ p n c, u3 = .slice p n c := by obtain ⟨p, c, hv⟩ := hU.acts.len; exact ⟨p, _, c, hv⟩
                  obtain ⟨r4, m4, e4, rfl⟩ : ∃ p n c, u4 = .slice p n c := by obtain ⟨p, c, hv⟩ := hU.classes.len; exact ⟨p, _, c, hv⟩
                  obtain ⟨r5, m5, e5, rfl⟩ : ∃ p n c, u5 = .slice p n c := by obtain ⟨p, c, hv⟩ := hU.starts.len; exact ⟨p, _, c, hv⟩
                  obtain ⟨r6, m6, e6, rfl⟩ : ∃ p n c, u6 = .slice p n c := by obtain ⟨p, c, hv⟩ := hU.label.len; exact ⟨p, _, c, hv⟩
                  obtain ⟨r7, m7, e7, rfl⟩ : ∃ p n c, u7 = .slice p n c := by obtain ⟨p, c, hv⟩ := hU.base.len; exact ⟨p, _, c, hv⟩
                  obtain ⟨r8, m8, e8, rfl⟩ : ∃ p n c, u8 = .slice p n c := by obtain ⟨p, c, hv⟩ := hU.dflt.len; exact ⟨p, _, c, hv⟩
                  obtain ⟨r9, m9, e9, rfl⟩ : ∃ p n c, u9 = .slice p n c := by obtain ⟨p, c, hv⟩ := hU.next.len; exact ⟨p, _, c, hv⟩
                  obtain ⟨r10, m10, e10, rfl⟩ : ∃ p n c, u10 = .slice p n c := by obtain ⟨p, c, hv⟩ := hU.check.len; exact ⟨p, _, c, hv⟩
                  have HU := Lib.hid hU
                  clear hU hTO
                  unfold tbV
                  dsimp only
                  rw [HCN.out]
                  go_wp2_with fail
                  refine name_calls (fun W4 hW4 => ?_)
                  have hb : Gr w2 W4 := by rw [hW4]; exact (Gr.alloc _ _).trans (Gr.alloc _ _)
                  have xu : boxAt W4 w2.heap.size [.slice r0 m0 e0, .slice r1 m1 e1, .slice r2 m2 e2, .slice r3 m3 e3, .slice r4 m4 e4, .int .i64 256, .slice r5 m5 e5, .slice r6 m6 e6, .slice r7 m7 e7, .slice r8 m8 e8, .slice r9 m9 e9, .slice r10 m10 e10] := by rw [hW4]; exact (boxAt.new_at [.slice r0 m0 e0, .slice r1 m1 e1, .slice r2 m2 e2, .slice r3 m3 e3, .slice r4 m4 e4, .int .i64 256, .slice r5 m5 e5, .slice r6 m6 e6, .slice r7 m7 e7, .slice r8 m8 e8, .slice r9 m9 e9, .slice r10 m10 e10] _ _ rfl rfl).later (Gr.alloc _ _)
                  have hok : OwnB W4 w2.heap.size (.slice (some ⟨w2.heap.size + 1, 0, none⟩) K K) (List.replicate K 0) := by
                    rw [hW4]
                    have h1 := HOWN.out (w2.alloc (.cells #[.slice r0 m0 e0, .slice r1 m1 e1, .slice r2 m2 e2, .slice r3 m3 e3, .slice r4 m4 e4, .int .i64 256, .slice r5 m5 e5, .slice r6 m6 e6, .slice r7 m7 e7, .slice r8 m8 e8, .slice r9 m9 e9, .slice r10 m10 e10] 30)) w2.heap.size (by simp)
                    rw [show (w2.alloc (.cells #[.slice r0 m0 e0, .slice r1 m1 e1, .slice r2 m2 e2, .slice r3 m3 e3, .slice r4 m4 e4, .int .i64 256, .slice r5 m5 e5, .slice r6 m6 e6, .slice r7 m7 e7, .slice r8 m8 e8, .slice r9 m9 e9, .slice r10 m10 e10] 30)).heap.size = w2.heap.size + 1 by simp] at h1
                    exact h1
                  replace xb := xb.later hb
                  replace hg := hg.trans hb
                  replace hgr := hgr.trans hb
                  have HU4 := Lib.hid (HU.out.later hb)
                  clear hW4 hb HU hmk HOWN
                  have HDC := Lib.hid (fun (K2 : Nat) (hk : (List.replicate K (0 : UInt8)).length = K2) => hk ▸ decode_any W4 (some ⟨w2.heap.size + 1, 0, none⟩) K (List.replicate K 0) s0 (HF.out.later hg) (by have := Sl.of_owns hok; rw [show (List.replicate K (0 : UInt8)).length = K from List.length_replicate] at this ⊢; exact this) (by rw [List.length_replicate]; have := HK.out; omega) (by rw [List.length_replicate]; omega))
                  have HDC2 := Lib.hid (HDC.out K List.length_replicate)
                  clear HDC hok
                  go_at_call 19
                  (with_reducible refine HDC2.out.mono ?_); rintro e w5 ⟨hb, hE⟩
                  rw [HDK.out] at hE
                  obtain rfl := hE
                  replace xb := xb.later hb
                  replace xu := xu.later hb
                  replace hg := hg.trans hb
                  replace hgr := hgr.trans hb
                  have HU5 := Lib.hid (HU4.out.later hb)
                  unfold tbV tb0 v0
                  dsimp only
                  clear hb HDC2 HU4
                  have c_e0 := xb.cell 0 _ rfl
                  have c_e1 := xb.cell 1 _ rfl
                  have c_e2 := xb.cell 2 _ rfl
                  have c_e3 := xb.cell 3 _ rfl
                  have c_e4 := xb.cell 4 _ rfl
                  have c_e5 := xb.cell 5 _ rfl
                  have c_e6 := xb.cell 6 _ rfl
                  have c_e7 := xb.cell 7 _ rfl
                  have c_e8 := xb.cell 8 _ rfl
                  have c_e9 := xb.cell 9 _ rfl
                  have c_e10 := xb.cell 10 _ rfl
                  have c_e11 := xb.cell 11 _ rfl
                  have m_e0 := xb.mark 0 _ rfl
                  have m_e1 := xb.mark 1 _ rfl
                  have m_e2 := xb.mark 2 _ rfl
                  have m_e3 := xb.mark 3 _ rfl
                  have m_e4 := xb.mark 4 _ rfl
                  have m_e5 := xb.mark 5 _ rfl
                  have m_e6 := xb.mark 6 _ rfl
                  have m_e7 := xb.mark 7 _ rfl
                  have m_e8 := xb.mark 8 _ rfl
                  have m_e9 := xb.mark 9 _ rfl
                  have m_e10 := xb.mark 10 _ rfl
                  have m_e11 := xb.mark 11 _ rfl
                  have l_e := xb.lt (Nat.succ_pos _)
                  go_wp2_with fail
                  refine name_calls (fun W6 hW6 => ?_)
                  have hb : Gr w5 W6 := by rw [hW6]; exact Gr.alloc _ _
                  clear c_e0 c_e1 c_e2 c_e3 c_e4 c_e5 c_e6 c_e7 c_e8 c_e9 c_e10 c_e11 m_e0 m_e1 m_e2 m_e3 m_e4 m_e5 m_e6 m_e7 m_e8 m_e9 m_e10 m_e11 l_e
                  replace xb := xb.later hb
                  replace xu := xu.later hb
                  replace hg := hg.trans hb
                  replace hgr := hgr.trans hb
                  have HU6 := Lib.hid (HU5.out.later hb)
                  clear hb hW6 HU5
                  go_at_call 11
                  (with_reducible refine (HCK.out W6 hgr).mono ?_); rintro e w7 ⟨rfl, hb⟩
                  rw [HM.out]
                  replace xb := xb.later hb
                  replace xu := xu.later hb
                  replace hg := hg.trans hb
                  replace hgr := hgr.trans hb
                  have HU7 := Lib.hid (HU6.out.later hb)
                  clear hb HU6
                  have c_e0 := xb.cell 0 _ rfl
                  have c_e1 := xb.cell 1 _ rfl
                  have c_e2 := xb.cell 2 _ rfl
                  have c_e3 := xb.cell 3 _ rfl
                  have c_e4 := xb.cell 4 _ rfl
                  have c_e5 := xb.cell 5 _ rfl
                  have c_e6 := xb.cell 6 _ rfl
                  have c_e7 := xb.cell 7 _ rfl
                  have c_e8 := xb.cell 8 _ rfl
                  have c_e9 := xb.cell 9 _ rfl
                  have c_e10 := xb.cell 10 _ rfl
                  have c_e11 := xb.cell 11 _ rfl
                  have m_e0 := xb.mark 0 _ rfl
                  have m_e1 := xb.mark 1 _ rfl
                  have m_e2 := xb.mark 2 _ rfl
                  have m_e3 := xb.mark 3 _ rfl
                  have m_e4 := xb.mark 4 _ rfl
                  have m_e5 := xb.mark 5 _ rfl
                  have m_e6 := xb.mark 6 _ rfl
                  have m_e7 := xb.mark 7 _ rfl
                  have m_e8 := xb.mark 8 _ rfl
                  have m_e9 := xb.mark 9 _ rfl
                  have m_e10 := xb.mark 10 _ rfl
                  have m_e11 := xb.mark 11 _ rfl
                  have l_e := xb.lt (Nat.succ_pos _)
                  have c_f0 := xu.cell 0 _ rfl
                  have c_f1 := xu.cell 1 _ rfl
                  have c_f2 := xu.cell 2 _ rfl
                  have c_f3 := xu.cell 3 _ rfl
                  have c_f4 := xu.cell 4 _ rfl
                  have c_f5 := xu.cell 5 _ rfl
                  have c_f6 := xu.cell 6 _ rfl
                  have c_f7 := xu.cell 7 _ rfl
                  have c_f8 := xu.cell 8 _ rfl
                  have c_f9 := xu.cell 9 _ rfl
                  have c_f10 := xu.cell 10 _ rfl
                  have c_f11 := xu.cell 11 _ rfl
                  have m_f0 := xu.mark 0 _ rfl
                  have m_f1 := xu.mark 1 _ rfl
                  have m_f2 := xu.mark 2 _ rfl
                  have m_f3 := xu.mark 3 _ rfl
                  have m_f4 := xu.mark 4 _ rfl
                  have m_f5 := xu.mark 5 _ rfl
                  have m_f6 := xu.mark 6 _ rfl
                  have m_f7 := xu.mark 7 _ rfl
                  have m_f8 := xu.mark 8 _ rfl
                  have m_f9 := xu.mark 9 _ rfl
                  have m_f10 := xu.mark 10 _ rfl
                  have m_f11 := xu.mark 11 _ rfl
                  have l_f := xu.lt (Nat.succ_pos _)
                  go_wp2_with fail
                  clear c_e0 c_e1 c_e2 c_e3 c_e4 c_e5 c_e6 c_e7 c_e8 c_e9 c_e10 c_e11 m_e0 m_e1 m_e2 m_e3 m_e4 m_e5 m_e6 m_e7 m_e8 m_e9 m_e10 m_e11 l_e
                  clear c_f0 c_f1 c_f2 c_f3 c_f4 c_f5 c_f6 c_f7 c_f8 c_f9 c_f10 c_f11 m_f0 m_f1 m_f2 m_f3 m_f4 m_f5 m_f6 m_f7 m_f8 m_f9 m_f10 m_f11 l_f
                  go_at_call 16
                  (with_reducible refine (HEQ.out w7 hgr ⟨.slice r0 m0 e0, .slice r1 m1 e1, .slice r2 m2 e2, .slice r3 m3 e3, ur, .slice r4 m4 e4, .slice r5 m5 e5, .slice r6 m6 e6, .slice r7 m7 e7, .slice r8 m8 e8, .slice r9 m9 e9, .slice r10 m10 e10⟩ HU7.out).mono ?_); rintro e w8 ⟨rfl, hb⟩
                  replace hg := hg.trans hb
                  clear hb xb xu hgr
                  go_wp2_with fail
                  go_at_call 25
                  (with_reducible refine (is17_any 12 w8).mono ?_); rintro e w9 ⟨rfl, hb⟩
                  replace hg := hg.trans hb
                  have HSM := Lib.hid (leaf_same (HF.out.later hg) 12 (by omega) (by omega))
                  unfold esI at HSM
                  rw [show ((12 : Nat) : Int) = 12 from rfl] at HSM
                  clear hb
                  go_wp2_with fail
                  go_at_call 13
                  (with_reducible refine HSM.out.mono ?_); rintro e w10 ⟨rfl, hb⟩
                  replace hg := hg.trans hb
                  clear hb HSM
                  go_wp2_with fail
                  go_at_call 17
                  (with_reducible refine (HW.out w10 hg).mono ?_); rintro e w11 ⟨rfl, hb⟩
                  go_wp2_with fail
                  go_ret
                  exact ⟨rfl, hg.trans hb⟩

end Go.Proofs.YtcbfmajojkcibaaDoor
