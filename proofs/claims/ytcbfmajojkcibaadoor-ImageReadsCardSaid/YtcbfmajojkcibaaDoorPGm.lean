/- Texts of mine, put together: IrG, IrH, IrI, IrJ, IrK, IrL. No condition but what each says. -/
import Derived.Test.YtcbfmajojkcibaaDoorPImgJ
import Derived.Test.YtcbfmajojkcibaaDoorPImgT
import Derived.Test.YtcbfmajojkcibaaDoorPImgForm

/- bolterref0.CopyInts, CopyTexts. No condition but a bound of the length. -/
namespace Go.Proofs.YtcbfmajojkcibaaDoor
open Go Go.RowKit

theorem copyInts_any (v : Value) (ns : List Int) (w : World) (h : Sl w v 1 ns.length (ns.map vI)) (hz : Nily v) (hb : ns.length * 8 ≤ 140737488355328) :
    Calls Tryd.prog 29 #[v] w fun e w' => ∃ v', e = .returned v' ∧ w'.ownsRow w.heap.size 3 1 v' ns.length (ns.map vI) ∧ Gr w w' := by
  obtain ⟨i0, hi, hz0, hz1, hz2⟩ := info_parts info_int
  obtain ⟨ao, c, rfl, hnone, hsome⟩ := src_of h hz
  have h1 := h.2.1
  clear h hz
  go_enter Tryd.func29, Tryd.ntmps29
  go_wp2_with (at_builtin; refine wpList_append_own_any rfl (.tmp 4) (.tmp 5) 23 rfl w.heap.size 3 i0 (.int .i64 0) 1 8 Tryd.underlying23 hi hz0 hz1 hz2 rfl (by decide) _ 0 [] rfl (World.ownsRow_nil _ _ _ _) ao ns.length c (ns.map vI) rfl (by rw [List.length_map, Nat.mul_one]) hnone hsome ?c1 ?c2 ?c3 (Nat.le_refl _) ?_)
  case c1 => intro u hu; obtain ⟨x, _, rfl⟩ := List.mem_map.1 hu; rfl
  case c2 => rw [Nat.zero_add]; exact h1
  case c3 => rw [Nat.zero_add]; exact hb
  intro v' w' hown hg _
  go_wp2
  go_ret
  refine ⟨v', rfl, ?_, Gr.grown (Gr.refl _) hg (fun k hk => by cases hk)⟩
  simpa using hown

theorem copyTexts17 (v : Value) (ns : List (List UInt8)) (w : World) (h : Sl w v 1 ns.length (ns.map vS)) (hz : Nily v) (hb : ns.length * 16 ≤ 140737488355328) :
    Calls Tryd.prog 27 #[v] w fun e w' => ∃ v', e = .returned v' ∧ w'.ownsRow w.heap.size 9 1 v' ns.length (ns.map vS) ∧ Gr w w' := by
  obtain ⟨i0, hi, hz0, hz1, hz2⟩ := info_parts info_string
  obtain ⟨ao, c, rfl, hnone, hsome⟩ := src_of h hz
  have h1 := h.2.1
  clear h hz
  go_enter Tryd.func27, Tryd.ntmps27
  go_wp2_with (at_builtin; refine wpList_append_own_any rfl (.tmp 4) (.tmp 5) 26 rfl w.heap.size 9 i0 (.string ByteArray.empty) 1 16 Tryd.underlying26 hi hz0 hz1 hz2 rfl (by decide) _ 0 [] rfl (World.ownsRow_nil _ _ _ _) ao ns.length c (ns.map vS) rfl (by rw [List.length_map, Nat.mul_one]) hnone hsome ?c1 ?c2 ?c3 (Nat.le_refl _) ?_)
  case c1 => intro u hu; obtain ⟨x, _, rfl⟩ := List.mem_map.1 hu; rfl
  case c2 => rw [Nat.zero_add]; exact h1
  case c3 => rw [Nat.zero_add]; exact hb
  intro v' w' hown hg _
  go_wp2
  go_ret
  refine ⟨v', rfl, ?_, Gr.grown (Gr.refl _) hg (fun k hk => by cases hk)⟩
  simpa using hown

end Go.Proofs.YtcbfmajojkcibaaDoor

/- bolterkit.Over of a row of the call's own. No condition but a bound of the length. -/
namespace Go.Proofs.YtcbfmajojkcibaaDoor
open Go Go.RowKit

set_option maxRecDepth 100000 in
set_option maxHeartbeats 2000000 in
theorem over17_any (B n : Nat) (v : Value) (xs : List Value) (w : World) (hn : n ≤ 70368744177664) (hBw : B ≤ w.heap.size) (hown : w.ownsRow B 5 1 v n xs) :
    Calls Tryd.prog 15 #[v] w fun e w' => e = .returned (.tuple #[]) ∧ Below B w w' := by
  obtain ⟨i0, hi, hz0, hz1, hz2⟩ := info_parts info_byte
  go_enter Tryd.func15, Tryd.ntmps15
  go_wp2_with (at_builtin; refine wpList_append_own _ rfl (.tmp 3) (.tmp 4) 32 rfl B 5 i0 (.int .u8 0) 1 1 Tryd.underlying32 hi hz0 hz1 hz2 rfl (by decide) _ _ _ rfl (hown.alloc _) ⟨w.heap.size, 0, none⟩ 3 3 [.int .u8 1, .int .u8 2, .int .u8 3] rfl rfl ?c1 ?c2 ?c3 ?c4 ?c5 ?_)
  case c1 => exact new_cells _ _ _
  case c2 => intro u hu; simp at hu; rcases hu with rfl | rfl | rfl <;> rfl
  case c3 => unfold maxLen; omega
  case c4 => omega
  case c5 => simp; omega
  intro v1 w1 hown1 hgrow _
  have hb1 : Below B w w1 := Below.grown ((Below.refl B w).alloc hBw _) hgrow (by simp; omega) (fun k hk => (World.ownsRow.lt hown k hk).1)
  have HO := Lib.hid hown1
  obtain ⟨g, cap, rfl, hBg, hgl, _⟩ := owns_block hown1 (by omega)
  have HBG := Lib.hid hBg
  clear hown hown1 hgrow hBg
  go_wp2_with fail
  go_loopw [2] (fun i w2 => ∃ (k : Nat) (xs : List Value), k ≤ n + 3 ∧ i = .int .i64 (k : Int) ∧ Hid (w2.ownsRow B 5 1 (.slice (some ⟨g, 0, none⟩) (n + 3) cap) (n + 3) xs) ∧ Below B w w2) (fun i _ => n + 3 - (intOf i).toNat)
  case atStart => exact ⟨0, _, by omega, rfl, HO, hb1⟩
  case round =>
    obtain ⟨k, xs, hk, rfl, HX, hbk⟩ := hrel
    by_cases hlt : k < n + 3
    · have hkI : (k : Int) < (n : Int) + 3 := by omega
      have hxl : k < xs.length := by have := HX.out.1; omega
      obtain ⟨old, hold⟩ : ∃ x, xs[k]? = some x := ⟨_, List.getElem?_eq_getElem hxl⟩
      have c1 := owns_cell HX.out k old hold
      have m1 := owns_mark HX.out k
      have hgr := (World.ownsRow.lt HX.out g rfl).2
      have HLT := Lib.hid hlt
      have HXL := Lib.hid hxl
      clear hlt hk hxl hold
      go_wp2_with fail
      go_roundw
      case rel => exact ⟨k + 1, _, by have := HLT.out; omega, by go_num, Lib.hid (owns_set HX.out k HXL.out (.int .u8 90)), Below.setCell hbk HBG.out _⟩
      case measure => have := HLT.out; simp [intOf]; omega
    · have hkE : k = n + 3 := by omega
      clear hk hlt
      subst hkE
      go_wp2_with fail
      go_end0
      exact ⟨rfl, hbk⟩

end Go.Proofs.YtcbfmajojkcibaaDoor

/- A fresh row behind those of a registry. No condition. -/
namespace Go.Proofs.YtcbfmajojkcibaaDoor
open Go Go.RowKit

theorem Rws.fresh {w w' : World} {B : Nat} {X : List Nat} {L : List RwE} {e k n : Nat} {v : Value} {xs : List Value} (h : Rws w B X L) (hb : ∀ g, g < w.heap.size → w'.heap[g]? = w.heap[g]?)
    (ho : w'.ownsRow w.heap.size e k v n xs) (hB : B ≤ w.heap.size) (hX : ∀ x ∈ X, x < w.heap.size) : Rws w' B X (L ++ [⟨v, e, k, n, xs⟩]) := by
  have h1 := h.keep (w' := w') (fun g hg _ _ => hb g hg)
  refine ⟨fun r hr => ?_, List.pairwise_append.2 ⟨h1.apart, List.pairwise_singleton _ _, fun r hr s hs g hg e2 => ?_⟩, fun r hr g hg => ?_⟩
  · rcases List.mem_append.1 hr with hr | hr
    · exact h1.own r hr
    · rw [List.mem_singleton] at hr; subst hr; exact own_mono ho hB
  · rw [List.mem_singleton] at hs; subst hs
    have a1 := ((h.own r hr).lt g hg).2
    have a2 := (World.ownsRow.lt ho g e2).1
    omega
  · rcases List.mem_append.1 hr with hr | hr
    · exact h1.out r hr g hg
    · rw [List.mem_singleton] at hr; subst hr
      intro hm
      have a1 := hX g hm
      have a2 := (World.ownsRow.lt ho g hg).1
      omega

end Go.Proofs.YtcbfmajojkcibaaDoor

/- bolterref0.CopySteps. No condition but bounds of lengths. -/
namespace Go.Proofs.YtcbfmajojkcibaaDoor
open Go Go.RowKit

theorem prC_flat : ∀ l : List (Int × Int), (l.flatMap prC).length = l.length * 2
  | [] => rfl
  | a :: l => by rw [List.flatMap_cons, List.length_append, prC_flat l, prC_len, List.length_cons]; omega
set_option maxRecDepth 100000 in
set_option maxHeartbeats 4000000 in
theorem copySteps_any (acts : List (List (Int × Int))) (v : Value) (rows : List Value) (w : World) (h : Sl w v 1 acts.length rows) (hr : ∀ (k : Nat) (a : List (Int × Int)), acts[k]? = some a → ∃ u, rows[k]? = some u ∧ Sl w u 2 a.length (a.flatMap prC) ∧ Nily u)
    (hb : acts.length * 24 ≤ 140737488355328) (hb2 : ∀ a ∈ acts, a.length * 16 ≤ 140737488355328) :
    Calls Tryd.prog 28 #[v] w fun e w' => ∃ v' us, e = .returned v' ∧ us.length = acts.length ∧ Rws w' w.heap.size [] (⟨v', 59, 1, acts.length, us⟩ :: actRows acts us) ∧ Gr w w' := by
  obtain ⟨iA, hiA, hiA0, hiA1, hiA2⟩ := info_parts info_steps
  obtain ⟨iT, hiT, hiT0, hiT1, hiT2⟩ := info_parts info_step
  have hmx := h.2.1
  unfold maxLen at hmx
  obtain ⟨p, c, rfl⟩ := h.len
  have H := Lib.hid h
  have HR := Lib.hid hr
  have HB2 := Lib.hid hb2
  obtain ⟨n, hn⟩ : ∃ n, acts.length = n := ⟨_, rfl⟩
  have HN := Lib.hid hn
  rw [hn] at H hb hmx ⊢
  clear h hr hb2 hn
  go_enter Tryd.func28, Tryd.ntmps28
  go_wp2_with fail
  go_loopw [3, 4, 5] (fun o i _ wr => ∃ (k : Nat) (us : List Value) (po : Option Addr) (co : Nat), k ≤ n ∧ o = .slice po k co ∧ i = .int .i64 (k : Int) ∧ us.length = k ∧ Rws wr w.heap.size [] (⟨.slice po k co, 59, 1, k, us⟩ :: actRows (acts.take k) us) ∧ Gr w wr) (fun _ i _ _ => n - (intOf i).toNat)
  case atStart => exact ⟨0, [], none, 0, Nat.zero_le _, rfl, rfl, rfl, by simp only [List.take_zero]; exact ⟨fun r hr => by (simp only [actRows, List.mem_singleton] at hr; subst hr; exact World.ownsRow_nil _ _ _ _), List.pairwise_singleton _ _, fun r hr g hg => by (simp only [actRows, List.mem_singleton] at hr; subst hr; cases hg)⟩, Gr.refl _⟩
  case round =>
    obtain ⟨k, us, po, co, hk, rfl, rfl, hus, hrw, hg⟩ := hrel
    by_cases hkl : k < n
    · have hkI : (k : Int) < (n : Int) := by omega
      obtain ⟨a, ha⟩ : ∃ a, acts[k]? = some a := ⟨_, List.getElem?_eq_getElem (by rw [HN.out]; exact hkl)⟩
      obtain ⟨u, hu, hsu, hzu⟩ := HR.out k a ha
      obtain ⟨b1, o1, rfl, hb1, a1⟩ := row_at (H.out.later hg) hu
      have hbd := HB2.out a (List.mem_of_getElem? ha)
      obtain ⟨ao, ca, rfl, hnone, hsome⟩ := src_of (hsu.later hg) hzu
      have hlu := hsu.2.1
      have HRW := Lib.hid hrw
      have HUS := Lib.hid hus
      have HKL := Lib.hid hkl
      have HA := Lib.hid ha
      have HNO := Lib.hid hnone
      have HSO := Lib.hid hsome
      clear hrw hus hkl ha hu hsu hzu hk hnone hsome
      go_wp2_with (at_builtin; refine wpList_append_own_any rfl (.tmp 13) (.tmp 17) 59 rfl wr.heap.size 61 iT (.agg #[.int .i64 0, .int .i64 0]) 2 16 Tryd.underlying59 hiT hiT0 hiT1 hiT2 rfl (by decide) (.slice none 0 0) 0 [] rfl (World.ownsRow_nil _ _ _ _) ao a.length ca (a.flatMap prC) rfl (prC_flat a) HNO.out HSO.out ?c1 ?c2 ?c3 (Nat.le_refl _) ?_)
      case c1 => intro u hu; obtain ⟨x, _, hx⟩ := List.mem_flatMap.1 hu; simp [prC] at hx; rcases hx with rfl | rfl <;> rfl
      case c2 => rw [Nat.zero_add]; exact hlu
      case c3 => rw [Nat.zero_add]; exact hbd
      intro v1 w1 hown hgr _
      try rw [Nat.zero_add, List.nil_append] at hown
      have hb1w : Gr wr w1 := (Gr.refl wr).grown hgr (fun k hk => by cases hk)
      have hf := HRW.out.fresh (fun g hg => Below.block hb1w g hg) hown hg.size (fun x hx => by cases hx)
      rw [List.cons_append, ← actRows_snoc _ _ _ _ (by rw [HUS.out, List.length_take, HN.out]; have := HKL.out; omega)] at hf
      obtain ⟨pv, cv, rfl⟩ : ∃ p c, v1 = .slice p a.length c := by
        obtain ⟨h1, h2⟩ := hown
        rcases h2 with ⟨h2, _⟩ | ⟨g, cap, cur, h2, _⟩
        · exact ⟨none, 0, by rw [h2]; congr 1; first | omega | simp_all⟩
        · exact ⟨_, _, h2⟩
      have HF := Lib.hid hf
      have hgw := hg.trans hb1w
      clear hown hgr hf
      have hfo : w1.ownsRow w.heap.size 59 1 (.slice po k co) k us := HF.out.own _ (List.mem_cons_self ..)
      go_wp2_with (at_builtin; refine wpList_append_own_at _ rfl (.tmp 12) (.tmp 19) 28 rfl w.heap.size 59 iA (.slice none 0 0) 1 24 Tryd.underlying28 hiA hiA0 hiA1 hiA2 rfl (by decide) _ _ _ rfl (hfo.alloc _) ⟨w1.heap.size, 0, none⟩ 1 1 [.slice pv a.length cv] rfl rfl ?d1 ?d2 ?d3 ?d4 ?d5 ?_)
      try (case d1 => exact new_cells _ [.slice pv a.length cv] _)
      case d2 => intro u hu; rw [List.mem_singleton] at hu; subst hu; rfl
      case d3 => have := HKL.out; unfold maxLen; omega
      case d4 => have := HKL.out; first | omega | (simp only [List.length_cons, List.length_nil]; omega)
      case d5 => first | exact Nat.le_trans hgw.size (by simp) | (simp; exact hgw.size) | skip
      intro v2 w2 hown hgr _ hat
      have hfa := HF.out.keep (w' := w1.alloc (.cells #[.slice pv a.length cv] 59)) (fun k hk _ _ => Below.block (Gr.alloc _ _) k hk)
      have hf2 := hfa.grow (i := 0) rfl hgr hown (hat.imp id (fun h => by rw [h]; simp)) (fun x hx => by cases hx)
      have hg2 : Gr w w2 := (hgw.trans (Gr.alloc _ _)).grown hgr (fun g hg => (World.ownsRow.lt hfo g hg).1)
      rw [List.set_cons_zero] at hf2
      have HF2 := Lib.hid hf2
      have HG2 := Lib.hid hg2
      obtain ⟨p2, c2, rfl⟩ : ∃ p c, v2 = .slice p (k + 1) c := (Sl.of_owns hown).len
      clear hfa hf2 hg2 hown hgr hat hfo hgw
      go_wp2_with fail
      go_roundw
      case rel => exact ⟨k + 1, us ++ [.slice pv a.length cv], p2, c2, HKL.out, rfl, by go_num, by rw [List.length_append, HUS.out]; rfl, by rw [List.take_add_one, HA.out]; exact HF2.out, HG2.out⟩
      case measure => have := HKL.out; simp [intOf]; omega
    · have hkn : k = n := by omega
      subst hkn
      have HRW := Lib.hid hrw
      clear hk hkl hrw
      go_wp2_with fail
      go_ret
      refine ⟨_, us, rfl, hus, ?_, hg⟩
      have := HRW.out
      rw [List.take_of_length_le (Nat.le_of_eq HN.out)] at this
      exact HN.out ▸ this

end Go.Proofs.YtcbfmajojkcibaaDoor

/- bolterref0.CopyComb. No condition but bounds of lengths. -/
namespace Go.Proofs.YtcbfmajojkcibaaDoor
open Go Go.RowKit

/-- Rows of the call's own. -/
def OwnL (w : World) (B : Nat) (L : List RwE) : Prop := ∀ r ∈ L, w.ownsRow B r.e r.k r.v r.n r.xs
theorem OwnL.keep {w w' : World} {B : Nat} {L : List RwE} (h : OwnL w B L) (hb : ∀ k, k < w.heap.size → B ≤ k → w'.heap[k]? = w.heap[k]?) : OwnL w' B L := fun r hr =>
  owns_heap (h r hr) (fun g hg => by
    have := (h r hr).lt g hg
    exact hb g this.2 this.1)
theorem OwnL.later {w w' : World} {B : Nat} {L : List RwE} (h : OwnL w B L) (hG : Gr w w') : OwnL w' B L := h.keep (fun k hk _ => Below.block hG k hk)
theorem OwnL.far {w : World} {B b : Nat} {L : List RwE} (h : OwnL w B L) (hb : b < B) (j : Nat) (u : Value) : OwnL (w.setCell ⟨b, j, none⟩ u) B L := h.keep (fun k _ hB => Below.heap_setCell w _ u k (by
  show k ≠ b
  omega))
theorem OwnL.join {w w' : World} {B : Nat} {L M : List RwE} (h : OwnL w B L) (hG : Gr w w') (hm : OwnL w' w.heap.size M) (hB : B ≤ w.heap.size) : OwnL w' B (L ++ M) := fun r hr => by
  rcases List.mem_append.1 hr with hr | hr
  · exact h.later hG r hr
  · exact own_mono (hm r hr) hB
theorem OwnL.low {w : World} {B B' : Nat} {L : List RwE} (h : OwnL w B L) (hB : B' ≤ B) : OwnL w B' L := fun r hr => own_mono (h r hr) hB
theorem OwnL.one {w : World} {B e k n : Nat} {v : Value} {xs : List Value} (h : w.ownsRow B e k v n xs) : OwnL w B [⟨v, e, k, n, xs⟩] := fun r hr => by
  rw [List.mem_singleton] at hr; subst hr; exact h
theorem OwnL.snoc {w : World} {B e k n : Nat} {v : Value} {xs : List Value} {L : List RwE} (h : OwnL w B L) (h2 : w.ownsRow B e k v n xs) : OwnL w B (L ++ [⟨v, e, k, n, xs⟩]) := fun r hr => by
  rcases List.mem_append.1 hr with hr | hr
  · exact h r hr
  · rw [List.mem_singleton] at hr; subst hr; exact h2
theorem OwnL.nil (w : World) (B : Nat) : OwnL w B [] := fun r hr => by cases hr
/-- A list of numbers, handed in. -/
structure IntsIn (w : World) (v : Value) (l : List Int) : Prop where
  sl : Sl w v 1 l.length (l.map vI)
  nil : Nily v
  le : l.length * 8 ≤ 140737488355328
theorem IntsIn.copies {w : World} {v : Value} {l : List Int} (h : IntsIn w v l) (w' : World) (hG : Gr w w') :
    Calls Tryd.prog 29 #[v] w' fun e w2 => ∃ p c, e = .returned (.slice p l.length c) ∧ OwnL w2 w'.heap.size [⟨.slice p l.length c, 3, 1, l.length, l.map vI⟩] ∧ Gr w' w2 :=
  (copyInts_any v l w' (h.sl.later hG) h.nil (by have := h.le; omega)).mono fun _ _ ⟨v', h1, h2, h3⟩ => by
    obtain ⟨p, c, rfl⟩ := (Sl.of_owns h2).len
    exact ⟨p, c, h1, OwnL.one h2, h3⟩

/-- The operation of append with whatever slice behind, by itself. -/
theorem wp_append_own_any {P : Program} (w : World) {o : Oper} {a : Act} {K : Act → World → Prop} {Q : Exit → Act → World → Prop} (s x : Operand) (t : TypeId)
    (ho : o.op = .call { callee := .builtin .append, args := #[s, x], argTypes := #[t, t] })
    (base : Nat) (e : TypeId) (i : TypeInfo) (z : Value) (size bytes : Nat) (ht : P.underlying t = some (.slice e)) (hi : P.info? e = some i) (hz : i.zero = some z)
    (hsize : i.size = size) (hby : i.bytes = bytes) (hzs : z.cells.size = size) (hsz : 0 < size)
    (v : Value) (n : Nat) (xs : List Value) (hs : a.eval s = v) (hown : w.ownsRow base e size v n xs)
    (ao : Option Addr) (m c : Nat) (news : List Value) (hx : a.eval x = .slice ao m c) (hl : news.length = m * size) (hnone : ao = none → m = 0 ∧ c = 0) (hnews : ∀ ad, ao = some ad → ∀ j u, news[j]? = some u → w.cell? (ad.add j) = some u) (h1 : ∀ u ∈ news, u.oneCell' = true)
    (h63 : n + m ≤ maxLen) (hbytes : (n + m) * bytes ≤ 140737488355328) (hbase : base ≤ w.heap.size)
    (h : ∀ v' w', w'.ownsRow base e size v' (n + m) (xs ++ news) → w.grownBy w' v.ownBlock → K (a.put o.dst v') w') : o.wp P a w K Q := by
  cases ao with
  | some ad => exact wp_append_at w s x t ho base e i z size bytes ht hi hz hsize hby hzs hsz v n xs hs hown ad m c news hx hl (hnews ad rfl) h1 h63 hbytes hbase (fun v' w' a b _ => h v' w' a b)
  | none =>
    obtain ⟨rfl, rfl⟩ := hnone rfl
    have hn : news = [] := List.eq_nil_of_length_eq_zero (by simpa using hl)
    subst hn
    have hr := run_append_owned_none (P := P) w base t o.type e i size ht hi v n xs hown
    unfold Oper.wp
    simp [execOp, ho, resolve, invoke, builtin, hs, hx, hr, Result.andThen]
    exact h v w (by simpa using hown) (World.grownBy.refl _ _)

def combL (v1 v2 v3 v4 : Value) (l1 l2 l3 l4 : List Int) : List RwE := [⟨v1, 3, 1, l1.length, l1.map vI⟩, ⟨v2, 3, 1, l2.length, l2.map vI⟩, ⟨v3, 3, 1, l3.length, l3.map vI⟩, ⟨v4, 3, 1, l4.length, l4.map vI⟩]
set_option maxRecDepth 100000 in
set_option maxHeartbeats 4000000 in
theorem copyComb_any (b d n c : Value) (lb ld ln lc : List Int) (w : World) (h1 : IntsIn w b lb) (h2 : IntsIn w d ld) (h3 : IntsIn w n ln) (h4 : IntsIn w c lc) :
    Calls Tryd.prog 30 #[.agg #[b, d, n, c]] w fun e w' => ∃ p1 c1 p2 c2 p3 c3 p4 c4, e = .returned (.agg #[.slice p1 lb.length c1, .slice p2 ld.length c2, .slice p3 ln.length c3, .slice p4 lc.length c4]) ∧ OwnL w' w.heap.size (combL (.slice p1 lb.length c1) (.slice p2 ld.length c2) (.slice p3 ln.length c3) (.slice p4 lc.length c4) lb ld ln lc) ∧ Gr w w' := by
  have C1 := Lib.hid h1.copies
  have C2 := Lib.hid h2.copies
  have C3 := Lib.hid h3.copies
  have C4 := Lib.hid h4.copies
  clear h1 h2 h3 h4
  go_enter Tryd.func30, Tryd.ntmps30
  go_wp2_with fail
  refine name_world (fun W1 hW => ?_)
  have xe : boxAt W1 w.heap.size [b, d, n, c] := by rw [hW]; exact (boxAt.new [b, d, n, c] _ rfl).later (Gr.alloc _ _)
  have xf : boxAt W1 (w.heap.size + 1) [.slice none 0 0, .slice none 0 0, .slice none 0 0, .slice none 0 0] := by rw [hW]; exact boxAt.new_at _ _ _ rfl (by simp)
  have hgW1 : Gr w W1 := by rw [hW]; exact (Gr.alloc _ _).trans (Gr.alloc _ _)
  clear hW
  have c_e0 := xe.cell 0 _ rfl
  have c_e1 := xe.cell 1 _ rfl
  have c_e2 := xe.cell 2 _ rfl
  have c_e3 := xe.cell 3 _ rfl
  have m_e0 := xe.mark 0 _ rfl
  have m_e1 := xe.mark 1 _ rfl
  have m_e2 := xe.mark 2 _ rfl
  have m_e3 := xe.mark 3 _ rfl
  have l_e := xe.lt (Nat.succ_pos _)
  have c_f0 := xf.cell 0 _ rfl
  have c_f1 := xf.cell 1 _ rfl
  have c_f2 := xf.cell 2 _ rfl
  have c_f3 := xf.cell 3 _ rfl
  have m_f0 := xf.mark 0 _ rfl
  have m_f1 := xf.mark 1 _ rfl
  have m_f2 := xf.mark 2 _ rfl
  have m_f3 := xf.mark 3 _ rfl
  have l_f := xf.lt (Nat.succ_pos _)
  refine wp_region_S (Gr W1) (.take 0 (.take 1 (.take 3 (.take 4 (.take 6 (.take 7 (.take 9 (.take 10 (.run 2 false (.run 5 false (.run 8 false (.run 11 false (.take 12 (.run 13 true .nil)))))))))))))) ((Gr.refl _).trans (Gr.drew _)) (by kernel_rfl) (by kernel_rfl) ?_
  simp only [pickOps, nthOp]
  intro wq hN hG
  have hO := OwnL.nil wq W1.heap.size
  repeat (first | (refine wpG_skip_take ?_ ?_; (focus rfl); try simp only [Act.put, List.setIfInBounds_toArray, List.set_cons_zero, List.set_cons_succ]) | (refine wpG_skip_run ?_ ?_; (focus rfl); try simp only [Act.put, List.setIfInBounds_toArray, List.set_cons_zero, List.set_cons_succ]) | (refine wpG_take ?_ ?_; (focus rfl); apply Exists.intro; refine ⟨fun w' hw' => ?_, ?_⟩; (focus (have hc := Gr.cells hw'; go_simp; (try rfl); done)); try simp only [Act.put, List.setIfInBounds_toArray, List.set_cons_zero, List.set_cons_succ]) | (refine wpG_run ?_ (fun K hK => ?_); (focus rfl); go_simp; (first | (go_at_call 29; (with_reducible refine (C1.out _ (hgW1.trans hG)).mono ?_); rintro r w6 ⟨q6, d6, rfl, ho6, hb0⟩; have hO6 := hO.join hb0 ho6 hG.size; have hG0 : Gr W1 w6 := hG.trans hb0; clear hG hb0 hO ho6; have hG := hG0; clear hG0; have hb := Gr.refl w6) | (go_at_call 29; (with_reducible refine (C2.out _ (hgW1.trans hG)).mono ?_); rintro r w7 ⟨q7, d7, rfl, ho7, hb0⟩; have hO7 := hO6.join hb0 ho7 hG.size; have hG0 : Gr W1 w7 := hG.trans hb0; clear hG hb0 hO6 ho7; have hG := hG0; clear hG0; have hb := Gr.refl w7) | (go_at_call 29; (with_reducible refine (C3.out _ (hgW1.trans hG)).mono ?_); rintro r w8 ⟨q8, d8, rfl, ho8, hb0⟩; have hO8 := hO7.join hb0 ho8 hG.size; have hG0 : Gr W1 w8 := hG.trans hb0; clear hG hb0 hO7 ho8; have hG := hG0; clear hG0; have hb := Gr.refl w8) | (go_at_call 29; (with_reducible refine (C4.out _ (hgW1.trans hG)).mono ?_); rintro r w9 ⟨q9, d9, rfl, ho9, hb0⟩; have hO9 := hO8.join hb0 ho9 hG.size; have hG0 : Gr W1 w9 := hG.trans hb0; clear hG hb0 hO8 ho9; have hG := hG0; clear hG0; have hb := Gr.refl w9)); (try dsimp only); replace hG := hG.trans hb; refine hK.out _ _ hG ?_; clear hK K hb; try simp only [Act.put, List.setIfInBounds_toArray, List.set_cons_zero, List.set_cons_succ]))
  refine wpG_last ?_ (fun K hK => ?_); (focus rfl)
  have hc := hG.cells
  have hm := hG.marks
  go_simp
  refine hK.out _ _ ?_
  try simp only [Act.put, List.setIfInBounds_toArray, List.set_cons_zero, List.set_cons_succ]
  clear hK K hc hm
  refine wpG_done ?_
  clear c_e0 c_e1 c_e2 c_e3 m_e0 m_e1 m_e2 m_e3 l_e
  clear c_f0 c_f1 c_f2 c_f3 m_f0 m_f1 m_f2 m_f3 l_f
  go_wp2_with fail
  refine name_endI (fun W hW => ?_)
  have xg : boxAt W (w.heap.size + 1) [.slice q6 lb.length d6, .slice q7 ld.length d7, .slice q8 ln.length d8, .slice q9 lc.length d9] := by
    rw [hW]
    exact ((((xf.later hG).put 0 _ (by simp)).put 1 _ (by simp)).put 2 _ (by simp)).put 3 _ (by simp)
  have hlt := xf.lt (Nat.succ_pos _)
  have hgW : Gr w W := by
    rw [hW]
    exact Below.setCell (Below.setCell (Below.setCell (Below.setCell (hgW1.trans hG) (Nat.le_succ _) _) (Nat.le_succ _) _) (Nat.le_succ _) _) (Nat.le_succ _) _
  have hOW : OwnL W w.heap.size (combL (.slice q6 lb.length d6) (.slice q7 ld.length d7) (.slice q8 ln.length d8) (.slice q9 lc.length d9) lb ld ln lc) := by
    rw [hW]
    exact ((((hO9.far hlt 0 _).far hlt 1 _).far hlt 2 _).far hlt 3 _).low hgW1.size
  have HGW := Lib.hid hgW
  have HOW := Lib.hid hOW
  clear hW hgW hOW hO9 xf hG
  have c_g0 := xg.cell 0 _ rfl
  have c_g1 := xg.cell 1 _ rfl
  have c_g2 := xg.cell 2 _ rfl
  have c_g3 := xg.cell 3 _ rfl
  have m_g0 := xg.mark 0 _ rfl
  have m_g1 := xg.mark 1 _ rfl
  have m_g2 := xg.mark 2 _ rfl
  have m_g3 := xg.mark 3 _ rfl
  have l_g := xg.lt (Nat.succ_pos _)
  refine bodyPost_ret (v := .agg #[.slice q6 lb.length d6, .slice q7 ld.length d7, .slice q8 ln.length d8, .slice q9 lc.length d9]) (by simp [results, Tryd.results30, go_sem, c_g0, c_g1, c_g2, c_g3]) rfl ⟨_, _, _, _, _, _, _, _, rfl, HOW.out, HGW.out⟩

end Go.Proofs.YtcbfmajojkcibaaDoor

/- bolterref0.CopyTables. No condition but bounds of lengths. -/
namespace Go.Proofs.YtcbfmajojkcibaaDoor
open Go Go.RowKit

/-- Tables that may be copied: slices that are nil or lie somewhere; bounds of lengths. -/
structure TbCp (w : World) (t : Tb) (v : TbV) : Prop where
  tb : TbIn w t v
  len : v.rows.length = t.acts.length
  m : Nily v.modes ∧ t.modes.length * 16 ≤ 140737488355328
  l : Nily v.labels ∧ t.labels.length * 16 ≤ 140737488355328
  cu : Nily v.cuts ∧ t.cuts.length * 16 ≤ 140737488355328
  ac : t.acts.length * 24 ≤ 140737488355328
  arows : ∀ (k : Nat) u, v.rows[k]? = some u → Nily u
  aac : ∀ a ∈ t.acts, a.length * 16 ≤ 140737488355328
  cl : Nily v.classes ∧ t.classes.length * 8 ≤ 140737488355328
  st : Nily v.starts ∧ t.starts.length * 8 ≤ 140737488355328
  lb : Nily v.label ∧ t.label.length * 8 ≤ 140737488355328
  ba : Nily v.base ∧ t.base.length * 8 ≤ 140737488355328
  df : Nily v.dflt ∧ t.dflt.length * 8 ≤ 140737488355328
  ne : Nily v.next ∧ t.next.length * 8 ≤ 140737488355328
  ch : Nily v.check ∧ t.check.length * 8 ≤ 140737488355328
theorem TbCp.later {w w' : World} {t : Tb} {v : TbV} (h : TbCp w t v) (hG : Gr w w') : TbCp w' t v := { h with tb := h.tb.later hG }

set_option maxRecDepth 100000 in
set_option maxHeartbeats 8000000 in
theorem copyTables_any (t : Tb) (v : TbV) (w : World) (h : TbCp w t v) :
    Calls Tryd.prog 8 #[tbV t v] w fun e w' => ∃ u, e = .returned (tbV t u) ∧ OwnL w' w.heap.size (rowsOf t u) ∧ u.rows.length = t.acts.length ∧ Gr w w' := by
  have HB := h.tb
  have C1 := Lib.hid (fun (w' : World) (hG : Gr w w') => (copyTexts17 v.modes t.modes w' (HB.modes.later hG) h.m.1 h.m.2).mono (R' := fun e w2 => ∃ p c, e = .returned (.slice p t.modes.length c) ∧ OwnL w2 w'.heap.size [⟨.slice p t.modes.length c, 9, 1, t.modes.length, t.modes.map vS⟩] ∧ Gr w' w2) fun _ _ ⟨v', h1, h2, h3⟩ => by
    obtain ⟨p, c, rfl⟩ := (Sl.of_owns h2).len
    exact ⟨p, c, h1, OwnL.one h2, h3⟩)
  have C2 := Lib.hid (fun (w' : World) (hG : Gr w w') => (copyTexts17 v.labels t.labels w' (HB.labels.later hG) h.l.1 h.l.2).mono (R' := fun e w2 => ∃ p c, e = .returned (.slice p t.labels.length c) ∧ OwnL w2 w'.heap.size [⟨.slice p t.labels.length c, 9, 1, t.labels.length, t.labels.map vS⟩] ∧ Gr w' w2) fun _ _ ⟨v', h1, h2, h3⟩ => by
    obtain ⟨p, c, rfl⟩ := (Sl.of_owns h2).len
    exact ⟨p, c, h1, OwnL.one h2, h3⟩)
  have C4 := Lib.hid (fun (w' : World) (hG : Gr w w') => (copySteps_any t.acts v.acts v.rows w' (HB.acts.later hG) (fun k a hk => by
    obtain ⟨u, h1, h2⟩ := HB.rows k a hk
    exact ⟨u, h1, h2.later hG, h.arows k u h1⟩) h.ac h.aac).mono (R' := fun e w2 => ∃ p c, ∃ us : List Value, e = .returned (.slice p t.acts.length c) ∧ us.length = t.acts.length ∧ OwnL w2 w'.heap.size (⟨.slice p t.acts.length c, 59, 1, t.acts.length, us⟩ :: actRows t.acts us) ∧ Gr w' w2) fun _ _ ⟨v', us, h1, h2, h3, h4⟩ => by
    obtain ⟨p, c, rfl⟩ : ∃ p c, v' = .slice p t.acts.length c := (Sl.of_owns (h3.own _ (List.mem_cons_self ..))).len
    exact ⟨p, c, us, h1, h2, h3.own, h4⟩)
  have C5 := Lib.hid (IntsIn.copies ⟨HB.classes, h.cl.1, h.cl.2⟩)
  have C6 := Lib.hid (IntsIn.copies ⟨HB.starts, h.st.1, h.st.2⟩)
  have C7 := Lib.hid (IntsIn.copies ⟨HB.label, h.lb.1, h.lb.2⟩)
  have C8 := Lib.hid (fun (w' : World) (hG : Gr w w') => copyComb_any v.base v.dflt v.next v.check t.base t.dflt t.next t.check w' ⟨HB.base.later hG, h.ba.1, h.ba.2⟩ ⟨HB.dflt.later hG, h.df.1, h.df.2⟩ ⟨HB.next.later hG, h.ne.1, h.ne.2⟩ ⟨HB.check.later hG, h.ch.1, h.ch.2⟩)
  have hcu := h.cu.2
  have hcul := HB.cuts.2.1
  obtain ⟨ao, cc, ec, hnone, hsome⟩ := src_of HB.cuts h.cu.1
  have HCS := Lib.hid (fun (w' : World) (hG : Gr w w') => (show ∀ ad, ao = some ad → ∀ j u, (t.cuts.flatMap prC)[j]? = some u → w'.cell? (ad.add j) = some u from fun ad ha j u hj => hG.cell (hsome ad ha j u hj)))
  have HNO := Lib.hid hnone
  obtain ⟨iC, hiC, hiC0, hiC1, hiC2⟩ := info_parts info_cut
  clear hnone hsome h HB
  obtain ⟨v0, v1, v2, v3, vr, v4, v5, v6, v7, v8, v9, v10⟩ := v
  unfold tbV
  dsimp only at C1 C2 C4 C5 C6 C7 C8 ec ⊢
  subst ec
  obtain ⟨co, hco⟩ : ∃ co, t.count = co := ⟨_, rfl⟩
  rw [hco]
  clear hco
  go_enter Tryd.func8, Tryd.ntmps8
  go_wp2_with fail
  refine name_world (fun W1 hW => ?_)
  have xe : boxAt W1 w.heap.size [v0, v1, .slice ao t.cuts.length cc, v3, v4, .int .i64 co, v5, v6, v7, v8, v9, v10] := by rw [hW]; exact (boxAt.new [v0, v1, .slice ao t.cuts.length cc, v3, v4, .int .i64 co, v5, v6, v7, v8, v9, v10] _ rfl).later (Gr.alloc _ _)
  have xf : boxAt W1 (w.heap.size + 1) [.slice none 0 0, .slice none 0 0, .slice none 0 0, .slice none 0 0, .slice none 0 0, .int .i64 0, .slice none 0 0, .slice none 0 0, .slice none 0 0, .slice none 0 0, .slice none 0 0, .slice none 0 0] := by rw [hW]; exact boxAt.new_at _ _ _ rfl (by simp)
  have hgW1 : Gr w W1 := by rw [hW]; exact (Gr.alloc _ _).trans (Gr.alloc _ _)
  clear hW
  have c_e0 := xe.cell 0 _ rfl
  have c_e1 := xe.cell 1 _ rfl
  have c_e2 := xe.cell 2 _ rfl
  have c_e3 := xe.cell 3 _ rfl
  have c_e4 := xe.cell 4 _ rfl
  have c_e5 := xe.cell 5 _ rfl
  have c_e6 := xe.cell 6 _ rfl
  have c_e7 := xe.cell 7 _ rfl
  have c_e8 := xe.cell 8 _ rfl
  have c_e9 := xe.cell 9 _ rfl
  have c_e10 := xe.cell 10 _ rfl
  have c_e11 := xe.cell 11 _ rfl
  have m_e0 := xe.mark 0 _ rfl
  have m_e1 := xe.mark 1 _ rfl
  have m_e2 := xe.mark 2 _ rfl
  have m_e3 := xe.mark 3 _ rfl
  have m_e4 := xe.mark 4 _ rfl
  have m_e5 := xe.mark 5 _ rfl
  have m_e6 := xe.mark 6 _ rfl
  have m_e7 := xe.mark 7 _ rfl
  have m_e8 := xe.mark 8 _ rfl
  have m_e9 := xe.mark 9 _ rfl
  have m_e10 := xe.mark 10 _ rfl
  have m_e11 := xe.mark 11 _ rfl
  have l_e := xe.lt (Nat.succ_pos _)
  have c_f0 := xf.cell 0 _ rfl
  have c_f1 := xf.cell 1 _ rfl
  have c_f2 := xf.cell 2 _ rfl
  have c_f3 := xf.cell 3 _ rfl
  have c_f4 := xf.cell 4 _ rfl
  have c_f5 := xf.cell 5 _ rfl
  have c_f6 := xf.cell 6 _ rfl
  have c_f7 := xf.cell 7 _ rfl
  have c_f8 := xf.cell 8 _ rfl
  have c_f9 := xf.cell 9 _ rfl
  have c_f10 := xf.cell 10 _ rfl
  have c_f11 := xf.cell 11 _ rfl
  have m_f0 := xf.mark 0 _ rfl
  have m_f1 := xf.mark 1 _ rfl
  have m_f2 := xf.mark 2 _ rfl
  have m_f3 := xf.mark 3 _ rfl
  have m_f4 := xf.mark 4 _ rfl
  have m_f5 := xf.mark 5 _ rfl
  have m_f6 := xf.mark 6 _ rfl
  have m_f7 := xf.mark 7 _ rfl
  have m_f8 := xf.mark 8 _ rfl
  have m_f9 := xf.mark 9 _ rfl
  have m_f10 := xf.mark 10 _ rfl
  have m_f11 := xf.mark 11 _ rfl
  have l_f := xf.lt (Nat.succ_pos _)
  refine wp_region_S (Gr W1) (.take 0 (.take 1 (.take 3 (.take 4 (.take 6 (.take 7 (.take 8 (.take 10 (.take 11 (.take 13 (.take 14 (.take 16 (.take 17 (.take 18 (.take 19 (.take 21 (.take 22 (.take 24 (.take 25 (.run 2 false (.run 5 false (.run 9 false (.run 12 false (.run 15 false (.run 20 false (.run 23 false (.run 26 false (.take 27 (.run 28 true .nil))))))))))))))))))))))))))))) ((Gr.refl _).trans (Gr.drew _)) (by kernel_rfl) (by kernel_rfl) ?_
  simp only [pickOps, nthOp]
  intro wq hN hG
  have hO := OwnL.nil wq W1.heap.size
  repeat (first | (refine wpG_skip_take ?_ ?_; (focus rfl); try simp only [Act.put, List.setIfInBounds_toArray, List.set_cons_zero, List.set_cons_succ]) | (refine wpG_skip_run ?_ ?_; (focus rfl); try simp only [Act.put, List.setIfInBounds_toArray, List.set_cons_zero, List.set_cons_succ]) | (refine wpG_take ?_ ?_; (focus rfl); apply Exists.intro; refine ⟨fun w' hw' => ?_, ?_⟩; (focus (have hc := Gr.cells hw'; go_simp; (try rfl); done)); try simp only [Act.put, List.setIfInBounds_toArray, List.set_cons_zero, List.set_cons_succ]) | (refine wpG_run ?_ (fun K hK => ?_); (focus rfl); go_simp; (first | (go_at_call 27; (with_reducible refine (C1.out _ (hgW1.trans hG)).mono ?_); rintro r w20 ⟨q0, d0, rfl, ho, hb0⟩; have hO0 := hO.join hb0 ho hG.size; have hG0 : Gr W1 w20 := hG.trans hb0; clear hG hb0 hO ho; have hG := hG0; clear hG0; have hb := Gr.refl w20) | (go_at_call 27; (with_reducible refine (C2.out _ (hgW1.trans hG)).mono ?_); rintro r w21 ⟨q1, d1, rfl, ho, hb0⟩; have hO1 := hO0.join hb0 ho hG.size; have hG0 : Gr W1 w21 := hG.trans hb0; clear hG hb0 hO0 ho; have hG := hG0; clear hG0; have hb := Gr.refl w21)); (try dsimp only); replace hG := hG.trans hb; refine hK.out _ _ hG ?_; clear hK K hb; try simp only [Act.put, List.setIfInBounds_toArray, List.set_cons_zero, List.set_cons_succ]))
  refine wpG_run rfl (fun K hK => ?_)
  refine wp_append_own_any _ (.tmp 10) (.tmp 12) 27 rfl W1.heap.size 58 iC (.agg #[.int .i64 0, .int .i64 0]) 2 16 Tryd.underlying27 hiC hiC0 hiC1 hiC2 rfl (by decide) (.slice none 0 0) 0 [] rfl (World.ownsRow_nil _ _ _ _) ao t.cuts.length cc (t.cuts.flatMap prC) rfl (prC_flat _) HNO.out (HCS.out _ (hgW1.trans hG)) (fun u hu => by obtain ⟨x, _, hx⟩ := List.mem_flatMap.1 hu; simp [prC] at hx; rcases hx with rfl | rfl <;> rfl) (by rw [Nat.zero_add]; exact hcul) (by rw [Nat.zero_add]; exact hcu) hG.size ?_
  intro v22 w22 hown hgrow
  rw [Nat.zero_add, List.nil_append] at hown
  obtain ⟨q2, d2, rfl⟩ := (Sl.of_owns hown).len
  have hG0 : Gr W1 w22 := Gr.grown hG hgrow (fun k hk => by cases hk)
  have hG1 : Gr w21 w22 := (Gr.refl w21).grown hgrow (fun k hk => by cases hk)
  have hO2 : OwnL w22 W1.heap.size _ := (hO1.later hG1).snoc hown
  refine hK.out _ _ hG0 ?_
  clear hK K hown hgrow hO1 hG1 hG
  have hG := hG0
  clear hG0
  try simp only [Act.put, List.setIfInBounds_toArray, List.set_cons_zero, List.set_cons_succ]
  repeat (first | (refine wpG_skip_take ?_ ?_; (focus rfl); try simp only [Act.put, List.setIfInBounds_toArray, List.set_cons_zero, List.set_cons_succ]) | (refine wpG_skip_run ?_ ?_; (focus rfl); try simp only [Act.put, List.setIfInBounds_toArray, List.set_cons_zero, List.set_cons_succ]) | (refine wpG_take ?_ ?_; (focus rfl); apply Exists.intro; refine ⟨fun w' hw' => ?_, ?_⟩; (focus (have hc := Gr.cells hw'; go_simp; (try rfl); done)); try simp only [Act.put, List.setIfInBounds_toArray, List.set_cons_zero, List.set_cons_succ]) | (refine wpG_run ?_ (fun K hK => ?_); (focus rfl); go_simp; (first | (go_at_call 28; (with_reducible refine (C4.out _ (hgW1.trans hG)).mono ?_); rintro r w23 ⟨q3, d3, us, rfl, hus, ho, hb0⟩; have hO3 := hO2.join hb0 ho hG.size; have hG0 : Gr W1 w23 := hG.trans hb0; clear hG hb0 hO2 ho; have hG := hG0; clear hG0; have hb := Gr.refl w23) | (go_at_call 29; (with_reducible refine (C5.out _ (hgW1.trans hG)).mono ?_); rintro r w24 ⟨q4, d4, rfl, ho, hb0⟩; have hO4 := hO3.join hb0 ho hG.size; have hG0 : Gr W1 w24 := hG.trans hb0; clear hG hb0 hO3 ho; have hG := hG0; clear hG0; have hb := Gr.refl w24) | (go_at_call 29; (with_reducible refine (C6.out _ (hgW1.trans hG)).mono ?_); rintro r w25 ⟨q5, d5, rfl, ho, hb0⟩; have hO5 := hO4.join hb0 ho hG.size; have hG0 : Gr W1 w25 := hG.trans hb0; clear hG hb0 hO4 ho; have hG := hG0; clear hG0; have hb := Gr.refl w25) | (go_at_call 29; (with_reducible refine (C7.out _ (hgW1.trans hG)).mono ?_); rintro r w26 ⟨q6, d6, rfl, ho, hb0⟩; have hO6 := hO5.join hb0 ho hG.size; have hG0 : Gr W1 w26 := hG.trans hb0; clear hG hb0 hO5 ho; have hG := hG0; clear hG0; have hb := Gr.refl w26) | (go_at_call 30; (with_reducible refine (C8.out _ (hgW1.trans hG)).mono ?_); rintro r w27 ⟨q7, d7, q8, d8, q9, d9, q10, d10, rfl, ho, hb0⟩; have hO7 := hO6.join hb0 ho hG.size; have hG0 : Gr W1 w27 := hG.trans hb0; clear hG hb0 hO6 ho; have hG := hG0; clear hG0; have hb := Gr.refl w27)); (try dsimp only); replace hG := hG.trans hb; refine hK.out _ _ hG ?_; clear hK K hb; try simp only [Act.put, List.setIfInBounds_toArray, List.set_cons_zero, List.set_cons_succ]))
  refine wpG_last ?_ (fun K hK => ?_); (focus rfl)
  have hc := hG.cells
  have hm := hG.marks
  go_simp
  refine hK.out _ _ ?_
  try simp only [Act.put, List.setIfInBounds_toArray, List.set_cons_zero, List.set_cons_succ]
  clear hK K hc hm
  refine wpG_done ?_
  clear c_e0 c_e1 c_e2 c_e3 c_e4 c_e5 c_e6 c_e7 c_e8 c_e9 c_e10 c_e11 m_e0 m_e1 m_e2 m_e3 m_e4 m_e5 m_e6 m_e7 m_e8 m_e9 m_e10 m_e11 l_e
  clear c_f0 c_f1 c_f2 c_f3 c_f4 c_f5 c_f6 c_f7 c_f8 c_f9 c_f10 c_f11 m_f0 m_f1 m_f2 m_f3 m_f4 m_f5 m_f6 m_f7 m_f8 m_f9 m_f10 m_f11 l_f
  go_wp2_with fail
  refine name_endI (fun W hW => ?_)
  have xg : boxAt W (w.heap.size + 1) [.slice q0 t.modes.length d0, .slice q1 t.labels.length d1, .slice q2 t.cuts.length d2, .slice q3 t.acts.length d3, .slice q4 t.classes.length d4, .int .i64 co, .slice q5 t.starts.length d5, .slice q6 t.label.length d6, .slice q7 t.base.length d7, .slice q8 t.dflt.length d8, .slice q9 t.next.length d9, .slice q10 t.check.length d10] := by
    rw [hW]
    exact ((((((((((((xf.later hG).put 0 _ (by simp)).put 1 _ (by simp)).put 2 _ (by simp)).put 3 _ (by simp)).put 4 _ (by simp)).put 5 _ (by simp)).put 6 _ (by simp)).put 7 _ (by simp)).put 8 _ (by simp)).put 9 _ (by simp)).put 10 _ (by simp)).put 11 _ (by simp)
  have hlt := xf.lt (Nat.succ_pos _)
  have hgW : Gr w W := by
    rw [hW]
    exact Below.setCell (Below.setCell (Below.setCell (Below.setCell (Below.setCell (Below.setCell (Below.setCell (Below.setCell (Below.setCell (Below.setCell (Below.setCell (Below.setCell (hgW1.trans hG) (Nat.le_succ _) _) (Nat.le_succ _) _) (Nat.le_succ _) _) (Nat.le_succ _) _) (Nat.le_succ _) _) (Nat.le_succ _) _) (Nat.le_succ _) _) (Nat.le_succ _) _) (Nat.le_succ _) _) (Nat.le_succ _) _) (Nat.le_succ _) _) (Nat.le_succ _) _
  have hOW : OwnL W w.heap.size (rowsOf t ⟨.slice q0 t.modes.length d0, .slice q1 t.labels.length d1, .slice q2 t.cuts.length d2, .slice q3 t.acts.length d3, us, .slice q4 t.classes.length d4, .slice q5 t.starts.length d5, .slice q6 t.label.length d6, .slice q7 t.base.length d7, .slice q8 t.dflt.length d8, .slice q9 t.next.length d9, .slice q10 t.check.length d10⟩) := by
    rw [hW]
    intro r hr
    refine OwnL.low (((((((((((((hO7).far hlt 0 _).far hlt 1 _).far hlt 2 _).far hlt 3 _).far hlt 4 _).far hlt 5 _).far hlt 6 _).far hlt 7 _).far hlt 8 _).far hlt 9 _).far hlt 10 _).far hlt 11 _) hgW1.size r ?_
    unfold rowsOf combL at *
    simp only [List.mem_append, List.mem_cons, List.not_mem_nil, or_false, false_or] at hr ⊢
    rcases hr with (h | h | h | h | h | h | h | h | h | h | h) | h <;> simp only [h, true_or, or_true]
  have HGW := Lib.hid hgW
  have HOW := Lib.hid hOW
  have HUS := Lib.hid hus
  clear hW hgW hOW hO7 xf hG hus
  have c_g0 := xg.cell 0 _ rfl
  have c_g1 := xg.cell 1 _ rfl
  have c_g2 := xg.cell 2 _ rfl
  have c_g3 := xg.cell 3 _ rfl
  have c_g4 := xg.cell 4 _ rfl
  have c_g5 := xg.cell 5 _ rfl
  have c_g6 := xg.cell 6 _ rfl
  have c_g7 := xg.cell 7 _ rfl
  have c_g8 := xg.cell 8 _ rfl
  have c_g9 := xg.cell 9 _ rfl
  have c_g10 := xg.cell 10 _ rfl
  have c_g11 := xg.cell 11 _ rfl
  have m_g0 := xg.mark 0 _ rfl
  have m_g1 := xg.mark 1 _ rfl
  have m_g2 := xg.mark 2 _ rfl
  have m_g3 := xg.mark 3 _ rfl
  have m_g4 := xg.mark 4 _ rfl
  have m_g5 := xg.mark 5 _ rfl
  have m_g6 := xg.mark 6 _ rfl
  have m_g7 := xg.mark 7 _ rfl
  have m_g8 := xg.mark 8 _ rfl
  have m_g9 := xg.mark 9 _ rfl
  have m_g10 := xg.mark 10 _ rfl
  have m_g11 := xg.mark 11 _ rfl
  have l_g := xg.lt (Nat.succ_pos _)
  refine bodyPost_ret (v := .agg #[.slice q0 t.modes.length d0, .slice q1 t.labels.length d1, .slice q2 t.cuts.length d2, .slice q3 t.acts.length d3, .slice q4 t.classes.length d4, .int .i64 co, .slice q5 t.starts.length d5, .slice q6 t.label.length d6, .slice q7 t.base.length d7, .slice q8 t.dflt.length d8, .slice q9 t.next.length d9, .slice q10 t.check.length d10]) (by simp [results, Tryd.results8, go_sem, c_g0, c_g1, c_g2, c_g3, c_g4, c_g5, c_g6, c_g7, c_g8, c_g9, c_g10, c_g11]) rfl ⟨⟨.slice q0 t.modes.length d0, .slice q1 t.labels.length d1, .slice q2 t.cuts.length d2, .slice q3 t.acts.length d3, us, .slice q4 t.classes.length d4, .slice q5 t.starts.length d5, .slice q6 t.label.length d6, .slice q7 t.base.length d7, .slice q8 t.dflt.length d8, .slice q9 t.next.length d9, .slice q10 t.check.length d10⟩, rfl, HOW.out, HUS.out, HGW.out⟩

end Go.Proofs.YtcbfmajojkcibaaDoor
