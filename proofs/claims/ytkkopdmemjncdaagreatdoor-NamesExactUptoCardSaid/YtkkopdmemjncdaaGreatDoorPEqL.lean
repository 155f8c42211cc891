/- Texts of mine, put together: EqL, NmA. No condition but what each says. -/
import Derived.Test.YtkkopdmemjncdaaGreatDoorPHg
import Derived.Test.YtkkopdmemjncdaaGreatDoorPHd
import Derived.Test.YtkkopdmemjncdaaGreatDoorPNmY
import Derived.Test.YtkkopdmemjncdaaGreatDoorPGh
namespace Go.Proofs.YtkkopdmemjncdaaGreatDoor
open Go Go.RowKit
set_option maxRecDepth 100000 in
set_option maxHeartbeats 4000000 in
theorem
    eqTexts_same (L : List (List UInt8)) (v u : Value) (w : World) (hv : Sl w v 1 L.length (L.map vS)) (hu : Sl w u 1 L.length (L.map vS)) :
  Calls Tryz.prog 17 #[v, u] w fun e w' => e = .returned (.bool true) ∧ Gr w w' := by
 have hmax := hv.2.1
 unfold maxLen at hmax
 obtain ⟨p, cap, rfl⟩ := hv.len
 obtain ⟨q, caq, rfl⟩ := hu.len
 have HV := Lib.hid hv
 have HU := Lib.hid hu
 clear hv hu
 go_enter Tryz.func17, Tryz.ntmps17
 go_wp2_with fail
 go_loopw [5] (fun i wr => ∃ k : Nat, k ≤ L.length ∧ i = .int .i64 (k : Int) ∧ Gr w wr) (fun i _ => L.length - (intOf i).toNat)
 case atStart => exact ⟨0, Nat.zero_le _, rfl, Gr.refl _⟩
 case round =>
  obtain ⟨k, hk, rfl, hr⟩ := hrel
  cases hx : L[k]? with
  |
   none =>
   have hkl : k = L.length := by
    rcases Nat.lt_or_ge k L.length with h | h
    · rw [List.getElem?_eq_getElem h] at hx; cases hx
    · omega
   subst hkl
   clear hx hk
   go_wp2_with fail
   go_ret
   exact ⟨rfl, hr⟩
  |
   some x =>
   have hkl : k < L.length := (List.getElem?_eq_some_iff.1 hx).1
   obtain ⟨b, off, rfl, hb, hc⟩ := str_at (HV.out.later hr) hx
   obtain ⟨b2, off2, rfl, hb2, hc2⟩ := str_at (HU.out.later hr) hx
   have hkI : (k : Int) < (L.length : Int) := by omega
   have hkw : IntKind.i64.wrap ((k : Int) + 1) = ((k + 1 : Nat) : Int) := by rw [IntWalk.i64_in _ (by omega)]; omega
   have HLT := Lib.hid hkl
   have HR := Lib.hid hr
   clear hx hkl hk hr
   go_wp2_with fail
   refine wp_region_G (.take 0 (.take 1 (.take 2 (.take 3 (.take 4 (.take 5 (.take 6 (.take 7 (.take 8 .nil))))))))) (by kernel_rfl) (by kernel_rfl) ?_
   simp only [pickOps, nthOp]
   intro wq hG
   repeat (first | (refine wpG_skip_take ?_ ?_; (focus rfl); try simp only [Act.put, List.setIfInBounds_toArray, List.set_cons_zero, List.set_cons_succ]) | (refine wpG_skip_run ?_ ?_; (focus rfl); try simp only [Act.put, List.setIfInBounds_toArray, List.set_cons_zero, List.set_cons_succ]) | (refine wpG_take ?_ ?_; (focus rfl); apply Exists.intro; refine ⟨fun w' hw' => ?_, ?_⟩; (focus (have hc := Gr.cells hw'; go_simp; (try rfl); done)); try simp only [Act.put, List.setIfInBounds_toArray, List.set_cons_zero, List.set_cons_succ]))
   refine wpG_done ?_
   go_wp2_with fail
   go_roundw
   case rel => exact ⟨k + 1, by have := HLT.out; omega, by go_num, HR.out.trans hG⟩
   case measure => have := HLT.out; simp [intOf]; omega
set_option maxRecDepth 100000 in
set_option maxHeartbeats 4000000 in
theorem eqFault_like (c s r a : Int) (v u : Value) (L : List (List UInt8)) (w : World) (hv : Sl w v 1 L.length (L.map vS)) (hu : Sl w u 1 L.length (L.map vS)) :
  Calls Tryz.prog 46 #[.agg #[.int .i64 c, .int .i64 s, .int .i64 r, .int .i64 a, v], .agg #[.int .i64 c, .int .i64 s, .int .i64 r, .int .i64 a, u]] w fun e w' => e = .returned (.bool true) ∧ Gr w w' := by
 have HE := Lib.hid (fun w' (hg : Gr w w') => eqTexts_same L v u w' (hv.later hg) (hu.later hg))
 obtain ⟨p, cap, rfl⟩ := hv.len
 obtain ⟨q, caq, rfl⟩ := hu.len
 clear hv hu
 go_enter Tryz.func46, Tryz.ntmps46
 go_wp2_with fail
 go_at_call 17
 refine name_calls (fun W hW => ?_)
 have hg : Gr w W := by rw [hW]; exact (Gr.alloc _ _).trans (Gr.alloc _ _)
 clear hW
 refine (HE.out W hg).mono ?_; rintro e w1 ⟨rfl, hb⟩
 go_wp2
 go_ret
 exact ⟨rfl, hg.trans hb⟩
set_option maxRecDepth 100000 in
set_option maxHeartbeats 4000000 in
theorem
    eqInts_same (L : List Int) (v u : Value) (w : World) (hv : Sl w v 1 L.length (L.map vI)) (hu : Sl w u 1 L.length (L.map vI)) :
  Calls Tryz.prog 48 #[v, u] w fun e w' => e = .returned (.bool true) ∧ Gr w w' := by
 have hmax := hv.2.1
 unfold maxLen at hmax
 obtain ⟨p, cap, rfl⟩ := hv.len
 obtain ⟨q, caq, rfl⟩ := hu.len
 have HV := Lib.hid hv
 have HU := Lib.hid hu
 clear hv hu
 go_enter Tryz.func48, Tryz.ntmps48
 go_wp2_with fail
 go_loopw [5] (fun i wr => ∃ k : Nat, k ≤ L.length ∧ i = .int .i64 (k : Int) ∧ Gr w wr) (fun i _ => L.length - (intOf i).toNat)
 case atStart => exact ⟨0, Nat.zero_le _, rfl, Gr.refl _⟩
 case round =>
  obtain ⟨k, hk, rfl, hr⟩ := hrel
  cases hx : L[k]? with
  |
   none =>
   have hkl : k = L.length := by
    rcases Nat.lt_or_ge k L.length with h | h
    · rw [List.getElem?_eq_getElem h] at hx; cases hx
    · omega
   subst hkl
   clear hx hk
   go_wp2_with fail
   go_ret
   exact ⟨rfl, hr⟩
  |
   some x =>
   have hkl : k < L.length := (List.getElem?_eq_some_iff.1 hx).1
   obtain ⟨b, off, rfl, hb, hc⟩ := int_at (HV.out.later hr) hx
   obtain ⟨b2, off2, rfl, hb2, hc2⟩ := int_at (HU.out.later hr) hx
   have hkI : (k : Int) < (L.length : Int) := by omega
   have hkw : IntKind.i64.wrap ((k : Int) + 1) = ((k + 1 : Nat) : Int) := by rw [IntWalk.i64_in _ (by omega)]; omega
   have HLT := Lib.hid hkl
   have HR := Lib.hid hr
   clear hx hkl hk hr
   go_wp2_with fail
   refine wp_region_G (.take 0 (.take 1 (.take 2 (.take 3 (.take 4 (.take 5 (.take 6 (.take 7 (.take 8 .nil))))))))) (by kernel_rfl) (by kernel_rfl) ?_
   simp only [pickOps, nthOp]
   intro wq hG
   repeat (first | (refine wpG_skip_take ?_ ?_; (focus rfl); try simp only [Act.put, List.setIfInBounds_toArray, List.set_cons_zero, List.set_cons_succ]) | (refine wpG_skip_run ?_ ?_; (focus rfl); try simp only [Act.put, List.setIfInBounds_toArray, List.set_cons_zero, List.set_cons_succ]) | (refine wpG_take ?_ ?_; (focus rfl); apply Exists.intro; refine ⟨fun w' hw' => ?_, ?_⟩; (focus (have hc := Gr.cells hw'; go_simp; (try rfl); done)); try simp only [Act.put, List.setIfInBounds_toArray, List.set_cons_zero, List.set_cons_succ]))
   refine wpG_done ?_
   go_wp2_with fail
   go_roundw
   case rel => exact ⟨k + 1, by have := HLT.out; omega, by go_num, HR.out.trans hG⟩
   case measure => have := HLT.out; simp [intOf]; omega
set_option maxRecDepth 100000 in
set_option maxHeartbeats 4000000 in
theorem same_names (t : TypeId) (x : Value) (c s r a : Int) (L : List (List UInt8)) (v : Value) (w : World) (hc : c ≠ 0) (hv : Sl w v 1 L.length (L.map vS)) (ht : ∀ W, Gr w W → Calls Tryz.prog 28 #[.iface t x] W fun e w' => ∃ nv, e = .returned (.agg #[.int .i64 c, .int .i64 s, .int .i64 r, .int .i64 a, nv]) ∧ Sl w' nv 1 L.length (L.map vS) ∧ Gr W w') :
  Calls Tryz.prog 13 #[.iface t x, .agg #[.int .i64 c, .int .i64 s, .int .i64 r, .int .i64 a, v]] w fun e w' => e = .returned (.bool true) ∧ Gr w w' := by
 have HT := Lib.hid ht
 have HV := Lib.hid hv
 obtain ⟨p, cap, rfl⟩ := hv.len
 obtain ⟨n, hn⟩ : ∃ n, L.length = n := ⟨_, rfl⟩
 have HN := Lib.hid hn
 rw [hn]
 have hcb : (c != 0) = true := by rw [bne_iff_ne]; exact hc
 have HE := Lib.hid (fun (W : World) (hG : Gr w W) (nv : Value) (hs : Sl W nv 1 L.length (L.map vS)) => eqFault_like c s r a nv (.slice p L.length cap) L W hs (hv.later hG))
 rw [hn] at HE
 clear ht hc hv hn
 go_enter Tryz.func13, Tryz.ntmps13
 go_wp2_with fail
 refine name_world (fun W hW => ?_)
 have xb : boxAt W w.heap.size [.int .i64 c, .int .i64 s, .int .i64 r, .int .i64 a, .slice p n cap] := boxAt.new _ _ hW
 have hg : Gr w W := by rw [hW]; exact Gr.alloc _ _
 clear hW
 obtain ⟨c_b0, c_b1, c_b2, c_b3, c_b4, m_b0, m_b1, m_b2, m_b3, m_b4, l_b⟩ := unb5 xb
 refine wp_region_G (.take 0 (.take 1 (.take 2 (.take 3 (.take 4 (.take 6 (.run 5 false (.run 7 false (.take 8 (.run 9 true .nil)))))))))) (by kernel_rfl) (by kernel_rfl) ?_
 simp only [pickOps, nthOp]
 intro wq hG
 repeat (first | (refine wpG_skip_take ?_ ?_; (focus rfl); try simp only [Act.put, List.setIfInBounds_toArray, List.set_cons_zero, List.set_cons_succ]) | (refine wpG_skip_run ?_ ?_; (focus rfl); try simp only [Act.put, List.setIfInBounds_toArray, List.set_cons_zero, List.set_cons_succ]) | (refine wpG_take ?_ ?_; (focus rfl); apply Exists.intro; refine ⟨fun w' hw' => ?_, ?_⟩; (focus (have hc := Gr.cells hw'; go_simp; (try rfl); done)); try simp only [Act.put, List.setIfInBounds_toArray, List.set_cons_zero, List.set_cons_succ]) | (refine wpG_run ?_ (fun K hK => ?_); (focus rfl); go_simp; (first | (go_at_call 28; (with_reducible refine (HT.out _ (hg.trans hG)).mono ?_); rintro e w' ⟨nv, rfl, hs, hb⟩; rw [HN.out] at hs; obtain ⟨pn, cn, rfl⟩ := hs.len; have HSN := Lib.hid hs; clear hs) | (go_at_call 46; (with_reducible refine (HE.out _ (hg.trans hG) _ HSN.out).mono ?_); rintro e w' ⟨rfl, hb⟩)); (try dsimp only); replace hG := hG.trans hb; refine hK.out _ _ hG ?_; clear hK K hb; try simp only [Act.put, List.setIfInBounds_toArray, List.set_cons_zero, List.set_cons_succ]))
 refine wpG_last ?_ (fun K hK => ?_); (focus rfl)
 have hc := hG.cells
 have hm := hG.marks
 go_simp
 refine hK.out _ _ ?_
 try simp only [Act.put, List.setIfInBounds_toArray, List.set_cons_zero, List.set_cons_succ]
 clear hK K hc hm
 refine wpG_done ?_
 go_wp2
 go_ret
 exact ⟨rfl, hg.trans hG⟩
end Go.Proofs.YtkkopdmemjncdaaGreatDoor
namespace Go.Proofs.YtkkopdmemjncdaaGreatDoor
open Go Go.RowKit
def esN (s : Nat → Addr) (k : Nat) : Value := .iface 220 (.pointer (some (s k)))
theorem vS_one (x : ByteArray) : [Value.string x] = [x.data.toList].map vS := by
 show [Value.string x] = [vS x.data.toList]
 unfold vS; rw [← st_of]
theorem vS_map {α : Type} (f : α → ByteArray) (l : List α) : (l.map fun i => Value.string (f i)) = (l.map fun i => (f i).data.toList).map vS := by
 rw [List.map_map]
 have e : (vS ∘ fun i => (f i).data.toList) = fun i => Value.string (f i) := funext fun i => by
  show vS _ = _
  unfold vS; rw [← st_of]
 rw [e]
theorem tell_bad {w : World} {s : Nat → Addr} (hF : FaultsIn w s) {X : List Nat} {v : Value} {x : Nt} (h : BadV w X (esN s 6) v x) :
  Calls Tryz.prog 28 #[v] w fun e w' => ∃ nv, e = .returned (.agg #[.int .i64 6, .int .i64 0, .int .i64 0, .int .i64 x.2, nv]) ∧ w'.ownsRow w.heap.size 9 1 nv 1 [.string x.1] ∧ Gr w w' := by
 obtain ⟨b1, b2, nv, rfl, hb2, hb1, ⟨B, hown⟩, _⟩ := h
 have hin : (Er.wrap .named b2 nv (.wrap .placed b1 (.int .i64 x.2) (.leaf (s 6)))).In w := ⟨hb2.cell 0 _ rfl, hb2.cell 1 _ rfl, hb1.cell 0 _ rfl, hb1.cell 1 _ rfl, hF.leaf 6 (by omega) (by omega)⟩
 have hok : (Er.wrap .named b2 nv (.wrap .placed b1 (.int .i64 x.2) (.leaf (s 6)))).ok := ⟨fun h => absurd rfl h, fun _ => ⟨_, rfl⟩, trivial⟩
 have hns : NamesOf w (Er.wrap .named b2 nv (.wrap .placed b1 (.int .i64 x.2) (.leaf (s 6)))) [x.1.data.toList] := by
  show ∃ y, _
  refine ⟨nv, hb2.cell 1 _ rfl, ?_, by simp⟩
  rw [← vS_one]
  exact Sl.of_owns hown
 refine (tell_gen hF _ hin hok _ hns 6 (fun W' hg => code_any (hF.later hg) _ (hin.later hg) 6 (by omega) (by omega) rfl)).mono ?_
 rintro e w' ⟨hg, nv', rfl, hown'⟩
 exact ⟨nv', rfl, by rw [← vS_one] at hown'; exact hown', hg⟩
theorem tell_cyc {w : World} {s : Nat → Addr} (hF : FaultsIn w s) {b : Nat} {nv : Value} (hb : boxAt w b [esN s 7, nv]) {α : Type} (f : α → ByteArray) (l : List α) (hown : ∃ B, w.ownsRow B 9 1 nv l.length (l.map fun i => .string (f i))) (hl : l.length ≤ 1048576) :
  Calls Tryz.prog 28 #[.iface 119 (.pointer (some ⟨b, 0, none⟩))] w fun e w' => ∃ nv, e = .returned (.agg #[.int .i64 7, .int .i64 0, .int .i64 0, .int .i64 0, nv]) ∧ w'.ownsRow w.heap.size 9 1 nv l.length (l.map fun i => .string (f i)) ∧ Gr w w' := by
 obtain ⟨B, hown⟩ := hown
 have hin : (Er.wrap .named b nv (.leaf (s 7))).In w := ⟨hb.cell 0 _ rfl, hb.cell 1 _ rfl, hF.leaf 7 (by omega) (by omega)⟩
 have hok : (Er.wrap .named b nv (.leaf (s 7))).ok := ⟨fun h => absurd rfl h, trivial⟩
 have hns : NamesOf w (Er.wrap .named b nv (.leaf (s 7))) (l.map fun i => (f i).data.toList) := by
  show ∃ y, _
  refine ⟨nv, hb.cell 1 _ rfl, ?_, by rw [List.length_map]; omega⟩
  rw [← vS_map, List.length_map]
  exact Sl.of_owns hown
 refine (tell_gen hF _ hin hok _ hns 7 (fun W' hg => code_any (hF.later hg) _ (hin.later hg) 7 (by omega) (by omega) rfl)).mono ?_
 rintro e w' ⟨hg, nv', rfl, hown'⟩
 exact ⟨nv', rfl, by rw [← vS_map, List.length_map] at hown'; exact hown', hg⟩
theorem faults_glo {w : World} {s : Nat → Addr} (hF : FaultsIn w s) : w.cell? ⟨0, 0, none⟩ = some (esN s 15) ∧ w.cell? ⟨3, 0, none⟩ = some (esN s 6) ∧ w.cell? ⟨1, 0, none⟩ = some (esN s 7) :=
 ⟨hF.var 15 (by omega) (by omega), hF.var 6 (by omega) (by omega), hF.var 7 (by omega) (by omega)⟩
end Go.Proofs.YtkkopdmemjncdaaGreatDoor
