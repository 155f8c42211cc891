/- Texts of mine, put together: AsPlaced, AsNamed, AsRuled, AsStaged. No condition but what each says. -/
import Derived.Test.YtkkopdmemjncdaaGreatDoorPHa
namespace Go.Proofs.YtkkopdmemjncdaaGreatDoor
open Go Go.RowKit Go.Extern.Stop Go.Stop Go.Extern
set_option maxRecDepth 1000000 in
set_option maxHeartbeats 8000000 in
theorem
    as_placed {W : World} (e : Er) (he : e.In W) (tb : Nat) (old : Value) (ht : W.cell? ⟨tb, 0, none⟩ = some old) (hf : W.frozen? ⟨tb, 0, none⟩ = false) (vb : Nat) (hv : W.cell? ⟨vb, 0, none⟩ = some (.pointer (some ⟨tb, 0, none⟩))) :
  Calls Tryz.prog 95 #[e.val, .iface 116 (.pointer (some ⟨tb, 0, none⟩)), .agg #[.pointer (some ⟨17, 116, none⟩), .pointer (some ⟨vb, 0, none⟩), .int .u64 150], .iface 184 (.agg #[.pointer (some ⟨17, 114, none⟩)])] W fun x w' => AsTold W w' .placed e tb x := by
 have hT := @run_callFunc_extern Tryz.prog 114 _ Extern.ReflectliteType.typeOf Tryz.func114 (by kernel_rfl) (by kernel_rfl) (by kernel_rfl) (by kernel_rfl)
 have hV := @run_callFunc_extern Tryz.prog 92 _ (fun args => ReflectliteValue.unpack (args.getD 0 (.tuple #[]))) Tryz.func92 (by kernel_rfl) (by kernel_rfl) (by kernel_rfl) (by kernel_rfl)
 have hAT := @run_callFunc_extern Tryz.prog 168 _ (ReflectliteType.relation "AssignableTo" ReflectliteType.assignableTo) Tryz.func168 (by kernel_rfl) (by kernel_rfl) (by kernel_rfl) (by kernel_rfl)
 have hEl := @run_callFunc_extern Tryz.prog 116 _ (ReflectliteValue.method (ReflectliteValue.valueError "reflectlite.Value.Elem" 0) ReflectliteValue.elem) Tryz.func116 (by kernel_rfl) (by kernel_rfl) (by kernel_rfl) (by kernel_rfl)
 have hSet := @run_callFunc_extern Tryz.prog 117 _ ReflectliteValue.set Tryz.func117 (by kernel_rfl) (by kernel_rfl) (by kernel_rfl) (by kernel_rfl)
 have HE := Lib.hid he
 have HFR := Lib.hid hf
 have mA := rt_assign
 have tlt : tb < W.heap.size := World.block_lt_of_cell? W _ ht
 have vlt : vb < W.heap.size := World.block_lt_of_cell? W _ hv
 obtain ⟨t0, p0, hv0⟩ := e.val_iface
 have HV := Lib.hid hv0
 rw [hv0]
 clear hv0 he
 go_enter Tryz.func95, Tryz.ntmps95
 go_wp2_with fail
 refine name_world (fun W1 hW => ?_)
 have hg1 : Gr W W1 := by rw [hW]; exact Gr.alloc _ _
 have xb : boxAt W1 W.heap.size [.pointer (some ⟨17, 116, none⟩), .pointer (some ⟨vb, 0, none⟩), .int .u64 150] := boxAt.new _ _ hW
 clear hW
 go_loopw [0] (fun E' wl => Gr W1 wl ∧ ∃ f : Er, E' = f.val ∧ Hid (f.In W1) ∧ Hid (f.first .placed = e.first .placed)) (fun E' wl => erLen W1 E')
 case atStart => exact ⟨Gr.refl _, e, HV.out.symm, Lib.hid (HE.out.later hg1), Lib.hid rfl⟩
 case round =>
  obtain ⟨hgx, f, rfl, HF, HFB⟩ := hrel
  replace xb := xb.later hgx
  have hg := hg1.trans hgx
  have hvr := hg.cell hv
  have htr := hg.cell ht
  have hfr := hg.frozen (p := ⟨tb, 0, none⟩) tlt HFR.out
  have tl2 : tb < wr.heap.size := by have := hg.size; omega
  have vl2 : vb < wr.heap.size := by have := hg.size; omega
  cases f with
  |
   leaf a =>
   unfold Er.val
   have tO := es_typeOf
   have aF := placed_assignE
   have nA := es_noAs
   have nU := es_noUnwrap
   have nV := es_noUnwraps
   go_wp2_with fail
   go_ret
   exact ⟨wr, hg, by rw [← HFB.out]; exact ⟨rfl, rfl⟩⟩
  |
   wrap kk bb x g =>
   obtain ⟨h1, _, h3⟩ := HF.out
   have HG := Lib.hid h3
   have HD := Lib.hid (show erLen W1 g.val < erLen W1 (Er.wrap kk bb x g).val by rw [erLen_eq h3, erLen_eq HF.out]; simp [Er.depth])
   have hc := hgx.cell h1
   obtain ⟨t1, p1, hv1⟩ := g.val_iface
   rw [hv1] at hc HD
   have HV1 := Lib.hid hv1
   clear h1 h3 hv1 HF
   cases kk
   ·
    have tO := placed_typeOf
    have aF := assign_placed_placed
    have el := placed_elemV ⟨vb, 0, none⟩ ⟨tb, 0, none⟩ wr hvr
    have vO := placed_valueOf ⟨bb, 0, none⟩ wr
    have st := placed_set ⟨tb, 0, none⟩ ⟨wr.heap.size, 0, none⟩ ⟨bb, 0, none⟩ old (wr.alloc (.cells #[.pointer (some ⟨bb, 0, none⟩)] 114)) (by simp) (by rw [World.cell?_alloc_lt _ _ ⟨tb, 0, none⟩ tl2]; exact htr) (by rw [World.frozen?_alloc_old _ _ ⟨tb, 0, none⟩ (Nat.ne_of_lt tl2)]; exact hfr)
    unfold Er.val Wr.ty
    obtain ⟨c_x0, c_x1, c_x2, m_x0, m_x1, m_x2, l_x⟩ := unb3 xb
    go_wp2_with fail
    go_ret
    exact ⟨wr.alloc (.cells #[.pointer (some ⟨bb, 0, none⟩)] 114), hg.trans (Gr.alloc _ _), by rw [← HFB.out]; exact ⟨rfl, (World.setCell_alloc_past _ _ _ _ tl2).symm⟩⟩
   ·
    have tO := named_typeOf
    have aF := assign_named_placed
    have nA := named_noAs
    have uW := named_hasUnwrap
    have mU := named_method
    unfold Er.val Wr.ty at HD ⊢
    go_wp2_with fail
    go_at_call 159
    refine (named_unwrap bb _ wr hc).mono ?_; rintro e' w1 ⟨rfl, hb1⟩
    go_wp2_with fail
    go_roundw
    case rel => exact ⟨hgx.trans hb1, g, HV1.out.symm, HG, Lib.hid HFB.out⟩
    case measure => exact HD.out
   ·
    have tO := ruled_typeOf
    have aF := assign_ruled_placed
    have nA := ruled_noAs
    have uW := ruled_hasUnwrap
    have mU := ruled_method
    unfold Er.val Wr.ty at HD ⊢
    go_wp2_with fail
    go_at_call 161
    refine (ruled_unwrap bb _ wr hc).mono ?_; rintro e' w1 ⟨rfl, hb1⟩
    go_wp2_with fail
    go_roundw
    case rel => exact ⟨hgx.trans hb1, g, HV1.out.symm, HG, Lib.hid HFB.out⟩
    case measure => exact HD.out
   ·
    have tO := staged_typeOf
    have aF := assign_staged_placed
    have nA := staged_noAs
    have uW := staged_hasUnwrap
    have mU := staged_method
    unfold Er.val Wr.ty at HD ⊢
    go_wp2_with fail
    go_at_call 163
    refine (staged_unwrap bb _ wr hc).mono ?_; rintro e' w1 ⟨rfl, hb1⟩
    go_wp2_with fail
    go_roundw
    case rel => exact ⟨hgx.trans hb1, g, HV1.out.symm, HG, Lib.hid HFB.out⟩
    case measure => exact HD.out
set_option maxRecDepth 1000000 in
set_option maxHeartbeats 8000000 in
theorem asTop_placed {w : World} (e : Er) (he : e.In w) (tb : Nat) (old : Value) (ht : w.cell? ⟨tb, 0, none⟩ = some old) (hf : w.frozen? ⟨tb, 0, none⟩ = false) (hg : w.cell? ⟨2, 0, none⟩ = some (.iface 184 (.agg #[.pointer (some ⟨17, 41, none⟩)]))) :
  Calls Tryz.prog 60 #[e.val, .iface 116 (.pointer (some ⟨tb, 0, none⟩))] w fun x w' => AsTold w w' .placed e tb x := by
 have hT := @run_callFunc_extern Tryz.prog 114 _ Extern.ReflectliteType.typeOf Tryz.func114 (by kernel_rfl) (by kernel_rfl) (by kernel_rfl) (by kernel_rfl)
 have hV := @run_callFunc_extern Tryz.prog 92 _ (fun args => ReflectliteValue.unpack (args.getD 0 (.tuple #[]))) Tryz.func92 (by kernel_rfl) (by kernel_rfl) (by kernel_rfl) (by kernel_rfl)
 have hTy := @run_callFunc_extern Tryz.prog 93 _ (ReflectliteValue.methodAny (ReflectliteValue.valueError "reflectlite.Value.Type" 0) (fun t _ _ _ => ReflectliteType.toType t)) Tryz.func93 (by kernel_rfl) (by kernel_rfl) (by kernel_rfl) (by kernel_rfl)
 have hNil := @run_callFunc_extern Tryz.prog 94 _ (ReflectliteValue.method (ReflectliteValue.valueError "reflectlite.Value.IsNil" 0) ReflectliteValue.isNil) Tryz.func94 (by kernel_rfl) (by kernel_rfl) (by kernel_rfl) (by kernel_rfl)
 have hKd := @run_callFunc_extern Tryz.prog 153 _ (ReflectliteType.abiMethod fun t => do pure (.int .u8 (← Rtype.kind t))) Tryz.func153 (by kernel_rfl) (by kernel_rfl) (by kernel_rfl) (by kernel_rfl)
 have hEt := @run_callFunc_extern Tryz.prog 170 _ (ReflectliteType.method ReflectliteType.elem) Tryz.func170 (by kernel_rfl) (by kernel_rfl) (by kernel_rfl) (by kernel_rfl)
 have hIm := @run_callFunc_extern Tryz.prog 171 _ (ReflectliteType.relation "Implements" ReflectliteType.implements_) Tryz.func171 (by kernel_rfl) (by kernel_rfl) (by kernel_rfl) (by kernel_rfl)
 have f6 := placed_valueOfP
 have f7 := placed_type
 have mK := rt_kind
 have mE := rt_elem
 have mI := rt_impl
 have k1 := placed_kindP
 have k2 := placed_kind
 have e1 := placed_elemT
 have i1 := placed_impl
 have HE := Lib.hid he
 have HFR := Lib.hid hf
 have HAS := Lib.hid (fun (W : World) (hgw : Gr w W) (vb : Nat) (hv : W.cell? ⟨vb, 0, none⟩ = some (.pointer (some ⟨tb, 0, none⟩))) => as_placed (W := W) e (he.later hgw) tb old (hgw.cell ht) (hgw.frozen (p := ⟨tb, 0, none⟩) (World.block_lt_of_cell? w _ ht) hf) vb hv)
 have glt : 2 < w.heap.size := World.block_lt_of_cell? w _ hg
 obtain ⟨t0, p0, hv0⟩ := e.val_iface
 have HV := Lib.hid hv0
 rw [hv0] at HAS ⊢
 clear hv0 he hf ht
 have n8 := fun W ha => placed_isNil ⟨w.heap.size, 0, none⟩ ⟨tb, 0, none⟩ W ha
 go_enter Tryz.func60, Tryz.ntmps60
 go_wp2_with fail
 go_at_call 95
 refine name_calls (fun W hW => ?_)
 have hgW : Gr w W := by rw [hW]; exact (Gr.alloc _ _).trans (Gr.alloc _ _)
 have hvb : W.cell? ⟨w.heap.size, 0, none⟩ = some (.pointer (some ⟨tb, 0, none⟩)) := by
  rw [hW]; exact (Gr.alloc _ _).cell ((boxAt.new [.pointer (some ⟨tb, 0, none⟩)] 116 rfl).cell 0 _ rfl)
 clear hW
 refine (HAS.out W hgW w.heap.size hvb).mono ?_
 rintro e' w1 ⟨w2, hg2, hm⟩
 cases hfi : e.first .placed with
 |
  none =>
  rw [hfi] at hm
  obtain ⟨rfl, rfl⟩ := hm
  have HFI := Lib.hid hfi
  clear hfi
  go_wp2_with fail
  go_ret
  exact ⟨w1, hgW.trans hg2, by rw [HFI.out]; exact ⟨rfl, rfl⟩⟩
 |
  some b =>
  rw [hfi] at hm
  obtain ⟨rfl, rfl⟩ := hm
  have HFI := Lib.hid hfi
  clear hfi
  go_wp2_with fail
  go_ret
  exact ⟨w2, hgW.trans hg2, by rw [HFI.out]; exact ⟨rfl, rfl⟩⟩
end Go.Proofs.YtkkopdmemjncdaaGreatDoor
namespace Go.Proofs.YtkkopdmemjncdaaGreatDoor
open Go Go.RowKit Go.Extern.Stop Go.Stop Go.Extern
set_option maxRecDepth 1000000 in
set_option maxHeartbeats 8000000 in
theorem
    as_named {W : World} (e : Er) (he : e.In W) (tb : Nat) (old : Value) (ht : W.cell? ⟨tb, 0, none⟩ = some old) (hf : W.frozen? ⟨tb, 0, none⟩ = false) (vb : Nat) (hv : W.cell? ⟨vb, 0, none⟩ = some (.pointer (some ⟨tb, 0, none⟩))) :
  Calls Tryz.prog 95 #[e.val, .iface 120 (.pointer (some ⟨tb, 0, none⟩)), .agg #[.pointer (some ⟨17, 120, none⟩), .pointer (some ⟨vb, 0, none⟩), .int .u64 150], .iface 184 (.agg #[.pointer (some ⟨17, 119, none⟩)])] W fun x w' => AsTold W w' .named e tb x := by
 have hT := @run_callFunc_extern Tryz.prog 114 _ Extern.ReflectliteType.typeOf Tryz.func114 (by kernel_rfl) (by kernel_rfl) (by kernel_rfl) (by kernel_rfl)
 have hV := @run_callFunc_extern Tryz.prog 92 _ (fun args => ReflectliteValue.unpack (args.getD 0 (.tuple #[]))) Tryz.func92 (by kernel_rfl) (by kernel_rfl) (by kernel_rfl) (by kernel_rfl)
 have hAT := @run_callFunc_extern Tryz.prog 168 _ (ReflectliteType.relation "AssignableTo" ReflectliteType.assignableTo) Tryz.func168 (by kernel_rfl) (by kernel_rfl) (by kernel_rfl) (by kernel_rfl)
 have hEl := @run_callFunc_extern Tryz.prog 116 _ (ReflectliteValue.method (ReflectliteValue.valueError "reflectlite.Value.Elem" 0) ReflectliteValue.elem) Tryz.func116 (by kernel_rfl) (by kernel_rfl) (by kernel_rfl) (by kernel_rfl)
 have hSet := @run_callFunc_extern Tryz.prog 117 _ ReflectliteValue.set Tryz.func117 (by kernel_rfl) (by kernel_rfl) (by kernel_rfl) (by kernel_rfl)
 have HE := Lib.hid he
 have HFR := Lib.hid hf
 have mA := rt_assign
 have tlt : tb < W.heap.size := World.block_lt_of_cell? W _ ht
 have vlt : vb < W.heap.size := World.block_lt_of_cell? W _ hv
 obtain ⟨t0, p0, hv0⟩ := e.val_iface
 have HV := Lib.hid hv0
 rw [hv0]
 clear hv0 he
 go_enter Tryz.func95, Tryz.ntmps95
 go_wp2_with fail
 refine name_world (fun W1 hW => ?_)
 have hg1 : Gr W W1 := by rw [hW]; exact Gr.alloc _ _
 have xb : boxAt W1 W.heap.size [.pointer (some ⟨17, 120, none⟩), .pointer (some ⟨vb, 0, none⟩), .int .u64 150] := boxAt.new _ _ hW
 clear hW
 go_loopw [0] (fun E' wl => Gr W1 wl ∧ ∃ f : Er, E' = f.val ∧ Hid (f.In W1) ∧ Hid (f.first .named = e.first .named)) (fun E' wl => erLen W1 E')
 case atStart => exact ⟨Gr.refl _, e, HV.out.symm, Lib.hid (HE.out.later hg1), Lib.hid rfl⟩
 case round =>
  obtain ⟨hgx, f, rfl, HF, HFB⟩ := hrel
  replace xb := xb.later hgx
  have hg := hg1.trans hgx
  have hvr := hg.cell hv
  have htr := hg.cell ht
  have hfr := hg.frozen (p := ⟨tb, 0, none⟩) tlt HFR.out
  have tl2 : tb < wr.heap.size := by have := hg.size; omega
  have vl2 : vb < wr.heap.size := by have := hg.size; omega
  cases f with
  |
   leaf a =>
   unfold Er.val
   have tO := es_typeOf
   have aF := named_assignE
   have nA := es_noAs
   have nU := es_noUnwrap
   have nV := es_noUnwraps
   go_wp2_with fail
   go_ret
   exact ⟨wr, hg, by rw [← HFB.out]; exact ⟨rfl, rfl⟩⟩
  |
   wrap kk bb x g =>
   obtain ⟨h1, _, h3⟩ := HF.out
   have HG := Lib.hid h3
   have HD := Lib.hid (show erLen W1 g.val < erLen W1 (Er.wrap kk bb x g).val by rw [erLen_eq h3, erLen_eq HF.out]; simp [Er.depth])
   have hc := hgx.cell h1
   obtain ⟨t1, p1, hv1⟩ := g.val_iface
   rw [hv1] at hc HD
   have HV1 := Lib.hid hv1
   clear h1 h3 hv1 HF
   cases kk
   ·
    have tO := placed_typeOf
    have aF := assign_placed_named
    have nA := placed_noAs
    have uW := placed_hasUnwrap
    have mU := placed_method
    unfold Er.val Wr.ty at HD ⊢
    go_wp2_with fail
    go_at_call 157
    refine (placed_unwrap bb _ wr hc).mono ?_; rintro e' w1 ⟨rfl, hb1⟩
    go_wp2_with fail
    go_roundw
    case rel => exact ⟨hgx.trans hb1, g, HV1.out.symm, HG, Lib.hid HFB.out⟩
    case measure => exact HD.out
   ·
    have tO := named_typeOf
    have aF := assign_named_named
    have el := named_elemV ⟨vb, 0, none⟩ ⟨tb, 0, none⟩ wr hvr
    have vO := named_valueOf ⟨bb, 0, none⟩ wr
    have st := named_set ⟨tb, 0, none⟩ ⟨wr.heap.size, 0, none⟩ ⟨bb, 0, none⟩ old (wr.alloc (.cells #[.pointer (some ⟨bb, 0, none⟩)] 119)) (by simp) (by rw [World.cell?_alloc_lt _ _ ⟨tb, 0, none⟩ tl2]; exact htr) (by rw [World.frozen?_alloc_old _ _ ⟨tb, 0, none⟩ (Nat.ne_of_lt tl2)]; exact hfr)
    unfold Er.val Wr.ty
    obtain ⟨c_x0, c_x1, c_x2, m_x0, m_x1, m_x2, l_x⟩ := unb3 xb
    go_wp2_with fail
    go_ret
    exact ⟨wr.alloc (.cells #[.pointer (some ⟨bb, 0, none⟩)] 119), hg.trans (Gr.alloc _ _), by rw [← HFB.out]; exact ⟨rfl, (World.setCell_alloc_past _ _ _ _ tl2).symm⟩⟩
   ·
    have tO := ruled_typeOf
    have aF := assign_ruled_named
    have nA := ruled_noAs
    have uW := ruled_hasUnwrap
    have mU := ruled_method
    unfold Er.val Wr.ty at HD ⊢
    go_wp2_with fail
    go_at_call 161
    refine (ruled_unwrap bb _ wr hc).mono ?_; rintro e' w1 ⟨rfl, hb1⟩
    go_wp2_with fail
    go_roundw
    case rel => exact ⟨hgx.trans hb1, g, HV1.out.symm, HG, Lib.hid HFB.out⟩
    case measure => exact HD.out
   ·
    have tO := staged_typeOf
    have aF := assign_staged_named
    have nA := staged_noAs
    have uW := staged_hasUnwrap
    have mU := staged_method
    unfold Er.val Wr.ty at HD ⊢
    go_wp2_with fail
    go_at_call 163
    refine (staged_unwrap bb _ wr hc).mono ?_; rintro e' w1 ⟨rfl, hb1⟩
    go_wp2_with fail
    go_roundw
    case rel => exact ⟨hgx.trans hb1, g, HV1.out.symm, HG, Lib.hid HFB.out⟩
    case measure => exact HD.out
set_option maxRecDepth 1000000 in
set_option maxHeartbeats 8000000 in
theorem asTop_named {w : World} (e : Er) (he : e.In w) (tb : Nat) (old : Value) (ht : w.cell? ⟨tb, 0, none⟩ = some old) (hf : w.frozen? ⟨tb, 0, none⟩ = false) (hg : w.cell? ⟨2, 0, none⟩ = some (.iface 184 (.agg #[.pointer (some ⟨17, 41, none⟩)]))) :
  Calls Tryz.prog 60 #[e.val, .iface 120 (.pointer (some ⟨tb, 0, none⟩))] w fun x w' => AsTold w w' .named e tb x := by
 have hT := @run_callFunc_extern Tryz.prog 114 _ Extern.ReflectliteType.typeOf Tryz.func114 (by kernel_rfl) (by kernel_rfl) (by kernel_rfl) (by kernel_rfl)
 have hV := @run_callFunc_extern Tryz.prog 92 _ (fun args => ReflectliteValue.unpack (args.getD 0 (.tuple #[]))) Tryz.func92 (by kernel_rfl) (by kernel_rfl) (by kernel_rfl) (by kernel_rfl)
 have hTy := @run_callFunc_extern Tryz.prog 93 _ (ReflectliteValue.methodAny (ReflectliteValue.valueError "reflectlite.Value.Type" 0) (fun t _ _ _ => ReflectliteType.toType t)) Tryz.func93 (by kernel_rfl) (by kernel_rfl) (by kernel_rfl) (by kernel_rfl)
 have hNil := @run_callFunc_extern Tryz.prog 94 _ (ReflectliteValue.method (ReflectliteValue.valueError "reflectlite.Value.IsNil" 0) ReflectliteValue.isNil) Tryz.func94 (by kernel_rfl) (by kernel_rfl) (by kernel_rfl) (by kernel_rfl)
 have hKd := @run_callFunc_extern Tryz.prog 153 _ (ReflectliteType.abiMethod fun t => do pure (.int .u8 (← Rtype.kind t))) Tryz.func153 (by kernel_rfl) (by kernel_rfl) (by kernel_rfl) (by kernel_rfl)
 have hEt := @run_callFunc_extern Tryz.prog 170 _ (ReflectliteType.method ReflectliteType.elem) Tryz.func170 (by kernel_rfl) (by kernel_rfl) (by kernel_rfl) (by kernel_rfl)
 have hIm := @run_callFunc_extern Tryz.prog 171 _ (ReflectliteType.relation "Implements" ReflectliteType.implements_) Tryz.func171 (by kernel_rfl) (by kernel_rfl) (by kernel_rfl) (by kernel_rfl)
 have f6 := named_valueOfP
 have f7 := named_type
 have mK := rt_kind
 have mE := rt_elem
 have mI := rt_impl
 have k1 := named_kindP
 have k2 := named_kind
 have e1 := named_elemT
 have i1 := named_impl
 have HE := Lib.hid he
 have HFR := Lib.hid hf
 have HAS := Lib.hid (fun (W : World) (hgw : Gr w W) (vb : Nat) (hv : W.cell? ⟨vb, 0, none⟩ = some (.pointer (some ⟨tb, 0, none⟩))) => as_named (W := W) e (he.later hgw) tb old (hgw.cell ht) (hgw.frozen (p := ⟨tb, 0, none⟩) (World.block_lt_of_cell? w _ ht) hf) vb hv)
 have glt : 2 < w.heap.size := World.block_lt_of_cell? w _ hg
 obtain ⟨t0, p0, hv0⟩ := e.val_iface
 have HV := Lib.hid hv0
 rw [hv0] at HAS ⊢
 clear hv0 he hf ht
 have n8 := fun W ha => named_isNil ⟨w.heap.size, 0, none⟩ ⟨tb, 0, none⟩ W ha
 go_enter Tryz.func60, Tryz.ntmps60
 go_wp2_with fail
 go_at_call 95
 refine name_calls (fun W hW => ?_)
 have hgW : Gr w W := by rw [hW]; exact (Gr.alloc _ _).trans (Gr.alloc _ _)
 have hvb : W.cell? ⟨w.heap.size, 0, none⟩ = some (.pointer (some ⟨tb, 0, none⟩)) := by
  rw [hW]; exact (Gr.alloc _ _).cell ((boxAt.new [.pointer (some ⟨tb, 0, none⟩)] 120 rfl).cell 0 _ rfl)
 clear hW
 refine (HAS.out W hgW w.heap.size hvb).mono ?_
 rintro e' w1 ⟨w2, hg2, hm⟩
 cases hfi : e.first .named with
 |
  none =>
  rw [hfi] at hm
  obtain ⟨rfl, rfl⟩ := hm
  have HFI := Lib.hid hfi
  clear hfi
  go_wp2_with fail
  go_ret
  exact ⟨w1, hgW.trans hg2, by rw [HFI.out]; exact ⟨rfl, rfl⟩⟩
 |
  some b =>
  rw [hfi] at hm
  obtain ⟨rfl, rfl⟩ := hm
  have HFI := Lib.hid hfi
  clear hfi
  go_wp2_with fail
  go_ret
  exact ⟨w2, hgW.trans hg2, by rw [HFI.out]; exact ⟨rfl, rfl⟩⟩
end Go.Proofs.YtkkopdmemjncdaaGreatDoor
namespace Go.Proofs.YtkkopdmemjncdaaGreatDoor
open Go Go.RowKit Go.Extern.Stop Go.Stop Go.Extern
set_option maxRecDepth 1000000 in
set_option maxHeartbeats 8000000 in
theorem
    as_ruled {W : World} (e : Er) (he : e.In W) (tb : Nat) (old : Value) (ht : W.cell? ⟨tb, 0, none⟩ = some old) (hf : W.frozen? ⟨tb, 0, none⟩ = false) (vb : Nat) (hv : W.cell? ⟨vb, 0, none⟩ = some (.pointer (some ⟨tb, 0, none⟩))) :
  Calls Tryz.prog 95 #[e.val, .iface 125 (.pointer (some ⟨tb, 0, none⟩)), .agg #[.pointer (some ⟨17, 125, none⟩), .pointer (some ⟨vb, 0, none⟩), .int .u64 150], .iface 184 (.agg #[.pointer (some ⟨17, 124, none⟩)])] W fun x w' => AsTold W w' .ruled e tb x := by
 have hT := @run_callFunc_extern Tryz.prog 114 _ Extern.ReflectliteType.typeOf Tryz.func114 (by kernel_rfl) (by kernel_rfl) (by kernel_rfl) (by kernel_rfl)
 have hV := @run_callFunc_extern Tryz.prog 92 _ (fun args => ReflectliteValue.unpack (args.getD 0 (.tuple #[]))) Tryz.func92 (by kernel_rfl) (by kernel_rfl) (by kernel_rfl) (by kernel_rfl)
 have hAT := @run_callFunc_extern Tryz.prog 168 _ (ReflectliteType.relation "AssignableTo" ReflectliteType.assignableTo) Tryz.func168 (by kernel_rfl) (by kernel_rfl) (by kernel_rfl) (by kernel_rfl)
 have hEl := @run_callFunc_extern Tryz.prog 116 _ (ReflectliteValue.method (ReflectliteValue.valueError "reflectlite.Value.Elem" 0) ReflectliteValue.elem) Tryz.func116 (by kernel_rfl) (by kernel_rfl) (by kernel_rfl) (by kernel_rfl)
 have hSet := @run_callFunc_extern Tryz.prog 117 _ ReflectliteValue.set Tryz.func117 (by kernel_rfl) (by kernel_rfl) (by kernel_rfl) (by kernel_rfl)
 have HE := Lib.hid he
 have HFR := Lib.hid hf
 have mA := rt_assign
 have tlt : tb < W.heap.size := World.block_lt_of_cell? W _ ht
 have vlt : vb < W.heap.size := World.block_lt_of_cell? W _ hv
 obtain ⟨t0, p0, hv0⟩ := e.val_iface
 have HV := Lib.hid hv0
 rw [hv0]
 clear hv0 he
 go_enter Tryz.func95, Tryz.ntmps95
 go_wp2_with fail
 refine name_world (fun W1 hW => ?_)
 have hg1 : Gr W W1 := by rw [hW]; exact Gr.alloc _ _
 have xb : boxAt W1 W.heap.size [.pointer (some ⟨17, 125, none⟩), .pointer (some ⟨vb, 0, none⟩), .int .u64 150] := boxAt.new _ _ hW
 clear hW
 go_loopw [0] (fun E' wl => Gr W1 wl ∧ ∃ f : Er, E' = f.val ∧ Hid (f.In W1) ∧ Hid (f.first .ruled = e.first .ruled)) (fun E' wl => erLen W1 E')
 case atStart => exact ⟨Gr.refl _, e, HV.out.symm, Lib.hid (HE.out.later hg1), Lib.hid rfl⟩
 case round =>
  obtain ⟨hgx, f, rfl, HF, HFB⟩ := hrel
  replace xb := xb.later hgx
  have hg := hg1.trans hgx
  have hvr := hg.cell hv
  have htr := hg.cell ht
  have hfr := hg.frozen (p := ⟨tb, 0, none⟩) tlt HFR.out
  have tl2 : tb < wr.heap.size := by have := hg.size; omega
  have vl2 : vb < wr.heap.size := by have := hg.size; omega
  cases f with
  |
   leaf a =>
   unfold Er.val
   have tO := es_typeOf
   have aF := ruled_assignE
   have nA := es_noAs
   have nU := es_noUnwrap
   have nV := es_noUnwraps
   go_wp2_with fail
   go_ret
   exact ⟨wr, hg, by rw [← HFB.out]; exact ⟨rfl, rfl⟩⟩
  |
   wrap kk bb x g =>
   obtain ⟨h1, _, h3⟩ := HF.out
   have HG := Lib.hid h3
   have HD := Lib.hid (show erLen W1 g.val < erLen W1 (Er.wrap kk bb x g).val by rw [erLen_eq h3, erLen_eq HF.out]; simp [Er.depth])
   have hc := hgx.cell h1
   obtain ⟨t1, p1, hv1⟩ := g.val_iface
   rw [hv1] at hc HD
   have HV1 := Lib.hid hv1
   clear h1 h3 hv1 HF
   cases kk
   ·
    have tO := placed_typeOf
    have aF := assign_placed_ruled
    have nA := placed_noAs
    have uW := placed_hasUnwrap
    have mU := placed_method
    unfold Er.val Wr.ty at HD ⊢
    go_wp2_with fail
    go_at_call 157
    refine (placed_unwrap bb _ wr hc).mono ?_; rintro e' w1 ⟨rfl, hb1⟩
    go_wp2_with fail
    go_roundw
    case rel => exact ⟨hgx.trans hb1, g, HV1.out.symm, HG, Lib.hid HFB.out⟩
    case measure => exact HD.out
   ·
    have tO := named_typeOf
    have aF := assign_named_ruled
    have nA := named_noAs
    have uW := named_hasUnwrap
    have mU := named_method
    unfold Er.val Wr.ty at HD ⊢
    go_wp2_with fail
    go_at_call 159
    refine (named_unwrap bb _ wr hc).mono ?_; rintro e' w1 ⟨rfl, hb1⟩
    go_wp2_with fail
    go_roundw
    case rel => exact ⟨hgx.trans hb1, g, HV1.out.symm, HG, Lib.hid HFB.out⟩
    case measure => exact HD.out
   ·
    have tO := ruled_typeOf
    have aF := assign_ruled_ruled
    have el := ruled_elemV ⟨vb, 0, none⟩ ⟨tb, 0, none⟩ wr hvr
    have vO := ruled_valueOf ⟨bb, 0, none⟩ wr
    have st := ruled_set ⟨tb, 0, none⟩ ⟨wr.heap.size, 0, none⟩ ⟨bb, 0, none⟩ old (wr.alloc (.cells #[.pointer (some ⟨bb, 0, none⟩)] 124)) (by simp) (by rw [World.cell?_alloc_lt _ _ ⟨tb, 0, none⟩ tl2]; exact htr) (by rw [World.frozen?_alloc_old _ _ ⟨tb, 0, none⟩ (Nat.ne_of_lt tl2)]; exact hfr)
    unfold Er.val Wr.ty
    obtain ⟨c_x0, c_x1, c_x2, m_x0, m_x1, m_x2, l_x⟩ := unb3 xb
    go_wp2_with fail
    go_ret
    exact ⟨wr.alloc (.cells #[.pointer (some ⟨bb, 0, none⟩)] 124), hg.trans (Gr.alloc _ _), by rw [← HFB.out]; exact ⟨rfl, (World.setCell_alloc_past _ _ _ _ tl2).symm⟩⟩
   ·
    have tO := staged_typeOf
    have aF := assign_staged_ruled
    have nA := staged_noAs
    have uW := staged_hasUnwrap
    have mU := staged_method
    unfold Er.val Wr.ty at HD ⊢
    go_wp2_with fail
    go_at_call 163
    refine (staged_unwrap bb _ wr hc).mono ?_; rintro e' w1 ⟨rfl, hb1⟩
    go_wp2_with fail
    go_roundw
    case rel => exact ⟨hgx.trans hb1, g, HV1.out.symm, HG, Lib.hid HFB.out⟩
    case measure => exact HD.out
set_option maxRecDepth 1000000 in
set_option maxHeartbeats 8000000 in
theorem asTop_ruled {w : World} (e : Er) (he : e.In w) (tb : Nat) (old : Value) (ht : w.cell? ⟨tb, 0, none⟩ = some old) (hf : w.frozen? ⟨tb, 0, none⟩ = false) (hg : w.cell? ⟨2, 0, none⟩ = some (.iface 184 (.agg #[.pointer (some ⟨17, 41, none⟩)]))) :
  Calls Tryz.prog 60 #[e.val, .iface 125 (.pointer (some ⟨tb, 0, none⟩))] w fun x w' => AsTold w w' .ruled e tb x := by
 have hT := @run_callFunc_extern Tryz.prog 114 _ Extern.ReflectliteType.typeOf Tryz.func114 (by kernel_rfl) (by kernel_rfl) (by kernel_rfl) (by kernel_rfl)
 have hV := @run_callFunc_extern Tryz.prog 92 _ (fun args => ReflectliteValue.unpack (args.getD 0 (.tuple #[]))) Tryz.func92 (by kernel_rfl) (by kernel_rfl) (by kernel_rfl) (by kernel_rfl)
 have hTy := @run_callFunc_extern Tryz.prog 93 _ (ReflectliteValue.methodAny (ReflectliteValue.valueError "reflectlite.Value.Type" 0) (fun t _ _ _ => ReflectliteType.toType t)) Tryz.func93 (by kernel_rfl) (by kernel_rfl) (by kernel_rfl) (by kernel_rfl)
 have hNil := @run_callFunc_extern Tryz.prog 94 _ (ReflectliteValue.method (ReflectliteValue.valueError "reflectlite.Value.IsNil" 0) ReflectliteValue.isNil) Tryz.func94 (by kernel_rfl) (by kernel_rfl) (by kernel_rfl) (by kernel_rfl)
 have hKd := @run_callFunc_extern Tryz.prog 153 _ (ReflectliteType.abiMethod fun t => do pure (.int .u8 (← Rtype.kind t))) Tryz.func153 (by kernel_rfl) (by kernel_rfl) (by kernel_rfl) (by kernel_rfl)
 have hEt := @run_callFunc_extern Tryz.prog 170 _ (ReflectliteType.method ReflectliteType.elem) Tryz.func170 (by kernel_rfl) (by kernel_rfl) (by kernel_rfl) (by kernel_rfl)
 have hIm := @run_callFunc_extern Tryz.prog 171 _ (ReflectliteType.relation "Implements" ReflectliteType.implements_) Tryz.func171 (by kernel_rfl) (by kernel_rfl) (by kernel_rfl) (by kernel_rfl)
 have f6 := ruled_valueOfP
 have f7 := ruled_type
 have mK := rt_kind
 have mE := rt_elem
 have mI := rt_impl
 have k1 := ruled_kindP
 have k2 := ruled_kind
 have e1 := ruled_elemT
 have i1 := ruled_impl
 have HE := Lib.hid he
 have HFR := Lib.hid hf
 have HAS := Lib.hid (fun (W : World) (hgw : Gr w W) (vb : Nat) (hv : W.cell? ⟨vb, 0, none⟩ = some (.pointer (some ⟨tb, 0, none⟩))) => as_ruled (W := W) e (he.later hgw) tb old (hgw.cell ht) (hgw.frozen (p := ⟨tb, 0, none⟩) (World.block_lt_of_cell? w _ ht) hf) vb hv)
 have glt : 2 < w.heap.size := World.block_lt_of_cell? w _ hg
 obtain ⟨t0, p0, hv0⟩ := e.val_iface
 have HV := Lib.hid hv0
 rw [hv0] at HAS ⊢
 clear hv0 he hf ht
 have n8 := fun W ha => ruled_isNil ⟨w.heap.size, 0, none⟩ ⟨tb, 0, none⟩ W ha
 go_enter Tryz.func60, Tryz.ntmps60
 go_wp2_with fail
 go_at_call 95
 refine name_calls (fun W hW => ?_)
 have hgW : Gr w W := by rw [hW]; exact (Gr.alloc _ _).trans (Gr.alloc _ _)
 have hvb : W.cell? ⟨w.heap.size, 0, none⟩ = some (.pointer (some ⟨tb, 0, none⟩)) := by
  rw [hW]; exact (Gr.alloc _ _).cell ((boxAt.new [.pointer (some ⟨tb, 0, none⟩)] 125 rfl).cell 0 _ rfl)
 clear hW
 refine (HAS.out W hgW w.heap.size hvb).mono ?_
 rintro e' w1 ⟨w2, hg2, hm⟩
 cases hfi : e.first .ruled with
 |
  none =>
  rw [hfi] at hm
  obtain ⟨rfl, rfl⟩ := hm
  have HFI := Lib.hid hfi
  clear hfi
  go_wp2_with fail
  go_ret
  exact ⟨w1, hgW.trans hg2, by rw [HFI.out]; exact ⟨rfl, rfl⟩⟩
 |
  some b =>
  rw [hfi] at hm
  obtain ⟨rfl, rfl⟩ := hm
  have HFI := Lib.hid hfi
  clear hfi
  go_wp2_with fail
  go_ret
  exact ⟨w2, hgW.trans hg2, by rw [HFI.out]; exact ⟨rfl, rfl⟩⟩
end Go.Proofs.YtkkopdmemjncdaaGreatDoor
namespace Go.Proofs.YtkkopdmemjncdaaGreatDoor
open Go Go.RowKit Go.Extern.Stop Go.Stop Go.Extern
set_option maxRecDepth 1000000 in
set_option maxHeartbeats 8000000 in
theorem
    as_staged {W : World} (e : Er) (he : e.In W) (tb : Nat) (old : Value) (ht : W.cell? ⟨tb, 0, none⟩ = some old) (hf : W.frozen? ⟨tb, 0, none⟩ = false) (vb : Nat) (hv : W.cell? ⟨vb, 0, none⟩ = some (.pointer (some ⟨tb, 0, none⟩))) :
  Calls Tryz.prog 95 #[e.val, .iface 129 (.pointer (some ⟨tb, 0, none⟩)), .agg #[.pointer (some ⟨17, 129, none⟩), .pointer (some ⟨vb, 0, none⟩), .int .u64 150], .iface 184 (.agg #[.pointer (some ⟨17, 128, none⟩)])] W fun x w' => AsTold W w' .staged e tb x := by
 have hT := @run_callFunc_extern Tryz.prog 114 _ Extern.ReflectliteType.typeOf Tryz.func114 (by kernel_rfl) (by kernel_rfl) (by kernel_rfl) (by kernel_rfl)
 have hV := @run_callFunc_extern Tryz.prog 92 _ (fun args => ReflectliteValue.unpack (args.getD 0 (.tuple #[]))) Tryz.func92 (by kernel_rfl) (by kernel_rfl) (by kernel_rfl) (by kernel_rfl)
 have hAT := @run_callFunc_extern Tryz.prog 168 _ (ReflectliteType.relation "AssignableTo" ReflectliteType.assignableTo) Tryz.func168 (by kernel_rfl) (by kernel_rfl) (by kernel_rfl) (by kernel_rfl)
 have hEl := @run_callFunc_extern Tryz.prog 116 _ (ReflectliteValue.method (ReflectliteValue.valueError "reflectlite.Value.Elem" 0) ReflectliteValue.elem) Tryz.func116 (by kernel_rfl) (by kernel_rfl) (by kernel_rfl) (by kernel_rfl)
 have hSet := @run_callFunc_extern Tryz.prog 117 _ ReflectliteValue.set Tryz.func117 (by kernel_rfl) (by kernel_rfl) (by kernel_rfl) (by kernel_rfl)
 have HE := Lib.hid he
 have HFR := Lib.hid hf
 have mA := rt_assign
 have tlt : tb < W.heap.size := World.block_lt_of_cell? W _ ht
 have vlt : vb < W.heap.size := World.block_lt_of_cell? W _ hv
 obtain ⟨t0, p0, hv0⟩ := e.val_iface
 have HV := Lib.hid hv0
 rw [hv0]
 clear hv0 he
 go_enter Tryz.func95, Tryz.ntmps95
 go_wp2_with fail
 refine name_world (fun W1 hW => ?_)
 have hg1 : Gr W W1 := by rw [hW]; exact Gr.alloc _ _
 have xb : boxAt W1 W.heap.size [.pointer (some ⟨17, 129, none⟩), .pointer (some ⟨vb, 0, none⟩), .int .u64 150] := boxAt.new _ _ hW
 clear hW
 go_loopw [0] (fun E' wl => Gr W1 wl ∧ ∃ f : Er, E' = f.val ∧ Hid (f.In W1) ∧ Hid (f.first .staged = e.first .staged)) (fun E' wl => erLen W1 E')
 case atStart => exact ⟨Gr.refl _, e, HV.out.symm, Lib.hid (HE.out.later hg1), Lib.hid rfl⟩
 case round =>
  obtain ⟨hgx, f, rfl, HF, HFB⟩ := hrel
  replace xb := xb.later hgx
  have hg := hg1.trans hgx
  have hvr := hg.cell hv
  have htr := hg.cell ht
  have hfr := hg.frozen (p := ⟨tb, 0, none⟩) tlt HFR.out
  have tl2 : tb < wr.heap.size := by have := hg.size; omega
  have vl2 : vb < wr.heap.size := by have := hg.size; omega
  cases f with
  |
   leaf a =>
   unfold Er.val
   have tO := es_typeOf
   have aF := staged_assignE
   have nA := es_noAs
   have nU := es_noUnwrap
   have nV := es_noUnwraps
   go_wp2_with fail
   go_ret
   exact ⟨wr, hg, by rw [← HFB.out]; exact ⟨rfl, rfl⟩⟩
  |
   wrap kk bb x g =>
   obtain ⟨h1, _, h3⟩ := HF.out
   have HG := Lib.hid h3
   have HD := Lib.hid (show erLen W1 g.val < erLen W1 (Er.wrap kk bb x g).val by rw [erLen_eq h3, erLen_eq HF.out]; simp [Er.depth])
   have hc := hgx.cell h1
   obtain ⟨t1, p1, hv1⟩ := g.val_iface
   rw [hv1] at hc HD
   have HV1 := Lib.hid hv1
   clear h1 h3 hv1 HF
   cases kk
   ·
    have tO := placed_typeOf
    have aF := assign_placed_staged
    have nA := placed_noAs
    have uW := placed_hasUnwrap
    have mU := placed_method
    unfold Er.val Wr.ty at HD ⊢
    go_wp2_with fail
    go_at_call 157
    refine (placed_unwrap bb _ wr hc).mono ?_; rintro e' w1 ⟨rfl, hb1⟩
    go_wp2_with fail
    go_roundw
    case rel => exact ⟨hgx.trans hb1, g, HV1.out.symm, HG, Lib.hid HFB.out⟩
    case measure => exact HD.out
   ·
    have tO := named_typeOf
    have aF := assign_named_staged
    have nA := named_noAs
    have uW := named_hasUnwrap
    have mU := named_method
    unfold Er.val Wr.ty at HD ⊢
    go_wp2_with fail
    go_at_call 159
    refine (named_unwrap bb _ wr hc).mono ?_; rintro e' w1 ⟨rfl, hb1⟩
    go_wp2_with fail
    go_roundw
    case rel => exact ⟨hgx.trans hb1, g, HV1.out.symm, HG, Lib.hid HFB.out⟩
    case measure => exact HD.out
   ·
    have tO := ruled_typeOf
    have aF := assign_ruled_staged
    have nA := ruled_noAs
    have uW := ruled_hasUnwrap
    have mU := ruled_method
    unfold Er.val Wr.ty at HD ⊢
    go_wp2_with fail
    go_at_call 161
    refine (ruled_unwrap bb _ wr hc).mono ?_; rintro e' w1 ⟨rfl, hb1⟩
    go_wp2_with fail
    go_roundw
    case rel => exact ⟨hgx.trans hb1, g, HV1.out.symm, HG, Lib.hid HFB.out⟩
    case measure => exact HD.out
   ·
    have tO := staged_typeOf
    have aF := assign_staged_staged
    have el := staged_elemV ⟨vb, 0, none⟩ ⟨tb, 0, none⟩ wr hvr
    have vO := staged_valueOf ⟨bb, 0, none⟩ wr
    have st := staged_set ⟨tb, 0, none⟩ ⟨wr.heap.size, 0, none⟩ ⟨bb, 0, none⟩ old (wr.alloc (.cells #[.pointer (some ⟨bb, 0, none⟩)] 128)) (by simp) (by rw [World.cell?_alloc_lt _ _ ⟨tb, 0, none⟩ tl2]; exact htr) (by rw [World.frozen?_alloc_old _ _ ⟨tb, 0, none⟩ (Nat.ne_of_lt tl2)]; exact hfr)
    unfold Er.val Wr.ty
    obtain ⟨c_x0, c_x1, c_x2, m_x0, m_x1, m_x2, l_x⟩ := unb3 xb
    go_wp2_with fail
    go_ret
    exact ⟨wr.alloc (.cells #[.pointer (some ⟨bb, 0, none⟩)] 128), hg.trans (Gr.alloc _ _), by rw [← HFB.out]; exact ⟨rfl, (World.setCell_alloc_past _ _ _ _ tl2).symm⟩⟩
set_option maxRecDepth 1000000 in
set_option maxHeartbeats 8000000 in
theorem asTop_staged {w : World} (e : Er) (he : e.In w) (tb : Nat) (old : Value) (ht : w.cell? ⟨tb, 0, none⟩ = some old) (hf : w.frozen? ⟨tb, 0, none⟩ = false) (hg : w.cell? ⟨2, 0, none⟩ = some (.iface 184 (.agg #[.pointer (some ⟨17, 41, none⟩)]))) :
  Calls Tryz.prog 60 #[e.val, .iface 129 (.pointer (some ⟨tb, 0, none⟩))] w fun x w' => AsTold w w' .staged e tb x := by
 have hT := @run_callFunc_extern Tryz.prog 114 _ Extern.ReflectliteType.typeOf Tryz.func114 (by kernel_rfl) (by kernel_rfl) (by kernel_rfl) (by kernel_rfl)
 have hV := @run_callFunc_extern Tryz.prog 92 _ (fun args => ReflectliteValue.unpack (args.getD 0 (.tuple #[]))) Tryz.func92 (by kernel_rfl) (by kernel_rfl) (by kernel_rfl) (by kernel_rfl)
 have hTy := @run_callFunc_extern Tryz.prog 93 _ (ReflectliteValue.methodAny (ReflectliteValue.valueError "reflectlite.Value.Type" 0) (fun t _ _ _ => ReflectliteType.toType t)) Tryz.func93 (by kernel_rfl) (by kernel_rfl) (by kernel_rfl) (by kernel_rfl)
 have hNil := @run_callFunc_extern Tryz.prog 94 _ (ReflectliteValue.method (ReflectliteValue.valueError "reflectlite.Value.IsNil" 0) ReflectliteValue.isNil) Tryz.func94 (by kernel_rfl) (by kernel_rfl) (by kernel_rfl) (by kernel_rfl)
 have hKd := @run_callFunc_extern Tryz.prog 153 _ (ReflectliteType.abiMethod fun t => do pure (.int .u8 (← Rtype.kind t))) Tryz.func153 (by kernel_rfl) (by kernel_rfl) (by kernel_rfl) (by kernel_rfl)
 have hEt := @run_callFunc_extern Tryz.prog 170 _ (ReflectliteType.method ReflectliteType.elem) Tryz.func170 (by kernel_rfl) (by kernel_rfl) (by kernel_rfl) (by kernel_rfl)
 have hIm := @run_callFunc_extern Tryz.prog 171 _ (ReflectliteType.relation "Implements" ReflectliteType.implements_) Tryz.func171 (by kernel_rfl) (by kernel_rfl) (by kernel_rfl) (by kernel_rfl)
 have f6 := staged_valueOfP
 have f7 := staged_type
 have mK := rt_kind
 have mE := rt_elem
 have mI := rt_impl
 have k1 := staged_kindP
 have k2 := staged_kind
 have e1 := staged_elemT
 have i1 := staged_impl
 have HE := Lib.hid he
 have HFR := Lib.hid hf
 have HAS := Lib.hid (fun (W : World) (hgw : Gr w W) (vb : Nat) (hv : W.cell? ⟨vb, 0, none⟩ = some (.pointer (some ⟨tb, 0, none⟩))) => as_staged (W := W) e (he.later hgw) tb old (hgw.cell ht) (hgw.frozen (p := ⟨tb, 0, none⟩) (World.block_lt_of_cell? w _ ht) hf) vb hv)
 have glt : 2 < w.heap.size := World.block_lt_of_cell? w _ hg
 obtain ⟨t0, p0, hv0⟩ := e.val_iface
 have HV := Lib.hid hv0
 rw [hv0] at HAS ⊢
 clear hv0 he hf ht
 have n8 := fun W ha => staged_isNil ⟨w.heap.size, 0, none⟩ ⟨tb, 0, none⟩ W ha
 go_enter Tryz.func60, Tryz.ntmps60
 go_wp2_with fail
 go_at_call 95
 refine name_calls (fun W hW => ?_)
 have hgW : Gr w W := by rw [hW]; exact (Gr.alloc _ _).trans (Gr.alloc _ _)
 have hvb : W.cell? ⟨w.heap.size, 0, none⟩ = some (.pointer (some ⟨tb, 0, none⟩)) := by
  rw [hW]; exact (Gr.alloc _ _).cell ((boxAt.new [.pointer (some ⟨tb, 0, none⟩)] 129 rfl).cell 0 _ rfl)
 clear hW
 refine (HAS.out W hgW w.heap.size hvb).mono ?_
 rintro e' w1 ⟨w2, hg2, hm⟩
 cases hfi : e.first .staged with
 |
  none =>
  rw [hfi] at hm
  obtain ⟨rfl, rfl⟩ := hm
  have HFI := Lib.hid hfi
  clear hfi
  go_wp2_with fail
  go_ret
  exact ⟨w1, hgW.trans hg2, by rw [HFI.out]; exact ⟨rfl, rfl⟩⟩
 |
  some b =>
  rw [hfi] at hm
  obtain ⟨rfl, rfl⟩ := hm
  have HFI := Lib.hid hfi
  clear hfi
  go_wp2_with fail
  go_ret
  exact ⟨w2, hgW.trans hg2, by rw [HFI.out]; exact ⟨rfl, rfl⟩⟩
end Go.Proofs.YtkkopdmemjncdaaGreatDoor
