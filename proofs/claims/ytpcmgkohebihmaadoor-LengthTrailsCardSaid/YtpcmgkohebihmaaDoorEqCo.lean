/- EqCore, EqCores, EqCuts of bolterref0, of rules and cuts that are the same. No condition. -/
import Derived.Test.YtpcmgkohebihmaaDoorEqE
import Derived.Test.YtpcmgkohebihmaaDoorCuts
import Derived.Test.YtpcmgkohebihmaaDoorLawP
namespace Go.Proofs.YtpcmgkohebihmaaDoor
open Go Go.RowKit

theorem eqE_self : ∀ e, eqE e e = true := by
  refine Ex.all fun op pos s text mn mx args ih => ?_
  have key : ∀ r : List Ex, (∀ a ∈ r, a ∈ args) → eqEL r r = true := by
    intro r
    induction r with
    | nil => intro _; rw [eqEL]
    | cons a r ihr =>
      intro hr
      rw [eqEL, ih a (hr a (by simp)), ihr fun b hb => hr b (by simp [hb])]; rfl
  rw [eqE, key args fun a h => h]
  simp
theorem eqExpr_self (e : Ex) (cs ds : List Value) (w : World) (h : ExIn w e cs) (h2 : ExIn w e ds) : Calls Tryd.prog 14 #[.agg cs.toArray, .agg ds.toArray] w fun e' w' => e' = .returned (.bool true) ∧ Gr w w' := by
  have := eqExpr_any _ e (Nat.le_refl _) e cs ds w h h2
  rw [eqE_self] at this; exact this

/-- A rule's cells, written out. -/
theorem CoIn.form {w : World} {x : Co} {cs : List Value} (h : CoIn w x cs) : ∃ op pos s text mn mx p n c op2 pos2 s2 text2 mn2 mx2 p2 n2 c2, cs = exCells op pos s text mn mx (.slice p n c) ++ .bool x.has :: exCells op2 pos2 s2 text2 mn2 mx2 (.slice p2 n2 c2) ∧
    ExIn w x.head (exCells op pos s text mn mx (.slice p n c)) ∧ ExIn w x.trail (exCells op2 pos2 s2 text2 mn2 mx2 (.slice p2 n2 c2)) := by
  cases h with
  | mk e hb f cs ds he hf =>
    obtain ⟨op, pos, s, text, mn, mx, p, n, c, rfl⟩ := he.form
    obtain ⟨op2, pos2, s2, text2, mn2, mx2, p2, n2, c2, rfl⟩ := hf.form
    exact ⟨op, pos, s, text, mn, mx, p, n, c, op2, pos2, s2, text2, mn2, mx2, p2, n2, c2, rfl, he, hf⟩

set_option maxRecDepth 100000 in
set_option maxHeartbeats 4000000 in
theorem eqCore_self (x : Co) (cs ds : List Value) (w : World) (h : CoIn w x cs) (h2 : CoIn w x ds) : Calls Tryd.prog 33 #[.agg cs.toArray, .agg ds.toArray] w fun e' w' => e' = .returned (.bool true) ∧ Gr w w' := by
  obtain ⟨op, pos, s, text, mn, mx, p, n, c, op2, pos2, s2, text2, mn2, mx2, p2, n2, c2, rfl, ha, hb⟩ := h.form
  obtain ⟨op3, pos3, s3, text3, mn3, mx3, p3, n3, c3, op4, pos4, s4, text4, mn4, mx4, p4, n4, c4, rfl, hc, hd⟩ := h2.form
  obtain ⟨e, b, f⟩ := x
  have HA := Lib.hid (fun (cur : World) (h : Gr w cur) => eqExpr_self e _ _ cur (ha.later h) (hc.later h))
  have HB := Lib.hid (fun (cur : World) (h : Gr w cur) => eqExpr_self f _ _ cur (hb.later h) (hd.later h))
  clear h h2 ha hb hc hd
  unfold exCells at HA HB ⊢
  dsimp only [List.cons_append, List.nil_append]
  go_enter Tryd.func33, Tryd.ntmps33
  go_wp2_with fail
  go_at_call 14
  refine name_calls (fun W hW => ?_)
  obtain ⟨xa, xb, hgW, _⟩ : boxAt W w.heap.size ([.int .i64 op, .int .i64 pos, .int .u64 (wd s 0), .int .u64 (wd s 1), .int .u64 (wd s 2), .int .u64 (wd s 3), .string text, .int .i64 mn, .int .i64 mx, (.slice p n c)] ++ .bool b :: [.int .i64 op2, .int .i64 pos2, .int .u64 (wd s2 0), .int .u64 (wd s2 1), .int .u64 (wd s2 2), .int .u64 (wd s2 3), .string text2, .int .i64 mn2, .int .i64 mx2, (.slice p2 n2 c2)]) ∧ boxAt W (w.heap.size + 1) ([.int .i64 op3, .int .i64 pos3, .int .u64 (wd s3 0), .int .u64 (wd s3 1), .int .u64 (wd s3 2), .int .u64 (wd s3 3), .string text3, .int .i64 mn3, .int .i64 mx3, (.slice p3 n3 c3)] ++ .bool b :: [.int .i64 op4, .int .i64 pos4, .int .u64 (wd s4 0), .int .u64 (wd s4 1), .int .u64 (wd s4 2), .int .u64 (wd s4 3), .string text4, .int .i64 mn4, .int .i64 mx4, (.slice p4 n4 c4)]) ∧ Gr w W ∧ _ := by
    rw [hW]; exact bx2e w ([.int .i64 op, .int .i64 pos, .int .u64 (wd s 0), .int .u64 (wd s 1), .int .u64 (wd s 2), .int .u64 (wd s 3), .string text, .int .i64 mn, .int .i64 mx, (.slice p n c)] ++ .bool b :: [.int .i64 op2, .int .i64 pos2, .int .u64 (wd s2 0), .int .u64 (wd s2 1), .int .u64 (wd s2 2), .int .u64 (wd s2 3), .string text2, .int .i64 mn2, .int .i64 mx2, (.slice p2 n2 c2)]) ([.int .i64 op3, .int .i64 pos3, .int .u64 (wd s3 0), .int .u64 (wd s3 1), .int .u64 (wd s3 2), .int .u64 (wd s3 3), .string text3, .int .i64 mn3, .int .i64 mx3, (.slice p3 n3 c3)] ++ .bool b :: [.int .i64 op4, .int .i64 pos4, .int .u64 (wd s4 0), .int .u64 (wd s4 1), .int .u64 (wd s4 2), .int .u64 (wd s4 3), .string text4, .int .i64 mn4, .int .i64 mx4, (.slice p4 n4 c4)]) 52 52
  clear hW
  refine (HA.out W hgW).mono ?_; rintro e' w2 ⟨rfl, hg⟩
  replace xa := xa.later hg
  replace xb := xb.later hg
  replace hgW := hgW.trans hg
  clear hg
  have c_a11 := xa.cell 11 _ rfl
  have c_b11 := xb.cell 11 _ rfl
  have c_a12 := xa.cell 12 _ rfl
  have c_b12 := xb.cell 12 _ rfl
  have c_a13 := xa.cell 13 _ rfl
  have c_b13 := xb.cell 13 _ rfl
  have c_a14 := xa.cell 14 _ rfl
  have c_b14 := xb.cell 14 _ rfl
  have c_a15 := xa.cell 15 _ rfl
  have c_b15 := xb.cell 15 _ rfl
  have c_a16 := xa.cell 16 _ rfl
  have c_b16 := xb.cell 16 _ rfl
  have c_a17 := xa.cell 17 _ rfl
  have c_b17 := xb.cell 17 _ rfl
  have c_a18 := xa.cell 18 _ rfl
  have c_b18 := xb.cell 18 _ rfl
  have c_a19 := xa.cell 19 _ rfl
  have c_b19 := xb.cell 19 _ rfl
  have c_a20 := xa.cell 20 _ rfl
  have c_b20 := xb.cell 20 _ rfl
  go_wp2_with fail
  go_at_call 14
  refine (HB.out w2 hgW).mono ?_; rintro e' w3 ⟨rfl, hg⟩
  go_wp2_with fail
  go_ret
  exact ⟨rfl, hgW.trans hg⟩

/-- A read of a whole row, in a region. -/
theorem wpG_load_at {P : Program} {ops : Array Oper} {S : World → Prop} {Q : Act → World → Prop} {a : Act} {w : World} {o : Oper} {rest : PlanT Oper} (hw : Region.wanted o (yielded ops a.tmps) = true) (ty : TypeId) (x : Operand) (ho : o.op = .load ty x)
    (b q : Nat) (hx : a.eval x = .pointer (some ⟨b, q, none⟩)) (cs : List Value) (d : TypeDesc) (hc : ∀ w', S w' → ∀ (j : Nat) (u : Value), cs[j]? = some u → w'.cell? ⟨b, q + j, none⟩ = some u)
    (hu : P.underlying ty = some d) (hd : (match d with | .struct _ | .array _ _ => true | _ => false) = true) (hi : (P.info? ty).map (·.size) = some cs.length)
    (h : wpG P ops Q S rest (a.put o.dst (.agg cs.toArray)) w) : wpG P ops Q S (.take o rest) a w := by
  refine wpG_take hw ⟨_, fun w' hw' => ?_, h⟩
  have hl : (loadCells ⟨b, q, none⟩ cs.length).run P w' = .ok cs.toArray w' :=
    run_loadCells_list (P := P) w' ⟨b, q, none⟩ cs (fun j v hv => by rw [addr_add]; exact hc w' hw' j v hv)
  have hv : (loadVar ty ⟨b, q, none⟩).run P w' = .ok (.agg cs.toArray) w' := by
    cases hq : P.info? ty with
    | none => simp [hq] at hi
    | some i =>
      have hs : i.size = cs.length := by simpa [hq] using hi
      have hagg : (isAgg ty).run P w' = .ok true w' := by
        unfold isAgg
        rw [Sem.run_bind, run_underlying hu w']
        cases d <;> simp_all
      simp [loadVar, Sem.run_bind, hagg, sizeOf, typeInfo, hq, hs, hl]
  unfold execOp
  simp only [ho, hx, Instr.loadAt, Instr.sureAddr, Sem.run_bind, Sem.run_pure, Result.andThen_ok, hv]

set_option maxRecDepth 100000 in
set_option maxHeartbeats 4000000 in
theorem eqCores_self (l l2 : List (Co × List Value)) (v v2 : Value) (w : World) (hs : Sl w v 21 l.length (l.flatMap (·.2))) (hl : ∀ p ∈ l, CoIn w p.1 p.2) (hs2 : Sl w v2 21 l2.length (l2.flatMap (·.2))) (hl2 : ∀ p ∈ l2, CoIn w p.1 p.2) (he : l.map (·.1) = l2.map (·.1)) :
    Calls Tryd.prog 19 #[v, v2] w fun e' w' => e' = .returned (.bool true) ∧ Gr w w' := by
  have hll : l2.length = l.length := by have := congrArg List.length he; simpa using this.symm
  obtain ⟨pv, cv, rfl⟩ := hs.len
  obtain ⟨pv2, cv2, rfl⟩ := hs2.len
  have HS := Lib.hid hs
  have HS2 := Lib.hid hs2
  have HA := Lib.hid hl
  have HA2 := Lib.hid hl2
  have HE := Lib.hid he
  have HLL := Lib.hid hll
  have hb1 : l.length ≤ 9223372036854775807 := hs.2.1
  obtain ⟨n, hn⟩ : ∃ n, l.length = n := ⟨_, rfl⟩
  rw [hll, hn]
  have HN := Lib.hid hn
  rw [hn] at hb1
  clear hs hs2 hl hl2 he hll hn
  go_enter Tryd.func19, Tryd.ntmps19
  go_wp2_with fail
  go_loopw [5] (fun i wr => ∃ j : Nat, j ≤ n ∧ i = .int .i64 (j : Int) ∧ Gr w wr) (fun i _ => n - (intOf i).toNat)
  case atStart => exact ⟨0, by omega, rfl, Gr.refl _⟩
  case round =>
    obtain ⟨j, hj, rfl, hg⟩ := hrel
    by_cases hlt : j < n
    · obtain ⟨b, off, cap, op, pos, s, text, mn, mx, p, m, c, op2, pos2, s2, text2, mn2, mx2, p2, n2, c2, e, hb, f, hv, hbW, ha, he, hf, hat⟩ := cores_at HS.out HA.out j (by have := HN.out; omega)
      obtain ⟨b', off', cap', op3, pos3, s3, text3, mn3, mx3, p3, n3, c3, op4, pos4, s4, text4, mn4, mx4, p4, n4, c4, e', hb', f', hv', hbW', ha', he', hf', hat'⟩ := cores_at HS2.out HA2.out j (by have := HN.out; have := HLL.out; omega)
      simp only [Value.slice.injEq, true_and] at hv hv'
      obtain ⟨rfl, rfl⟩ := hv
      obtain ⟨rfl, rfl⟩ := hv'
      have hx : (⟨e, hb, f⟩ : Co) = ⟨e', hb', f'⟩ := by
        have h1 : (l.map (·.1))[j]? = some ⟨e, hb, f⟩ := by rw [List.getElem?_map, ha]; rfl
        have h2 : (l2.map (·.1))[j]? = some ⟨e', hb', f'⟩ := by rw [List.getElem?_map, ha']; rfl
        rw [HE.out, h2] at h1
        exact (Option.some.inj h1).symm
      simp only [Co.mk.injEq] at hx
      obtain ⟨rfl, rfl, rfl⟩ := hx
      have HC := Lib.hid (fun (cur : World) (h : Gr wr cur) => eqCore_self ⟨e, hb, f⟩ _ _ cur (CoIn.mk e hb f _ _ (he.later (hg.trans h)) (hf.later (hg.trans h))) (CoIn.mk e hb f _ _ (he'.later (hg.trans h)) (hf'.later (hg.trans h))))
      unfold exCells at HC
      dsimp only [List.cons_append, List.nil_append] at HC
      obtain ⟨hbr, hcell⟩ := hat wr hg
      obtain ⟨hbr2, hcell2⟩ := hat' wr hg
      unfold exCells at hcell hcell2
      have HD := Lib.hid (fun (cur : World) (h : Gr wr cur) (t : Nat) (u : Value) (ht : ([.int .i64 op, .int .i64 pos, .int .u64 (wd s 0), .int .u64 (wd s 1), .int .u64 (wd s 2), .int .u64 (wd s 3), .string text, .int .i64 mn, .int .i64 mx, .slice p m c, .bool hb, .int .i64 op2, .int .i64 pos2, .int .u64 (wd s2 0), .int .u64 (wd s2 1), .int .u64 (wd s2 2), .int .u64 (wd s2 3), .string text2, .int .i64 mn2, .int .i64 mx2, .slice p2 n2 c2] : List Value)[t]? = some u) => h.cell (hcell t u (by have := (List.getElem?_eq_some_iff.1 ht).1; simpa using this) ht))
      have HD2 := Lib.hid (fun (cur : World) (h : Gr wr cur) (t : Nat) (u : Value) (ht : ([.int .i64 op3, .int .i64 pos3, .int .u64 (wd s3 0), .int .u64 (wd s3 1), .int .u64 (wd s3 2), .int .u64 (wd s3 3), .string text3, .int .i64 mn3, .int .i64 mx3, .slice p3 n3 c3, .bool hb, .int .i64 op4, .int .i64 pos4, .int .u64 (wd s4 0), .int .u64 (wd s4 1), .int .u64 (wd s4 2), .int .u64 (wd s4 3), .string text4, .int .i64 mn4, .int .i64 mx4, .slice p4 n4 c4] : List Value)[t]? = some u) => h.cell (hcell2 t u (by have := (List.getElem?_eq_some_iff.1 ht).1; simpa using this) ht))
      have hjI : (j : Int) < (n : Int) := by omega
      have hjN : j < n := hlt
      have HLT := Lib.hid hlt
      clear hcell hcell2 hat hat' ha ha' he hf he' hf' hbW hbW' hlt hj
      go_wp2_with fail
      refine wp_region_G (.take 0 (.take 1 (.take 2 (.take 3 (.take 4 (.take 5 (.take 6 (.take 7 (.run 8 false (.take 9 .nil)))))))))) (by kernel_rfl) (by kernel_rfl) ?_
      simp only [pickOps, nthOp]
      intro wq hG
      repeat (first | (refine wpG_skip_take ?_ ?_; (focus rfl); try simp only [Act.put, List.setIfInBounds_toArray, List.set_cons_zero, List.set_cons_succ]) | (refine wpG_skip_run ?_ ?_; (focus rfl); try simp only [Act.put, List.setIfInBounds_toArray, List.set_cons_zero, List.set_cons_succ]) | (refine wpG_load_at ?_ 52 (.tmp 19) rfl b (off + j * 21) rfl [.int .i64 op, .int .i64 pos, .int .u64 (wd s 0), .int .u64 (wd s 1), .int .u64 (wd s 2), .int .u64 (wd s 3), .string text, .int .i64 mn, .int .i64 mx, .slice p m c, .bool hb, .int .i64 op2, .int .i64 pos2, .int .u64 (wd s2 0), .int .u64 (wd s2 1), .int .u64 (wd s2 2), .int .u64 (wd s2 3), .string text2, .int .i64 mn2, .int .i64 mx2, .slice p2 n2 c2] _ HD.out Tryd.underlying52 rfl (by kernel_rfl) ?_; (focus rfl); try simp only [Act.put, List.setIfInBounds_toArray, List.set_cons_zero, List.set_cons_succ]) | (refine wpG_load_at ?_ 52 (.tmp 23) rfl b' (off' + j * 21) rfl [.int .i64 op3, .int .i64 pos3, .int .u64 (wd s3 0), .int .u64 (wd s3 1), .int .u64 (wd s3 2), .int .u64 (wd s3 3), .string text3, .int .i64 mn3, .int .i64 mx3, .slice p3 n3 c3, .bool hb, .int .i64 op4, .int .i64 pos4, .int .u64 (wd s4 0), .int .u64 (wd s4 1), .int .u64 (wd s4 2), .int .u64 (wd s4 3), .string text4, .int .i64 mn4, .int .i64 mx4, .slice p4 n4 c4] _ HD2.out Tryd.underlying52 rfl (by kernel_rfl) ?_; (focus rfl); try simp only [Act.put, List.setIfInBounds_toArray, List.set_cons_zero, List.set_cons_succ]) | (refine wpG_take ?_ ?_; (focus rfl); apply Exists.intro; refine ⟨fun w' hw' => ?_, ?_⟩; (focus (have hc := Gr.cells hw'; go_simp; (try rfl); done)); try simp only [Act.put, List.setIfInBounds_toArray, List.set_cons_zero, List.set_cons_succ]) | (refine wpG_run ?_ (fun K hK => ?_); (focus rfl); go_simp; (first | (go_at_call 33; (with_reducible refine (HC.out _ hG).mono ?_); rintro e' w7 ⟨rfl, hb⟩)); (try dsimp only); replace hG := hG.trans hb; refine hK.out _ _ hG ?_; clear hK K hb; try simp only [Act.put, List.setIfInBounds_toArray, List.set_cons_zero, List.set_cons_succ]))
      refine wpG_done ?_
      go_wp2_with fail
      go_roundw
      case rel => exact ⟨j + 1, by have := HLT.out; omega, by go_num, hg.trans hG⟩
      case measure => have := HLT.out; simp [intOf]; omega
    · have hjE : j = n := by omega
      clear hlt hj
      subst hjE
      go_wp2_with fail
      go_ret
      exact ⟨rfl, hg⟩

set_option maxRecDepth 100000 in
set_option maxHeartbeats 4000000 in
theorem eqCuts_self (M : List (Int × Int)) (v v2 : Value) (w : World) (hs : Sl w v 2 M.length (M.flatMap cutCells)) (hs2 : Sl w v2 2 M.length (M.flatMap cutCells)) :
    Calls Tryd.prog 18 #[v, v2] w fun e' w' => e' = .returned (.bool true) ∧ Gr w w' := by
  obtain ⟨pv, cv, rfl⟩ := hs.len
  obtain ⟨pv2, cv2, rfl⟩ := hs2.len
  have HS := Lib.hid hs
  have HS2 := Lib.hid hs2
  have hb1 : M.length ≤ 9223372036854775807 := hs.2.1
  obtain ⟨n, hn⟩ : ∃ n, M.length = n := ⟨_, rfl⟩
  have HN := Lib.hid hn
  rw [hn] at hb1 HS HS2 ⊢
  clear hs hs2 hn
  go_enter Tryd.func18, Tryd.ntmps18
  go_wp2_with fail
  go_loopw [5] (fun i wr => ∃ j : Nat, j ≤ n ∧ i = .int .i64 (j : Int) ∧ Gr w wr) (fun i _ => n - (intOf i).toNat)
  case atStart => exact ⟨0, by omega, rfl, Gr.refl _⟩
  case round =>
    obtain ⟨j, hj, rfl, hg⟩ := hrel
    by_cases hlt : j < n
    · obtain ⟨⟨x, y⟩, hx⟩ : ∃ p, M[j]? = some p := ⟨_, List.getElem?_eq_getElem (by have := HN.out; omega)⟩
      obtain ⟨b, off, hv, hbr, hc⟩ : ∃ b off, pv = some ⟨b, off, none⟩ ∧ b < w.heap.size ∧ ∀ t u, (cutCells (x, y))[t]? = some u → t < 2 → w.cell? ⟨b, off + j * 2 + t, none⟩ = some u := by
        obtain ⟨_, _, ⟨_, h0⟩ | ⟨b, off, cap, hv, hb, hc⟩⟩ := HS.out
        · omega
        simp only [Value.slice.injEq, true_and] at hv
        refine ⟨b, off, hv.1, hb (by omega), fun t u hu ht => ?_⟩
        rw [Nat.add_assoc]
        exact hc _ _ ((flatMap_get_of cutCells 2 M (fun _ _ => rfl) j t _ hx ht).trans hu)
      obtain ⟨b', off', hv', hbr', hc'⟩ : ∃ b off, pv2 = some ⟨b, off, none⟩ ∧ b < w.heap.size ∧ ∀ t u, (cutCells (x, y))[t]? = some u → t < 2 → w.cell? ⟨b, off + j * 2 + t, none⟩ = some u := by
        obtain ⟨_, _, ⟨_, h0⟩ | ⟨b, off, cap, hv, hb, hc⟩⟩ := HS2.out
        · omega
        simp only [Value.slice.injEq, true_and] at hv
        refine ⟨b, off, hv.1, hb (by omega), fun t u hu ht => ?_⟩
        rw [Nat.add_assoc]
        exact hc _ _ ((flatMap_get_of cutCells 2 M (fun _ _ => rfl) j t _ hx ht).trans hu)
      subst hv hv'
      have d0 := hg.cell (hc 0 _ rfl (by omega))
      have d1 := hg.cell (hc 1 _ rfl (by omega))
      have f0 := hg.cell (hc' 0 _ rfl (by omega))
      have f1 := hg.cell (hc' 1 _ rfl (by omega))
      simp only [Nat.add_zero] at d0 f0
      have hb1 : b < wr.heap.size := by have := hg.size; omega
      have hb2 : b' < wr.heap.size := by have := hg.size; omega
      have hjI : (j : Int) < (n : Int) := by omega
      have hjN : j < n := hlt
      have HLT := Lib.hid hlt
      clear hc hc' hx hbr hbr' hlt hj
      go_wp2_with fail
      refine wp_region_G (.take 0 (.take 1 (.take 2 (.take 3 (.take 4 (.take 5 (.take 6 (.take 7 (.take 8 .nil))))))))) (by kernel_rfl) (by kernel_rfl) ?_
      simp only [pickOps, nthOp]
      intro wq hG
      repeat (first | (refine wpG_skip_take ?_ ?_; (focus rfl); try simp only [Act.put, List.setIfInBounds_toArray, List.set_cons_zero, List.set_cons_succ]) | (refine wpG_skip_run ?_ ?_; (focus rfl); try simp only [Act.put, List.setIfInBounds_toArray, List.set_cons_zero, List.set_cons_succ]) | (refine wpG_take ?_ ?_; (focus rfl); apply Exists.intro; refine ⟨fun w' hw' => ?_, ?_⟩; (focus (have hc := Gr.cells hw'; go_simp; (try rfl); done)); try simp only [Act.put, List.setIfInBounds_toArray, List.set_cons_zero, List.set_cons_succ]))
      refine wpG_done ?_
      clear d0 d1 f0 f1
      go_wp2_with fail
      go_roundw
      case rel => exact ⟨j + 1, by have := HLT.out; omega, by go_num, hg.trans hG⟩
      case measure => have := HLT.out; simp [intOf]; omega
    · have hjE : j = n := by omega
      clear hlt hj
      subst hjE
      go_wp2_with fail
      go_ret
      exact ⟨rfl, hg⟩

end Go.Proofs.YtpcmgkohebihmaaDoor
