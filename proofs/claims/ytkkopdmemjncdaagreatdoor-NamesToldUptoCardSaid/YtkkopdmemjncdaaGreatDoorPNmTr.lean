/- Regions of bolterlaw6.NamesTold, each a declaration of its own. Printed by gen_nmto.py. No condition. -/
import Derived.Test.YtkkopdmemjncdaaGreatDoorPNmRf
namespace Go.Proofs.YtkkopdmemjncdaaGreatDoor
open Go Go.RowKit

theorem one_anyG (b : Bool) (w : World) : Calls Tryz.prog 29 #[.bool b] w fun e w' => e = .returned (.int .i64 (oneN b : Nat)) ∧ Gr w w' := (one_any6 b w).mono fun e w' ⟨h1, h2⟩ => ⟨h1, by rw [h2]; exact Gr.refl _⟩
theorem oneN_le (b : Bool) : oneN b ≤ 1 := by unfold oneN; split <;> omega
theorem eqI (a b : Int) : (a == b) = decide (a = b) := by
  by_cases h : a = b
  · rw [decide_eq_true h, beq_iff_eq]; exact h
  · rw [decide_eq_false h, beq_eq_false_iff_ne]; exact h
theorem eqT (a b : ByteArray) : (a.toList == b.toList) = decide (a = b) := by
  by_cases h : a = b
  · rw [decide_eq_true h, beq_iff_eq, h]
  · rw [decide_eq_false h, beq_eq_false_iff_ne]; exact fun e => h (toList_inj e)
def regAt (n : Nat) : Code → Option Code
  | .region k ops d => if k = n then some (.region k ops d) else none
  | .seq a b => match regAt n a with
    | some c => some c
    | none => regAt n b
  | .loop c => regAt n c
  | .block _ c => regAt n c
  | .scope c => regAt n c
  | .cond _ a b => match regAt n a with
    | some c => some c
    | none => regAt n b
  | _ => none
noncomputable def r13_any_code : Code := ((Tryz.f6.body.bind (regAt 13)).getD .skip)
set_option maxRecDepth 1000000 in
set_option maxHeartbeats 16000000 in
theorem r13_any (W : World) (sb fb b8 o8 bn on k m dd1 ns cm cn : Nat) (v1 v2 : Value) (nam mn : ByteArray) (pl mp : Int)
    (xs : boxAt W sb [.slice (some ⟨b8, o8, none⟩) ns cm, v1, v2]) (xf : boxAt W fb [.int .i64 6, .int .i64 0, .int .i64 0, .int .i64 pl, .slice (some ⟨bn, on, none⟩) 1 cn])
    (k0 : W.cell? ⟨b8, o8 + k * 3, none⟩ = some (.string mn)) (k2 : W.cell? ⟨b8, o8 + k * 3 + 2, none⟩ = some (.int .i64 mp)) (kn : W.cell? ⟨bn, on, none⟩ = some (.string nam)) (hbr : b8 < W.heap.size) (hbn : bn < W.heap.size) (hkI : (k : Int) < (ns : Int)) (hns16 : (ns : Int) ≤ 16) (hm2 : m + dd1 ≤ 2097152) (hc1 : oneN (decide (mp = pl) && decide (mn = nam)) = dd1)
    (c0 c2 c3 c4 c8 c9 c10 c11 c12 c13 c14 c15 c16 c17 c18 c19 c20 c21 c22 c23 c24 c25 c26 c27 c28 c29 c30 c31 c32 c33 c34 c35 c36 c37 c38 c39 c40 c41 c42 c43 c44 c45 c46 c47 c48 c49 c50 c51 c52 c53 c54 c55 c56 c57 c58 c59 c60 c61 c62 c63 c64 c65 c66 c67 c68 c69 c70 c71 c72 c73 c74 c75 c76 c77 c78 c79 c80 c81 c82 c83 c84 c85 c86 c87 c88 c89 c90 c91 c92 c93 c94 c95 c96 c97 c98 c99 c100 c101 c102 c103 c104 c105 c106 c107 c108 c109 c110 c111 c112 c113 c114 c115 c116 c117 c118 c119 c120 c121 c122 c123 c124 c125 c126 c127 c128 c129 c130 c131 c132 c133 c134 c135 c136 c137 c138 c139 c140 c141 c142 c143 c144 c145 c146 c147 c148 c149 c150 c151 c152 c153 c154 c155 c156 c157 c158 c159 c160 c161 c162 c163 c164 c165 c166 c167 c168 c169 c170 c171 c172 c173 c174 c175 c176 c177 c178 c179 c180 c181 c182 c183 c184 c185 c186 c187 c188 c189 c190 c191 c192 c193 c194 c195 c196 c197 c198 c199 c200 c201 c202 c203 c204 c205 c206 c207 c208 c209 c210 c211 c212 c213 c214 c215 c216 c217 c218 c219 c220 c221 c222 c223 c224 c225 c226 c227 c228 c229 c230 c231 c232 c233 c234 c235 c236 c237 c238 c239 c240 c241 c242 c243 c244 c245 c246 c247 : Value) (Q0 : Exit → Act → World → Prop)

    (hK : ∀ (u73 u74 u75 u76 u77 u78 u79 u80 u81 u82 u83 u84 u85 u86 u87 u88 u89 u90 u91 u92 u93 u94 u95 u96 u97 : Value) (w' : World), Gr W w' → Q0 .normal ⟨(List.toArray (c0 :: .pointer (some ⟨sb, 0, none⟩) :: c2 :: c3 :: c4 :: .pointer (some ⟨fb, 0, none⟩) :: .int .i64 ((m : Int) + (dd1 : Int)) :: .int .i64 (k : Int) :: c8 :: c9 :: c10 :: c11 :: c12 :: c13 :: c14 :: c15 :: c16 :: c17 :: c18 :: c19 :: c20 :: c21 :: c22 :: c23 :: c24 :: c25 :: c26 :: c27 :: c28 :: c29 :: c30 :: c31 :: c32 :: c33 :: c34 :: c35 :: c36 :: c37 :: c38 :: c39 :: c40 :: c41 :: c42 :: c43 :: c44 :: c45 :: c46 :: c47 :: c48 :: c49 :: c50 :: c51 :: c52 :: c53 :: c54 :: c55 :: c56 :: c57 :: c58 :: c59 :: c60 :: c61 :: c62 :: c63 :: c64 :: c65 :: c66 :: c67 :: c68 :: c69 :: c70 :: c71 :: c72 :: u73 :: u74 :: u75 :: u76 :: u77 :: u78 :: u79 :: u80 :: u81 :: u82 :: u83 :: u84 :: u85 :: u86 :: u87 :: u88 :: u89 :: u90 :: u91 :: u92 :: u93 :: u94 :: u95 :: u96 :: u97 :: c98 :: c99 :: c100 :: c101 :: c102 :: c103 :: c104 :: c105 :: c106 :: c107 :: c108 :: c109 :: c110 :: c111 :: c112 :: c113 :: c114 :: c115 :: c116 :: c117 :: c118 :: c119 :: c120 :: c121 :: c122 :: c123 :: c124 :: c125 :: c126 :: c127 :: c128 :: c129 :: c130 :: c131 :: c132 :: c133 :: c134 :: c135 :: c136 :: c137 :: c138 :: c139 :: c140 :: c141 :: c142 :: c143 :: c144 :: c145 :: c146 :: c147 :: c148 :: c149 :: c150 :: c151 :: c152 :: c153 :: c154 :: c155 :: c156 :: c157 :: c158 :: c159 :: c160 :: c161 :: c162 :: c163 :: c164 :: c165 :: c166 :: c167 :: c168 :: c169 :: c170 :: c171 :: c172 :: c173 :: c174 :: c175 :: c176 :: c177 :: c178 :: c179 :: c180 :: c181 :: c182 :: c183 :: c184 :: c185 :: c186 :: c187 :: c188 :: c189 :: c190 :: c191 :: c192 :: c193 :: c194 :: c195 :: c196 :: c197 :: c198 :: c199 :: c200 :: c201 :: c202 :: c203 :: c204 :: c205 :: c206 :: c207 :: c208 :: c209 :: c210 :: c211 :: c212 :: c213 :: c214 :: c215 :: c216 :: c217 :: c218 :: c219 :: c220 :: c221 :: c222 :: c223 :: c224 :: c225 :: c226 :: c227 :: c228 :: c229 :: c230 :: c231 :: c232 :: c233 :: c234 :: c235 :: c236 :: c237 :: c238 :: c239 :: c240 :: c241 :: c242 :: c243 :: c244 :: c245 :: c246 :: c247 :: [])), []⟩ w') :
    Code.wp Tryz.prog r13_any_code Q0 ⟨(List.toArray (c0 :: .pointer (some ⟨sb, 0, none⟩) :: c2 :: c3 :: c4 :: .pointer (some ⟨fb, 0, none⟩) :: .int .i64 (m : Int) :: .int .i64 (k : Int) :: c8 :: c9 :: c10 :: c11 :: c12 :: c13 :: c14 :: c15 :: c16 :: c17 :: c18 :: c19 :: c20 :: c21 :: c22 :: c23 :: c24 :: c25 :: c26 :: c27 :: c28 :: c29 :: c30 :: c31 :: c32 :: c33 :: c34 :: c35 :: c36 :: c37 :: c38 :: c39 :: c40 :: c41 :: c42 :: c43 :: c44 :: c45 :: c46 :: c47 :: c48 :: c49 :: c50 :: c51 :: c52 :: c53 :: c54 :: c55 :: c56 :: c57 :: c58 :: c59 :: c60 :: c61 :: c62 :: c63 :: c64 :: c65 :: c66 :: c67 :: c68 :: c69 :: c70 :: c71 :: c72 :: c73 :: c74 :: c75 :: c76 :: c77 :: c78 :: c79 :: c80 :: c81 :: c82 :: c83 :: c84 :: c85 :: c86 :: c87 :: c88 :: c89 :: c90 :: c91 :: c92 :: c93 :: c94 :: c95 :: c96 :: c97 :: c98 :: c99 :: c100 :: c101 :: c102 :: c103 :: c104 :: c105 :: c106 :: c107 :: c108 :: c109 :: c110 :: c111 :: c112 :: c113 :: c114 :: c115 :: c116 :: c117 :: c118 :: c119 :: c120 :: c121 :: c122 :: c123 :: c124 :: c125 :: c126 :: c127 :: c128 :: c129 :: c130 :: c131 :: c132 :: c133 :: c134 :: c135 :: c136 :: c137 :: c138 :: c139 :: c140 :: c141 :: c142 :: c143 :: c144 :: c145 :: c146 :: c147 :: c148 :: c149 :: c150 :: c151 :: c152 :: c153 :: c154 :: c155 :: c156 :: c157 :: c158 :: c159 :: c160 :: c161 :: c162 :: c163 :: c164 :: c165 :: c166 :: c167 :: c168 :: c169 :: c170 :: c171 :: c172 :: c173 :: c174 :: c175 :: c176 :: c177 :: c178 :: c179 :: c180 :: c181 :: c182 :: c183 :: c184 :: c185 :: c186 :: c187 :: c188 :: c189 :: c190 :: c191 :: c192 :: c193 :: c194 :: c195 :: c196 :: c197 :: c198 :: c199 :: c200 :: c201 :: c202 :: c203 :: c204 :: c205 :: c206 :: c207 :: c208 :: c209 :: c210 :: c211 :: c212 :: c213 :: c214 :: c215 :: c216 :: c217 :: c218 :: c219 :: c220 :: c221 :: c222 :: c223 :: c224 :: c225 :: c226 :: c227 :: c228 :: c229 :: c230 :: c231 :: c232 :: c233 :: c234 :: c235 :: c236 :: c237 :: c238 :: c239 :: c240 :: c241 :: c242 :: c243 :: c244 :: c245 :: c246 :: c247 :: [])), []⟩ W := by
  conv => arg 2; whnf
  have HK := Lib.hid hK
  clear hK
  have hw : IntKind.i64.wrap ((m : Int) + (dd1 : Int)) = (m : Int) + (dd1 : Int) := IntWalk.i64_in _ (by omega)
  have c_s0 := xs.cell 0 _ rfl
  have c_s1 := xs.cell 1 _ rfl
  have c_s2 := xs.cell 2 _ rfl
  have m_s0 := xs.mark 0 _ rfl
  have m_s1 := xs.mark 1 _ rfl
  have m_s2 := xs.mark 2 _ rfl
  have l_s := xs.lt (Nat.succ_pos _)
  have c_f0 := xf.cell 0 _ rfl
  have c_f1 := xf.cell 1 _ rfl
  have c_f2 := xf.cell 2 _ rfl
  have c_f3 := xf.cell 3 _ rfl
  have c_f4 := xf.cell 4 _ rfl
  have m_f0 := xf.mark 0 _ rfl
  have m_f1 := xf.mark 1 _ rfl
  have m_f2 := xf.mark 2 _ rfl
  have m_f3 := xf.mark 3 _ rfl
  have m_f4 := xf.mark 4 _ rfl
  have l_f := xf.lt (Nat.succ_pos _)
  have HEI := Lib.hid (eqI mp pl)
  have HET := Lib.hid (eqT mn nam)
  have HC1 := Lib.hid hc1
  clear hc1
  obtain ⟨q, hq⟩ : ∃ b, (mn.toList == nam.toList) = b := ⟨_, rfl⟩
  obtain ⟨b1, hb1⟩ : ∃ b, (mp == pl) = b := ⟨_, rfl⟩
  have HZB := Lib.hid (show oneN (b1 && q) = dd1 by rw [← hb1, ← hq, HEI.out, HET.out]; exact HC1.out)
  clear HEI HET HC1
  cases b1
  · have HZ := Lib.hid (show oneN false = dd1 from HZB.out)
    refine wp_region_G (.take 0 (.take 1 (.take 2 (.take 3 (.take 4 (.take 5 (.take 6 (.take 7 (.take 8 (.take 9 (.take 10 (.take 11 (.take 12 (.take 13 (.take 14 (.take 15 (.take 16 (.take 17 (.take 18 (.take 19 (.take 20 (.take 21 (.take 22 (.run 23 false (.take 24 (.run 25 true .nil)))))))))))))))))))))))))) (by kernel_rfl) (by kernel_rfl) ?_
    simp only [pickOps, nthOp]
    intro wq hG
    repeat (first | (refine wpG_skip_take ?_ ?_; (focus rfl); try simp only [Act.put, List.setIfInBounds_toArray, List.set_cons_zero, List.set_cons_succ]) | (refine wpG_skip_run ?_ ?_; (focus rfl); try simp only [Act.put, List.setIfInBounds_toArray, List.set_cons_zero, List.set_cons_succ]) | (refine wpG_take ?_ ?_; (focus rfl); apply Exists.intro; refine ⟨fun w' hw' => ?_, ?_⟩; (focus (have hc := Gr.cells hw'; go_simp; (try rfl); done)); try simp only [Act.put, List.setIfInBounds_toArray, List.set_cons_zero, List.set_cons_succ]) | (refine wpG_run ?_ (fun K hK => ?_); (focus rfl); go_simp; (first | (go_at_call 29; (with_reducible refine (one_anyG _ _).mono ?_); rintro e w4 ⟨rfl, hb⟩; first | rw [HZ.out] | skip)); (try dsimp only); replace hG := hG.trans hb; refine hK.out _ _ hG ?_; clear hK K hb; try simp only [Act.put, List.setIfInBounds_toArray, List.set_cons_zero, List.set_cons_succ]))
    refine wpG_last ?_ (fun K hK => ?_); (focus rfl)
    have hc := hG.cells
    have hm := hG.marks
    go_simp
    refine hK.out _ _ ?_
    try simp only [Act.put, List.setIfInBounds_toArray, List.set_cons_zero, List.set_cons_succ]
    clear hK K hc hm
    refine wpG_done ?_
    exact HK.out _ _ _ _ _ _ _ _ _ _ _ _ _ _ _ _ _ _ _ _ _ _ _ _ _ _ hG
  · have HZ := Lib.hid (show oneN q = dd1 from HZB.out)
    refine wp_region_G (.take 0 (.take 1 (.take 2 (.take 3 (.take 4 (.take 5 (.take 6 (.take 7 (.take 8 (.take 9 (.take 10 (.take 11 (.take 12 (.take 13 (.take 14 (.take 15 (.take 16 (.take 17 (.take 18 (.take 19 (.take 20 (.take 21 (.take 22 (.run 23 false (.take 24 (.run 25 true .nil)))))))))))))))))))))))))) (by kernel_rfl) (by kernel_rfl) ?_
    simp only [pickOps, nthOp]
    intro wq hG
    repeat (first | (refine wpG_skip_take ?_ ?_; (focus rfl); try simp only [Act.put, List.setIfInBounds_toArray, List.set_cons_zero, List.set_cons_succ]) | (refine wpG_skip_run ?_ ?_; (focus rfl); try simp only [Act.put, List.setIfInBounds_toArray, List.set_cons_zero, List.set_cons_succ]) | (refine wpG_take ?_ ?_; (focus rfl); apply Exists.intro; refine ⟨fun w' hw' => ?_, ?_⟩; (focus (have hc := Gr.cells hw'; go_simp; (try rfl); done)); try simp only [Act.put, List.setIfInBounds_toArray, List.set_cons_zero, List.set_cons_succ]) | (refine wpG_run ?_ (fun K hK => ?_); (focus rfl); go_simp; (first | (go_at_call 29; (with_reducible refine (one_anyG _ _).mono ?_); rintro e w4 ⟨rfl, hb⟩; first | rw [HZ.out] | skip)); (try dsimp only); replace hG := hG.trans hb; refine hK.out _ _ hG ?_; clear hK K hb; try simp only [Act.put, List.setIfInBounds_toArray, List.set_cons_zero, List.set_cons_succ]))
    refine wpG_last ?_ (fun K hK => ?_); (focus rfl)
    have hc := hG.cells
    have hm := hG.marks
    go_simp
    refine hK.out _ _ ?_
    try simp only [Act.put, List.setIfInBounds_toArray, List.set_cons_zero, List.set_cons_succ]
    clear hK K hc hm
    refine wpG_done ?_
    exact HK.out _ _ _ _ _ _ _ _ _ _ _ _ _ _ _ _ _ _ _ _ _ _ _ _ _ _ hG
noncomputable def r17_any_code : Code := ((Tryz.f6.body.bind (regAt 17)).getD .skip)
set_option maxRecDepth 1000000 in
set_option maxHeartbeats 16000000 in
theorem r17_any (W : World) (sb fb b8 o8 bn on k m dd1 dd2 nd cd cn : Nat) (v0 v2 : Value) (nam mn : ByteArray) (pl mp : Int) (op ps : Int) (s1 : BitVec 256) (tx : ByteArray) (mnx mx : Int) (p1 : Option Addr) (n1 c1x : Nat)
    (xs : boxAt W sb [v0, .slice (some ⟨b8, o8, none⟩) nd cd, v2]) (xf : boxAt W fb [.int .i64 6, .int .i64 0, .int .i64 0, .int .i64 pl, .slice (some ⟨bn, on, none⟩) 1 cn])
    (k0 : W.cell? ⟨b8, o8 + k * 12, none⟩ = some (.string mn)) (k1 : W.cell? ⟨b8, o8 + k * 12 + 1, none⟩ = some (.int .i64 mp)) (k2 : W.cell? ⟨b8, o8 + k * 12 + 2, none⟩ = some (.int .i64 op)) (k3 : W.cell? ⟨b8, o8 + k * 12 + 3, none⟩ = some (.int .i64 ps)) (k4 : W.cell? ⟨b8, o8 + k * 12 + 4, none⟩ = some (.int .u64 (wd s1 0))) (k5 : W.cell? ⟨b8, o8 + k * 12 + 5, none⟩ = some (.int .u64 (wd s1 1))) (k6 : W.cell? ⟨b8, o8 + k * 12 + 6, none⟩ = some (.int .u64 (wd s1 2))) (k7 : W.cell? ⟨b8, o8 + k * 12 + 7, none⟩ = some (.int .u64 (wd s1 3))) (k8 : W.cell? ⟨b8, o8 + k * 12 + 8, none⟩ = some (.string tx)) (k9 : W.cell? ⟨b8, o8 + k * 12 + 9, none⟩ = some (.int .i64 mnx)) (k10 : W.cell? ⟨b8, o8 + k * 12 + 10, none⟩ = some (.int .i64 mx)) (k11 : W.cell? ⟨b8, o8 + k * 12 + 11, none⟩ = some (.slice p1 n1 c1x)) (kn : W.cell? ⟨bn, on, none⟩ = some (.string nam)) (hbr : b8 < W.heap.size) (hbn : bn < W.heap.size) (hkI : (k : Int) < (nd : Int)) (hnd2 : (nd : Int) ≤ 200) (hm2 : m + dd1 + dd2 ≤ 2097152) (hc1 : oneN (decide (mp = pl) && decide (mn = nam)) = dd1)
    (hrf : ∀ W1, Gr W W1 → Calls Tryz.prog 30 #[.agg (List.toArray [.int .i64 op, .int .i64 ps, .int .u64 (wd s1 0), .int .u64 (wd s1 1), .int .u64 (wd s1 2), .int .u64 (wd s1 3), .string tx, .int .i64 mnx, .int .i64 mx, .slice p1 n1 c1x]), .int .i64 pl, .string nam] W1 fun e w1 => e = .returned (.int .i64 (dd2 : Nat)) ∧ Gr W1 w1)
    (c0 c2 c3 c4 c7 c9 c10 c11 c12 c13 c14 c15 c16 c17 c18 c19 c20 c21 c22 c23 c24 c25 c26 c27 c28 c29 c30 c31 c32 c33 c34 c35 c36 c37 c38 c39 c40 c41 c42 c43 c44 c45 c46 c47 c48 c49 c50 c51 c52 c53 c54 c55 c56 c57 c58 c59 c60 c61 c62 c63 c64 c65 c66 c67 c68 c69 c70 c71 c72 c73 c74 c75 c76 c77 c78 c79 c80 c81 c82 c83 c84 c85 c86 c87 c88 c89 c90 c91 c92 c93 c94 c95 c96 c97 c98 c99 c100 c101 c102 c103 c104 c105 c106 c107 c108 c109 c110 c111 c112 c113 c114 c115 c116 c117 c118 c119 c120 c121 c122 c123 c124 c125 c126 c127 c128 c129 c130 c131 c132 c133 c134 c135 c136 c137 c138 c139 c140 c141 c142 c143 c144 c145 c146 c147 c148 c149 c150 c151 c152 c153 c154 c155 c156 c157 c158 c159 c160 c161 c162 c163 c164 c165 c166 c167 c168 c169 c170 c171 c172 c173 c174 c175 c176 c177 c178 c179 c180 c181 c182 c183 c184 c185 c186 c187 c188 c189 c190 c191 c192 c193 c194 c195 c196 c197 c198 c199 c200 c201 c202 c203 c204 c205 c206 c207 c208 c209 c210 c211 c212 c213 c214 c215 c216 c217 c218 c219 c220 c221 c222 c223 c224 c225 c226 c227 c228 c229 c230 c231 c232 c233 c234 c235 c236 c237 c238 c239 c240 c241 c242 c243 c244 c245 c246 c247 : Value) (Q0 : Exit → Act → World → Prop)

    (hK : ∀ (u105 u106 u107 u108 u109 u110 u111 u112 u113 u114 u115 u116 u117 u118 u119 u120 u121 u122 u123 u124 u125 u126 u127 u128 u129 u130 u131 u132 u133 u134 u135 u136 u137 u138 u139 u140 u141 u142 u143 : Value) (w' : World), Gr W w' → Q0 .normal ⟨(List.toArray (c0 :: .pointer (some ⟨sb, 0, none⟩) :: c2 :: c3 :: c4 :: .pointer (some ⟨fb, 0, none⟩) :: .int .i64 ((m : Int) + (dd1 : Int) + (dd2 : Int)) :: c7 :: .int .i64 (k : Int) :: c9 :: c10 :: c11 :: c12 :: c13 :: c14 :: c15 :: c16 :: c17 :: c18 :: c19 :: c20 :: c21 :: c22 :: c23 :: c24 :: c25 :: c26 :: c27 :: c28 :: c29 :: c30 :: c31 :: c32 :: c33 :: c34 :: c35 :: c36 :: c37 :: c38 :: c39 :: c40 :: c41 :: c42 :: c43 :: c44 :: c45 :: c46 :: c47 :: c48 :: c49 :: c50 :: c51 :: c52 :: c53 :: c54 :: c55 :: c56 :: c57 :: c58 :: c59 :: c60 :: c61 :: c62 :: c63 :: c64 :: c65 :: c66 :: c67 :: c68 :: c69 :: c70 :: c71 :: c72 :: c73 :: c74 :: c75 :: c76 :: c77 :: c78 :: c79 :: c80 :: c81 :: c82 :: c83 :: c84 :: c85 :: c86 :: c87 :: c88 :: c89 :: c90 :: c91 :: c92 :: c93 :: c94 :: c95 :: c96 :: c97 :: c98 :: c99 :: c100 :: c101 :: c102 :: c103 :: c104 :: u105 :: u106 :: u107 :: u108 :: u109 :: u110 :: u111 :: u112 :: u113 :: u114 :: u115 :: u116 :: u117 :: u118 :: u119 :: u120 :: u121 :: u122 :: u123 :: u124 :: u125 :: u126 :: u127 :: u128 :: u129 :: u130 :: u131 :: u132 :: u133 :: u134 :: u135 :: u136 :: u137 :: u138 :: u139 :: u140 :: u141 :: u142 :: u143 :: c144 :: c145 :: c146 :: c147 :: c148 :: c149 :: c150 :: c151 :: c152 :: c153 :: c154 :: c155 :: c156 :: c157 :: c158 :: c159 :: c160 :: c161 :: c162 :: c163 :: c164 :: c165 :: c166 :: c167 :: c168 :: c169 :: c170 :: c171 :: c172 :: c173 :: c174 :: c175 :: c176 :: c177 :: c178 :: c179 :: c180 :: c181 :: c182 :: c183 :: c184 :: c185 :: c186 :: c187 :: c188 :: c189 :: c190 :: c191 :: c192 :: c193 :: c194 :: c195 :: c196 :: c197 :: c198 :: c199 :: c200 :: c201 :: c202 :: c203 :: c204 :: c205 :: c206 :: c207 :: c208 :: c209 :: c210 :: c211 :: c212 :: c213 :: c214 :: c215 :: c216 :: c217 :: c218 :: c219 :: c220 :: c221 :: c222 :: c223 :: c224 :: c225 :: c226 :: c227 :: c228 :: c229 :: c230 :: c231 :: c232 :: c233 :: c234 :: c235 :: c236 :: c237 :: c238 :: c239 :: c240 :: c241 :: c242 :: c243 :: c244 :: c245 :: c246 :: c247 :: [])), []⟩ w') :
    Code.wp Tryz.prog r17_any_code Q0 ⟨(List.toArray (c0 :: .pointer (some ⟨sb, 0, none⟩) :: c2 :: c3 :: c4 :: .pointer (some ⟨fb, 0, none⟩) :: .int .i64 (m : Int) :: c7 :: .int .i64 (k : Int) :: c9 :: c10 :: c11 :: c12 :: c13 :: c14 :: c15 :: c16 :: c17 :: c18 :: c19 :: c20 :: c21 :: c22 :: c23 :: c24 :: c25 :: c26 :: c27 :: c28 :: c29 :: c30 :: c31 :: c32 :: c33 :: c34 :: c35 :: c36 :: c37 :: c38 :: c39 :: c40 :: c41 :: c42 :: c43 :: c44 :: c45 :: c46 :: c47 :: c48 :: c49 :: c50 :: c51 :: c52 :: c53 :: c54 :: c55 :: c56 :: c57 :: c58 :: c59 :: c60 :: c61 :: c62 :: c63 :: c64 :: c65 :: c66 :: c67 :: c68 :: c69 :: c70 :: c71 :: c72 :: c73 :: c74 :: c75 :: c76 :: c77 :: c78 :: c79 :: c80 :: c81 :: c82 :: c83 :: c84 :: c85 :: c86 :: c87 :: c88 :: c89 :: c90 :: c91 :: c92 :: c93 :: c94 :: c95 :: c96 :: c97 :: c98 :: c99 :: c100 :: c101 :: c102 :: c103 :: c104 :: c105 :: c106 :: c107 :: c108 :: c109 :: c110 :: c111 :: c112 :: c113 :: c114 :: c115 :: c116 :: c117 :: c118 :: c119 :: c120 :: c121 :: c122 :: c123 :: c124 :: c125 :: c126 :: c127 :: c128 :: c129 :: c130 :: c131 :: c132 :: c133 :: c134 :: c135 :: c136 :: c137 :: c138 :: c139 :: c140 :: c141 :: c142 :: c143 :: c144 :: c145 :: c146 :: c147 :: c148 :: c149 :: c150 :: c151 :: c152 :: c153 :: c154 :: c155 :: c156 :: c157 :: c158 :: c159 :: c160 :: c161 :: c162 :: c163 :: c164 :: c165 :: c166 :: c167 :: c168 :: c169 :: c170 :: c171 :: c172 :: c173 :: c174 :: c175 :: c176 :: c177 :: c178 :: c179 :: c180 :: c181 :: c182 :: c183 :: c184 :: c185 :: c186 :: c187 :: c188 :: c189 :: c190 :: c191 :: c192 :: c193 :: c194 :: c195 :: c196 :: c197 :: c198 :: c199 :: c200 :: c201 :: c202 :: c203 :: c204 :: c205 :: c206 :: c207 :: c208 :: c209 :: c210 :: c211 :: c212 :: c213 :: c214 :: c215 :: c216 :: c217 :: c218 :: c219 :: c220 :: c221 :: c222 :: c223 :: c224 :: c225 :: c226 :: c227 :: c228 :: c229 :: c230 :: c231 :: c232 :: c233 :: c234 :: c235 :: c236 :: c237 :: c238 :: c239 :: c240 :: c241 :: c242 :: c243 :: c244 :: c245 :: c246 :: c247 :: [])), []⟩ W := by
  conv => arg 2; whnf
  have HK := Lib.hid hK
  clear hK
  have HRF := Lib.hid hrf
  clear hrf
  have hw : IntKind.i64.wrap ((m : Int) + (dd1 : Int)) = (m : Int) + (dd1 : Int) := IntWalk.i64_in _ (by omega)
  have hw2 : IntKind.i64.wrap ((m : Int) + (dd1 : Int) + (dd2 : Int)) = (m : Int) + (dd1 : Int) + (dd2 : Int) := IntWalk.i64_in _ (by omega)
  have c_s0 := xs.cell 0 _ rfl
  have c_s1 := xs.cell 1 _ rfl
  have c_s2 := xs.cell 2 _ rfl
  have m_s0 := xs.mark 0 _ rfl
  have m_s1 := xs.mark 1 _ rfl
  have m_s2 := xs.mark 2 _ rfl
  have l_s := xs.lt (Nat.succ_pos _)
  have c_f0 := xf.cell 0 _ rfl
  have c_f1 := xf.cell 1 _ rfl
  have c_f2 := xf.cell 2 _ rfl
  have c_f3 := xf.cell 3 _ rfl
  have c_f4 := xf.cell 4 _ rfl
  have m_f0 := xf.mark 0 _ rfl
  have m_f1 := xf.mark 1 _ rfl
  have m_f2 := xf.mark 2 _ rfl
  have m_f3 := xf.mark 3 _ rfl
  have m_f4 := xf.mark 4 _ rfl
  have l_f := xf.lt (Nat.succ_pos _)
  have HEI := Lib.hid (eqI mp pl)
  have HET := Lib.hid (eqT mn nam)
  have HC1 := Lib.hid hc1
  clear hc1
  obtain ⟨q, hq⟩ : ∃ b, (mn.toList == nam.toList) = b := ⟨_, rfl⟩
  obtain ⟨b1, hb1⟩ : ∃ b, (mp == pl) = b := ⟨_, rfl⟩
  have HZB := Lib.hid (show oneN (b1 && q) = dd1 by rw [← hb1, ← hq, HEI.out, HET.out]; exact HC1.out)
  clear HEI HET HC1
  cases b1
  · have HZ := Lib.hid (show oneN false = dd1 from HZB.out)
    refine wp_region_G (.take 0 (.take 1 (.take 2 (.take 3 (.take 4 (.take 5 (.take 6 (.take 7 (.take 8 (.take 9 (.take 10 (.take 11 (.take 12 (.take 13 (.take 14 (.take 15 (.take 16 (.take 17 (.take 18 (.take 19 (.take 20 (.take 21 (.take 22 (.take 25 (.take 26 (.take 27 (.take 28 (.take 29 (.take 30 (.take 31 (.take 32 (.take 33 (.take 34 (.take 35 (.take 36 (.run 23 false (.take 24 (.run 37 false (.take 38 (.run 39 true .nil)))))))))))))))))))))))))))))))))))))))) (by kernel_rfl) (by kernel_rfl) ?_
    simp only [pickOps, nthOp]
    intro wq hG
    repeat (first | (refine wpG_skip_take ?_ ?_; (focus rfl); try simp only [Act.put, List.setIfInBounds_toArray, List.set_cons_zero, List.set_cons_succ]) | (refine wpG_skip_run ?_ ?_; (focus rfl); try simp only [Act.put, List.setIfInBounds_toArray, List.set_cons_zero, List.set_cons_succ]) | (refine wpG_take ?_ ?_; (focus rfl); apply Exists.intro; refine ⟨fun w' hw' => ?_, ?_⟩; (focus (have hc := Gr.cells hw'; go_simp; (try rfl); done)); try simp only [Act.put, List.setIfInBounds_toArray, List.set_cons_zero, List.set_cons_succ]) | (refine wpG_run ?_ (fun K hK => ?_); (focus rfl); go_simp; (first | (go_at_call 29; (with_reducible refine (one_anyG _ _).mono ?_); rintro e w4 ⟨rfl, hb⟩; first | rw [HZ.out] | skip) | (go_at_call 30; (with_reducible refine (HRF.out _ hG).mono ?_); rintro e w5 ⟨rfl, hb⟩)); (try dsimp only); replace hG := hG.trans hb; refine hK.out _ _ hG ?_; clear hK K hb; try simp only [Act.put, List.setIfInBounds_toArray, List.set_cons_zero, List.set_cons_succ]))
    refine wpG_last ?_ (fun K hK => ?_); (focus rfl)
    have hc := hG.cells
    have hm := hG.marks
    go_simp
    refine hK.out _ _ ?_
    try simp only [Act.put, List.setIfInBounds_toArray, List.set_cons_zero, List.set_cons_succ]
    clear hK K hc hm
    refine wpG_done ?_
    exact HK.out _ _ _ _ _ _ _ _ _ _ _ _ _ _ _ _ _ _ _ _ _ _ _ _ _ _ _ _ _ _ _ _ _ _ _ _ _ _ _ _ hG
  · have HZ := Lib.hid (show oneN q = dd1 from HZB.out)
    refine wp_region_G (.take 0 (.take 1 (.take 2 (.take 3 (.take 4 (.take 5 (.take 6 (.take 7 (.take 8 (.take 9 (.take 10 (.take 11 (.take 12 (.take 13 (.take 14 (.take 15 (.take 16 (.take 17 (.take 18 (.take 19 (.take 20 (.take 21 (.take 22 (.take 25 (.take 26 (.take 27 (.take 28 (.take 29 (.take 30 (.take 31 (.take 32 (.take 33 (.take 34 (.take 35 (.take 36 (.run 23 false (.take 24 (.run 37 false (.take 38 (.run 39 true .nil)))))))))))))))))))))))))))))))))))))))) (by kernel_rfl) (by kernel_rfl) ?_
    simp only [pickOps, nthOp]
    intro wq hG
    repeat (first | (refine wpG_skip_take ?_ ?_; (focus rfl); try simp only [Act.put, List.setIfInBounds_toArray, List.set_cons_zero, List.set_cons_succ]) | (refine wpG_skip_run ?_ ?_; (focus rfl); try simp only [Act.put, List.setIfInBounds_toArray, List.set_cons_zero, List.set_cons_succ]) | (refine wpG_take ?_ ?_; (focus rfl); apply Exists.intro; refine ⟨fun w' hw' => ?_, ?_⟩; (focus (have hc := Gr.cells hw'; go_simp; (try rfl); done)); try simp only [Act.put, List.setIfInBounds_toArray, List.set_cons_zero, List.set_cons_succ]) | (refine wpG_run ?_ (fun K hK => ?_); (focus rfl); go_simp; (first | (go_at_call 29; (with_reducible refine (one_anyG _ _).mono ?_); rintro e w4 ⟨rfl, hb⟩; first | rw [HZ.out] | skip) | (go_at_call 30; (with_reducible refine (HRF.out _ hG).mono ?_); rintro e w5 ⟨rfl, hb⟩)); (try dsimp only); replace hG := hG.trans hb; refine hK.out _ _ hG ?_; clear hK K hb; try simp only [Act.put, List.setIfInBounds_toArray, List.set_cons_zero, List.set_cons_succ]))
    refine wpG_last ?_ (fun K hK => ?_); (focus rfl)
    have hc := hG.cells
    have hm := hG.marks
    go_simp
    refine hK.out _ _ ?_
    try simp only [Act.put, List.setIfInBounds_toArray, List.set_cons_zero, List.set_cons_succ]
    clear hK K hc hm
    refine wpG_done ?_
    exact HK.out _ _ _ _ _ _ _ _ _ _ _ _ _ _ _ _ _ _ _ _ _ _ _ _ _ _ _ _ _ _ _ _ _ _ _ _ _ _ _ _ hG
noncomputable def r22_any_code : Code := ((Tryz.f6.body.bind (regAt 22)).getD .skip)
set_option maxRecDepth 1000000 in
set_option maxHeartbeats 16000000 in
theorem r22_any (W : World) (rb fb m h1c h2c : Nat) (nam : ByteArray) (pl : Int) (bn on cn : Nat) {po : Int} {al : Bool} {pum : Option Addr} {num cum : Nat} {op ps : Int} {s1 : BitVec 256} {tx : ByteArray} {mnx mx : Int} {p1 : Option Addr} {n1 c1x : Nat} {ht : Bool} {op2 ps2 : Int} {s2 : BitVec 256} {tx2 : ByteArray} {mn2 mx2 : Int} {p2 : Option Addr} {n2 c2x : Nat} {lb : ByteArray} {pua : Option Addr} {nua cua : Nat}
    (hb12 : m + h1c + h2c ≤ 2097152) (xr : boxAt W rb [.int .i64 po, .bool al, .slice pum num cum, .int .i64 op, .int .i64 ps, .int .u64 (wd s1 0), .int .u64 (wd s1 1), .int .u64 (wd s1 2), .int .u64 (wd s1 3), .string tx, .int .i64 mnx, .int .i64 mx, .slice p1 n1 c1x, .bool ht, .int .i64 op2, .int .i64 ps2, .int .u64 (wd s2 0), .int .u64 (wd s2 1), .int .u64 (wd s2 2), .int .u64 (wd s2 3), .string tx2, .int .i64 mn2, .int .i64 mx2, .slice p2 n2 c2x, .string lb, .slice pua nua cua]) (xf : boxAt W fb [.int .i64 6, .int .i64 0, .int .i64 0, .int .i64 pl, .slice (some ⟨bn, on, none⟩) 1 cn]) (kn : W.cell? ⟨bn, on, none⟩ = some (.string nam)) (hbn : bn < W.heap.size)
    (hrf1 : ∀ W1, Gr W W1 → Calls Tryz.prog 30 #[.agg (List.toArray [.int .i64 op, .int .i64 ps, .int .u64 (wd s1 0), .int .u64 (wd s1 1), .int .u64 (wd s1 2), .int .u64 (wd s1 3), .string tx, .int .i64 mnx, .int .i64 mx, .slice p1 n1 c1x]), .int .i64 pl, .string nam] W1 fun e w1 => e = .returned (.int .i64 (h1c : Nat)) ∧ Gr W1 w1)
    (hrf2 : ∀ W1, Gr W W1 → Calls Tryz.prog 30 #[.agg (List.toArray [.int .i64 op2, .int .i64 ps2, .int .u64 (wd s2 0), .int .u64 (wd s2 1), .int .u64 (wd s2 2), .int .u64 (wd s2 3), .string tx2, .int .i64 mn2, .int .i64 mx2, .slice p2 n2 c2x]), .int .i64 pl, .string nam] W1 fun e w1 => e = .returned (.int .i64 (h2c : Nat)) ∧ Gr W1 w1)
    (c0 c1 c2 c3 c4 c7 c8 c9 c11 c12 c13 c14 c15 c16 c17 c18 c19 c20 c21 c22 c23 c24 c25 c26 c27 c28 c29 c30 c31 c32 c33 c34 c35 c36 c37 c38 c39 c40 c41 c42 c43 c44 c45 c46 c47 c48 c49 c50 c51 c52 c53 c54 c55 c56 c57 c58 c59 c60 c61 c62 c63 c64 c65 c66 c67 c68 c69 c70 c71 c72 c73 c74 c75 c76 c77 c78 c79 c80 c81 c82 c83 c84 c85 c86 c87 c88 c89 c90 c91 c92 c93 c94 c95 c96 c97 c98 c99 c100 c101 c102 c103 c104 c105 c106 c107 c108 c109 c110 c111 c112 c113 c114 c115 c116 c117 c118 c119 c120 c121 c122 c123 c124 c125 c126 c127 c128 c129 c130 c131 c132 c133 c134 c135 c136 c137 c138 c139 c140 c141 c142 c143 c144 c145 c146 c147 c148 c149 c150 c151 c152 c153 c154 c155 c156 c157 c158 c159 c160 c161 c162 c163 c164 c165 c166 c167 c168 c169 c170 c171 c172 c173 c174 c175 c176 c177 c178 c179 c180 c181 c182 c183 c184 c185 c186 c187 c188 c189 c190 c191 c192 c193 c194 c195 c196 c197 c198 c199 c200 c201 c202 c203 c204 c205 c206 c207 c208 c209 c210 c211 c212 c213 c214 c215 c216 c217 c218 c219 c220 c221 c222 c223 c224 c225 c226 c227 c228 c229 c230 c231 c232 c233 c234 c235 c236 c237 c238 c239 c240 c241 c242 c243 c244 c245 c246 c247 : Value) (K0 : Act → World → Prop) (Q0 : Exit → Act → World → Prop)

    (hK : ∀ (u156 u157 u158 u159 u160 u161 u162 u163 u164 u165 u166 u167 u168 u169 u170 u171 u172 u173 u174 u175 u176 : Value) (w' : World), Gr W w' → K0 ⟨(List.toArray (c0 :: c1 :: c2 :: c3 :: c4 :: .pointer (some ⟨fb, 0, none⟩) :: .int .i64 ((m : Int) + (h1c : Int) + (h2c : Int)) :: c7 :: c8 :: c9 :: .pointer (some ⟨rb, 0, none⟩) :: c11 :: c12 :: c13 :: c14 :: c15 :: c16 :: c17 :: c18 :: c19 :: c20 :: c21 :: c22 :: c23 :: c24 :: c25 :: c26 :: c27 :: c28 :: c29 :: c30 :: c31 :: c32 :: c33 :: c34 :: c35 :: c36 :: c37 :: c38 :: c39 :: c40 :: c41 :: c42 :: c43 :: c44 :: c45 :: c46 :: c47 :: c48 :: c49 :: c50 :: c51 :: c52 :: c53 :: c54 :: c55 :: c56 :: c57 :: c58 :: c59 :: c60 :: c61 :: c62 :: c63 :: c64 :: c65 :: c66 :: c67 :: c68 :: c69 :: c70 :: c71 :: c72 :: c73 :: c74 :: c75 :: c76 :: c77 :: c78 :: c79 :: c80 :: c81 :: c82 :: c83 :: c84 :: c85 :: c86 :: c87 :: c88 :: c89 :: c90 :: c91 :: c92 :: c93 :: c94 :: c95 :: c96 :: c97 :: c98 :: c99 :: c100 :: c101 :: c102 :: c103 :: c104 :: c105 :: c106 :: c107 :: c108 :: c109 :: c110 :: c111 :: c112 :: c113 :: c114 :: c115 :: c116 :: c117 :: c118 :: c119 :: c120 :: c121 :: c122 :: c123 :: c124 :: c125 :: c126 :: c127 :: c128 :: c129 :: c130 :: c131 :: c132 :: c133 :: c134 :: c135 :: c136 :: c137 :: c138 :: c139 :: c140 :: c141 :: c142 :: c143 :: c144 :: c145 :: c146 :: c147 :: c148 :: c149 :: c150 :: c151 :: c152 :: c153 :: c154 :: c155 :: u156 :: u157 :: u158 :: u159 :: u160 :: u161 :: u162 :: u163 :: u164 :: u165 :: u166 :: u167 :: u168 :: u169 :: u170 :: u171 :: u172 :: u173 :: u174 :: u175 :: u176 :: c177 :: c178 :: c179 :: c180 :: c181 :: c182 :: c183 :: c184 :: c185 :: c186 :: c187 :: c188 :: c189 :: c190 :: c191 :: c192 :: c193 :: c194 :: c195 :: c196 :: c197 :: c198 :: c199 :: c200 :: c201 :: c202 :: c203 :: c204 :: c205 :: c206 :: c207 :: c208 :: c209 :: c210 :: c211 :: c212 :: c213 :: c214 :: c215 :: c216 :: c217 :: c218 :: c219 :: c220 :: c221 :: c222 :: c223 :: c224 :: c225 :: c226 :: c227 :: c228 :: c229 :: c230 :: c231 :: c232 :: c233 :: c234 :: c235 :: c236 :: c237 :: c238 :: c239 :: c240 :: c241 :: c242 :: c243 :: c244 :: c245 :: c246 :: c247 :: [])), []⟩ w') :
    Code.wp Tryz.prog r22_any_code (Exit.then K0 Q0) ⟨(List.toArray (c0 :: c1 :: c2 :: c3 :: c4 :: .pointer (some ⟨fb, 0, none⟩) :: .int .i64 (m : Int) :: c7 :: c8 :: c9 :: .pointer (some ⟨rb, 0, none⟩) :: c11 :: c12 :: c13 :: c14 :: c15 :: c16 :: c17 :: c18 :: c19 :: c20 :: c21 :: c22 :: c23 :: c24 :: c25 :: c26 :: c27 :: c28 :: c29 :: c30 :: c31 :: c32 :: c33 :: c34 :: c35 :: c36 :: c37 :: c38 :: c39 :: c40 :: c41 :: c42 :: c43 :: c44 :: c45 :: c46 :: c47 :: c48 :: c49 :: c50 :: c51 :: c52 :: c53 :: c54 :: c55 :: c56 :: c57 :: c58 :: c59 :: c60 :: c61 :: c62 :: c63 :: c64 :: c65 :: c66 :: c67 :: c68 :: c69 :: c70 :: c71 :: c72 :: c73 :: c74 :: c75 :: c76 :: c77 :: c78 :: c79 :: c80 :: c81 :: c82 :: c83 :: c84 :: c85 :: c86 :: c87 :: c88 :: c89 :: c90 :: c91 :: c92 :: c93 :: c94 :: c95 :: c96 :: c97 :: c98 :: c99 :: c100 :: c101 :: c102 :: c103 :: c104 :: c105 :: c106 :: c107 :: c108 :: c109 :: c110 :: c111 :: c112 :: c113 :: c114 :: c115 :: c116 :: c117 :: c118 :: c119 :: c120 :: c121 :: c122 :: c123 :: c124 :: c125 :: c126 :: c127 :: c128 :: c129 :: c130 :: c131 :: c132 :: c133 :: c134 :: c135 :: c136 :: c137 :: c138 :: c139 :: c140 :: c141 :: c142 :: c143 :: c144 :: c145 :: c146 :: c147 :: c148 :: c149 :: c150 :: c151 :: c152 :: c153 :: c154 :: c155 :: c156 :: c157 :: c158 :: c159 :: c160 :: c161 :: c162 :: c163 :: c164 :: c165 :: c166 :: c167 :: c168 :: c169 :: c170 :: c171 :: c172 :: c173 :: c174 :: c175 :: c176 :: c177 :: c178 :: c179 :: c180 :: c181 :: c182 :: c183 :: c184 :: c185 :: c186 :: c187 :: c188 :: c189 :: c190 :: c191 :: c192 :: c193 :: c194 :: c195 :: c196 :: c197 :: c198 :: c199 :: c200 :: c201 :: c202 :: c203 :: c204 :: c205 :: c206 :: c207 :: c208 :: c209 :: c210 :: c211 :: c212 :: c213 :: c214 :: c215 :: c216 :: c217 :: c218 :: c219 :: c220 :: c221 :: c222 :: c223 :: c224 :: c225 :: c226 :: c227 :: c228 :: c229 :: c230 :: c231 :: c232 :: c233 :: c234 :: c235 :: c236 :: c237 :: c238 :: c239 :: c240 :: c241 :: c242 :: c243 :: c244 :: c245 :: c246 :: c247 :: [])), []⟩ W := by
  conv => arg 2; whnf
  have HK := Lib.hid hK
  clear hK
  have HRF1 := Lib.hid hrf1
  have HRF2 := Lib.hid hrf2
  clear hrf1 hrf2
  have hw : IntKind.i64.wrap ((m : Int) + (h1c : Int)) = (m : Int) + (h1c : Int) := IntWalk.i64_in _ (by omega)
  have hw2 : IntKind.i64.wrap ((m : Int) + (h1c : Int) + (h2c : Int)) = (m : Int) + (h1c : Int) + (h2c : Int) := IntWalk.i64_in _ (by omega)
  have c_r0 := xr.cell 0 _ rfl
  have c_r1 := xr.cell 1 _ rfl
  have c_r2 := xr.cell 2 _ rfl
  have c_r3 := xr.cell 3 _ rfl
  have c_r4 := xr.cell 4 _ rfl
  have c_r5 := xr.cell 5 _ rfl
  have c_r6 := xr.cell 6 _ rfl
  have c_r7 := xr.cell 7 _ rfl
  have c_r8 := xr.cell 8 _ rfl
  have c_r9 := xr.cell 9 _ rfl
  have c_r10 := xr.cell 10 _ rfl
  have c_r11 := xr.cell 11 _ rfl
  have c_r12 := xr.cell 12 _ rfl
  have c_r13 := xr.cell 13 _ rfl
  have c_r14 := xr.cell 14 _ rfl
  have c_r15 := xr.cell 15 _ rfl
  have c_r16 := xr.cell 16 _ rfl
  have c_r17 := xr.cell 17 _ rfl
  have c_r18 := xr.cell 18 _ rfl
  have c_r19 := xr.cell 19 _ rfl
  have c_r20 := xr.cell 20 _ rfl
  have c_r21 := xr.cell 21 _ rfl
  have c_r22 := xr.cell 22 _ rfl
  have c_r23 := xr.cell 23 _ rfl
  have c_r24 := xr.cell 24 _ rfl
  have c_r25 := xr.cell 25 _ rfl
  have m_r0 := xr.mark 0 _ rfl
  have m_r1 := xr.mark 1 _ rfl
  have m_r2 := xr.mark 2 _ rfl
  have m_r3 := xr.mark 3 _ rfl
  have m_r4 := xr.mark 4 _ rfl
  have m_r5 := xr.mark 5 _ rfl
  have m_r6 := xr.mark 6 _ rfl
  have m_r7 := xr.mark 7 _ rfl
  have m_r8 := xr.mark 8 _ rfl
  have m_r9 := xr.mark 9 _ rfl
  have m_r10 := xr.mark 10 _ rfl
  have m_r11 := xr.mark 11 _ rfl
  have m_r12 := xr.mark 12 _ rfl
  have m_r13 := xr.mark 13 _ rfl
  have m_r14 := xr.mark 14 _ rfl
  have m_r15 := xr.mark 15 _ rfl
  have m_r16 := xr.mark 16 _ rfl
  have m_r17 := xr.mark 17 _ rfl
  have m_r18 := xr.mark 18 _ rfl
  have m_r19 := xr.mark 19 _ rfl
  have m_r20 := xr.mark 20 _ rfl
  have m_r21 := xr.mark 21 _ rfl
  have m_r22 := xr.mark 22 _ rfl
  have m_r23 := xr.mark 23 _ rfl
  have m_r24 := xr.mark 24 _ rfl
  have m_r25 := xr.mark 25 _ rfl
  have l_r := xr.lt (Nat.succ_pos _)
  have c_f0 := xf.cell 0 _ rfl
  have c_f1 := xf.cell 1 _ rfl
  have c_f2 := xf.cell 2 _ rfl
  have c_f3 := xf.cell 3 _ rfl
  have c_f4 := xf.cell 4 _ rfl
  have m_f0 := xf.mark 0 _ rfl
  have m_f1 := xf.mark 1 _ rfl
  have m_f2 := xf.mark 2 _ rfl
  have m_f3 := xf.mark 3 _ rfl
  have m_f4 := xf.mark 4 _ rfl
  have l_f := xf.lt (Nat.succ_pos _)
  refine wp_region_G (.take 0 (.take 1 (.take 2 (.take 3 (.take 4 (.take 5 (.take 6 (.take 7 (.take 8 (.take 11 (.take 12 (.take 13 (.take 14 (.take 15 (.take 16 (.take 17 (.take 18 (.run 9 false (.take 10 (.run 19 false (.take 20 (.run 21 true .nil)))))))))))))))))))))) (by kernel_rfl) (by kernel_rfl) ?_
  simp only [pickOps, nthOp]
  intro wq hG
  repeat (first | (refine wpG_skip_take ?_ ?_; (focus rfl); try simp only [Act.put, List.setIfInBounds_toArray, List.set_cons_zero, List.set_cons_succ]) | (refine wpG_skip_run ?_ ?_; (focus rfl); try simp only [Act.put, List.setIfInBounds_toArray, List.set_cons_zero, List.set_cons_succ]) | (refine wpG_take ?_ ?_; (focus rfl); apply Exists.intro; refine ⟨fun w' hw' => ?_, ?_⟩; (focus (have hc := Gr.cells hw'; go_simp; (try rfl); done)); try simp only [Act.put, List.setIfInBounds_toArray, List.set_cons_zero, List.set_cons_succ]) | (refine wpG_run ?_ (fun K hK => ?_); (focus rfl); go_simp; (first | (go_at_call 30; (with_reducible refine (HRF1.out _ hG).mono ?_); rintro e w4 ⟨rfl, hb⟩) | (go_at_call 30; (with_reducible refine (HRF2.out _ hG).mono ?_); rintro e w5 ⟨rfl, hb⟩)); (try dsimp only); replace hG := hG.trans hb; refine hK.out _ _ hG ?_; clear hK K hb; try simp only [Act.put, List.setIfInBounds_toArray, List.set_cons_zero, List.set_cons_succ]))
  all_goals
    refine wpG_last ?_ (fun K hK => ?_); (focus rfl)
    have hc := hG.cells
    have hm := hG.marks
    go_simp
    refine hK.out _ _ ?_
    try simp only [Act.put, List.setIfInBounds_toArray, List.set_cons_zero, List.set_cons_succ]
    clear hK K hc hm
    refine wpG_done ?_
    exact HK.out _ _ _ _ _ _ _ _ _ _ _ _ _ _ _ _ _ _ _ _ _ _ hG
noncomputable def r26_any_code : Code := ((Tryz.f6.body.bind (regAt 26)).getD .skip)
set_option maxRecDepth 1000000 in
set_option maxHeartbeats 16000000 in
theorem r26_any (W : World) (rb fb b4 o4 bn on j m dd1 num cum cn : Nat) (nam mn8 : ByteArray) (pl mp : Int)
    (y2 : W.cell? ⟨rb, 2, none⟩ = some (.slice (some ⟨b4, o4, none⟩) num cum)) (yl : rb < W.heap.size) (xf : boxAt W fb [.int .i64 6, .int .i64 0, .int .i64 0, .int .i64 pl, .slice (some ⟨bn, on, none⟩) 1 cn])
    (a1 : W.cell? ⟨b4, o4 + j * 2, none⟩ = some (.string mn8)) (a2 : W.cell? ⟨b4, o4 + j * 2 + 1, none⟩ = some (.int .i64 mp)) (kn : W.cell? ⟨bn, on, none⟩ = some (.string nam)) (hbu : b4 < W.heap.size) (hbn : bn < W.heap.size) (hjI : (j : Int) < (num : Int)) (hmb : (num : Int) ≤ 9223372036854775806) (hm2 : m + dd1 ≤ 2097152) (hc1 : oneN (decide (mp = pl) && decide (mn8 = nam)) = dd1)
    (c0 c1 c2 c3 c4 c7 c8 c9 c12 c13 c14 c15 c16 c17 c18 c19 c20 c21 c22 c23 c24 c25 c26 c27 c28 c29 c30 c31 c32 c33 c34 c35 c36 c37 c38 c39 c40 c41 c42 c43 c44 c45 c46 c47 c48 c49 c50 c51 c52 c53 c54 c55 c56 c57 c58 c59 c60 c61 c62 c63 c64 c65 c66 c67 c68 c69 c70 c71 c72 c73 c74 c75 c76 c77 c78 c79 c80 c81 c82 c83 c84 c85 c86 c87 c88 c89 c90 c91 c92 c93 c94 c95 c96 c97 c98 c99 c100 c101 c102 c103 c104 c105 c106 c107 c108 c109 c110 c111 c112 c113 c114 c115 c116 c117 c118 c119 c120 c121 c122 c123 c124 c125 c126 c127 c128 c129 c130 c131 c132 c133 c134 c135 c136 c137 c138 c139 c140 c141 c142 c143 c144 c145 c146 c147 c148 c149 c150 c151 c152 c153 c154 c155 c156 c157 c158 c159 c160 c161 c162 c163 c164 c165 c166 c167 c168 c169 c170 c171 c172 c173 c174 c175 c176 c177 c178 c179 c180 c181 c182 c183 c184 c185 c186 c187 c188 c189 c190 c191 c192 c193 c194 c195 c196 c197 c198 c199 c200 c201 c202 c203 c204 c205 c206 c207 c208 c209 c210 c211 c212 c213 c214 c215 c216 c217 c218 c219 c220 c221 c222 c223 c224 c225 c226 c227 c228 c229 c230 c231 c232 c233 c234 c235 c236 c237 c238 c239 c240 c241 c242 c243 c244 c245 c246 c247 : Value) (Q0 : Exit → Act → World → Prop)

    (hK : ∀ (u184 u185 u186 u187 u188 u189 u190 u191 u192 u193 u194 u195 u196 u197 u198 u199 u200 u201 u202 u203 u204 u205 u206 u207 u208 : Value) (w' : World), Gr W w' → Q0 .normal ⟨(List.toArray (c0 :: c1 :: c2 :: c3 :: c4 :: .pointer (some ⟨fb, 0, none⟩) :: .int .i64 ((m : Int) + (dd1 : Int)) :: c7 :: c8 :: c9 :: .pointer (some ⟨rb, 0, none⟩) :: .int .i64 (j : Int) :: c12 :: c13 :: c14 :: c15 :: c16 :: c17 :: c18 :: c19 :: c20 :: c21 :: c22 :: c23 :: c24 :: c25 :: c26 :: c27 :: c28 :: c29 :: c30 :: c31 :: c32 :: c33 :: c34 :: c35 :: c36 :: c37 :: c38 :: c39 :: c40 :: c41 :: c42 :: c43 :: c44 :: c45 :: c46 :: c47 :: c48 :: c49 :: c50 :: c51 :: c52 :: c53 :: c54 :: c55 :: c56 :: c57 :: c58 :: c59 :: c60 :: c61 :: c62 :: c63 :: c64 :: c65 :: c66 :: c67 :: c68 :: c69 :: c70 :: c71 :: c72 :: c73 :: c74 :: c75 :: c76 :: c77 :: c78 :: c79 :: c80 :: c81 :: c82 :: c83 :: c84 :: c85 :: c86 :: c87 :: c88 :: c89 :: c90 :: c91 :: c92 :: c93 :: c94 :: c95 :: c96 :: c97 :: c98 :: c99 :: c100 :: c101 :: c102 :: c103 :: c104 :: c105 :: c106 :: c107 :: c108 :: c109 :: c110 :: c111 :: c112 :: c113 :: c114 :: c115 :: c116 :: c117 :: c118 :: c119 :: c120 :: c121 :: c122 :: c123 :: c124 :: c125 :: c126 :: c127 :: c128 :: c129 :: c130 :: c131 :: c132 :: c133 :: c134 :: c135 :: c136 :: c137 :: c138 :: c139 :: c140 :: c141 :: c142 :: c143 :: c144 :: c145 :: c146 :: c147 :: c148 :: c149 :: c150 :: c151 :: c152 :: c153 :: c154 :: c155 :: c156 :: c157 :: c158 :: c159 :: c160 :: c161 :: c162 :: c163 :: c164 :: c165 :: c166 :: c167 :: c168 :: c169 :: c170 :: c171 :: c172 :: c173 :: c174 :: c175 :: c176 :: c177 :: c178 :: c179 :: c180 :: c181 :: c182 :: c183 :: u184 :: u185 :: u186 :: u187 :: u188 :: u189 :: u190 :: u191 :: u192 :: u193 :: u194 :: u195 :: u196 :: u197 :: u198 :: u199 :: u200 :: u201 :: u202 :: u203 :: u204 :: u205 :: u206 :: u207 :: u208 :: c209 :: c210 :: c211 :: c212 :: c213 :: c214 :: c215 :: c216 :: c217 :: c218 :: c219 :: c220 :: c221 :: c222 :: c223 :: c224 :: c225 :: c226 :: c227 :: c228 :: c229 :: c230 :: c231 :: c232 :: c233 :: c234 :: c235 :: c236 :: c237 :: c238 :: c239 :: c240 :: c241 :: c242 :: c243 :: c244 :: c245 :: c246 :: c247 :: [])), []⟩ w') :
    Code.wp Tryz.prog r26_any_code Q0 ⟨(List.toArray (c0 :: c1 :: c2 :: c3 :: c4 :: .pointer (some ⟨fb, 0, none⟩) :: .int .i64 (m : Int) :: c7 :: c8 :: c9 :: .pointer (some ⟨rb, 0, none⟩) :: .int .i64 (j : Int) :: c12 :: c13 :: c14 :: c15 :: c16 :: c17 :: c18 :: c19 :: c20 :: c21 :: c22 :: c23 :: c24 :: c25 :: c26 :: c27 :: c28 :: c29 :: c30 :: c31 :: c32 :: c33 :: c34 :: c35 :: c36 :: c37 :: c38 :: c39 :: c40 :: c41 :: c42 :: c43 :: c44 :: c45 :: c46 :: c47 :: c48 :: c49 :: c50 :: c51 :: c52 :: c53 :: c54 :: c55 :: c56 :: c57 :: c58 :: c59 :: c60 :: c61 :: c62 :: c63 :: c64 :: c65 :: c66 :: c67 :: c68 :: c69 :: c70 :: c71 :: c72 :: c73 :: c74 :: c75 :: c76 :: c77 :: c78 :: c79 :: c80 :: c81 :: c82 :: c83 :: c84 :: c85 :: c86 :: c87 :: c88 :: c89 :: c90 :: c91 :: c92 :: c93 :: c94 :: c95 :: c96 :: c97 :: c98 :: c99 :: c100 :: c101 :: c102 :: c103 :: c104 :: c105 :: c106 :: c107 :: c108 :: c109 :: c110 :: c111 :: c112 :: c113 :: c114 :: c115 :: c116 :: c117 :: c118 :: c119 :: c120 :: c121 :: c122 :: c123 :: c124 :: c125 :: c126 :: c127 :: c128 :: c129 :: c130 :: c131 :: c132 :: c133 :: c134 :: c135 :: c136 :: c137 :: c138 :: c139 :: c140 :: c141 :: c142 :: c143 :: c144 :: c145 :: c146 :: c147 :: c148 :: c149 :: c150 :: c151 :: c152 :: c153 :: c154 :: c155 :: c156 :: c157 :: c158 :: c159 :: c160 :: c161 :: c162 :: c163 :: c164 :: c165 :: c166 :: c167 :: c168 :: c169 :: c170 :: c171 :: c172 :: c173 :: c174 :: c175 :: c176 :: c177 :: c178 :: c179 :: c180 :: c181 :: c182 :: c183 :: c184 :: c185 :: c186 :: c187 :: c188 :: c189 :: c190 :: c191 :: c192 :: c193 :: c194 :: c195 :: c196 :: c197 :: c198 :: c199 :: c200 :: c201 :: c202 :: c203 :: c204 :: c205 :: c206 :: c207 :: c208 :: c209 :: c210 :: c211 :: c212 :: c213 :: c214 :: c215 :: c216 :: c217 :: c218 :: c219 :: c220 :: c221 :: c222 :: c223 :: c224 :: c225 :: c226 :: c227 :: c228 :: c229 :: c230 :: c231 :: c232 :: c233 :: c234 :: c235 :: c236 :: c237 :: c238 :: c239 :: c240 :: c241 :: c242 :: c243 :: c244 :: c245 :: c246 :: c247 :: [])), []⟩ W := by
  conv => arg 2; whnf
  have HK := Lib.hid hK
  clear hK
  have hw : IntKind.i64.wrap ((m : Int) + (dd1 : Int)) = (m : Int) + (dd1 : Int) := IntWalk.i64_in _ (by omega)
  have c_f0 := xf.cell 0 _ rfl
  have c_f1 := xf.cell 1 _ rfl
  have c_f2 := xf.cell 2 _ rfl
  have c_f3 := xf.cell 3 _ rfl
  have c_f4 := xf.cell 4 _ rfl
  have m_f0 := xf.mark 0 _ rfl
  have m_f1 := xf.mark 1 _ rfl
  have m_f2 := xf.mark 2 _ rfl
  have m_f3 := xf.mark 3 _ rfl
  have m_f4 := xf.mark 4 _ rfl
  have l_f := xf.lt (Nat.succ_pos _)
  have HEI := Lib.hid (eqI mp pl)
  have HET := Lib.hid (eqT mn8 nam)
  have HC1 := Lib.hid hc1
  clear hc1
  obtain ⟨q, hq⟩ : ∃ b, (mn8.toList == nam.toList) = b := ⟨_, rfl⟩
  obtain ⟨b1, hb1⟩ : ∃ b, (mp == pl) = b := ⟨_, rfl⟩
  have HZB := Lib.hid (show oneN (b1 && q) = dd1 by rw [← hb1, ← hq, HEI.out, HET.out]; exact HC1.out)
  clear HEI HET HC1
  cases b1
  · have HZ := Lib.hid (show oneN false = dd1 from HZB.out)
    refine wp_region_G (.take 0 (.take 1 (.take 2 (.take 3 (.take 4 (.take 5 (.take 6 (.take 7 (.take 8 (.take 9 (.take 10 (.take 11 (.take 12 (.take 13 (.take 14 (.take 15 (.take 16 (.take 17 (.take 18 (.take 19 (.take 20 (.take 21 (.take 22 (.run 23 false (.take 24 (.run 25 true .nil)))))))))))))))))))))))))) (by kernel_rfl) (by kernel_rfl) ?_
    simp only [pickOps, nthOp]
    intro wq hG
    repeat (first | (refine wpG_skip_take ?_ ?_; (focus rfl); try simp only [Act.put, List.setIfInBounds_toArray, List.set_cons_zero, List.set_cons_succ]) | (refine wpG_skip_run ?_ ?_; (focus rfl); try simp only [Act.put, List.setIfInBounds_toArray, List.set_cons_zero, List.set_cons_succ]) | (refine wpG_take ?_ ?_; (focus rfl); apply Exists.intro; refine ⟨fun w' hw' => ?_, ?_⟩; (focus (have hc := Gr.cells hw'; go_simp; (try rfl); done)); try simp only [Act.put, List.setIfInBounds_toArray, List.set_cons_zero, List.set_cons_succ]) | (refine wpG_run ?_ (fun K hK => ?_); (focus rfl); go_simp; (first | (go_at_call 29; (with_reducible refine (one_anyG _ _).mono ?_); rintro e w4 ⟨rfl, hb⟩; first | rw [HZ.out] | skip)); (try dsimp only); replace hG := hG.trans hb; refine hK.out _ _ hG ?_; clear hK K hb; try simp only [Act.put, List.setIfInBounds_toArray, List.set_cons_zero, List.set_cons_succ]))
    refine wpG_last ?_ (fun K hK => ?_); (focus rfl)
    have hc := hG.cells
    have hm := hG.marks
    go_simp
    refine hK.out _ _ ?_
    try simp only [Act.put, List.setIfInBounds_toArray, List.set_cons_zero, List.set_cons_succ]
    clear hK K hc hm
    refine wpG_done ?_
    exact HK.out _ _ _ _ _ _ _ _ _ _ _ _ _ _ _ _ _ _ _ _ _ _ _ _ _ _ hG
  · have HZ := Lib.hid (show oneN q = dd1 from HZB.out)
    refine wp_region_G (.take 0 (.take 1 (.take 2 (.take 3 (.take 4 (.take 5 (.take 6 (.take 7 (.take 8 (.take 9 (.take 10 (.take 11 (.take 12 (.take 13 (.take 14 (.take 15 (.take 16 (.take 17 (.take 18 (.take 19 (.take 20 (.take 21 (.take 22 (.run 23 false (.take 24 (.run 25 true .nil)))))))))))))))))))))))))) (by kernel_rfl) (by kernel_rfl) ?_
    simp only [pickOps, nthOp]
    intro wq hG
    repeat (first | (refine wpG_skip_take ?_ ?_; (focus rfl); try simp only [Act.put, List.setIfInBounds_toArray, List.set_cons_zero, List.set_cons_succ]) | (refine wpG_skip_run ?_ ?_; (focus rfl); try simp only [Act.put, List.setIfInBounds_toArray, List.set_cons_zero, List.set_cons_succ]) | (refine wpG_take ?_ ?_; (focus rfl); apply Exists.intro; refine ⟨fun w' hw' => ?_, ?_⟩; (focus (have hc := Gr.cells hw'; go_simp; (try rfl); done)); try simp only [Act.put, List.setIfInBounds_toArray, List.set_cons_zero, List.set_cons_succ]) | (refine wpG_run ?_ (fun K hK => ?_); (focus rfl); go_simp; (first | (go_at_call 29; (with_reducible refine (one_anyG _ _).mono ?_); rintro e w4 ⟨rfl, hb⟩; first | rw [HZ.out] | skip)); (try dsimp only); replace hG := hG.trans hb; refine hK.out _ _ hG ?_; clear hK K hb; try simp only [Act.put, List.setIfInBounds_toArray, List.set_cons_zero, List.set_cons_succ]))
    refine wpG_last ?_ (fun K hK => ?_); (focus rfl)
    have hc := hG.cells
    have hm := hG.marks
    go_simp
    refine hK.out _ _ ?_
    try simp only [Act.put, List.setIfInBounds_toArray, List.set_cons_zero, List.set_cons_succ]
    clear hK K hc hm
    refine wpG_done ?_
    exact HK.out _ _ _ _ _ _ _ _ _ _ _ _ _ _ _ _ _ _ _ _ _ _ _ _ _ _ hG
noncomputable def r30_any_code : Code := ((Tryz.f6.body.bind (regAt 30)).getD .skip)
set_option maxRecDepth 1000000 in
set_option maxHeartbeats 16000000 in
theorem r30_any (W : World) (rb fb b4 o4 bn on j m dd1 nua cua cn : Nat) (nam mn8 : ByteArray) (pl mp : Int)
    (y25 : W.cell? ⟨rb, 25, none⟩ = some (.slice (some ⟨b4, o4, none⟩) nua cua)) (yl : rb < W.heap.size) (xf : boxAt W fb [.int .i64 6, .int .i64 0, .int .i64 0, .int .i64 pl, .slice (some ⟨bn, on, none⟩) 1 cn])
    (a1 : W.cell? ⟨b4, o4 + j * 3 + 1, none⟩ = some (.string mn8)) (a2 : W.cell? ⟨b4, o4 + j * 3 + 2, none⟩ = some (.int .i64 mp)) (kn : W.cell? ⟨bn, on, none⟩ = some (.string nam)) (hbu : b4 < W.heap.size) (hbn : bn < W.heap.size) (hjI : (j : Int) < (nua : Int)) (hmb : (nua : Int) ≤ 9223372036854775806) (hm2 : m + dd1 ≤ 2097152) (hc1 : oneN (decide (mp = pl) && decide (mn8 = nam)) = dd1)
    (c0 c1 c2 c3 c4 c7 c8 c9 c11 c13 c14 c15 c16 c17 c18 c19 c20 c21 c22 c23 c24 c25 c26 c27 c28 c29 c30 c31 c32 c33 c34 c35 c36 c37 c38 c39 c40 c41 c42 c43 c44 c45 c46 c47 c48 c49 c50 c51 c52 c53 c54 c55 c56 c57 c58 c59 c60 c61 c62 c63 c64 c65 c66 c67 c68 c69 c70 c71 c72 c73 c74 c75 c76 c77 c78 c79 c80 c81 c82 c83 c84 c85 c86 c87 c88 c89 c90 c91 c92 c93 c94 c95 c96 c97 c98 c99 c100 c101 c102 c103 c104 c105 c106 c107 c108 c109 c110 c111 c112 c113 c114 c115 c116 c117 c118 c119 c120 c121 c122 c123 c124 c125 c126 c127 c128 c129 c130 c131 c132 c133 c134 c135 c136 c137 c138 c139 c140 c141 c142 c143 c144 c145 c146 c147 c148 c149 c150 c151 c152 c153 c154 c155 c156 c157 c158 c159 c160 c161 c162 c163 c164 c165 c166 c167 c168 c169 c170 c171 c172 c173 c174 c175 c176 c177 c178 c179 c180 c181 c182 c183 c184 c185 c186 c187 c188 c189 c190 c191 c192 c193 c194 c195 c196 c197 c198 c199 c200 c201 c202 c203 c204 c205 c206 c207 c208 c209 c210 c211 c212 c213 c214 c215 c216 c217 c218 c219 c220 c221 c222 c223 c224 c225 c226 c227 c228 c229 c230 c231 c232 c233 c234 c235 c236 c237 c238 c239 c240 c241 c242 c243 c244 c245 c246 c247 : Value) (Q0 : Exit → Act → World → Prop)

    (hK : ∀ (u216 u217 u218 u219 u220 u221 u222 u223 u224 u225 u226 u227 u228 u229 u230 u231 u232 u233 u234 u235 u236 u237 u238 u239 u240 u241 u242 : Value) (w' : World), Gr W w' → Q0 .normal ⟨(List.toArray (c0 :: c1 :: c2 :: c3 :: c4 :: .pointer (some ⟨fb, 0, none⟩) :: .int .i64 ((m : Int) + (dd1 : Int)) :: c7 :: c8 :: c9 :: .pointer (some ⟨rb, 0, none⟩) :: c11 :: .int .i64 (j : Int) :: c13 :: c14 :: c15 :: c16 :: c17 :: c18 :: c19 :: c20 :: c21 :: c22 :: c23 :: c24 :: c25 :: c26 :: c27 :: c28 :: c29 :: c30 :: c31 :: c32 :: c33 :: c34 :: c35 :: c36 :: c37 :: c38 :: c39 :: c40 :: c41 :: c42 :: c43 :: c44 :: c45 :: c46 :: c47 :: c48 :: c49 :: c50 :: c51 :: c52 :: c53 :: c54 :: c55 :: c56 :: c57 :: c58 :: c59 :: c60 :: c61 :: c62 :: c63 :: c64 :: c65 :: c66 :: c67 :: c68 :: c69 :: c70 :: c71 :: c72 :: c73 :: c74 :: c75 :: c76 :: c77 :: c78 :: c79 :: c80 :: c81 :: c82 :: c83 :: c84 :: c85 :: c86 :: c87 :: c88 :: c89 :: c90 :: c91 :: c92 :: c93 :: c94 :: c95 :: c96 :: c97 :: c98 :: c99 :: c100 :: c101 :: c102 :: c103 :: c104 :: c105 :: c106 :: c107 :: c108 :: c109 :: c110 :: c111 :: c112 :: c113 :: c114 :: c115 :: c116 :: c117 :: c118 :: c119 :: c120 :: c121 :: c122 :: c123 :: c124 :: c125 :: c126 :: c127 :: c128 :: c129 :: c130 :: c131 :: c132 :: c133 :: c134 :: c135 :: c136 :: c137 :: c138 :: c139 :: c140 :: c141 :: c142 :: c143 :: c144 :: c145 :: c146 :: c147 :: c148 :: c149 :: c150 :: c151 :: c152 :: c153 :: c154 :: c155 :: c156 :: c157 :: c158 :: c159 :: c160 :: c161 :: c162 :: c163 :: c164 :: c165 :: c166 :: c167 :: c168 :: c169 :: c170 :: c171 :: c172 :: c173 :: c174 :: c175 :: c176 :: c177 :: c178 :: c179 :: c180 :: c181 :: c182 :: c183 :: c184 :: c185 :: c186 :: c187 :: c188 :: c189 :: c190 :: c191 :: c192 :: c193 :: c194 :: c195 :: c196 :: c197 :: c198 :: c199 :: c200 :: c201 :: c202 :: c203 :: c204 :: c205 :: c206 :: c207 :: c208 :: c209 :: c210 :: c211 :: c212 :: c213 :: c214 :: c215 :: u216 :: u217 :: u218 :: u219 :: u220 :: u221 :: u222 :: u223 :: u224 :: u225 :: u226 :: u227 :: u228 :: u229 :: u230 :: u231 :: u232 :: u233 :: u234 :: u235 :: u236 :: u237 :: u238 :: u239 :: u240 :: u241 :: u242 :: c243 :: c244 :: c245 :: c246 :: c247 :: [])), []⟩ w') :
    Code.wp Tryz.prog r30_any_code Q0 ⟨(List.toArray (c0 :: c1 :: c2 :: c3 :: c4 :: .pointer (some ⟨fb, 0, none⟩) :: .int .i64 (m : Int) :: c7 :: c8 :: c9 :: .pointer (some ⟨rb, 0, none⟩) :: c11 :: .int .i64 (j : Int) :: c13 :: c14 :: c15 :: c16 :: c17 :: c18 :: c19 :: c20 :: c21 :: c22 :: c23 :: c24 :: c25 :: c26 :: c27 :: c28 :: c29 :: c30 :: c31 :: c32 :: c33 :: c34 :: c35 :: c36 :: c37 :: c38 :: c39 :: c40 :: c41 :: c42 :: c43 :: c44 :: c45 :: c46 :: c47 :: c48 :: c49 :: c50 :: c51 :: c52 :: c53 :: c54 :: c55 :: c56 :: c57 :: c58 :: c59 :: c60 :: c61 :: c62 :: c63 :: c64 :: c65 :: c66 :: c67 :: c68 :: c69 :: c70 :: c71 :: c72 :: c73 :: c74 :: c75 :: c76 :: c77 :: c78 :: c79 :: c80 :: c81 :: c82 :: c83 :: c84 :: c85 :: c86 :: c87 :: c88 :: c89 :: c90 :: c91 :: c92 :: c93 :: c94 :: c95 :: c96 :: c97 :: c98 :: c99 :: c100 :: c101 :: c102 :: c103 :: c104 :: c105 :: c106 :: c107 :: c108 :: c109 :: c110 :: c111 :: c112 :: c113 :: c114 :: c115 :: c116 :: c117 :: c118 :: c119 :: c120 :: c121 :: c122 :: c123 :: c124 :: c125 :: c126 :: c127 :: c128 :: c129 :: c130 :: c131 :: c132 :: c133 :: c134 :: c135 :: c136 :: c137 :: c138 :: c139 :: c140 :: c141 :: c142 :: c143 :: c144 :: c145 :: c146 :: c147 :: c148 :: c149 :: c150 :: c151 :: c152 :: c153 :: c154 :: c155 :: c156 :: c157 :: c158 :: c159 :: c160 :: c161 :: c162 :: c163 :: c164 :: c165 :: c166 :: c167 :: c168 :: c169 :: c170 :: c171 :: c172 :: c173 :: c174 :: c175 :: c176 :: c177 :: c178 :: c179 :: c180 :: c181 :: c182 :: c183 :: c184 :: c185 :: c186 :: c187 :: c188 :: c189 :: c190 :: c191 :: c192 :: c193 :: c194 :: c195 :: c196 :: c197 :: c198 :: c199 :: c200 :: c201 :: c202 :: c203 :: c204 :: c205 :: c206 :: c207 :: c208 :: c209 :: c210 :: c211 :: c212 :: c213 :: c214 :: c215 :: c216 :: c217 :: c218 :: c219 :: c220 :: c221 :: c222 :: c223 :: c224 :: c225 :: c226 :: c227 :: c228 :: c229 :: c230 :: c231 :: c232 :: c233 :: c234 :: c235 :: c236 :: c237 :: c238 :: c239 :: c240 :: c241 :: c242 :: c243 :: c244 :: c245 :: c246 :: c247 :: [])), []⟩ W := by
  conv => arg 2; whnf
  have HK := Lib.hid hK
  clear hK
  have hw : IntKind.i64.wrap ((m : Int) + (dd1 : Int)) = (m : Int) + (dd1 : Int) := IntWalk.i64_in _ (by omega)
  have c_f0 := xf.cell 0 _ rfl
  have c_f1 := xf.cell 1 _ rfl
  have c_f2 := xf.cell 2 _ rfl
  have c_f3 := xf.cell 3 _ rfl
  have c_f4 := xf.cell 4 _ rfl
  have m_f0 := xf.mark 0 _ rfl
  have m_f1 := xf.mark 1 _ rfl
  have m_f2 := xf.mark 2 _ rfl
  have m_f3 := xf.mark 3 _ rfl
  have m_f4 := xf.mark 4 _ rfl
  have l_f := xf.lt (Nat.succ_pos _)
  have HEI := Lib.hid (eqI mp pl)
  have HET := Lib.hid (eqT mn8 nam)
  have HC1 := Lib.hid hc1
  clear hc1
  obtain ⟨q, hq⟩ : ∃ b, (mn8.toList == nam.toList) = b := ⟨_, rfl⟩
  obtain ⟨b1, hb1⟩ : ∃ b, (mp == pl) = b := ⟨_, rfl⟩
  have HZB := Lib.hid (show oneN (b1 && q) = dd1 by rw [← hb1, ← hq, HEI.out, HET.out]; exact HC1.out)
  clear HEI HET HC1
  cases b1
  · have HZ := Lib.hid (show oneN false = dd1 from HZB.out)
    refine wp_region_G (.take 0 (.take 1 (.take 2 (.take 3 (.take 4 (.take 5 (.take 6 (.take 7 (.take 8 (.take 9 (.take 10 (.take 11 (.take 12 (.take 13 (.take 14 (.take 15 (.take 16 (.take 17 (.take 18 (.take 19 (.take 20 (.take 21 (.take 22 (.take 23 (.take 24 (.run 25 false (.take 26 (.run 27 true .nil)))))))))))))))))))))))))))) (by kernel_rfl) (by kernel_rfl) ?_
    simp only [pickOps, nthOp]
    intro wq hG
    repeat (first | (refine wpG_skip_take ?_ ?_; (focus rfl); try simp only [Act.put, List.setIfInBounds_toArray, List.set_cons_zero, List.set_cons_succ]) | (refine wpG_skip_run ?_ ?_; (focus rfl); try simp only [Act.put, List.setIfInBounds_toArray, List.set_cons_zero, List.set_cons_succ]) | (refine wpG_take ?_ ?_; (focus rfl); apply Exists.intro; refine ⟨fun w' hw' => ?_, ?_⟩; (focus (have hc := Gr.cells hw'; go_simp; (try rfl); done)); try simp only [Act.put, List.setIfInBounds_toArray, List.set_cons_zero, List.set_cons_succ]) | (refine wpG_run ?_ (fun K hK => ?_); (focus rfl); go_simp; (first | (go_at_call 29; (with_reducible refine (one_anyG _ _).mono ?_); rintro e w4 ⟨rfl, hb⟩; first | rw [HZ.out] | skip)); (try dsimp only); replace hG := hG.trans hb; refine hK.out _ _ hG ?_; clear hK K hb; try simp only [Act.put, List.setIfInBounds_toArray, List.set_cons_zero, List.set_cons_succ]))
    refine wpG_last ?_ (fun K hK => ?_); (focus rfl)
    have hc := hG.cells
    have hm := hG.marks
    go_simp
    refine hK.out _ _ ?_
    try simp only [Act.put, List.setIfInBounds_toArray, List.set_cons_zero, List.set_cons_succ]
    clear hK K hc hm
    refine wpG_done ?_
    exact HK.out _ _ _ _ _ _ _ _ _ _ _ _ _ _ _ _ _ _ _ _ _ _ _ _ _ _ _ _ hG
  · have HZ := Lib.hid (show oneN q = dd1 from HZB.out)
    refine wp_region_G (.take 0 (.take 1 (.take 2 (.take 3 (.take 4 (.take 5 (.take 6 (.take 7 (.take 8 (.take 9 (.take 10 (.take 11 (.take 12 (.take 13 (.take 14 (.take 15 (.take 16 (.take 17 (.take 18 (.take 19 (.take 20 (.take 21 (.take 22 (.take 23 (.take 24 (.run 25 false (.take 26 (.run 27 true .nil)))))))))))))))))))))))))))) (by kernel_rfl) (by kernel_rfl) ?_
    simp only [pickOps, nthOp]
    intro wq hG
    repeat (first | (refine wpG_skip_take ?_ ?_; (focus rfl); try simp only [Act.put, List.setIfInBounds_toArray, List.set_cons_zero, List.set_cons_succ]) | (refine wpG_skip_run ?_ ?_; (focus rfl); try simp only [Act.put, List.setIfInBounds_toArray, List.set_cons_zero, List.set_cons_succ]) | (refine wpG_take ?_ ?_; (focus rfl); apply Exists.intro; refine ⟨fun w' hw' => ?_, ?_⟩; (focus (have hc := Gr.cells hw'; go_simp; (try rfl); done)); try simp only [Act.put, List.setIfInBounds_toArray, List.set_cons_zero, List.set_cons_succ]) | (refine wpG_run ?_ (fun K hK => ?_); (focus rfl); go_simp; (first | (go_at_call 29; (with_reducible refine (one_anyG _ _).mono ?_); rintro e w4 ⟨rfl, hb⟩; first | rw [HZ.out] | skip)); (try dsimp only); replace hG := hG.trans hb; refine hK.out _ _ hG ?_; clear hK K hb; try simp only [Act.put, List.setIfInBounds_toArray, List.set_cons_zero, List.set_cons_succ]))
    refine wpG_last ?_ (fun K hK => ?_); (focus rfl)
    have hc := hG.cells
    have hm := hG.marks
    go_simp
    refine hK.out _ _ ?_
    try simp only [Act.put, List.setIfInBounds_toArray, List.set_cons_zero, List.set_cons_succ]
    clear hK K hc hm
    refine wpG_done ?_
    exact HK.out _ _ _ _ _ _ _ _ _ _ _ _ _ _ _ _ _ _ _ _ _ _ _ _ _ _ _ _ hG
end Go.Proofs.YtkkopdmemjncdaaGreatDoor
