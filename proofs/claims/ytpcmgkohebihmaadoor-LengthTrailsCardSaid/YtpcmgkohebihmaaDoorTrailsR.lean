/- LengthTrails of bolterlaw8: its round, from the eleventh region on. No condition but that the errors' variables hold the errors. -/
import Derived.Test.YtpcmgkohebihmaaDoorTrailsP
import Derived.Test.YtpcmgkohebihmaaDoorSame
import Derived.Test.YtpcmgkohebihmaaDoorMay
import Derived.Deep.DeepCutAuto
namespace Go.Proofs.YtpcmgkohebihmaaDoor
open Go Go.RowKit

def seqAt (n : Nat) : Code → Option Code
  | .seq (.region k ops d) b => if k = n then some (.seq (.region k ops d) b) else seqAt n b
  | .seq a b => match seqAt n a with
    | some c => some c
    | none => seqAt n b
  | .loop c => seqAt n c
  | .block _ c => seqAt n c
  | .scope c => seqAt n c
  | .cond _ a b => match seqAt n a with
    | some c => some c
    | none => seqAt n b
  | _ => none
noncomputable def rest11 : Code := ((Tryd.f6.body.bind (seqAt 11)).getD .skip)

theorem trails_none {zn c1 b3 b4 : Bool} {r1 r2 r3 : Int × Int} (h : ((!zn && c1) || (!b4 && !b3)) = true) : (if !zn && c1 then none else if b3 then some r1 else if !b4 then none else if zn then some r2 else some r3 : Option (Int × Int)) = none := by
  cases zn <;> cases c1 <;> cases b3 <;> cases b4 <;> simp at h ⊢
theorem trails_more {zn c1 b3 b4 : Bool} {r1 r2 r3 : Int × Int} (h : ((!zn && c1) || (!b4 && !b3)) = false) : (if !zn && c1 then none else if b3 then some r1 else if !b4 then none else if zn then some r2 else some r3 : Option (Int × Int)).isSome = true := by
  cases zn <;> cases c1 <;> cases b3 <;> cases b4 <;> simp at h ⊢
theorem trails_cases {zn c1 b3 b4 : Bool} {yl zl k n : Int} (h : (if !zn && c1 then none else if b3 then some (1, yl) else if !b4 then none else if zn then some (2, 1) else some (2, zl) : Option (Int × Int)) = some (k, n)) : (b3 = true ∧ 1 = k ∧ yl = n) ∨ (b3 = false ∧ b4 = true ∧ 2 = k) := by
  cases zn <;> cases c1 <;> cases b3 <;> cases b4 <;> simp_all

set_option maxRecDepth 1000000 in
set_option maxHeartbeats 16000000 in
theorem after10 (w WC : World) (n bd gl capl b6 b8 : Nat) (zn yn : Bool) (zl zm yl ym : Int) (e f : Ex) (cc : List Value) (ls : List (Co × List Value)) (s : Nat → Addr) (hF : FaultsIn w s) (hG0 : Gr w WC)
    (x6c : boxAt WC b6 [.bool zn, .int .i64 zl, .int .i64 zm]) (x8c : boxAt WC b8 [.bool yn, .int .i64 yl, .int .i64 ym]) (hz : within ⟨zn, zl, zm⟩ 65536) (hy : within ⟨yn, yl, ym⟩ 65536)
    (hcut : cutOf ⟨e, true, f⟩ = cutRes ⟨zn, zl, zm⟩ ⟨yn, yl, ym⟩) (hok : okCo ⟨e, true, f⟩ = true) (hcc1 : ∀ c, Sl WC (.slice (some ⟨gl, n * 21, none⟩) 1 c) 21 1 cc) (hcc3 : CoIn w ⟨e, true, f⟩ cc)
    (hn20 : n ≤ 20) (hbd20 : bd ≤ 20) (hcp1 : n + 1 ≤ capl) (hcp2 : capl ≤ 9223372036854775807) (hbad : BadIs (ls.map (·.1)) bd) (hlen : (ls.map (·.1)).length = n)
    (c0 c1 c2 c5 c7 c9 c10 c11 c12 c13 c14 c15 c16 c17 c18 c19 c20 c21 c22 c23 c24 c25 c26 c27 c28 c29 c30 c31 c32 c33 c34 c35 c36 c37 c38 c39 c40 c41 c42 c43 c44 c45 c46 c47 c48 c49 c50 c51 c52 c53 c54 c55 c56 c57 c58 c59 c60 c61 c62 c63 c64 c65 c66 c67 c68 c69 c70 c71 c72 c73 c74 c75 c76 c77 c78 c79 c80 c81 c82 c83 c84 c85 c86 c87 c88 c89 c90 c91 c92 c93 c94 c95 c96 c97 c98 c99 c100 c101 c102 c103 c104 c105 c106 c107 c108 c109 c110 c111 c112 c113 c114 c115 c116 c117 c118 c119 c120 c121 c122 c123 c124 c125 c126 c127 c128 c129 c130 c131 c132 c133 c134 c135 c136 c137 c138 c139 c140 c141 c142 c143 c144 c145 c146 c147 c148 c149 c150 c151 c152 c153 c154 c155 c156 c157 c158 c159 c160 c161 c162 c163 c164 c165 c166 c167 c168 c169 c170 c171 c172 c173 c174 c175 c176 c177 c178 c179 c180 c181 c182 c183 c184 c185 c186 c187 c188 c189 c190 c191 c192 c193 c194 c195 c196 c197 c198 c199 c200 c201 c202 c203 c204 c205 c206 c207 c208 c209 c210 c211 c212 c213 c214 c215 c216 c217 c218 c219 c220 c221 : Value) (Q0 : Exit → Act → World → Prop)
    (hQ : ∀ (u6 u7 u8 u9 u10 u11 u12 u13 u16 u17 u18 u19 u20 u21 u22 u23 u24 u25 u26 u27 u28 u29 u30 u31 u32 u33 u34 u35 u36 u37 u38 u39 u40 u41 u42 u43 u44 u45 u46 u47 u48 u49 u50 u51 u52 u53 u54 u55 u56 u57 u58 u59 u60 u61 u62 u63 u64 u65 u66 u67 u68 u69 u70 u71 u72 u73 u74 u75 u76 u77 u78 u79 u80 u81 u82 u83 u84 u85 u86 u87 u88 u89 u90 u91 u92 u93 u94 u95 u96 u97 u98 u99 u100 u101 u102 u103 u104 u105 u106 u107 u108 u109 u110 u111 u112 u113 u114 u115 u116 u117 u118 u119 u120 u121 u122 u123 u124 u125 u126 u127 u128 u129 u130 u131 u132 u133 u134 u135 u136 u137 u138 u139 u140 u141 u142 u143 u144 u145 u146 u147 u148 u149 u150 u151 u152 u153 u154 u155 u156 u157 u158 u159 u160 u161 u162 u163 u164 u165 u166 u167 u168 u169 u170 u171 u172 u173 u174 u175 u176 u177 u178 u179 u180 u181 u182 u183 u184 u185 u186 u187 u188 u189 u190 u191 u192 u193 u194 u195 : Value) (bd' : Nat) (w' : World), BadIs (ls.map (·.1) ++ [(⟨e, true, f⟩ : Co)]) bd' → Gr WC w' → Q0 .normal ⟨(List.toArray (c0 :: c1 :: c2 :: .slice (some ⟨gl, 0, none⟩) (n + 1) capl :: .int .i64 (bd' : Int) :: c5 :: u6 :: u7 :: u8 :: u9 :: u10 :: u11 :: u12 :: u13 :: c14 :: c15 :: u16 :: u17 :: u18 :: u19 :: u20 :: u21 :: u22 :: u23 :: u24 :: u25 :: u26 :: u27 :: u28 :: u29 :: u30 :: u31 :: u32 :: u33 :: u34 :: u35 :: u36 :: u37 :: u38 :: u39 :: u40 :: u41 :: u42 :: u43 :: u44 :: u45 :: u46 :: u47 :: u48 :: u49 :: u50 :: u51 :: u52 :: u53 :: u54 :: u55 :: u56 :: u57 :: u58 :: u59 :: u60 :: u61 :: u62 :: u63 :: u64 :: u65 :: u66 :: u67 :: u68 :: u69 :: u70 :: u71 :: u72 :: u73 :: u74 :: u75 :: u76 :: u77 :: u78 :: u79 :: u80 :: u81 :: u82 :: u83 :: u84 :: u85 :: u86 :: u87 :: u88 :: u89 :: u90 :: u91 :: u92 :: u93 :: u94 :: u95 :: u96 :: u97 :: u98 :: u99 :: u100 :: u101 :: u102 :: u103 :: u104 :: u105 :: u106 :: u107 :: u108 :: u109 :: u110 :: u111 :: u112 :: u113 :: u114 :: u115 :: u116 :: u117 :: u118 :: u119 :: u120 :: u121 :: u122 :: u123 :: u124 :: u125 :: u126 :: u127 :: u128 :: u129 :: u130 :: u131 :: u132 :: u133 :: u134 :: u135 :: u136 :: u137 :: u138 :: u139 :: u140 :: u141 :: u142 :: u143 :: u144 :: u145 :: u146 :: u147 :: u148 :: u149 :: u150 :: u151 :: u152 :: u153 :: u154 :: u155 :: u156 :: u157 :: u158 :: u159 :: u160 :: u161 :: u162 :: u163 :: u164 :: u165 :: u166 :: u167 :: u168 :: u169 :: u170 :: u171 :: u172 :: u173 :: u174 :: u175 :: u176 :: u177 :: u178 :: u179 :: u180 :: u181 :: u182 :: u183 :: u184 :: u185 :: u186 :: u187 :: u188 :: u189 :: u190 :: u191 :: u192 :: u193 :: u194 :: u195 :: c196 :: c197 :: c198 :: c199 :: c200 :: c201 :: c202 :: c203 :: c204 :: c205 :: c206 :: c207 :: c208 :: c209 :: c210 :: c211 :: c212 :: c213 :: c214 :: c215 :: c216 :: c217 :: c218 :: c219 :: c220 :: c221 :: [])), []⟩ w') :
    Code.wp Tryd.prog rest11 Q0 ⟨(List.toArray (c0 :: c1 :: c2 :: .slice (some ⟨gl, 0, none⟩) (n + 1) capl :: .int .i64 (bd : Int) :: c5 :: .pointer (some ⟨b6, 0, none⟩) :: c7 :: .pointer (some ⟨b8, 0, none⟩) :: c9 :: c10 :: c11 :: c12 :: c13 :: c14 :: c15 :: c16 :: c17 :: c18 :: c19 :: c20 :: c21 :: c22 :: c23 :: c24 :: c25 :: c26 :: c27 :: c28 :: c29 :: c30 :: c31 :: c32 :: c33 :: c34 :: c35 :: c36 :: c37 :: c38 :: c39 :: c40 :: c41 :: c42 :: c43 :: c44 :: c45 :: c46 :: c47 :: c48 :: c49 :: c50 :: c51 :: c52 :: c53 :: c54 :: c55 :: c56 :: c57 :: c58 :: c59 :: c60 :: c61 :: c62 :: c63 :: c64 :: c65 :: c66 :: c67 :: c68 :: c69 :: c70 :: c71 :: c72 :: c73 :: c74 :: c75 :: c76 :: c77 :: c78 :: c79 :: c80 :: c81 :: c82 :: c83 :: c84 :: c85 :: c86 :: c87 :: c88 :: c89 :: c90 :: c91 :: c92 :: c93 :: c94 :: c95 :: c96 :: c97 :: c98 :: c99 :: c100 :: c101 :: c102 :: c103 :: c104 :: c105 :: c106 :: c107 :: c108 :: c109 :: c110 :: c111 :: c112 :: c113 :: c114 :: c115 :: c116 :: c117 :: c118 :: c119 :: c120 :: c121 :: c122 :: c123 :: c124 :: c125 :: c126 :: c127 :: c128 :: c129 :: c130 :: c131 :: c132 :: c133 :: c134 :: c135 :: c136 :: c137 :: c138 :: c139 :: c140 :: c141 :: c142 :: c143 :: c144 :: c145 :: c146 :: c147 :: c148 :: c149 :: c150 :: c151 :: c152 :: c153 :: c154 :: c155 :: c156 :: c157 :: c158 :: c159 :: c160 :: c161 :: c162 :: c163 :: c164 :: c165 :: c166 :: c167 :: c168 :: c169 :: c170 :: c171 :: c172 :: c173 :: c174 :: c175 :: c176 :: c177 :: c178 :: c179 :: c180 :: c181 :: c182 :: c183 :: c184 :: c185 :: c186 :: c187 :: c188 :: c189 :: c190 :: c191 :: c192 :: c193 :: c194 :: c195 :: c196 :: c197 :: c198 :: c199 :: c200 :: c201 :: c202 :: c203 :: c204 :: c205 :: c206 :: c207 :: c208 :: c209 :: c210 :: c211 :: c212 :: c213 :: c214 :: c215 :: c216 :: c217 :: c218 :: c219 :: c220 :: c221 :: [])), []⟩ WC := by
  conv => arg 2; whnf
  have HQ0 := Lib.hid hQ
  have HC1 := Lib.hid (fun (cur : World) (h : Gr WC cur) (cx : Nat) => cuts_any [((⟨e, true, f⟩ : Co), cc)] (.slice (some ⟨gl, n * 21, none⟩) 1 cx) cur (by simpa using (hcc1 cx).later h) (fun px hp => by rw [List.mem_singleton.1 hp]; exact (hcc3.later hG0).later h) _ ((hF.later (hG0.trans h)).errs 15 (by omega) (by omega)) _ ((hF.later (hG0.trans h)).errs 10 (by omega) (by omega)))
  have HOK1 := Lib.hid hok
  have HBD := Lib.hid hbad
  have HLEN := Lib.hid hlen
  obtain ⟨zr1, zr2, zr3, zr4⟩ := hz
  obtain ⟨yr1, yr2, yr3, yr4⟩ := hy
  simp only at zr1 zr2 zr3 zr4 yr1 yr2 yr3 yr4
  obtain ⟨k1, hk1⟩ : ∃ q, (zl == 0) = q := ⟨_, rfl⟩
  have HC := Lib.hid hk1
  have HCW := Lib.hid (hcut.trans (cutRes_of (z := ⟨zn, zl, zm⟩) (y := ⟨yn, yl, ym⟩) rfl hk1 rfl rfl))
  clear hk1 hcut hok hbad hlen hcc1 hcc3 hF hG0 hQ
  go_upto_region 11 with fail
  go_cut [10] from 78 to 86 (fun s wx => s = .bool (oneL ⟨zn, zl, zm⟩) ∧ WC = wx)
  case first =>
    ·
      have c_a0 := x6c.cell 0 _ rfl
      have c_a1 := x6c.cell 1 _ rfl
      have c_a2 := x6c.cell 2 _ rfl
      have m_a0 := x6c.mark 0 _ rfl
      have m_a1 := x6c.mark 1 _ rfl
      have m_a2 := x6c.mark 2 _ rfl
      have l_a := x6c.lt (Nat.succ_pos _)
      obtain ⟨k2, hk2⟩ : ∃ q, (zl == zm) = q := ⟨_, rfl⟩
      have HC2 := Lib.hid hk2
      cases zn
      · cases k2
        · go_wp2_with fail
          go_meet
          case rel => exact ⟨by simp [oneL, HC2.out], rfl⟩
        · go_wp2_with fail
          go_meet
          case rel => exact ⟨by simp [oneL, HC2.out], rfl⟩
      · go_wp2_with fail
        go_meet
        case rel => exact ⟨by simp [oneL], rfl⟩
  case rest =>
    obtain ⟨rfl, rfl⟩ := hcut
    go_upto_region 12 with fail
    go_cut [11] from 87 to 95 (fun s wx => s = .bool (oneL ⟨yn, yl, ym⟩) ∧ WC = wx)
    case first =>
      ·
        have c_a0 := x8c.cell 0 _ rfl
        have c_a1 := x8c.cell 1 _ rfl
        have c_a2 := x8c.cell 2 _ rfl
        have m_a0 := x8c.mark 0 _ rfl
        have m_a1 := x8c.mark 1 _ rfl
        have m_a2 := x8c.mark 2 _ rfl
        have l_a := x8c.lt (Nat.succ_pos _)
        obtain ⟨k2, hk2⟩ : ∃ q, (yl == ym) = q := ⟨_, rfl⟩
        have HC2 := Lib.hid hk2
        cases yn
        · cases k2
          · go_wp2_with fail
            go_meet
            case rel => exact ⟨by simp [oneL, HC2.out], rfl⟩
          · go_wp2_with fail
            go_meet
            case rel => exact ⟨by simp [oneL, HC2.out], rfl⟩
        · go_wp2_with fail
          go_meet
          case rel => exact ⟨by simp [oneL], rfl⟩
    case rest =>
      obtain ⟨rfl, rfl⟩ := hcut
      obtain ⟨b4, hb4⟩ : ∃ q, oneL ⟨zn, zl, zm⟩ = q := ⟨_, rfl⟩
      obtain ⟨b3, hb3⟩ : ∃ q, oneL ⟨yn, yl, ym⟩ = q := ⟨_, rfl⟩
      have HB4 := Lib.hid hb4
      have HB3 := Lib.hid hb3
      rw [hb4, hb3] at HCW
      rw [hb4, hb3]
      clear hb3 hb4
      go_upto_region 13 with fail
      go_cut [115] from 96 to 115 (fun s wx => s = .bool (decide (bd = 0) && ((!zn && k1) || (!b4 && !b3))) ∧ WC = wx)
      case first =>
        ·
          have c_a0 := x6c.cell 0 _ rfl
          have c_a1 := x6c.cell 1 _ rfl
          have c_a2 := x6c.cell 2 _ rfl
          have m_a0 := x6c.mark 0 _ rfl
          have m_a1 := x6c.mark 1 _ rfl
          have m_a2 := x6c.mark 2 _ rfl
          have l_a := x6c.lt (Nat.succ_pos _)
          have hk1 := HC.out
          by_cases hb0 : bd = 0
          · subst hb0
            cases zn
            · cases k1
              · cases b4
                · cases b3
                  all_goals
                    go_wp2_with fail
                    go_meet
                    case rel => exact ⟨by simp, rfl⟩
                · go_wp2_with fail
                  go_meet
                  case rel => exact ⟨by simp, rfl⟩
              · go_wp2_with fail
                go_meet
                case rel => exact ⟨by simp, rfl⟩
            · cases b4
              · cases b3
                all_goals
                  go_wp2_with fail
                  go_meet
                  case rel => exact ⟨by simp, rfl⟩
              · go_wp2_with fail
                go_meet
                case rel => exact ⟨by simp, rfl⟩
          · have hbI : ((bd : Int) == 0) = false := by simp; omega
            have HB0 := Lib.hid hb0
            go_wp2_with fail
            go_meet
            case rel => exact ⟨by simp [HB0.out], rfl⟩
      case rest =>
        obtain ⟨rfl, rfl⟩ := hcut
        obtain ⟨k4, hk4⟩ : ∃ q, (decide (bd = 0) && ((!zn && k1) || (!b4 && !b3))) = q := ⟨_, rfl⟩
        have HC4 := Lib.hid hk4
        rw [hk4]
        clear hk4
        go_upto_if 115 with fail
        go_cut [4] from 116 to 117 (fun s wx => (∃ bd' : Nat, s = .int .i64 (bd' : Int) ∧ BadIs (ls.map (·.1) ++ [(⟨e, true, f⟩ : Co)]) bd') ∧ WC = wx)
        case first =>
          ·
            cases k4
            · go_wp2_with fail
              go_meet
              case rel =>
                refine ⟨⟨bd, rfl, BadIs.more HBD.out (fun h0 => ?_)⟩, rfl⟩
                rw [HCW.out]
                exact trails_more (by have := HC4.out; rw [h0] at this; simpa using this)
            · go_wp2_with fail
              go_meet
              case rel =>
                have h4 := HC4.out
                rw [Bool.and_eq_true] at h4
                have h0 : bd = 0 := by simpa using h4.1
                have hcn : cutOf ⟨e, true, f⟩ = none := by rw [HCW.out]; exact trails_none h4.2
                subst h0
                refine ⟨⟨n + 1, by go_num, ?_⟩, rfl⟩
                have h := BadIs.first (a := (⟨e, true, f⟩ : Co)) HBD.out hcn
                rw [HLEN.out] at h; exact h
        case rest =>
          obtain ⟨⟨bd', rfl, hbn⟩, rfl⟩ := hcut
          have HNW := Lib.hid hbn
          clear hbn
          go_wp2_with fail
          go_at_call 16
          refine (HC1.out WC (Gr.refl _) (capl - n)).mono ?_; rintro e' wd ⟨vd, er, rfl, htold, hbd⟩
          replace x6c := x6c.later hbd
          replace x8c := x8c.later hbd
          have HNW2 := HNW
          have HGW := Lib.hid hbd
          clear hbd
          rcases told_one htold HOK1.out with ⟨_, rfl, te, pe, rfl⟩ | ⟨m1, m2, hcn, rfl, hown2⟩
          · clear htold
            clear HC1 HOK1 HBD HLEN HNW hcp1 hcp2
            go_upto_region 18 with fail
            have c_a0 := x6c.cell 0 _ rfl
            have c_a1 := x6c.cell 1 _ rfl
            have c_a2 := x6c.cell 2 _ rfl
            have m_a0 := x6c.mark 0 _ rfl
            have m_a1 := x6c.mark 1 _ rfl
            have m_a2 := x6c.mark 2 _ rfl
            have l_a := x6c.lt (Nat.succ_pos _)
            have c_b0 := x8c.cell 0 _ rfl
            have c_b1 := x8c.cell 1 _ rfl
            have c_b2 := x8c.cell 2 _ rfl
            have m_b0 := x8c.mark 0 _ rfl
            have m_b1 := x8c.mark 1 _ rfl
            have m_b2 := x8c.mark 2 _ rfl
            have l_b := x8c.lt (Nat.succ_pos _)
            refine wp_region_G (.take 0 (.take 1 (.take 2 (.take 3 (.take 4 (.take 5 (.take 6 (.take 7 (.take 8 (.take 9 (.take 10 (.take 11 (.take 12 (.take 13 (.take 14 (.take 15 (.take 16 (.take 17 (.take 18 (.take 19 (.take 20 (.take 21 (.take 22 (.take 23 (.take 24 (.take 25 (.take 26 (.take 27 (.take 28 (.take 29 (.take 30 (.take 31 (.take 32 .nil))))))))))))))))))))))))))))))))) (by kernel_rfl) (by kernel_rfl) ?_
            simp only [pickOps, nthOp]
            intro wq hG
            repeat (first | (refine wpG_skip_take ?_ ?_; (focus rfl); try simp only [Act.put, List.setIfInBounds_toArray, List.set_cons_zero, List.set_cons_succ]) | (refine wpG_skip_run ?_ ?_; (focus rfl); try simp only [Act.put, List.setIfInBounds_toArray, List.set_cons_zero, List.set_cons_succ]) | (refine wpG_take ?_ ?_; (focus rfl); apply Exists.intro; refine ⟨fun w' hw' => ?_, ?_⟩; (focus (have hc := Gr.cells hw'; go_simp; (try rfl); done)); try simp only [Act.put, List.setIfInBounds_toArray, List.set_cons_zero, List.set_cons_succ]))
            refine wpG_done ?_
            clear c_a0 c_a1 c_a2 m_a0 m_a1 m_a2 l_a
            clear c_b0 c_b1 c_b2 m_b0 m_b1 m_b2 l_b
            have hgx := HGW.out.trans hG
            go_wp2_with fail
            exact HQ0.out _ _ _ _ _ _ _ _ _ _ _ _ _ _ _ _ _ _ _ _ _ _ _ _ _ _ _ _ _ _ _ _ _ _ _ _ _ _ _ _ _ _ _ _ _ _ _ _ _ _ _ _ _ _ _ _ _ _ _ _ _ _ _ _ _ _ _ _ _ _ _ _ _ _ _ _ _ _ _ _ _ _ _ _ _ _ _ _ _ _ _ _ _ _ _ _ _ _ _ _ _ _ _ _ _ _ _ _ _ _ _ _ _ _ _ _ _ _ _ _ _ _ _ _ _ _ _ _ _ _ _ _ _ _ _ _ _ _ _ _ _ _ _ _ _ _ _ _ _ _ _ _ _ _ _ _ _ _ _ _ _ _ _ _ _ _ _ _ _ _ _ _ _ _ _ _ _ _ _ _ _ _ _ _ _ _ _ _ bd' _ HNW2.out hgx
          · obtain ⟨g2, cp2, rfl, _, hg2l, _⟩ := owns_block hown2 (by omega)
            have q0 := owns_cell hown2 0 _ rfl
            have q1 := owns_cell hown2 1 _ rfl
            rw [HCW.out] at hcn
            have hcs := trails_cases hcn
            clear htold hown2 hcn
            clear HC1 HOK1 HBD HLEN HNW hcp1 hcp2
            rcases hcs with ⟨h1, h2, h3⟩ | ⟨h1, h2, h3⟩
            · subst h1 h2 h3
              go_upto_region 18 with fail
              cases b4
              · skip
                have c_a0 := x6c.cell 0 _ rfl
                have c_a1 := x6c.cell 1 _ rfl
                have c_a2 := x6c.cell 2 _ rfl
                have m_a0 := x6c.mark 0 _ rfl
                have m_a1 := x6c.mark 1 _ rfl
                have m_a2 := x6c.mark 2 _ rfl
                have l_a := x6c.lt (Nat.succ_pos _)
                have c_b0 := x8c.cell 0 _ rfl
                have c_b1 := x8c.cell 1 _ rfl
                have c_b2 := x8c.cell 2 _ rfl
                have m_b0 := x8c.mark 0 _ rfl
                have m_b1 := x8c.mark 1 _ rfl
                have m_b2 := x8c.mark 2 _ rfl
                have l_b := x8c.lt (Nat.succ_pos _)
                refine wp_region_G (.take 0 (.take 1 (.take 2 (.take 3 (.take 4 (.take 5 (.take 6 (.take 7 (.take 8 (.take 9 (.take 10 (.take 11 (.take 12 (.take 13 (.take 14 (.take 15 (.take 16 (.take 17 (.take 18 (.take 19 (.take 20 (.take 21 (.take 22 (.take 23 (.take 24 (.take 25 (.take 26 (.take 27 (.take 28 (.take 29 (.take 30 (.take 31 (.take 32 .nil))))))))))))))))))))))))))))))))) (by kernel_rfl) (by kernel_rfl) ?_
                simp only [pickOps, nthOp]
                intro wq hG
                repeat (first | (refine wpG_skip_take ?_ ?_; (focus rfl); try simp only [Act.put, List.setIfInBounds_toArray, List.set_cons_zero, List.set_cons_succ]) | (refine wpG_skip_run ?_ ?_; (focus rfl); try simp only [Act.put, List.setIfInBounds_toArray, List.set_cons_zero, List.set_cons_succ]) | (refine wpG_take ?_ ?_; (focus rfl); apply Exists.intro; refine ⟨fun w' hw' => ?_, ?_⟩; (focus (have hc := Gr.cells hw'; go_simp; (try rfl); done)); try simp only [Act.put, List.setIfInBounds_toArray, List.set_cons_zero, List.set_cons_succ]))
                refine wpG_done ?_
                clear c_a0 c_a1 c_a2 m_a0 m_a1 m_a2 l_a
                clear c_b0 c_b1 c_b2 m_b0 m_b1 m_b2 l_b
                have hgx := HGW.out.trans hG
                go_wp2_with fail
                exact HQ0.out _ _ _ _ _ _ _ _ _ _ _ _ _ _ _ _ _ _ _ _ _ _ _ _ _ _ _ _ _ _ _ _ _ _ _ _ _ _ _ _ _ _ _ _ _ _ _ _ _ _ _ _ _ _ _ _ _ _ _ _ _ _ _ _ _ _ _ _ _ _ _ _ _ _ _ _ _ _ _ _ _ _ _ _ _ _ _ _ _ _ _ _ _ _ _ _ _ _ _ _ _ _ _ _ _ _ _ _ _ _ _ _ _ _ _ _ _ _ _ _ _ _ _ _ _ _ _ _ _ _ _ _ _ _ _ _ _ _ _ _ _ _ _ _ _ _ _ _ _ _ _ _ _ _ _ _ _ _ _ _ _ _ _ _ _ _ _ _ _ _ _ _ _ _ _ _ _ _ _ _ _ _ _ _ _ _ _ _ bd' _ HNW2.out hgx
              · cases zn
                · cases yn
                  · skip
                    have hw1 : IntKind.i64.wrap (zl + yl) = zl + yl := IntWalk.i64_in _ (by omega)
                    have hw2 : IntKind.i64.wrap (zl + yl - yl) = zl + yl - yl := IntWalk.i64_in _ (by omega)
                    have hw3 : IntKind.i64.wrap zl = zl := IntWalk.i64_in _ (by omega)
                    have c_a0 := x6c.cell 0 _ rfl
                    have c_a1 := x6c.cell 1 _ rfl
                    have c_a2 := x6c.cell 2 _ rfl
                    have m_a0 := x6c.mark 0 _ rfl
                    have m_a1 := x6c.mark 1 _ rfl
                    have m_a2 := x6c.mark 2 _ rfl
                    have l_a := x6c.lt (Nat.succ_pos _)
                    have c_b0 := x8c.cell 0 _ rfl
                    have c_b1 := x8c.cell 1 _ rfl
                    have c_b2 := x8c.cell 2 _ rfl
                    have m_b0 := x8c.mark 0 _ rfl
                    have m_b1 := x8c.mark 1 _ rfl
                    have m_b2 := x8c.mark 2 _ rfl
                    have l_b := x8c.lt (Nat.succ_pos _)
                    refine wp_region_G (.take 0 (.take 1 (.take 2 (.take 3 (.take 4 (.take 5 (.take 6 (.take 7 (.take 8 (.take 9 (.take 10 (.take 11 (.take 12 (.take 13 (.take 14 (.take 15 (.take 16 (.take 17 (.take 18 (.take 19 (.take 20 (.take 21 (.take 22 (.take 23 (.take 24 (.take 25 (.take 26 (.take 27 (.take 28 (.take 29 (.take 30 (.take 31 (.take 32 .nil))))))))))))))))))))))))))))))))) (by kernel_rfl) (by kernel_rfl) ?_
                    simp only [pickOps, nthOp]
                    intro wq hG
                    repeat (first | (refine wpG_skip_take ?_ ?_; (focus rfl); try simp only [Act.put, List.setIfInBounds_toArray, List.set_cons_zero, List.set_cons_succ]) | (refine wpG_skip_run ?_ ?_; (focus rfl); try simp only [Act.put, List.setIfInBounds_toArray, List.set_cons_zero, List.set_cons_succ]) | (refine wpG_take ?_ ?_; (focus rfl); apply Exists.intro; refine ⟨fun w' hw' => ?_, ?_⟩; (focus (have hc := Gr.cells hw'; go_simp; (try rfl); done)); try simp only [Act.put, List.setIfInBounds_toArray, List.set_cons_zero, List.set_cons_succ]))
                    refine wpG_done ?_
                    clear c_a0 c_a1 c_a2 m_a0 m_a1 m_a2 l_a
                    clear c_b0 c_b1 c_b2 m_b0 m_b1 m_b2 l_b
                    have hgx := HGW.out.trans hG
                    go_wp2_with fail
                    exact HQ0.out _ _ _ _ _ _ _ _ _ _ _ _ _ _ _ _ _ _ _ _ _ _ _ _ _ _ _ _ _ _ _ _ _ _ _ _ _ _ _ _ _ _ _ _ _ _ _ _ _ _ _ _ _ _ _ _ _ _ _ _ _ _ _ _ _ _ _ _ _ _ _ _ _ _ _ _ _ _ _ _ _ _ _ _ _ _ _ _ _ _ _ _ _ _ _ _ _ _ _ _ _ _ _ _ _ _ _ _ _ _ _ _ _ _ _ _ _ _ _ _ _ _ _ _ _ _ _ _ _ _ _ _ _ _ _ _ _ _ _ _ _ _ _ _ _ _ _ _ _ _ _ _ _ _ _ _ _ _ _ _ _ _ _ _ _ _ _ _ _ _ _ _ _ _ _ _ _ _ _ _ _ _ _ _ _ _ _ _ bd' _ HNW2.out hgx
                  · skip
                    have c_a0 := x6c.cell 0 _ rfl
                    have c_a1 := x6c.cell 1 _ rfl
                    have c_a2 := x6c.cell 2 _ rfl
                    have m_a0 := x6c.mark 0 _ rfl
                    have m_a1 := x6c.mark 1 _ rfl
                    have m_a2 := x6c.mark 2 _ rfl
                    have l_a := x6c.lt (Nat.succ_pos _)
                    have c_b0 := x8c.cell 0 _ rfl
                    have c_b1 := x8c.cell 1 _ rfl
                    have c_b2 := x8c.cell 2 _ rfl
                    have m_b0 := x8c.mark 0 _ rfl
                    have m_b1 := x8c.mark 1 _ rfl
                    have m_b2 := x8c.mark 2 _ rfl
                    have l_b := x8c.lt (Nat.succ_pos _)
                    refine wp_region_G (.take 0 (.take 1 (.take 2 (.take 3 (.take 4 (.take 5 (.take 6 (.take 7 (.take 8 (.take 9 (.take 10 (.take 11 (.take 12 (.take 13 (.take 14 (.take 15 (.take 16 (.take 17 (.take 18 (.take 19 (.take 20 (.take 21 (.take 22 (.take 23 (.take 24 (.take 25 (.take 26 (.take 27 (.take 28 (.take 29 (.take 30 (.take 31 (.take 32 .nil))))))))))))))))))))))))))))))))) (by kernel_rfl) (by kernel_rfl) ?_
                    simp only [pickOps, nthOp]
                    intro wq hG
                    repeat (first | (refine wpG_skip_take ?_ ?_; (focus rfl); try simp only [Act.put, List.setIfInBounds_toArray, List.set_cons_zero, List.set_cons_succ]) | (refine wpG_skip_run ?_ ?_; (focus rfl); try simp only [Act.put, List.setIfInBounds_toArray, List.set_cons_zero, List.set_cons_succ]) | (refine wpG_take ?_ ?_; (focus rfl); apply Exists.intro; refine ⟨fun w' hw' => ?_, ?_⟩; (focus (have hc := Gr.cells hw'; go_simp; (try rfl); done)); try simp only [Act.put, List.setIfInBounds_toArray, List.set_cons_zero, List.set_cons_succ]))
                    refine wpG_done ?_
                    clear c_a0 c_a1 c_a2 m_a0 m_a1 m_a2 l_a
                    clear c_b0 c_b1 c_b2 m_b0 m_b1 m_b2 l_b
                    have hgx := HGW.out.trans hG
                    go_wp2_with fail
                    exact HQ0.out _ _ _ _ _ _ _ _ _ _ _ _ _ _ _ _ _ _ _ _ _ _ _ _ _ _ _ _ _ _ _ _ _ _ _ _ _ _ _ _ _ _ _ _ _ _ _ _ _ _ _ _ _ _ _ _ _ _ _ _ _ _ _ _ _ _ _ _ _ _ _ _ _ _ _ _ _ _ _ _ _ _ _ _ _ _ _ _ _ _ _ _ _ _ _ _ _ _ _ _ _ _ _ _ _ _ _ _ _ _ _ _ _ _ _ _ _ _ _ _ _ _ _ _ _ _ _ _ _ _ _ _ _ _ _ _ _ _ _ _ _ _ _ _ _ _ _ _ _ _ _ _ _ _ _ _ _ _ _ _ _ _ _ _ _ _ _ _ _ _ _ _ _ _ _ _ _ _ _ _ _ _ _ _ _ _ _ _ bd' _ HNW2.out hgx
                · skip
                  have c_a0 := x6c.cell 0 _ rfl
                  have c_a1 := x6c.cell 1 _ rfl
                  have c_a2 := x6c.cell 2 _ rfl
                  have m_a0 := x6c.mark 0 _ rfl
                  have m_a1 := x6c.mark 1 _ rfl
                  have m_a2 := x6c.mark 2 _ rfl
                  have l_a := x6c.lt (Nat.succ_pos _)
                  have c_b0 := x8c.cell 0 _ rfl
                  have c_b1 := x8c.cell 1 _ rfl
                  have c_b2 := x8c.cell 2 _ rfl
                  have m_b0 := x8c.mark 0 _ rfl
                  have m_b1 := x8c.mark 1 _ rfl
                  have m_b2 := x8c.mark 2 _ rfl
                  have l_b := x8c.lt (Nat.succ_pos _)
                  refine wp_region_G (.take 0 (.take 1 (.take 2 (.take 3 (.take 4 (.take 5 (.take 6 (.take 7 (.take 8 (.take 9 (.take 10 (.take 11 (.take 12 (.take 13 (.take 14 (.take 15 (.take 16 (.take 17 (.take 18 (.take 19 (.take 20 (.take 21 (.take 22 (.take 23 (.take 24 (.take 25 (.take 26 (.take 27 (.take 28 (.take 29 (.take 30 (.take 31 (.take 32 .nil))))))))))))))))))))))))))))))))) (by kernel_rfl) (by kernel_rfl) ?_
                  simp only [pickOps, nthOp]
                  intro wq hG
                  repeat (first | (refine wpG_skip_take ?_ ?_; (focus rfl); try simp only [Act.put, List.setIfInBounds_toArray, List.set_cons_zero, List.set_cons_succ]) | (refine wpG_skip_run ?_ ?_; (focus rfl); try simp only [Act.put, List.setIfInBounds_toArray, List.set_cons_zero, List.set_cons_succ]) | (refine wpG_take ?_ ?_; (focus rfl); apply Exists.intro; refine ⟨fun w' hw' => ?_, ?_⟩; (focus (have hc := Gr.cells hw'; go_simp; (try rfl); done)); try simp only [Act.put, List.setIfInBounds_toArray, List.set_cons_zero, List.set_cons_succ]))
                  refine wpG_done ?_
                  clear c_a0 c_a1 c_a2 m_a0 m_a1 m_a2 l_a
                  clear c_b0 c_b1 c_b2 m_b0 m_b1 m_b2 l_b
                  have hgx := HGW.out.trans hG
                  go_wp2_with fail
                  exact HQ0.out _ _ _ _ _ _ _ _ _ _ _ _ _ _ _ _ _ _ _ _ _ _ _ _ _ _ _ _ _ _ _ _ _ _ _ _ _ _ _ _ _ _ _ _ _ _ _ _ _ _ _ _ _ _ _ _ _ _ _ _ _ _ _ _ _ _ _ _ _ _ _ _ _ _ _ _ _ _ _ _ _ _ _ _ _ _ _ _ _ _ _ _ _ _ _ _ _ _ _ _ _ _ _ _ _ _ _ _ _ _ _ _ _ _ _ _ _ _ _ _ _ _ _ _ _ _ _ _ _ _ _ _ _ _ _ _ _ _ _ _ _ _ _ _ _ _ _ _ _ _ _ _ _ _ _ _ _ _ _ _ _ _ _ _ _ _ _ _ _ _ _ _ _ _ _ _ _ _ _ _ _ _ _ _ _ _ _ _ bd' _ HNW2.out hgx
            · subst h1 h2 h3
              go_upto_region 18 with fail
              have c_a0 := x6c.cell 0 _ rfl
              have c_a1 := x6c.cell 1 _ rfl
              have c_a2 := x6c.cell 2 _ rfl
              have m_a0 := x6c.mark 0 _ rfl
              have m_a1 := x6c.mark 1 _ rfl
              have m_a2 := x6c.mark 2 _ rfl
              have l_a := x6c.lt (Nat.succ_pos _)
              have c_b0 := x8c.cell 0 _ rfl
              have c_b1 := x8c.cell 1 _ rfl
              have c_b2 := x8c.cell 2 _ rfl
              have m_b0 := x8c.mark 0 _ rfl
              have m_b1 := x8c.mark 1 _ rfl
              have m_b2 := x8c.mark 2 _ rfl
              have l_b := x8c.lt (Nat.succ_pos _)
              refine wp_region_G (.take 0 (.take 1 (.take 2 (.take 3 (.take 4 (.take 5 (.take 6 (.take 7 (.take 8 (.take 9 (.take 10 (.take 11 (.take 12 (.take 13 (.take 14 (.take 15 (.take 16 (.take 17 (.take 18 (.take 19 (.take 20 (.take 21 (.take 22 (.take 23 (.take 24 (.take 25 (.take 26 (.take 27 (.take 28 (.take 29 (.take 30 (.take 31 (.take 32 .nil))))))))))))))))))))))))))))))))) (by kernel_rfl) (by kernel_rfl) ?_
              simp only [pickOps, nthOp]
              intro wq hG
              repeat (first | (refine wpG_skip_take ?_ ?_; (focus rfl); try simp only [Act.put, List.setIfInBounds_toArray, List.set_cons_zero, List.set_cons_succ]) | (refine wpG_skip_run ?_ ?_; (focus rfl); try simp only [Act.put, List.setIfInBounds_toArray, List.set_cons_zero, List.set_cons_succ]) | (refine wpG_take ?_ ?_; (focus rfl); apply Exists.intro; refine ⟨fun w' hw' => ?_, ?_⟩; (focus (have hc := Gr.cells hw'; go_simp; (try rfl); done)); try simp only [Act.put, List.setIfInBounds_toArray, List.set_cons_zero, List.set_cons_succ]))
              refine wpG_done ?_
              clear c_a0 c_a1 c_a2 m_a0 m_a1 m_a2 l_a
              clear c_b0 c_b1 c_b2 m_b0 m_b1 m_b2 l_b
              have hgx := HGW.out.trans hG
              go_wp2_with fail
              exact HQ0.out _ _ _ _ _ _ _ _ _ _ _ _ _ _ _ _ _ _ _ _ _ _ _ _ _ _ _ _ _ _ _ _ _ _ _ _ _ _ _ _ _ _ _ _ _ _ _ _ _ _ _ _ _ _ _ _ _ _ _ _ _ _ _ _ _ _ _ _ _ _ _ _ _ _ _ _ _ _ _ _ _ _ _ _ _ _ _ _ _ _ _ _ _ _ _ _ _ _ _ _ _ _ _ _ _ _ _ _ _ _ _ _ _ _ _ _ _ _ _ _ _ _ _ _ _ _ _ _ _ _ _ _ _ _ _ _ _ _ _ _ _ _ _ _ _ _ _ _ _ _ _ _ _ _ _ _ _ _ _ _ _ _ _ _ _ _ _ _ _ _ _ _ _ _ _ _ _ _ _ _ _ _ _ _ _ _ _ _ bd' _ HNW2.out hgx

end Go.Proofs.YtpcmgkohebihmaaDoor
