/- Texts of mine, put together: Ex, EqE. No condition but what each says. -/
import Derived.Test.YtkkopdmemjncdaaGreatDoorPGc
import Derived.Test.YtkkopdmemjncdaaGreatDoorPGa
import Derived.WalkSpells
import Derived.WalkLawsBesides
import Derived.Lib.Hide
namespace Go.Proofs.YtkkopdmemjncdaaGreatDoor
open Go Go.ChangeShapes Go.WideShapes Go.ChangeAt Go.RowKit
inductive Ex where
 | mk (op pos : Int) (set : BitVec 256) (text : ByteArray) (low high : Int) (args : List Ex)
def Ex.op : Ex → Int | .mk op .. => op
def Ex.args : Ex → List Ex | .mk _ _ _ _ _ _ args => args
theorem Ex.size_arg (e a : Ex) (h : a ∈ e.args) : SizeOf.sizeOf a < SizeOf.sizeOf e := by
 cases e with
 |
  mk op pos s t mn mx args =>
  have := List.sizeOf_lt_of_mem (show a ∈ args from h)
  simp only [Ex.mk.sizeOf_spec]; omega
def fit64 (n : Int) : Prop := -9223372036854775808 ≤ n ∧ n ≤ 9223372036854775807
def exCells (op pos : Int) (s : BitVec 256) (text : ByteArray) (mn mx : Int) (v : Value) : List Value :=
 [.int .i64 op, .int .i64 pos, .int .u64 (wd s 0), .int .u64 (wd s 1), .int .u64 (wd s 2), .int .u64 (wd s 3), .string text, .int .i64 mn, .int .i64 mx, v]
inductive ExIn (w : World) : Ex → List Value → Prop
 | mk (op pos : Int) (s : BitVec 256) (text : ByteArray) (mn mx : Int) (v : Value) (l : List (Ex × List Value))
   (h1 : fit64 op) (h2 : fit64 pos) (h3 : fit64 mn) (h4 : fit64 mx) (h5 : text.size ≤ maxLen)
   (hlen : ∀ p ∈ l, p.2.length = 10) (hs : Sl w v 10 l.length (l.flatMap (·.2))) (hn : Nily v) (hb : l.length * 104 ≤ 140737488351232)
   (hargs : ∀ p ∈ l, ExIn w p.1 p.2) : ExIn w (.mk op pos s text mn mx (l.map (·.1))) (exCells op pos s text mn mx v)
theorem ExIn.later {w w' : World} {e : Ex} {cs : List Value} (h : ExIn w e cs) (hG : Gr w w') : ExIn w' e cs := by
 induction h with
 | mk op pos s text mn mx v l h1 h2 h3 h4 h5 hlen hs hn hb _ ih => exact .mk op pos s text mn mx v l h1 h2 h3 h4 h5 hlen (hs.later hG) hn hb ih
theorem ExIn.len {w : World} {e : Ex} {cs : List Value} (h : ExIn w e cs) : cs.length = 10 := by cases h; rfl
theorem args_at {w : World} {pv : Option Addr} {cv : Nat} {l : List (Ex × List Value)} (hs : Sl w (.slice pv l.length cv) 10 l.length (l.flatMap (·.2))) (hlen : ∀ p ∈ l, p.2.length = 10) (hargs : ∀ p ∈ l, ExIn w p.1 p.2) (j : Nat) (hj : j < l.length) :
  ∃ b off op pos s text mn mx p2 n2 c2 a, pv = some ⟨b, off, none⟩ ∧ b < w.heap.size ∧ l[j]? = some (a, exCells op pos s text mn mx (.slice p2 n2 c2)) ∧ ExIn w a (exCells op pos s text mn mx (.slice p2 n2 c2)) ∧ (∀ w', Gr w w' → b < w'.heap.size ∧ ∀ t u, t < 10 → (exCells op pos s text mn mx (.slice p2 n2 c2))[t]? = some u → w'.cell? ⟨b, off + j * 10 + t, none⟩ = some u) := by
 obtain ⟨⟨a, ca⟩, ha⟩ : ∃ p, l[j]? = some p := ⟨_, List.getElem?_eq_getElem hj⟩
 have hmem := List.mem_of_getElem? ha
 have hin : ExIn w a ca := hargs _ hmem
 obtain ⟨_, _, ⟨_, h0⟩ | ⟨b, off, cap, hv, hb, hc⟩⟩ := hs
 · omega
 simp only [Value.slice.injEq, true_and] at hv
 obtain ⟨rfl, rfl⟩ := hv
 have hbl := hb (by omega)
 have hinv := hin
 cases hinv with
 |
  mk op pos s text mn mx v l2 _ _ _ _ _ _ hs2 =>
  obtain ⟨p2, c2, rfl⟩ := hs2.len
  refine ⟨b, off, op, pos, s, text, mn, mx, p2, _, c2, _, rfl, hbl, ha, hin, fun w' hg => ⟨Nat.lt_of_lt_of_le hbl hg.size, fun t u ht hu => ?_⟩⟩
  have := flatMap_get_of (fun p : Ex × List Value => p.2) 10 l hlen j t _ ha ht
  rw [Nat.add_assoc]
  exact hg.cell (hc _ _ (this.trans hu))
theorem drop_cons_of {α : Type} {l : List α} {j : Nat} {a : α} (h : l[j]? = some a) : l.drop j = a :: l.drop (j + 1) := by
 obtain ⟨g1, g2⟩ := List.getElem?_eq_some_iff.1 h
 rw [List.drop_eq_getElem_cons g1, g2]
section
variable {H : Type} {enc : TypeId × Value → H}
theorem cells_expr : Tryz.prog.cellsOf 55 = 10 := by kernel_rfl
theorem bytes_expr : Tryz.prog.bytesOf 55 = 104 := by kernel_rfl
theorem cells_int : Tryz.prog.cellsOf 3 = 1 := by kernel_rfl
theorem cells_str : Tryz.prog.cellsOf 9 = 1 := by kernel_rfl
theorem cells_exprs : Tryz.prog.cellsOf 53 = 1 := by kernel_rfl
theorem fit_of {n : Int} (h : (Lit.int .i64 n).wf = true) : fit64 n := by
 simp [Lit.wf, IntKind.min, IntKind.max, IntKind.signed, IntKind.bits] at h; unfold fit64; omega
theorem list7 {α : Type} : ∀ (l : List α), l.length = 7 → ∃ c0 c1 c2 c3 c4 c5 c6, l = [c0, c1, c2, c3, c4, c5, c6]
 | [c0, c1, c2, c3, c4, c5, c6], _ => ⟨c0, c1, c2, c3, c4, c5, c6, rfl⟩
theorem list10 {α : Type} : ∀ (l : List α), l.length = 10 → ∃ c0 c1 c2 c3 c4 c5 c6 c7 c8 c9, l = [c0, c1, c2, c3, c4, c5, c6, c7, c8, c9]
 | [c0, c1, c2, c3, c4, c5, c6, c7, c8, c9], _ => ⟨c0, c1, c2, c3, c4, c5, c6, c7, c8, c9, rfl⟩
def ExCells := { p : Ex × List Value // p.2.length = 10 }
instance : Inhabited ExCells := ⟨⟨(.mk 0 0 0#256 ⟨#[]⟩ 0 0 [], exCells 0 0 0#256 ⟨#[]⟩ 0 0 (.bool true)), rfl⟩⟩
end
end Go.Proofs.YtkkopdmemjncdaaGreatDoor
namespace Go.Proofs.YtkkopdmemjncdaaGreatDoor
open Go Go.RowKit
mutual
def eqE : Ex → Ex → Bool
 | .mk op pos s text mn mx l, .mk op2 pos2 s2 text2 mn2 mx2 l2 => (op == op2) && ((pos == pos2) && ((s == s2) && (decide (text.toList = text2.toList) && ((mn == mn2) && ((mx == mx2) && ((l.length == l2.length) && eqEL l l2))))))
def eqEL : List Ex → List Ex → Bool
 | [], _ => true
 | _ :: _, [] => true
 | a :: r, b :: q => eqE a b && eqEL r q
end
theorem bx2e (w : World) (c0 c1 : List Value) (e0 e1 : TypeId) :
  boxAt ((w.alloc (.cells c0.toArray e0)).alloc (.cells c1.toArray e1)) w.heap.size c0 ∧ boxAt ((w.alloc (.cells c0.toArray e0)).alloc (.cells c1.toArray e1)) (w.heap.size + 1) c1 ∧
  Gr w ((w.alloc (.cells c0.toArray e0)).alloc (.cells c1.toArray e1)) ∧ ((w.alloc (.cells c0.toArray e0)).alloc (.cells c1.toArray e1)).heap.size = w.heap.size + 2 := by
 refine ⟨(boxAt.new _ _ rfl).later (Gr.alloc _ _), ?_, (Gr.alloc _ _).trans (Gr.alloc _ _), by simp⟩
 have := boxAt.new (w := w.alloc (.cells c0.toArray e0)) c1 e1 rfl
 simpa using this
set_option maxRecDepth 100000 in
set_option maxHeartbeats 4000000 in
theorem
    eqExpr_any : ∀ k, ∀ (e : Ex), SizeOf.sizeOf e ≤ k → ∀ (f : Ex) (cs ds : List Value) (w : World), ExIn w e cs → ExIn w f ds →
  Calls Tryz.prog 53 #[.agg cs.toArray, .agg ds.toArray] w fun e' w' => e' = .returned (.bool (eqE e f)) ∧ Gr w w' := by
 intro k
 induction k with
 | zero => intro e h; cases e; simp only [Ex.mk.sizeOf_spec] at h; omega
 |
  succ k ih =>
  intro e hk f cs ds w he hf
  cases he with
  | mk op pos s text mn mx v l h1 h2 h3 h4 h5 hlen hs hn hb hargs =>
  cases hf with
  |
   mk op2 pos2 s2 text2 mn2 mx2 v2 l2 h1' h2' h3' h4' h5' hlen2 hs2 hn2 hb2 hargs2 =>
   have HK := Lib.hid (fun p (hp : p ∈ l) => by
    have := Ex.size_arg (.mk op pos s text mn mx (l.map (·.1))) p.1 (List.mem_map.2 ⟨p, hp, rfl⟩)
    exact (show SizeOf.sizeOf p.1 ≤ k by omega))
   have HIH := Lib.hid ih
   have HS := Lib.hid hs
   have HA := Lib.hid hargs
   have HLEN := Lib.hid hlen
   have HS2 := Lib.hid hs2
   have HA2 := Lib.hid hargs2
   have HLEN2 := Lib.hid hlen2
   obtain ⟨pv, cv, rfl⟩ := hs.len
   obtain ⟨pv2, cv2, rfl⟩ := hs2.len
   have hll : l.length ≤ 140737488351232 := by omega
   have hll2 : l2.length ≤ 140737488351232 := by omega
   clear ih hk h1 h2 h3 h4 h5 hn hs hargs hlen hb h1' h2' h3' h4' h5' hn2 hs2 hargs2 hlen2 hb2
   unfold exCells
   have HR := Lib.hid (show eqE (.mk op pos s text mn mx (l.map (·.1))) (.mk op2 pos2 s2 text2 mn2 mx2 (l2.map (·.1))) = ((op == op2) && ((pos == pos2) && ((s == s2) && (decide (text.toList = text2.toList) && ((mn == mn2) && ((mx == mx2) && ((l.length == l2.length) && eqEL (l.map (·.1)) (l2.map (·.1))))))))) by
    rw [eqE, List.length_map, List.length_map])
   go_enter Tryz.func53, Tryz.ntmps53
   by_cases q0 : op = op2
   rotate_left
   ·
    go_wp2_with fail
    go_ret
    exact ⟨ret_bool (by rw [HR.out]; simp [q0]), (Gr.alloc _ _).trans (Gr.alloc _ _)⟩
   subst q0
   by_cases q1 : pos = pos2
   rotate_left
   ·
    go_wp2_with fail
    go_ret
    exact ⟨ret_bool (by rw [HR.out]; simp [q1]), (Gr.alloc _ _).trans (Gr.alloc _ _)⟩
   subst q1
   obtain ⟨b3, e3⟩ : ∃ z, (s == s2) = z := ⟨_, rfl⟩
   cases b3
   ·
    go_wp2_with fail
    go_ret
    exact ⟨ret_bool (by rw [HR.out]; simp [e3]), (Gr.alloc _ _).trans (Gr.alloc _ _)⟩
   by_cases q4 : text.toList = text2.toList
   rotate_left
   ·
    go_wp2_with fail
    go_ret
    exact ⟨ret_bool (by rw [HR.out]; simp [e3, q4]), (Gr.alloc _ _).trans (Gr.alloc _ _)⟩
   by_cases q5 : mn = mn2
   rotate_left
   ·
    go_wp2_with fail
    go_ret
    exact ⟨ret_bool (by rw [HR.out]; simp [e3, q4, q5]), (Gr.alloc _ _).trans (Gr.alloc _ _)⟩
   subst q5
   by_cases q6 : mx = mx2
   rotate_left
   ·
    go_wp2_with fail
    go_ret
    exact ⟨ret_bool (by rw [HR.out]; simp [e3, q4, q6]), (Gr.alloc _ _).trans (Gr.alloc _ _)⟩
   subst q6
   by_cases q7 : (l.length : Int) = (l2.length : Int)
   rotate_left
   ·
    have q8 : ¬ l.length = l2.length := by omega
    go_wp2_with fail
    go_ret
    exact ⟨ret_bool (by rw [HR.out]; simp [e3, q4, q8]), (Gr.alloc _ _).trans (Gr.alloc _ _)⟩
   have q8 : l.length = l2.length := by omega
   have HQ := Lib.hid (show eqE (.mk op pos s text mn mx (l.map (·.1))) (.mk op pos s2 text2 mn mx (l2.map (·.1))) = eqEL (l.map (·.1)) (l2.map (·.1)) by rw [HR.out]; simp [e3, q4, q8])
   have HLL := Lib.hid q8
   clear HR q8 q7
   have hl2I : (l2.length : Int) = (l.length : Int) := by have := HLL.out; omega
   go_wp2_with fail
   clear hl2I
   refine name_world (fun W hW => ?_)
   obtain ⟨xe, xf, hgW, _⟩ : boxAt W w.heap.size [.int .i64 op, .int .i64 pos, .int .u64 (wd s 0), .int .u64 (wd s 1), .int .u64 (wd s 2), .int .u64 (wd s 3), .string text, .int .i64 mn, .int .i64 mx, (.slice pv l.length cv)] ∧ boxAt W (w.heap.size + 1) [.int .i64 op, .int .i64 pos, .int .u64 (wd s2 0), .int .u64 (wd s2 1), .int .u64 (wd s2 2), .int .u64 (wd s2 3), .string text2, .int .i64 mn, .int .i64 mx, (.slice pv2 l2.length cv2)] ∧ Gr w W ∧ _ := by rw [hW]; exact bx2e w [.int .i64 op, .int .i64 pos, .int .u64 (wd s 0), .int .u64 (wd s 1), .int .u64 (wd s 2), .int .u64 (wd s 3), .string text, .int .i64 mn, .int .i64 mx, (.slice pv l.length cv)] [.int .i64 op, .int .i64 pos, .int .u64 (wd s2 0), .int .u64 (wd s2 1), .int .u64 (wd s2 2), .int .u64 (wd s2 3), .string text2, .int .i64 mn, .int .i64 mx, (.slice pv2 l2.length cv2)] 55 55
   clear hW e3 q4
   have HSW := Lib.hid (HS.out.later hgW)
   have HSW2 := Lib.hid (HS2.out.later hgW)
   go_loopw [5] (fun i wr => ∃ j : Nat, j ≤ l.length ∧ i = .int .i64 (j : Int) ∧ Gr W wr ∧ Hid (eqEL (l.map (·.1)) (l2.map (·.1)) = eqEL ((l.drop j).map (·.1)) ((l2.drop j).map (·.1)))) (fun i _ => l.length - (intOf i).toNat)
   case atStart => exact ⟨0, by omega, rfl, Gr.refl _, Lib.hid rfl⟩
   case round =>
    obtain ⟨j, hj, rfl, hg, HR⟩ := hrel
    have ye := xe.later hg
    have yf := xf.later hg
    by_cases hlt : j < l.length
    ·
     obtain ⟨b, off, opa, posa, sa, texta, mna, mxa, pa, na, caa, a, rfl, hbW, ha, hin, hat⟩ := args_at HSW.out HLEN.out (fun p hp => (HA.out p hp).later hgW) j hlt
     obtain ⟨b2, off2, opb, posb, sb, textb, mnb, mxb, pb, nb, cbb, a2, rfl, hbW2, ha2, hin2, hat2⟩ := args_at HSW2.out HLEN2.out (fun p hp => (HA2.out p hp).later hgW) j (by have := HLL.out; omega)
     have HSA := Lib.hid (HK.out _ (List.mem_of_getElem? ha))
     obtain ⟨hbr, hcell⟩ := hat wr hg
     obtain ⟨hbr2, hcell2⟩ := hat2 wr hg
     unfold exCells at hcell hcell2
     have d0 := hcell 0 _ (by omega) rfl
     have d1 := hcell 1 _ (by omega) rfl
     have d2 := hcell 2 _ (by omega) rfl
     have d3 := hcell 3 _ (by omega) rfl
     have d4 := hcell 4 _ (by omega) rfl
     have d5 := hcell 5 _ (by omega) rfl
     have d6 := hcell 6 _ (by omega) rfl
     have d7 := hcell 7 _ (by omega) rfl
     have d8 := hcell 8 _ (by omega) rfl
     have d9 := hcell 9 _ (by omega) rfl
     simp only [Nat.add_zero] at d0
     have f0 := hcell2 0 _ (by omega) rfl
     have f1 := hcell2 1 _ (by omega) rfl
     have f2 := hcell2 2 _ (by omega) rfl
     have f3 := hcell2 3 _ (by omega) rfl
     have f4 := hcell2 4 _ (by omega) rfl
     have f5 := hcell2 5 _ (by omega) rfl
     have f6 := hcell2 6 _ (by omega) rfl
     have f7 := hcell2 7 _ (by omega) rfl
     have f8 := hcell2 8 _ (by omega) rfl
     have f9 := hcell2 9 _ (by omega) rfl
     simp only [Nat.add_zero] at f0
     have hjI : (j : Int) < (l.length : Int) := by omega
     have hjI2 : (j : Int) < (l2.length : Int) := by have := HLL.out; omega
     have HNX := Lib.hid (show eqEL (l.map (·.1)) (l2.map (·.1)) = (eqE a a2 && eqEL ((l.drop (j + 1)).map (·.1)) ((l2.drop (j + 1)).map (·.1))) by
      rw [HR.out, drop_cons_of ha, drop_cons_of ha2, List.map_cons, List.map_cons, eqEL])
     have HLT := Lib.hid hlt
     have HC := Lib.hid (fun (cur : World) (h : Gr wr cur) => HIH.out a HSA.out a2 _ _ cur (hin.later (hg.trans h)) (hin2.later (hg.trans h)))
     unfold exCells at HC
     obtain ⟨q, hq⟩ : ∃ q, eqE a a2 = q := ⟨_, rfl⟩
     rw [hq] at HC HNX
     clear hq hlt hcell hcell2 hin hin2 hat hat2 ha ha2 hj hbW hbW2 HR
     obtain ⟨c_e0, c_e1, c_e2, c_e3, c_e4, c_e5, c_e6, c_e7, c_e8, c_e9, m_e0, m_e1, m_e2, m_e3, m_e4, m_e5, m_e6, m_e7, m_e8, m_e9, l_e⟩ := unb10 ye
     obtain ⟨c_g0, c_g1, c_g2, c_g3, c_g4, c_g5, c_g6, c_g7, c_g8, c_g9, m_g0, m_g1, m_g2, m_g3, m_g4, m_g5, m_g6, m_g7, m_g8, m_g9, l_g⟩ := unb10 yf
     go_wp2_with fail
     refine wp_region_G (.take 0 (.take 1 (.take 2 (.take 3 (.take 4 (.take 5 (.take 6 (.take 7 (.take 8 (.take 9 (.run 10 false (.take 11 .nil)))))))))))) (by kernel_rfl) (by kernel_rfl) ?_
     simp only [pickOps, nthOp]
     intro wq hG
     repeat (first | (refine wpG_skip_take ?_ ?_; (focus rfl); try simp only [Act.put, List.setIfInBounds_toArray, List.set_cons_zero, List.set_cons_succ]) | (refine wpG_skip_run ?_ ?_; (focus rfl); try simp only [Act.put, List.setIfInBounds_toArray, List.set_cons_zero, List.set_cons_succ]) | (refine wpG_take ?_ ?_; (focus rfl); apply Exists.intro; refine ⟨fun w' hw' => ?_, ?_⟩; (focus (have hc := Gr.cells hw'; go_simp; (try rfl); done)); try simp only [Act.put, List.setIfInBounds_toArray, List.set_cons_zero, List.set_cons_succ]) | (refine wpG_run ?_ (fun K hK => ?_); (focus rfl); go_simp; (first | (go_at_call 53; (with_reducible refine (HC.out _ hG).mono ?_); rintro e' w7 ⟨rfl, hb⟩)); (try dsimp only); replace hG := hG.trans hb; refine hK.out _ _ hG ?_; clear hK K hb; try simp only [Act.put, List.setIfInBounds_toArray, List.set_cons_zero, List.set_cons_succ]))
     refine wpG_done ?_
     clear d0 d1 d2 d3 d4 d5 d6 d7 d8 d9 f0 f1 f2 f3 f4 f5 f6 f7 f8 f9
     clear c_e0 c_e1 c_e2 c_e3 c_e4 c_e5 c_e6 c_e7 c_e8 c_e9 m_e0 m_e1 m_e2 m_e3 m_e4 m_e5 m_e6 m_e7 m_e8 m_e9 l_e
     clear c_g0 c_g1 c_g2 c_g3 c_g4 c_g5 c_g6 c_g7 c_g8 c_g9 m_g0 m_g1 m_g2 m_g3 m_g4 m_g5 m_g6 m_g7 m_g8 m_g9 l_g
     cases q
     ·
      go_wp2_with fail
      go_ret
      exact ⟨ret_bool (by rw [HQ.out, HNX.out]; rfl), (hgW.trans hg).trans hG⟩
     ·
      go_wp2_with fail
      go_roundw
      case rel => exact ⟨j + 1, by have := HLT.out; omega, by go_num, hg.trans hG, Lib.hid (by rw [HNX.out]; rfl)⟩
      case measure => have := HLT.out; simp [intOf]; omega
    ·
     have hjE : j = l.length := by omega
     clear hlt hj
     subst hjE
     obtain ⟨c_e0, c_e1, c_e2, c_e3, c_e4, c_e5, c_e6, c_e7, c_e8, c_e9, m_e0, m_e1, m_e2, m_e3, m_e4, m_e5, m_e6, m_e7, m_e8, m_e9, l_e⟩ := unb10 ye
     go_wp2_with fail
     go_ret
     exact ⟨ret_bool (by rw [HQ.out, HR.out, List.drop_length, List.map_nil, eqEL]), hgW.trans hg⟩
end Go.Proofs.YtkkopdmemjncdaaGreatDoor
