/- Texts of mine, put together: SpIn. No condition but what each says. -/
import Derived.Test.YtkkopdmemjncdaaGreatDoorPHe
import Derived.Test.YtkkopdmemjncdaaGreatDoorPEx
import Derived.Test.YtkkopdmemjncdaaGreatDoorPGc
namespace Go.Proofs.YtkkopdmemjncdaaGreatDoor
open Go Go.ChangeShapes Go.WideShapes Go.ChangeAt Go.RowKit
def mdC (m : Md) : List Value := [.string m.name, .bool m.own, .int .i64 m.pos]
def usC (u : Us) : List Value := [.string u.name, .int .i64 u.pos]
def acC (a : Ac) : List Value := [.int .i64 a.doo, .string a.mode.name, .int .i64 a.mode.pos]
theorem mdC_len (m : Md) : (mdC m).length = 3 := rfl
theorem usC_len (u : Us) : (usC u).length = 2 := rfl
theorem acC_len (a : Ac) : (acC a).length = 3 := rfl
def MdOk (m : Md) : Prop := m.name.size ≤ maxLen ∧ fit64 m.pos
def UsOk (u : Us) : Prop := u.name.size ≤ maxLen ∧ fit64 u.pos
def AcOk (a : Ac) : Prop := fit64 a.doo ∧ UsOk a.mode
inductive DfIn (w : World) : Df → List Value → Prop
 | mk (d : Df) (ec : List Value) (he : ExIn w d.ex ec) (hn : d.name.size ≤ maxLen) (hp : fit64 d.pos) : DfIn w d (.string d.name :: .int .i64 d.pos :: ec)
theorem DfIn.later {w w' : World} {d : Df} {cs : List Value} (h : DfIn w d cs) (hG : Gr w w') : DfIn w' d cs := by
 cases h with
 | mk ec he hn hp => exact .mk d ec (he.later hG) hn hp
theorem DfIn.len {w : World} {d : Df} {cs : List Value} (h : DfIn w d cs) : cs.length = 12 := by
 cases h with
 | mk ec he hn hp => simp [he.len]
inductive RlIn (w : World) : Rl → List Value → Prop
 | mk (r : Rl) (vm va : Value) (ec tc : List Value) (he : ExIn w r.head ec) (ht : ExIn w r.trail tc) (hm : Sl w vm 2 r.modes.length (r.modes.flatMap usC)) (hmn : Nily vm) (hmb : r.modes.length * 24 ≤ 140737488351232) (hmo : ∀ u ∈ r.modes, UsOk u)
   (ha : Sl w va 3 r.acts.length (r.acts.flatMap acC)) (han : Nily va) (hab : r.acts.length * 32 ≤ 140737488351232) (hao : ∀ a ∈ r.acts, AcOk a) (hl : r.label.size ≤ maxLen) (hp : fit64 r.pos) :
   RlIn w r (.int .i64 r.pos :: .bool r.all :: vm :: (ec ++ .bool r.hasTrail :: (tc ++ [.string r.label, va])))
theorem RlIn.later {w w' : World} {r : Rl} {cs : List Value} (h : RlIn w r cs) (hG : Gr w w') : RlIn w' r cs := by
 cases h with
 | mk vm va ec tc he ht hm hmn hmb hmo ha han hab hao hl hp => exact .mk r vm va ec tc (he.later hG) (ht.later hG) (hm.later hG) hmn hmb hmo (ha.later hG) han hab hao hl hp
theorem RlIn.len {w : World} {r : Rl} {cs : List Value} (h : RlIn w r cs) : cs.length = 26 := by
 cases h with
 | mk vm va ec tc he ht => simp [he.len, ht.len]
structure ScIn (w : World) (s : Sc) (vm vd vr : Value) where
 dl : List (Df × List Value)
 rl : List (Rl × List Value)
 hd : dl.map (·.1) = s.defs
 hr : rl.map (·.1) = s.rules
 modes : Sl w vm 3 s.modes.length (s.modes.flatMap mdC)
 modesO : ∀ m ∈ s.modes, MdOk m
 modesN : Nily vm
 modesB : s.modes.length * 32 ≤ 140737488351232
 defs : Sl w vd 12 dl.length (dl.flatMap (·.2))
 defsI : ∀ p ∈ dl, DfIn w p.1 p.2
 defsN : Nily vd
 defsB : dl.length * 128 ≤ 140737488351232
 rules : Sl w vr 26 rl.length (rl.flatMap (·.2))
 rulesI : ∀ p ∈ rl, RlIn w p.1 p.2
 rulesN : Nily vr
 rulesB : rl.length * 296 ≤ 140737488351232
def ScIn.later {w w' : World} {s : Sc} {vm vd vr : Value} (h : ScIn w s vm vd vr) (hG : Gr w w') : ScIn w' s vm vd vr :=
 { h with modes := h.modes.later hG, defs := h.defs.later hG, defsI := fun p hp => (h.defsI p hp).later hG, rules := h.rules.later hG, rulesI := fun p hp => (h.rulesI p hp).later hG }
def scV (vm vd vr : Value) : Value := .agg #[vm, vd, vr]
theorem elem_at {α : Type} {w : World} {p : Option Addr} {K n c : Nat} {l : List (α × List Value)} (h : Sl w (.slice p n c) K n (l.flatMap (·.2))) (hl : ∀ x ∈ l, x.2.length = K) (hn : l.length = n) {k : Nat} {x : α × List Value} (hk : l[k]? = some x) :
  ∃ b off, p = some ⟨b, off, none⟩ ∧ b < w.heap.size ∧ ∀ (t : Nat) (u : Value), x.2[t]? = some u → w.cell? ⟨b, off + k * K + t, none⟩ = some u := by
 have hkl := (List.getElem?_eq_some_iff.1 hk).1
 obtain ⟨_, _, ⟨_, h0⟩ | ⟨b, off, cap, hv, hb, hc⟩⟩ := h
 · omega
 ·
  injection hv with hp _ _
  refine ⟨b, off, hp, hb (by omega), fun t u hu => ?_⟩
  have ht : t < K := by rw [← hl x (List.mem_of_getElem? hk)]; exact (List.getElem?_eq_some_iff.1 hu).1
  rw [Nat.add_assoc]
  exact hc (k * K + t) u ((flatMap_get_of (fun p : α × List Value => p.2) K l hl k t x hk ht).trans hu)
theorem ExIn.formN {w : World} {e : Ex} {cs : List Value} (h : ExIn w e cs) : ∃ op pos s text mn mx p n c, cs = exCells op pos s text mn mx (.slice p n c) := by
 cases h with
 |
  mk op pos s text mn mx v l _ _ _ _ _ _ hs =>
  obtain ⟨p, c, rfl⟩ := hs.len
  exact ⟨op, pos, s, text, mn, mx, p, _, c, rfl⟩
section
variable {H : Type} {enc : TypeId × Value → H}
theorem cells_mode : Tryz.prog.cellsOf 75 = 3 := by kernel_rfl
theorem cells_def : Tryz.prog.cellsOf 57 = 12 := by kernel_rfl
theorem cells_rule : Tryz.prog.cellsOf 71 = 26 := by kernel_rfl
theorem cells_use : Tryz.prog.cellsOf 78 = 2 := by kernel_rfl
theorem cells_act : Tryz.prog.cellsOf 80 = 3 := by kernel_rfl
theorem cells_bool' : Tryz.prog.cellsOf 4 = 1 := by kernel_rfl
theorem cells_modes : Tryz.prog.cellsOf 24 = 1 := by kernel_rfl
theorem cells_defs : Tryz.prog.cellsOf 25 = 1 := by kernel_rfl
theorem cells_rules : Tryz.prog.cellsOf 26 = 1 := by kernel_rfl
theorem cells_uses : Tryz.prog.cellsOf 68 = 1 := by kernel_rfl
theorem cells_acts : Tryz.prog.cellsOf 69 = 1 := by kernel_rfl
theorem list12N {α : Type} : ∀ (l : List α), l.length = 12 → ∃ c0 c1 c2 c3 c4 c5 c6 c7 c8 c9 c10 c11, l = [c0, c1, c2, c3, c4, c5, c6, c7, c8, c9, c10, c11]
 | [c0, c1, c2, c3, c4, c5, c6, c7, c8, c9, c10, c11], _ => ⟨c0, c1, c2, c3, c4, c5, c6, c7, c8, c9, c10, c11, rfl⟩
theorem list26N {α : Type} : ∀ (l : List α), l.length = 26 → ∃ c0 c1 c2 c3 c4 c5 c6 c7 c8 c9 c10 c11 c12 c13 c14 c15 c16 c17 c18 c19 c20 c21 c22 c23 c24 c25, l = [c0, c1, c2, c3, c4, c5, c6, c7, c8, c9, c10, c11, c12, c13, c14, c15, c16, c17, c18, c19, c20, c21, c22, c23, c24, c25]
 | [c0, c1, c2, c3, c4, c5, c6, c7, c8, c9, c10, c11, c12, c13, c14, c15, c16, c17, c18, c19, c20, c21, c22, c23, c24, c25], _ => ⟨c0, c1, c2, c3, c4, c5, c6, c7, c8, c9, c10, c11, c12, c13, c14, c15, c16, c17, c18, c19, c20, c21, c22, c23, c24, c25, rfl⟩
instance : Inhabited Md := ⟨⟨⟨#[]⟩, true, 0⟩⟩
instance : Inhabited Us := ⟨⟨⟨#[]⟩, 0⟩⟩
instance : Inhabited Ac := ⟨⟨0, ⟨⟨#[]⟩, 0⟩⟩⟩
theorem len_sum {α : Type} (l : List α) : (l.map fun _ => 1).sum = l.length := by
 induction l with
 | nil => rfl
 | cons a l ih => rw [List.map_cons, List.sum_cons, ih, List.length_cons]; omega
set_option maxRecDepth 100000 in
theorem
    ex_readB {w : World} {base : Nat} {spare : Nat → Bool} {held : Bool} : ∀ (fuel : Nat) (cs : List Value) (x : DataW H × List MemPlace), DataW.trod enc Tryz.prog w base spare held fuel 55 cs = some x → Reached Tryz.prog 55 x.1 →
  ∃ e : Ex, ExIn w e cs ∧ wtE e ≤ Rows.uptoBulk x.1 := by
 intro fuel
 induction fuel using Nat.strongRecOn with
 |
  ind
    fuel ih =>
  intro cs x h hw
  obtain ⟨xs, n, hfu, hx, hl, hlen, hf⟩ := DataW.trod_struct Tryz.underlying55 h
  obtain ⟨y0, y1, y2, y3, y4, y5, y6, rfl⟩ := list7 xs hlen
  have h0 : DataW.trod enc Tryz.prog w base spare held n 3 ((cs.drop 0).take (Tryz.prog.cellsOf 3)) = some y0 := hf 0 _ rfl
  have h1 : DataW.trod enc Tryz.prog w base spare held n 3 ((cs.drop 1).take (Tryz.prog.cellsOf 3)) = some y1 := hf 1 _ rfl
  have h2 : DataW.trod enc Tryz.prog w base spare held n 52 ((cs.drop 2).take (Tryz.prog.cellsOf 52)) = some y2 := hf 2 _ rfl
  have h3 : DataW.trod enc Tryz.prog w base spare held n 9 ((cs.drop 6).take (Tryz.prog.cellsOf 9)) = some y3 := hf 3 _ rfl
  have h4 : DataW.trod enc Tryz.prog w base spare held n 3 ((cs.drop 7).take (Tryz.prog.cellsOf 3)) = some y4 := hf 4 _ rfl
  have h5 : DataW.trod enc Tryz.prog w base spare held n 3 ((cs.drop 8).take (Tryz.prog.cellsOf 3)) = some y5 := hf 5 _ rfl
  have h6 : DataW.trod enc Tryz.prog w base spare held n 53 ((cs.drop 9).take (Tryz.prog.cellsOf 53)) = some y6 := hf 6 _ rfl
  have hbk : Rows.uptoBulk y6.1 ≤ Rows.uptoBulk x.1 := by
   rw [hx]
   simp only [List.map_cons, List.map_nil, bulk_agg, bulk_cons]; omega
  subst hx
  have hw6 : Reached Tryz.prog 53 y6.1 := fun m' hm' => hw m' (by unfold DataW.weights; rw [Tryz.underlying55]; simp only [List.map_cons, List.map_nil, DataW.weightsEach, List.append_nil]; exact List.mem_append_right _ (List.mem_append_right _ (List.mem_append_right _ (List.mem_append_right _ (List.mem_append_right _ (List.mem_append_right _ (hm')))))))
  clear hf h hw
  rw [cells_expr] at hl
  obtain ⟨c0, c1, c2, c3, c4, c5, c6, c7, c8, c9, rfl⟩ := list10 cs hl
  simp only [cells_int, cells_set, cells_str, cells_exprs, List.drop, List.take] at h0 h1 h2 h3 h4 h5 h6
  obtain ⟨op, e0, _, w0⟩ := DataW.trod_int Tryz.underlying3 h0
  obtain ⟨pos, e1, _, w1⟩ := DataW.trod_int Tryz.underlying3 h1
  obtain ⟨s, e2⟩ := trod_set h2
  obtain ⟨text, e3, _, w3⟩ := DataW.trod_string Tryz.underlying9 h3
  obtain ⟨mn, e4, _, w4⟩ := DataW.trod_int Tryz.underlying3 h4
  obtain ⟨mx, e5, _, w5⟩ := DataW.trod_int Tryz.underlying3 h5
  obtain ⟨v, l, e6, hs, hq, hb, hz, hwt⟩ := slice_readB (f := fun p : ExCells => p.1.2) (Q := fun p d => ExIn w p.1.1 p.1.2 ∧ wtE p.1.1 ≤ Rows.uptoBulk d) Tryz.underlying53 cells_expr (by omega) (fun p => p.2) (fun n' cs x hn' h hw => by
   obtain ⟨e, he, h2⟩ := ih n' (by omega) cs x h hw
   exact ⟨⟨(e, cs), he.len⟩, rfl, he, h2⟩) h6 hw6
  have hsum := hwt (fun p => wtE p.1.1) (fun a d hq => hq.2)
  simp only [List.cons.injEq, and_true] at e0 e1 e2 e3 e4 e5 e6
  obtain ⟨rfl, rfl, rfl, rfl⟩ := e2
  subst e0 e1 e3 e4 e5 e6
  rw [bytes_expr, reach_num] at hb
  refine ⟨_, .mk op pos s text mn mx _ (l.map (·.1)) (fit_of w0) (fit_of w1) (fit_of w4) (fit_of w5) w3 ?_ ?_ hz (by rw [List.length_map]; exact hb) ?_, ?_⟩
  ·
   intro p hp
   obtain ⟨q, _, rfl⟩ := List.mem_map.1 hp
   exact q.2
  · rw [List.length_map, List.flatMap_map]; exact hs
  ·
   intro p hp
   obtain ⟨q, hq', rfl⟩ := List.mem_map.1 hp
   obtain ⟨d, hd⟩ := hq q hq'
   exact hd.1
  ·
   rw [wtE, wtL_sum]
   have e : ∀ l : List ExCells, ((l.map (fun p => p.1)).map (fun p : Ex × List Value => p.1)).map wtE = l.map fun p => wtE p.1.1 := fun l => by
    induction l with
    | nil => rfl
    | cons a l ih => rw [List.map_cons, List.map_cons, List.map_cons, List.map_cons, ih]
   have e2 := e l
   rw [show ((l.map (fun p => p.1)).map (fun p : Ex × List Value => p.1)).map wtE = _ from e2]
   omega
set_option maxRecDepth 100000 in
theorem mode_readN {w : World} {base fuel : Nat} {spare : Nat → Bool} {held : Bool} {cs : List Value} {x : DataW H × List MemPlace} (h : DataW.trod enc Tryz.prog w base spare held fuel 75 cs = some x) : ∃ m : Md, cs = mdC m ∧ MdOk m := by
 obtain ⟨y0, y1, y2, n, _, hl, h0, h1, h2⟩ := Go.Deep.trod_struct3 Tryz.underlying75 h
 rw [cells_mode] at hl
 match cs, hl with
 |
  [c0, c1, c2], _ =>
  simp only [cells_str, cells_bool', cells_int, List.drop, List.take] at h0 h1 h2
  obtain ⟨a, e0, _, w0⟩ := DataW.trod_string Tryz.underlying9 h0
  obtain ⟨b, e1, _⟩ := DataW.trod_bool Tryz.underlying4 h1
  obtain ⟨n, e2, _, w2⟩ := DataW.trod_int Tryz.underlying3 h2
  simp only [List.cons.injEq, and_true] at e0 e1 e2
  subst e0 e1 e2
  exact ⟨⟨a, b, n⟩, rfl, w0, fit_of w2⟩
set_option maxRecDepth 100000 in
theorem use_readN {w : World} {base fuel : Nat} {spare : Nat → Bool} {held : Bool} {cs : List Value} {x : DataW H × List MemPlace} (h : DataW.trod enc Tryz.prog w base spare held fuel 78 cs = some x) : ∃ u : Us, cs = usC u ∧ UsOk u := by
 obtain ⟨y0, y1, n, _, hl, h0, h1⟩ := trod_struct2 Tryz.underlying78 h
 rw [cells_use] at hl
 match cs, hl with
 |
  [c0, c1], _ =>
  simp only [cells_str, cells_int, List.drop, List.take] at h0 h1
  obtain ⟨a, e0, _, w0⟩ := DataW.trod_string Tryz.underlying9 h0
  obtain ⟨n, e1, _, w1⟩ := DataW.trod_int Tryz.underlying3 h1
  simp only [List.cons.injEq, and_true] at e0 e1
  subst e0 e1
  exact ⟨⟨a, n⟩, rfl, w0, fit_of w1⟩
set_option maxRecDepth 100000 in
theorem act_readN {w : World} {base fuel : Nat} {spare : Nat → Bool} {held : Bool} {cs : List Value} {x : DataW H × List MemPlace} (h : DataW.trod enc Tryz.prog w base spare held fuel 80 cs = some x) : ∃ a : Ac, cs = acC a ∧ AcOk a := by
 obtain ⟨y0, y1, n, _, hl, h0, h1⟩ := trod_struct2 Tryz.underlying80 h
 rw [cells_act] at hl
 match cs, hl with
 |
  [c0, c1, c2], _ =>
  simp only [cells_int, cells_use, List.drop, List.take] at h0 h1
  obtain ⟨a, e0, _, w0⟩ := DataW.trod_int Tryz.underlying3 h0
  obtain ⟨u, e1, hu⟩ := use_readN h1
  simp only [usC, List.cons.injEq, and_true] at e0 e1
  obtain ⟨rfl, rfl⟩ := e1
  subst e0
  exact ⟨⟨a, u⟩, rfl, fit_of w0, hu⟩
set_option maxRecDepth 100000 in
theorem def_readN {w : World} {base fuel : Nat} {spare : Nat → Bool} {held : Bool} {cs : List Value} {x : DataW H × List MemPlace} (h : DataW.trod enc Tryz.prog w base spare held fuel 57 cs = some x) (hw : Reached Tryz.prog 57 x.1) : ∃ d : Df, DfIn w d cs ∧ wtE d.ex ≤ Rows.uptoBulk x.1 := by
 obtain ⟨y0, y1, y2, n, hx, hl, h0, h1, h2⟩ := Go.Deep.trod_struct3 Tryz.underlying57 h
 rw [cells_def] at hl
 rw [hx] at hw
 have hw2 : Reached Tryz.prog 55 y2.1 := fun m' hm' => hw m' (by unfold DataW.weights; rw [Tryz.underlying57]; simp only [List.map_cons, List.map_nil, DataW.weightsEach, List.append_nil]; exact List.mem_append_right _ (List.mem_append_right _ (hm')))
 obtain ⟨c0, c1, c2, c3, c4, c5, c6, c7, c8, c9, c10, c11, rfl⟩ := list12N cs hl
 simp only [cells_str, cells_int, cells_expr, List.drop, List.take] at h0 h1 h2
 obtain ⟨a, e0, _, w0⟩ := DataW.trod_string Tryz.underlying9 h0
 obtain ⟨p, e1, _, w1⟩ := DataW.trod_int Tryz.underlying3 h1
 obtain ⟨e, he, hb⟩ := ex_readB _ _ _ h2 hw2
 simp only [List.cons.injEq, and_true] at e0 e1
 subst e0 e1
 exact ⟨⟨a, p, e⟩, .mk ⟨a, p, e⟩ _ he w0 (fit_of w1), by rw [hx]; simp only [bulk_agg, bulk_cons]; show wtE e ≤ _; omega⟩
set_option maxRecDepth 100000 in
set_option maxHeartbeats 2000000 in
theorem rule_readN {w : World} {base fuel : Nat} {spare : Nat → Bool} {held : Bool} {cs : List Value} {x : DataW H × List MemPlace} (h : DataW.trod enc Tryz.prog w base spare held fuel 71 cs = some x) (hw : Reached Tryz.prog 71 x.1) : ∃ r : Rl, RlIn w r cs ∧ wtR r ≤ Rows.uptoBulk x.1 := by
 obtain ⟨xs, n, hfu, hx, hl, hlen, hf⟩ := DataW.trod_struct Tryz.underlying71 h
 obtain ⟨y0, y1, y2, y3, y4, y5, y6, y7, rfl⟩ : ∃ y0 y1 y2 y3 y4 y5 y6 y7, xs = [y0, y1, y2, y3, y4, y5, y6, y7] := by
  match xs, hlen with
  | [y0, y1, y2, y3, y4, y5, y6, y7], _ => exact ⟨y0, y1, y2, y3, y4, y5, y6, y7, rfl⟩
 have h0 : DataW.trod enc Tryz.prog w base spare held n 3 ((cs.drop 0).take (Tryz.prog.cellsOf 3)) = some y0 := hf 0 _ rfl
 have h1 : DataW.trod enc Tryz.prog w base spare held n 4 ((cs.drop 1).take (Tryz.prog.cellsOf 4)) = some y1 := hf 1 _ rfl
 have h2 : DataW.trod enc Tryz.prog w base spare held n 68 ((cs.drop 2).take (Tryz.prog.cellsOf 68)) = some y2 := hf 2 _ rfl
 have h3 : DataW.trod enc Tryz.prog w base spare held n 55 ((cs.drop 3).take (Tryz.prog.cellsOf 55)) = some y3 := hf 3 _ rfl
 have h4 : DataW.trod enc Tryz.prog w base spare held n 4 ((cs.drop 13).take (Tryz.prog.cellsOf 4)) = some y4 := hf 4 _ rfl
 have h5 : DataW.trod enc Tryz.prog w base spare held n 55 ((cs.drop 14).take (Tryz.prog.cellsOf 55)) = some y5 := hf 5 _ rfl
 have h6 : DataW.trod enc Tryz.prog w base spare held n 9 ((cs.drop 24).take (Tryz.prog.cellsOf 9)) = some y6 := hf 6 _ rfl
 have h7 : DataW.trod enc Tryz.prog w base spare held n 69 ((cs.drop 25).take (Tryz.prog.cellsOf 69)) = some y7 := hf 7 _ rfl
 have hbk : Rows.uptoBulk y2.1 + (Rows.uptoBulk y3.1 + (Rows.uptoBulk y5.1 + Rows.uptoBulk y7.1)) ≤ Rows.uptoBulk x.1 := by
  rw [hx]; simp only [List.map_cons, List.map_nil, bulk_agg, bulk_cons]; omega
 subst hx
 have hw2 : Reached Tryz.prog 68 y2.1 := fun m' hm' => hw m' (by unfold DataW.weights; rw [Tryz.underlying71]; simp only [List.map_cons, List.map_nil, DataW.weightsEach, List.append_nil]; exact List.mem_append_right _ (List.mem_append_right _ (List.mem_append_left _ hm')))
 have hw3 : Reached Tryz.prog 55 y3.1 := fun m' hm' => hw m' (by unfold DataW.weights; rw [Tryz.underlying71]; simp only [List.map_cons, List.map_nil, DataW.weightsEach, List.append_nil]; exact List.mem_append_right _ (List.mem_append_right _ (List.mem_append_right _ (List.mem_append_left _ hm'))))
 have hw5 : Reached Tryz.prog 55 y5.1 := fun m' hm' => hw m' (by unfold DataW.weights; rw [Tryz.underlying71]; simp only [List.map_cons, List.map_nil, DataW.weightsEach, List.append_nil]; exact List.mem_append_right _ (List.mem_append_right _ (List.mem_append_right _ (List.mem_append_right _ (List.mem_append_right _ (List.mem_append_left _ hm'))))))
 have hw7 : Reached Tryz.prog 69 y7.1 := fun m' hm' => hw m' (by unfold DataW.weights; rw [Tryz.underlying71]; simp only [List.map_cons, List.map_nil, DataW.weightsEach, List.append_nil]; exact List.mem_append_right _ (List.mem_append_right _ (List.mem_append_right _ (List.mem_append_right _ (List.mem_append_right _ (List.mem_append_right _ (List.mem_append_right _ (hm'))))))))
 clear hf h hw
 rw [cells_rule] at hl
 obtain ⟨c0, c1, c2, c3, c4, c5, c6, c7, c8, c9, c10, c11, c12, c13, c14, c15, c16, c17, c18, c19, c20, c21, c22, c23, c24, c25, rfl⟩ := list26N cs hl
 simp only [cells_int, cells_bool', cells_uses, cells_expr, cells_str, cells_acts, List.drop, List.take] at h0 h1 h2 h3 h4 h5 h6 h7
 obtain ⟨p, e0, _, w0⟩ := DataW.trod_int Tryz.underlying3 h0
 obtain ⟨al, e1, _⟩ := DataW.trod_bool Tryz.underlying4 h1
 obtain ⟨vm, ml, e2, s2, q2, b2, z2, t2⟩ := slice_readB (f := usC) (Q := fun u _ => UsOk u) Tryz.underlying68 cells_use (by omega) usC_len (fun n cs x _ h _ => use_readN h) h2 hw2
 have t2' := t2 (fun _ => 1) (fun a d _ => bulk_one d)
 obtain ⟨e, he, b3⟩ := ex_readB _ _ _ h3 hw3
 obtain ⟨ht, e4, _⟩ := DataW.trod_bool Tryz.underlying4 h4
 obtain ⟨t, hte, b5⟩ := ex_readB _ _ _ h5 hw5
 obtain ⟨lb, e6, _, w6⟩ := DataW.trod_string Tryz.underlying9 h6
 obtain ⟨va, aL, e7, s7, q7, b7, z7, t7⟩ := slice_readB (f := acC) (Q := fun u _ => AcOk u) Tryz.underlying69 cells_act (by omega) acC_len (fun n cs x _ h _ => act_readN h) h7 hw7
 have t7' := t7 (fun _ => 1) (fun a d _ => bulk_one d)
 rw [len_sum] at t2' t7'
 rw [show Tryz.prog.bytesOf 78 = 24 by kernel_rfl, reach_num] at b2
 rw [show Tryz.prog.bytesOf 80 = 32 by kernel_rfl, reach_num] at b7
 simp only [List.cons.injEq, and_true] at e0 e1 e2 e4 e6 e7
 subst e0 e1 e2 e4 e6 e7
 exact ⟨⟨p, al, ml, e, ht, t, lb, aL⟩, .mk ⟨p, al, ml, e, ht, t, lb, aL⟩ _ _ _ _ he hte s2 z2 b2 (fun u hu => (q2 u hu).elim fun _ h => h) s7 z7 b7 (fun u hu => (q7 u hu).elim fun _ h => h) w6 (fit_of w0), by show ml.length + (wtE e + (wtE t + aL.length)) ≤ _; omega⟩
def DfCells := { p : Df × List Value // p.2.length = 12 }
def RlCells := { p : Rl × List Value // p.2.length = 26 }
def ex0 : Ex := .mk 0 0 0#256 ⟨#[]⟩ 0 0 []
instance : Inhabited DfCells := ⟨⟨(⟨⟨#[]⟩, 0, ex0⟩, List.replicate 12 (.bool true)), by simp⟩⟩
instance : Inhabited RlCells := ⟨⟨(⟨0, true, [], ex0, true, ex0, ⟨#[]⟩, []⟩, List.replicate 26 (.bool true)), by simp⟩⟩
set_option maxRecDepth 100000 in
theorem
    spec_readN {w : World} {base fuel : Nat} {spare : Nat → Bool} {held : Bool} {cs : List Value} {x : DataW H × List MemPlace} (h : DataW.trod enc Tryz.prog w base spare held fuel 28 cs = some x) (hw : Reached Tryz.prog 28 x.1) :
  ∃ (s : Sc) (vm vd vr : Value), cs = [vm, vd, vr] ∧ Nonempty (ScIn w s vm vd vr) ∧ wtS s ≤ Rows.uptoBulk x.1 := by
 obtain ⟨y0, y1, y2, n, hx, hl, h0, h1, h2⟩ := Go.Deep.trod_struct3 Tryz.underlying28 h
 rw [show Tryz.prog.cellsOf 28 = 3 by kernel_rfl] at hl
 rw [hx] at hw
 have hw0 : Reached Tryz.prog 24 y0.1 := fun m' hm' => hw m' (by unfold DataW.weights; rw [Tryz.underlying28]; simp only [List.map_cons, List.map_nil, DataW.weightsEach, List.append_nil]; exact List.mem_append_left _ hm')
 have hw1 : Reached Tryz.prog 25 y1.1 := fun m' hm' => hw m' (by unfold DataW.weights; rw [Tryz.underlying28]; simp only [List.map_cons, List.map_nil, DataW.weightsEach, List.append_nil]; exact List.mem_append_right _ (List.mem_append_left _ hm'))
 have hw2 : Reached Tryz.prog 26 y2.1 := fun m' hm' => hw m' (by unfold DataW.weights; rw [Tryz.underlying28]; simp only [List.map_cons, List.map_nil, DataW.weightsEach, List.append_nil]; exact List.mem_append_right _ (List.mem_append_right _ (hm')))
 match cs, hl with
 |
  [c0, c1, c2], _ =>
  simp only [cells_modes, cells_defs, cells_rules, List.drop, List.take] at h0 h1 h2
  obtain ⟨vm, ml, e0, s0, q0, b0, z0, t0⟩ := slice_readB (f := mdC) (Q := fun m _ => MdOk m) Tryz.underlying24 cells_mode (by omega) mdC_len (fun n cs x _ h _ => mode_readN h) h0 hw0
  obtain ⟨vd, dl, e1, s1, q1, b1, z1, t1⟩ := slice_readB (f := fun p : DfCells => p.1.2) (Q := fun p d => DfIn w p.1.1 p.1.2 ∧ wtE p.1.1.ex ≤ Rows.uptoBulk d) Tryz.underlying25 cells_def (by omega) (fun p => p.2) (fun n cs x _ h hw => by
   obtain ⟨d, hd, hb⟩ := def_readN h hw
   exact ⟨⟨(d, cs), hd.len⟩, rfl, hd, hb⟩) h1 hw1
  obtain ⟨vr, rl, e2, s2, q2, b2, z2, t2⟩ := slice_readB (f := fun p : RlCells => p.1.2) (Q := fun p d => RlIn w p.1.1 p.1.2 ∧ wtR p.1.1 ≤ Rows.uptoBulk d) Tryz.underlying26 cells_rule (by omega) (fun p => p.2) (fun n cs x _ h hw => by
   obtain ⟨d, hd, hb⟩ := rule_readN h hw
   exact ⟨⟨(d, cs), hd.len⟩, rfl, hd, hb⟩) h2 hw2
  rw [show Tryz.prog.bytesOf 75 = 32 by kernel_rfl, reach_num] at b0
  rw [show Tryz.prog.bytesOf 57 = 128 by kernel_rfl, reach_num] at b1
  rw [show Tryz.prog.bytesOf 71 = 296 by kernel_rfl, reach_num] at b2
  have t0' := t0 (fun _ => 1) (fun a d _ => bulk_one d)
  have t1' := t1 (fun p => wtE p.1.1.ex) (fun a d h => h.2)
  have t2' := t2 (fun p => wtR p.1.1) (fun a d h => h.2)
  rw [len_sum] at t0'
  simp only [List.cons.injEq, and_true] at e0 e1 e2
  subst e0 e1 e2
  refine ⟨⟨ml, (dl.map (·.1)).map (·.1), (rl.map (·.1)).map (·.1)⟩, _, _, _, rfl, ⟨⟨dl.map (·.1), rl.map (·.1), rfl, rfl, s0, fun m hm => (q0 m hm).elim fun _ h => h, z0, b0, by rw [List.length_map, List.flatMap_map]; exact s1, fun p hp => ?_, z1, by rw [List.length_map]; exact b1, by rw [List.length_map, List.flatMap_map]; exact s2, fun p hp => ?_, z2, by rw [List.length_map]; exact b2⟩⟩, ?_⟩
  ·
   obtain ⟨q, hq, rfl⟩ := List.mem_map.1 hp
   exact (q1 q hq).elim fun _ h => h.1
  ·
   obtain ⟨q, hq, rfl⟩ := List.mem_map.1 hp
   exact (q2 q hq).elim fun _ h => h.1
  ·
   rw [hx]
   simp only [bulk_agg, bulk_cons]
   unfold wtS
   have e1 : ∀ l : List DfCells, ((l.map (fun p => p.1)).map (fun p : Df × List Value => p.1)).map (fun d => wtE d.ex) = l.map fun p => wtE p.1.1.ex := fun l => by
    induction l with
    | nil => rfl
    | cons a l ih => rw [List.map_cons, List.map_cons, List.map_cons, List.map_cons, ih]
   have e2 : ∀ l : List RlCells, ((l.map (fun p => p.1)).map (fun p : Rl × List Value => p.1)).map wtR = l.map fun p => wtR p.1.1 := fun l => by
    induction l with
    | nil => rfl
    | cons a l ih => rw [List.map_cons, List.map_cons, List.map_cons, List.map_cons, ih]
   have e3 := e1 dl
   have e4 := e2 rl
   try dsimp only
   show ml.length + ((((dl.map (fun p => p.1)).map (fun p : Df × List Value => p.1)).map (fun d => wtE d.ex)).sum + ((((rl.map (fun p => p.1)).map (fun p : Rl × List Value => p.1)).map wtR).sum)) ≤ _
   rw [show _ = _ from e3, show _ = _ from e4]
   omega
end
end Go.Proofs.YtkkopdmemjncdaaGreatDoor
