/- image.Decode. No condition but that the bytes are no more than a machine holds, and that the errors' variables hold them. -/
import Derived.Test.YtcbfmajojkcibaaDoorPImgN
namespace Go.Proofs.YtcbfmajojkcibaaDoor
open Go Go.RowKit

def tb0 : Tb := ⟨[], [], [], [], [], 0, [], [], [], [], [], []⟩
def v0 : TbV := ⟨.slice none 0 0, .slice none 0 0, .slice none 0 0, .slice none 0 0, [], .slice none 0 0, .slice none 0 0, .slice none 0 0, .slice none 0 0, .slice none 0 0, .slice none 0 0, .slice none 0 0⟩
theorem tb0_own (w : World) (B : Nat) : TbO w B tb0 v0 := by
  refine ⟨⟨fun r hr => ?_, ?_, fun r hr g hg => ?_⟩, rfl⟩
  · simp only [rowsOf, tb0, v0, actRows, List.append_nil, List.mem_cons, List.not_mem_nil, or_false] at hr
    rcases hr with rfl | rfl | rfl | rfl | rfl | rfl | rfl | rfl | rfl | rfl | rfl <;> exact World.ownsRow_nil ..
  · simp [rowsOf, tb0, v0, actRows, Value.ownBlock]
  · simp only [rowsOf, tb0, v0, actRows, List.append_nil, List.mem_cons, List.not_mem_nil, or_false] at hr
    rcases hr with rfl | rfl | rfl | rfl | rfl | rfl | rfl | rfl | rfl | rfl | rfl <;> cases hg
/-- How Decode ends. -/
def DecEnd (w : World) (bs : List UInt8) (s : Nat → Addr) (e : Ending) (w' : World) : Prop := Gr w w' ∧ match decT 2 3 255 bs with
  | some t => ∃ v, e = .returned (.tuple #[tbV t v, .nilIface]) ∧ TbO w' w.heap.size t v
  | none => e = .returned (.tuple #[tbV tb0 v0, .iface 157 (.pointer (some (s 12)))])
theorem Kp2.gr {a b : Nat} {w0 w w' : World} (h : Kp2 a b w w') (hG : Gr w0 w) (ha : w0.heap.size ≤ a) (hb : w0.heap.size ≤ b) : Gr w0 w' :=
  ⟨h.os.trans hG.os, h.tape.trans hG.tape, h.output.trans hG.output, Nat.le_trans hG.size h.size, fun k hk => (h.block k (Nat.lt_of_lt_of_le hk hG.size) (by omega) (by omega)).trans (Below.block hG k hk)⟩

theorem boxAt.new_at {w W : World} (vs : List Value) (e : TypeId) (b : Nat) (hW : W = w.alloc (.cells vs.toArray e)) (hb : b = w.heap.size) : boxAt W b vs := by rw [hb]; exact boxAt.new vs e hW
theorem name_endD {P : Program} {f : Func} {R : Ending → World → Prop} {x : Exit} {a : Act} {w0 : World} (h : ∀ W, W = w0 → bodyPostD P f R x a W) : bodyPostD P f R x a w0 := h _ rfl
set_option maxRecDepth 100000 in
set_option maxHeartbeats 4000000 in
/-- The door, behind a panic. -/
theorem door_panic (w W : World) (bs : List UInt8) (s : Nat → Addr) (a b : Nat) (tmps : Array Value) (vs : List Value) (e0 : Value) (hv : vs.length = 12) (ya : boxAt W a vs) (yb : boxAt W b [e0]) (hab : a ≠ b) (hF : FaultsIn w s) (hG : Gr w W) (ha : w.heap.size ≤ a) (hb : w.heap.size ≤ b)
    (Z : ∀ w', Gr w w' → DecEnd w bs s (.returned (.tuple #[tbV tb0 v0, .iface 157 (.pointer (some (s 12)))])) w')
    (h2 : tmps[2]? = some (.pointer (some ⟨a, 0, none⟩))) (h3 : tmps[3]? = some (.pointer (some ⟨b, 0, none⟩))) :
    bodyPostD Tryd.prog Tryd.f19 (DecEnd w bs s) (Exit.panic [{ v := .iface 88 (.agg #[]), recovered := false }])
      { tmps := tmps, defers := [{ target := .fn (.func 53) #[.pointer (some ⟨a, 0, none⟩), .pointer (some ⟨b, 0, none⟩)], args := #[] }] } W := by
  refine leaves_cons (f := 53) (args := #[.pointer (some ⟨a, 0, none⟩), .pointer (some ⟨b, 0, none⟩)]) (by simp) (by simp [go_sem]) ?_
  refine (catch_refusal a b vs e0 _ _ W hv ya yb hab (hG.cell (hF.var 12 (by omega) (by omega)))).mono ?_
  rintro e u' w2 ⟨rfl, rfl, xa, xb, hk⟩
  have hz := Z w2 (hk.gr hG ha hb)
  have HZ := Lib.hid hz
  clear Z hz
  unfold zeroTb at xa
  have c_e0 := xa.cell 0 _ rfl
  have c_e1 := xa.cell 1 _ rfl
  have c_e2 := xa.cell 2 _ rfl
  have c_e3 := xa.cell 3 _ rfl
  have c_e4 := xa.cell 4 _ rfl
  have c_e5 := xa.cell 5 _ rfl
  have c_e6 := xa.cell 6 _ rfl
  have c_e7 := xa.cell 7 _ rfl
  have c_e8 := xa.cell 8 _ rfl
  have c_e9 := xa.cell 9 _ rfl
  have c_e10 := xa.cell 10 _ rfl
  have c_e11 := xa.cell 11 _ rfl
  have m_e0 := xa.mark 0 _ rfl
  have m_e1 := xa.mark 1 _ rfl
  have m_e2 := xa.mark 2 _ rfl
  have m_e3 := xa.mark 3 _ rfl
  have m_e4 := xa.mark 4 _ rfl
  have m_e5 := xa.mark 5 _ rfl
  have m_e6 := xa.mark 6 _ rfl
  have m_e7 := xa.mark 7 _ rfl
  have m_e8 := xa.mark 8 _ rfl
  have m_e9 := xa.mark 9 _ rfl
  have m_e10 := xa.mark 10 _ rfl
  have m_e11 := xa.mark 11 _ rfl
  have l_e := xa.lt (Nat.succ_pos _)
  have c_f0 := xb.cell 0 _ rfl
  have m_f0 := xb.mark 0 _ rfl
  have l_f := xb.lt (Nat.succ_pos _)
  simp [Leaves, settle, results, Tryd.results19, go_sem, h2, h3, c_e0, c_e1, c_e2, c_e3, c_e4, c_e5, c_e6, c_e7, c_e8, c_e9, c_e10, c_e11, c_f0]
  exact HZ.out

set_option maxRecDepth 100000 in
set_option maxHeartbeats 8000000 in
theorem decode_any (w : World) (pb : Option Addr) (c : Nat) (bs : List UInt8) (s : Nat → Addr) (hF : FaultsIn w s) (hsl : Sl w (.slice pb bs.length c) 1 bs.length (bs.map vB)) (hsm : bs.length ≤ 70368744177664) (hroom : bs.length ≤ c) :
    Calls Tryd.prog 19 #[.slice pb bs.length c] w (DecEnd w bs s) := by
  obtain ⟨R, hR⟩ : ∃ R, decT 2 3 255 bs = R := ⟨_, rfl⟩
  have HR := Lib.hid hR
  clear hR
  have HF := Lib.hid hF
  have HSL := Lib.hid hsl
  have hmf : ∀ (fn : Fn) (first cap : Array Value) (w : World), (Instr.makeFunc fn first cap).run Tryd.prog w = .ok (.func fn first cap) w := fun _ _ _ _ => rfl
  have NONE := Lib.hid (fun (hn : R = none) (w' : World) (hg : Gr w w') => (show DecEnd w bs s (.returned (.tuple #[tbV tb0 v0, .iface 157 (.pointer (some (s 12)))])) w' from ⟨hg, by rw [HR.out, hn]⟩))
  clear hF hsl
  go_enter_defers Tryd.func19, Tryd.ntmps19
  by_cases h1 : (2097152 : Int) < (bs.length : Int)
  · have hR0 : R = none := by rw [← HR.out]; unfold decT; rw [if_neg (by omega)]
    go_wp2
    refine name_endD (fun W hW => ?_)
    have hG : Gr w W := by rw [hW]; exact ((Gr.alloc _ _).trans (Gr.alloc _ _)).trans (Gr.alloc _ _)
    have ya : boxAt W w.heap.size zeroTb := by rw [hW]; exact ((boxAt.new_at zeroTb 30 _ rfl rfl).later (Gr.alloc _ _)).later (Gr.alloc _ _)
    have yb : boxAt W (w.heap.size + 1) [.nilIface] := by rw [hW]; exact (boxAt.new_at [.nilIface] 38 _ rfl (by simp)).later (Gr.alloc _ _)
    exact door_panic w W bs s _ _ _ zeroTb .nilIface rfl ya yb (by omega) HF.out hG (Nat.le_refl _) (by omega) (NONE.out hR0) rfl rfl
  by_cases h2 : (bs.length : Int) < 4
  · have hR0 : R = none := by rw [← HR.out]; unfold decT; rw [if_neg (by omega)]
    go_wp2
    refine name_endD (fun W hW => ?_)
    have hG : Gr w W := by rw [hW]; exact ((Gr.alloc _ _).trans (Gr.alloc _ _)).trans (Gr.alloc _ _)
    have ya : boxAt W w.heap.size zeroTb := by rw [hW]; exact ((boxAt.new_at zeroTb 30 _ rfl rfl).later (Gr.alloc _ _)).later (Gr.alloc _ _)
    have yb : boxAt W (w.heap.size + 1) [.nilIface] := by rw [hW]; exact (boxAt.new_at [.nilIface] 38 _ rfl (by simp)).later (Gr.alloc _ _)
    exact door_panic w W bs s _ _ _ zeroTb .nilIface rfl ya yb (by omega) HF.out hG (Nat.le_refl _) (by omega) (NONE.out hR0) rfl rfl
  obtain ⟨b0, off, rfl, hbl, hcs⟩ : ∃ b off, pb = some ⟨b, off, none⟩ ∧ b < w.heap.size ∧ ∀ j u, (bs.map vB)[j]? = some u → w.cell? ⟨b, off + j, none⟩ = some u := by
    obtain ⟨_, _, ⟨_, h0⟩ | ⟨b, off, cap, hv, hb, hc⟩⟩ := HSL.out
    · omega
    · injection hv with hp _ _
      exact ⟨b, off, hp, hb (by omega), hc⟩
  have hlen4 : (bs.take 4).length = 4 := by rw [List.length_take]; omega
  have HCV := Lib.hid (fun (w' : World) (hg : Gr w w') => conv_bytes (P := Tryd.prog) w' 32 9 5 ⟨b0, off, none⟩ c 4 (bs.take 4) Tryd.underlying32 Tryd.underlying5 Tryd.underlying9 hlen4 (fun j u hj => by
    rw [addr_add]
    refine hg.cell (hcs j u ?_)
    rw [List.getElem?_map] at hj ⊢
    obtain ⟨x, hx, hx2⟩ := Option.map_eq_some_iff.1 hj
    have hj4 : j < 4 := by have := (List.getElem?_eq_some_iff.1 hx).1; omega
    rw [List.getElem?_take_of_lt hj4] at hx
    rw [hx]; exact congrArg some hx2))
  have HCS := Lib.hid hcs
  clear hcs
  have hcv := HCV.out (((w.alloc (.cells zeroTb.toArray 30)).alloc (.cells #[.nilIface] 38)).alloc (.cells #[.slice (some ⟨b0, off, none⟩) bs.length c, .int .i64 0] 92)) (((Gr.alloc _ _).trans (Gr.alloc _ _)).trans (Gr.alloc _ _))
  unfold zeroTb at hcv
  have h4c : (4 : Int) ≤ (c : Int) := by omega
  have h4l : (4 : Int) ≤ (bs.length : Int) := by omega
  by_cases h3 : bs.take 4 = headB
  · have hne : (!(st (bs.take 4)).toList == [66, 76, 84, 1]) = false := by rw [st_list, h3]; rfl
    have HD := Lib.hid h3
    clear h3
    go_wp2_with fail
    refine name_calls (fun W hW => ?_)
    go_at_call 54
    have hG : Gr w W := by rw [hW]; exact ((Gr.alloc _ _).trans (Gr.alloc _ _)).trans (Gr.alloc _ _)
    have ya : boxAt W w.heap.size zeroTb := by rw [hW]; exact ((boxAt.new_at zeroTb 30 _ rfl rfl).later (Gr.alloc _ _)).later (Gr.alloc _ _)
    have yb : boxAt W (w.heap.size + 1) [.nilIface] := by rw [hW]; exact (boxAt.new_at [.nilIface] 38 _ rfl (by simp)).later (Gr.alloc _ _)
    have yr : boxAt W (w.heap.size + 1 + 1) [.slice (some ⟨b0, off, none⟩) bs.length c, .int .i64 ((4 : Nat) : Int)] := by rw [hW]; exact boxAt.new_at [.slice (some ⟨b0, off, none⟩) bs.length c, .int .i64 4] 92 _ rfl (by simp)
    have hsW : W.heap.size = w.heap.size + 3 := by rw [hW]; simp
    have hrd : RdI W (w.heap.size + 1 + 1) (some ⟨b0, off, none⟩) c bs 4 := ⟨yr, HSL.out.later hG, fun b o h => by injection h with h; injection h with h1 h2; omega, by omega, hsm, hroom⟩
    have HTA := Lib.hid (tables_any W (w.heap.size + 1 + 1) (some ⟨b0, off, none⟩) c bs 4 hrd (by omega) (fun b o h => by injection h with h; injection h with h1 h2; omega))
    have HSW := Lib.hid hsW
    obtain ⟨ta, hta⟩ : ∃ ta, ta = w.heap.size := ⟨_, rfl⟩
    obtain ⟨te, hte⟩ : ∃ te, te = w.heap.size + 1 := ⟨_, rfl⟩
    obtain ⟨rb, hrb⟩ : ∃ rb, rb = w.heap.size + 1 + 1 := ⟨_, rfl⟩
    rw [← hrb] at HTA ⊢
    rw [← hte] at yb ⊢
    rw [← hta] at ya ⊢
    have hae : ta ≠ te := by omega
    have har : ta ≠ rb := by omega
    have her : te ≠ rb := by omega
    have haB : w.heap.size ≤ ta := by omega
    have heB : w.heap.size ≤ te := by omega
    have hrB : w.heap.size ≤ rb := by omega
    have HAB := Lib.hid (show ta < W.heap.size ∧ te < W.heap.size from ⟨by omega, by omega⟩)
    clear hta hte hrb hsW hW yr hrd
    (with_reducible refine HTA.out.mono ?_); rintro e W2 ⟨hk, hE⟩
    have hG2 : Gr w W2 := ⟨hk.os.trans hG.os, hk.tape.trans hG.tape, hk.output.trans hG.output, Nat.le_trans hG.size hk.size, fun k h1 => (hk.block k (Nat.lt_of_lt_of_le h1 hG.size) (by omega)).trans (Below.block hG k h1)⟩
    have ya2 := ya.keptP hk har (by simp [zeroTb])
    have yb2 := yb.keptP hk her (by simp)
    cases hr : rcR 2 3 255 (bs.drop 4) with
    | none =>
      rw [hr] at hE
      subst hE
      have hR0 : R = none := by rw [← HR.out]; unfold decT; rw [hr]; split <;> rfl
      exact door_panic w W2 bs s _ _ _ zeroTb .nilIface rfl ya2 yb2 hae HF.out hG2 haB heB (NONE.out hR0) rfl rfl
    | some y =>
      obtain ⟨x, r⟩ := y
      rw [hr] at hE
      obtain ⟨⟨v0, v1, v2, v3, vr, v4, v5, v6, v7, v8, v9, v10⟩, rfl, hT, q, hrd, hq⟩ := hE
      have hP := ((cod_rc 2 3 255).2 _ _ _ hr).2
      have HRD := Lib.hid (show R = if r = [] then (if mayB (tbOf x) then some (tbOf x) else none) else none from by
        rw [← HR.out]; unfold decT; rw [hr, if_pos ⟨by omega, by omega, HD.out⟩]
        cases r with
        | nil => rfl
        | cons a r => rfl)
      have HTX := Lib.hid (show (∀ s, s ∈ (tbOf x).modes ∨ s ∈ (tbOf x).labels → s.length ≤ 9223372036854775807) ∧ (∀ s, s ∈ (tbOf x).base → -9223372036854775808 ≤ s ∧ s ≤ 9223372036854775807) from by
        obtain ⟨⟨_, m2⟩, ⟨_, r2⟩, _, _, ⟨_, s2⟩, _⟩ := hP
        refine ⟨fun u hu => ?_, fun u hu => ?_⟩
        · rcases hu with hu | hu
          · obtain ⟨a, ha, rfl⟩ := List.mem_map.1 hu
            have := (m2 a ha).1; omega
          · obtain ⟨a, ha, rfl⟩ := List.mem_map.1 hu
            have := (r2 a ha).1; omega
        · obtain ⟨a, ha, rfl⟩ := List.mem_map.1 hu
          obtain ⟨_, ⟨h5, h6⟩, _⟩ := s2 a ha
          omega)
      clear hr hP
      generalize tbOf x = T at *
      clear x
      obtain ⟨p0, n0, c0, rfl⟩ : ∃ p n c, v0 = .slice p n c := by obtain ⟨p, c, hv⟩ := (Sl.of_owns (hT.rows.own _ (List.mem_of_getElem? (show (rowsOf T _)[0]? = some _ from rfl)))).len; exact ⟨p, _, c, hv⟩
      obtain ⟨p1, n1, c1, rfl⟩ : ∃ p n c, v1 = .slice p n c := by obtain ⟨p, c, hv⟩ := (Sl.of_owns (hT.rows.own _ (List.mem_of_getElem? (show (rowsOf T _)[1]? = some _ from rfl)))).len; exact ⟨p, _, c, hv⟩
      obtain ⟨p2, n2, c2, rfl⟩ : ∃ p n c, v2 = .slice p n c := by obtain ⟨p, c, hv⟩ := (Sl.of_owns (hT.rows.own _ (List.mem_of_getElem? (show (rowsOf T _)[2]? = some _ from rfl)))).len; exact ⟨p, _, c, hv⟩
      obtain ⟨p3, n3, c3, rfl⟩ : ∃ p n c, v3 = .slice p n c := by obtain ⟨p, c, hv⟩ := (Sl.of_owns (hT.rows.own _ (List.mem_of_getElem? (show (rowsOf T _)[3]? = some _ from rfl)))).len; exact ⟨p, _, c, hv⟩
      obtain ⟨p4, n4, c4, rfl⟩ : ∃ p n c, v4 = .slice p n c := by obtain ⟨p, c, hv⟩ := (Sl.of_owns (hT.rows.own _ (List.mem_of_getElem? (show (rowsOf T _)[4]? = some _ from rfl)))).len; exact ⟨p, _, c, hv⟩
      obtain ⟨p5, n5, c5, rfl⟩ : ∃ p n c, v5 = .slice p n c := by obtain ⟨p, c, hv⟩ := (Sl.of_owns (hT.rows.own _ (List.mem_of_getElem? (show (rowsOf T _)[5]? = some _ from rfl)))).len; exact ⟨p, _, c, hv⟩
      obtain ⟨p6, n6, c6, rfl⟩ : ∃ p n c, v6 = .slice p n c := by obtain ⟨p, c, hv⟩ := (Sl.of_owns (hT.rows.own _ (List.mem_of_getElem? (show (rowsOf T _)[6]? = some _ from rfl)))).len; exact ⟨p, _, c, hv⟩
      obtain ⟨p7, n7, c7, rfl⟩ : ∃ p n c, v7 = .slice p n c := by obtain ⟨p, c, hv⟩ := (Sl.of_owns (hT.rows.own _ (List.mem_of_getElem? (show (rowsOf T _)[7]? = some _ from rfl)))).len; exact ⟨p, _, c, hv⟩
      obtain ⟨p8, n8, c8, rfl⟩ : ∃ p n c, v8 = .slice p n c := by obtain ⟨p, c, hv⟩ := (Sl.of_owns (hT.rows.own _ (List.mem_of_getElem? (show (rowsOf T _)[8]? = some _ from rfl)))).len; exact ⟨p, _, c, hv⟩
      obtain ⟨p9, n9, c9, rfl⟩ : ∃ p n c, v9 = .slice p n c := by obtain ⟨p, c, hv⟩ := (Sl.of_owns (hT.rows.own _ (List.mem_of_getElem? (show (rowsOf T _)[9]? = some _ from rfl)))).len; exact ⟨p, _, c, hv⟩
      obtain ⟨p10, n10, c10, rfl⟩ : ∃ p n c, v10 = .slice p n c := by obtain ⟨p, c, hv⟩ := (Sl.of_owns (hT.rows.own _ (List.mem_of_getElem? (show (rowsOf T _)[10]? = some _ from rfl)))).len; exact ⟨p, _, c, hv⟩
      have hql := hrd.le
      have hqr : r = [] ↔ q = bs.length := by
        rw [← hq]
        constructor
        · intro h; have := congrArg List.length h; rw [List.length_drop, List.length_nil] at this; omega
        · intro h; rw [h, List.drop_length]
      have HQR := Lib.hid hqr
      have HT := Lib.hid hT
      have HQ := Lib.hid hq
      have yr2 := hrd.box
      clear hT hq hqr hrd
      unfold zeroTb at ya2
      unfold tbV
      dsimp only
      have c_e0 := ya2.cell 0 _ rfl
      have c_e1 := ya2.cell 1 _ rfl
      have c_e2 := ya2.cell 2 _ rfl
      have c_e3 := ya2.cell 3 _ rfl
      have c_e4 := ya2.cell 4 _ rfl
      have c_e5 := ya2.cell 5 _ rfl
      have c_e6 := ya2.cell 6 _ rfl
      have c_e7 := ya2.cell 7 _ rfl
      have c_e8 := ya2.cell 8 _ rfl
      have c_e9 := ya2.cell 9 _ rfl
      have c_e10 := ya2.cell 10 _ rfl
      have c_e11 := ya2.cell 11 _ rfl
      have m_e0 := ya2.mark 0 _ rfl
      have m_e1 := ya2.mark 1 _ rfl
      have m_e2 := ya2.mark 2 _ rfl
      have m_e3 := ya2.mark 3 _ rfl
      have m_e4 := ya2.mark 4 _ rfl
      have m_e5 := ya2.mark 5 _ rfl
      have m_e6 := ya2.mark 6 _ rfl
      have m_e7 := ya2.mark 7 _ rfl
      have m_e8 := ya2.mark 8 _ rfl
      have m_e9 := ya2.mark 9 _ rfl
      have m_e10 := ya2.mark 10 _ rfl
      have m_e11 := ya2.mark 11 _ rfl
      have l_e := ya2.lt (Nat.succ_pos _)
      have c_f0 := yb2.cell 0 _ rfl
      have m_f0 := yb2.mark 0 _ rfl
      have l_f := yb2.lt (Nat.succ_pos _)
      have c_g0 := yr2.cell 0 _ rfl
      have c_g1 := yr2.cell 1 _ rfl
      have m_g0 := yr2.mark 0 _ rfl
      have m_g1 := yr2.mark 1 _ rfl
      have l_g := yr2.lt (Nat.succ_pos _)
      by_cases hqe : q = bs.length
      · have hr0 : r = [] := HQR.out.2 hqe
        have hR1 : R = if mayB T then some T else none := by rw [HRD.out, if_pos hr0]
        have HR1 := Lib.hid hR1
        have hqI : ((q : Int) == (bs.length : Int)) = true := by rw [beq_iff_eq]; omega
        have hqJ : ((q : Int) != (bs.length : Int)) = false := by rw [bne_eq_false_iff_eq]; omega
        clear hqe hr0 hql hR1
        go_wp2_with fail
        refine name_calls (fun W3 hW3 => ?_)
        have za : boxAt W3 ta [.slice p0 n0 c0, .slice p1 n1 c1, .slice p2 n2 c2, .slice p3 n3 c3, .slice p4 n4 c4, .int .i64 T.count, .slice p5 n5 c5, .slice p6 n6 c6, .slice p7 n7 c7, .slice p8 n8 c8, .slice p9 n9 c9, .slice p10 n10 c10] := by rw [hW3]; exact ((((((((((((ya2.put 0 _ (by simp)).put 1 _ (by simp)).put 2 _ (by simp)).put 3 _ (by simp)).put 4 _ (by simp)).put 5 _ (by simp)).put 6 _ (by simp)).put 7 _ (by simp)).put 8 _ (by simp)).put 9 _ (by simp)).put 10 _ (by simp)).put 11 _ (by simp))
        have zb : boxAt W3 te [.nilIface] := by rw [hW3]; exact ((((((((((((yb2.far ⟨ta, 0, none⟩ _ (hae)).far ⟨ta, 1, none⟩ _ (hae)).far ⟨ta, 2, none⟩ _ (hae)).far ⟨ta, 3, none⟩ _ (hae)).far ⟨ta, 4, none⟩ _ (hae)).far ⟨ta, 5, none⟩ _ (hae)).far ⟨ta, 6, none⟩ _ (hae)).far ⟨ta, 7, none⟩ _ (hae)).far ⟨ta, 8, none⟩ _ (hae)).far ⟨ta, 9, none⟩ _ (hae)).far ⟨ta, 10, none⟩ _ (hae)).far ⟨ta, 11, none⟩ _ (hae))
        have hG3 : Gr w W3 := by
          rw [hW3]
          iterate 12 refine Below.setCell (p := ⟨ta, _, none⟩) ?_ haB _
          exact hG2
        have hT3 : TbO W3 W.heap.size T ⟨.slice p0 n0 c0, .slice p1 n1 c1, .slice p2 n2 c2, .slice p3 n3 c3, vr, .slice p4 n4 c4, .slice p5 n5 c5, .slice p6 n6 c6, .slice p7 n7 c7, .slice p8 n8 c8, .slice p9 n9 c9, .slice p10 n10 c10⟩ := ⟨HT.out.rows.keep (fun k _ hB _ => by
          have := HAB.out
          rw [hW3]
          iterate 12 rw [Below.heap_setCell _ _ _ k (by show k ≠ ta; omega)]), HT.out.len⟩
        clear c_e0 c_e1 c_e2 c_e3 c_e4 c_e5 c_e6 c_e7 c_e8 c_e9 c_e10 c_e11 m_e0 m_e1 m_e2 m_e3 m_e4 m_e5 m_e6 m_e7 m_e8 m_e9 m_e10 m_e11 l_e
        clear c_f0 m_f0 l_f
        clear c_g0 c_g1 m_g0 m_g1 l_g
        clear hW3 ya2 yb2 yr2
        have HCK := Lib.hid (checkI_any T ⟨.slice p0 n0 c0, .slice p1 n1 c1, .slice p2 n2 c2, .slice p3 n3 c3, vr, .slice p4 n4 c4, .slice p5 n5 c5, .slice p6 n6 c6, .slice p7 n7 c7, .slice p8 n8 c8, .slice p9 n9 c9, .slice p10 n10 c10⟩ W3 (hT3.rows.tabs hT3.len HTX.out.1) HTX.out.2)
        unfold tbV at HCK
        dsimp only at HCK
        go_at_call 11
        (with_reducible refine HCK.out.mono ?_); rintro e W4 ⟨rfl, hG4⟩
        have za4 := za.later hG4
        have zb4 := zb.later hG4
        have hT4 : TbO W4 W.heap.size T ⟨.slice p0 n0 c0, .slice p1 n1 c1, .slice p2 n2 c2, .slice p3 n3 c3, vr, .slice p4 n4 c4, .slice p5 n5 c5, .slice p6 n6 c6, .slice p7 n7 c7, .slice p8 n8 c8, .slice p9 n9 c9, .slice p10 n10 c10⟩ := ⟨⟨fun r hr => owns_later (hT3.rows.own r hr) hG4, hT3.rows.apart, hT3.rows.out⟩, hT3.len⟩
        have hGw4 := hG3.trans hG4
        clear hT3 hG4 za zb
        cases hm : mayB T with
        | false =>
          have hR0 : R = none := by rw [HR1.out, hm]; rfl
          clear hm
          go_wp2_with fail
          exact door_panic w W4 bs s _ _ _ _ .nilIface rfl za4 zb4 hae HF.out hGw4 haB heB (NONE.out hR0) rfl rfl
        | true =>
          have hR0 : R = some T := by rw [HR1.out, hm]; rfl
          have HR0 := Lib.hid hR0
          have HT4 := Lib.hid hT4
          clear hm hR0 hT4
          have c_e0 := za4.cell 0 _ rfl
          have c_e1 := za4.cell 1 _ rfl
          have c_e2 := za4.cell 2 _ rfl
          have c_e3 := za4.cell 3 _ rfl
          have c_e4 := za4.cell 4 _ rfl
          have c_e5 := za4.cell 5 _ rfl
          have c_e6 := za4.cell 6 _ rfl
          have c_e7 := za4.cell 7 _ rfl
          have c_e8 := za4.cell 8 _ rfl
          have c_e9 := za4.cell 9 _ rfl
          have c_e10 := za4.cell 10 _ rfl
          have c_e11 := za4.cell 11 _ rfl
          have m_e0 := za4.mark 0 _ rfl
          have m_e1 := za4.mark 1 _ rfl
          have m_e2 := za4.mark 2 _ rfl
          have m_e3 := za4.mark 3 _ rfl
          have m_e4 := za4.mark 4 _ rfl
          have m_e5 := za4.mark 5 _ rfl
          have m_e6 := za4.mark 6 _ rfl
          have m_e7 := za4.mark 7 _ rfl
          have m_e8 := za4.mark 8 _ rfl
          have m_e9 := za4.mark 9 _ rfl
          have m_e10 := za4.mark 10 _ rfl
          have m_e11 := za4.mark 11 _ rfl
          have l_e := za4.lt (Nat.succ_pos _)
          have c_f0 := zb4.cell 0 _ rfl
          have m_f0 := zb4.mark 0 _ rfl
          have l_f := zb4.lt (Nat.succ_pos _)
          go_wp2_with fail
          refine name_endD (fun W5 hW5 => ?_)
          have za5 : boxAt W5 ta [.slice p0 n0 c0, .slice p1 n1 c1, .slice p2 n2 c2, .slice p3 n3 c3, .slice p4 n4 c4, .int .i64 T.count, .slice p5 n5 c5, .slice p6 n6 c6, .slice p7 n7 c7, .slice p8 n8 c8, .slice p9 n9 c9, .slice p10 n10 c10] := by rw [hW5]; exact (((((((((((((za4.put 0 _ (by simp)).put 1 _ (by simp)).put 2 _ (by simp)).put 3 _ (by simp)).put 4 _ (by simp)).put 5 _ (by simp)).put 6 _ (by simp)).put 7 _ (by simp)).put 8 _ (by simp)).put 9 _ (by simp)).put 10 _ (by simp)).put 11 _ (by simp))).far _ _ (Ne.symm hae)
          have zb5 : boxAt W5 te [.nilIface] := by rw [hW5]; exact (((((((((((((zb4.far ⟨ta, 0, none⟩ _ (hae)).far ⟨ta, 1, none⟩ _ (hae)).far ⟨ta, 2, none⟩ _ (hae)).far ⟨ta, 3, none⟩ _ (hae)).far ⟨ta, 4, none⟩ _ (hae)).far ⟨ta, 5, none⟩ _ (hae)).far ⟨ta, 6, none⟩ _ (hae)).far ⟨ta, 7, none⟩ _ (hae)).far ⟨ta, 8, none⟩ _ (hae)).far ⟨ta, 9, none⟩ _ (hae)).far ⟨ta, 10, none⟩ _ (hae)).far ⟨ta, 11, none⟩ _ (hae))).put 0 _ (by simp)
          have hG5 : Gr w W5 := by
            rw [hW5]
            refine Below.setCell (p := ⟨te, _, none⟩) ?_ heB _
            iterate 12 refine Below.setCell (p := ⟨ta, _, none⟩) ?_ haB _
            exact hGw4
          have hT5 : TbO W5 W.heap.size T ⟨.slice p0 n0 c0, .slice p1 n1 c1, .slice p2 n2 c2, .slice p3 n3 c3, vr, .slice p4 n4 c4, .slice p5 n5 c5, .slice p6 n6 c6, .slice p7 n7 c7, .slice p8 n8 c8, .slice p9 n9 c9, .slice p10 n10 c10⟩ := ⟨HT4.out.rows.keep (fun k _ hB _ => by
            have := HAB.out
            rw [hW5, Below.heap_setCell _ _ _ k (by show k ≠ te; omega)]
            iterate 12 rw [Below.heap_setCell _ _ _ k (by show k ≠ ta; omega)]), HT4.out.len⟩
          clear c_e0 c_e1 c_e2 c_e3 c_e4 c_e5 c_e6 c_e7 c_e8 c_e9 c_e10 c_e11 m_e0 m_e1 m_e2 m_e3 m_e4 m_e5 m_e6 m_e7 m_e8 m_e9 m_e10 m_e11 l_e
          clear c_f0 m_f0 l_f
          clear hW5 za4 zb4 hGw4
          refine leaves_cons (f := 53) (args := #[.pointer (some ⟨ta, 0, none⟩), .pointer (some ⟨te, 0, none⟩)]) (by simp) (by simp [go_sem]) ?_
          refine (catch_nothing ta te W5).mono ?_
          rintro e u' w9 ⟨rfl, rfl, hg9⟩
          have Z : DecEnd w bs s (.returned (.tuple #[tbV T ⟨.slice p0 n0 c0, .slice p1 n1 c1, .slice p2 n2 c2, .slice p3 n3 c3, vr, .slice p4 n4 c4, .slice p5 n5 c5, .slice p6 n6 c6, .slice p7 n7 c7, .slice p8 n8 c8, .slice p9 n9 c9, .slice p10 n10 c10⟩, .nilIface])) w9 := ⟨hG5.trans hg9, by
            rw [HR.out, HR0.out]
            exact ⟨_, rfl, ⟨⟨fun r hr => own_mono (owns_later (hT5.rows.own r hr) hg9) hG.size, hT5.rows.apart, hT5.rows.out⟩, hT5.len⟩⟩⟩
          have HZ := Lib.hid Z
          have za9 := za5.later hg9
          have zb9 := zb5.later hg9
          clear Z za5 zb5 hT5 hg9
          have c_e0 := za9.cell 0 _ rfl
          have c_e1 := za9.cell 1 _ rfl
          have c_e2 := za9.cell 2 _ rfl
          have c_e3 := za9.cell 3 _ rfl
          have c_e4 := za9.cell 4 _ rfl
          have c_e5 := za9.cell 5 _ rfl
          have c_e6 := za9.cell 6 _ rfl
          have c_e7 := za9.cell 7 _ rfl
          have c_e8 := za9.cell 8 _ rfl
          have c_e9 := za9.cell 9 _ rfl
          have c_e10 := za9.cell 10 _ rfl
          have c_e11 := za9.cell 11 _ rfl
          have m_e0 := za9.mark 0 _ rfl
          have m_e1 := za9.mark 1 _ rfl
          have m_e2 := za9.mark 2 _ rfl
          have m_e3 := za9.mark 3 _ rfl
          have m_e4 := za9.mark 4 _ rfl
          have m_e5 := za9.mark 5 _ rfl
          have m_e6 := za9.mark 6 _ rfl
          have m_e7 := za9.mark 7 _ rfl
          have m_e8 := za9.mark 8 _ rfl
          have m_e9 := za9.mark 9 _ rfl
          have m_e10 := za9.mark 10 _ rfl
          have m_e11 := za9.mark 11 _ rfl
          have l_e := za9.lt (Nat.succ_pos _)
          have c_f0 := zb9.cell 0 _ rfl
          have m_f0 := zb9.mark 0 _ rfl
          have l_f := zb9.lt (Nat.succ_pos _)
          simp [Leaves, settle, results, Tryd.results19, go_sem, c_e0, c_e1, c_e2, c_e3, c_e4, c_e5, c_e6, c_e7, c_e8, c_e9, c_e10, c_e11, c_f0]
          exact HZ.out
      · have hR0 : R = none := by rw [HRD.out, if_neg (fun h => hqe (HQR.out.1 h))]
        have hqI : ((q : Int) == (bs.length : Int)) = false := by rw [beq_eq_false_iff_ne]; omega
        have hqJ : ((q : Int) != (bs.length : Int)) = true := by rw [bne_iff_ne]; omega
        clear hqe hql
        go_wp2_with fail
        refine name_endD (fun W3 hW3 => ?_)
        have za : boxAt W3 ta [.slice p0 n0 c0, .slice p1 n1 c1, .slice p2 n2 c2, .slice p3 n3 c3, .slice p4 n4 c4, .int .i64 T.count, .slice p5 n5 c5, .slice p6 n6 c6, .slice p7 n7 c7, .slice p8 n8 c8, .slice p9 n9 c9, .slice p10 n10 c10] := by rw [hW3]; exact ((((((((((((ya2.put 0 _ (by simp)).put 1 _ (by simp)).put 2 _ (by simp)).put 3 _ (by simp)).put 4 _ (by simp)).put 5 _ (by simp)).put 6 _ (by simp)).put 7 _ (by simp)).put 8 _ (by simp)).put 9 _ (by simp)).put 10 _ (by simp)).put 11 _ (by simp))
        have zb : boxAt W3 te [.nilIface] := by rw [hW3]; exact ((((((((((((yb2.far ⟨ta, 0, none⟩ _ (hae)).far ⟨ta, 1, none⟩ _ (hae)).far ⟨ta, 2, none⟩ _ (hae)).far ⟨ta, 3, none⟩ _ (hae)).far ⟨ta, 4, none⟩ _ (hae)).far ⟨ta, 5, none⟩ _ (hae)).far ⟨ta, 6, none⟩ _ (hae)).far ⟨ta, 7, none⟩ _ (hae)).far ⟨ta, 8, none⟩ _ (hae)).far ⟨ta, 9, none⟩ _ (hae)).far ⟨ta, 10, none⟩ _ (hae)).far ⟨ta, 11, none⟩ _ (hae))
        have hG3 : Gr w W3 := by
          rw [hW3]
          iterate 12 refine Below.setCell (p := ⟨ta, _, none⟩) ?_ haB _
          exact hG2
        exact door_panic w W3 bs s _ _ _ _ .nilIface rfl za zb hae HF.out hG3 haB heB (NONE.out hR0) rfl rfl
  · have hR0 : R = none := by rw [← HR.out]; unfold decT; rw [if_neg (fun h => h3 h.2.2)]
    have hne : (!(st (bs.take 4)).toList == [66, 76, 84, 1]) = true := by
      rw [st_list, Bool.not_eq_true', beq_eq_false_iff_ne]; exact h3
    clear h3
    go_wp2
    refine name_endD (fun W hW => ?_)
    have hG : Gr w W := by rw [hW]; exact ((Gr.alloc _ _).trans (Gr.alloc _ _)).trans (Gr.alloc _ _)
    have ya : boxAt W w.heap.size zeroTb := by rw [hW]; exact ((boxAt.new_at zeroTb 30 _ rfl rfl).later (Gr.alloc _ _)).later (Gr.alloc _ _)
    have yb : boxAt W (w.heap.size + 1) [.nilIface] := by rw [hW]; exact (boxAt.new_at [.nilIface] 38 _ rfl (by simp)).later (Gr.alloc _ _)
    exact door_panic w W bs s _ _ _ zeroTb .nilIface rfl ya yb (by omega) HF.out hG (Nat.le_refl _) (by omega) (NONE.out hR0) rfl rfl

end Go.Proofs.YtcbfmajojkcibaaDoor
