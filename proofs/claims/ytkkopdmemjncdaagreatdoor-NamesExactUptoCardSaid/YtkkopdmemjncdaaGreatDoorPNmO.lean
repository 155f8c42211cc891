/- Texts of mine, put together: NmO. No condition but what each says. -/
import Derived.Test.YtkkopdmemjncdaaGreatDoorPHf
import Derived.Test.YtkkopdmemjncdaaGreatDoorPHi
import Derived.OwnWalk
import Derived.Maps.AppendAt
namespace Go.Proofs.YtkkopdmemjncdaaGreatDoor
open Go Go.RowKit
theorem made_rep (z : Value) (hz : z.cells = #[z]) (n : Nat) : (madeCells z.cells (n * 1)).toList = List.replicate n z := by
 rw [hz, Nat.mul_one]
 apply List.ext_getElem
 · simp [size_madeCells]
 ·
  intro i h1 h2
  simp [madeCells, Nat.mod_one]
def toldV (n : Nat) (l : List Nat) : List Value := (List.range n).map fun i => .bool (decide (i ∈ l))
theorem toldV_nil (n : Nat) : toldV n [] = List.replicate n (.bool false) := by
 unfold toldV
 apply List.ext_getElem
 · simp
 ·
  intro i h1 h2
  simp
theorem toldV_len (n : Nat) (l : List Nat) : (toldV n l).length = n := by unfold toldV; simp
theorem toldV_get {n x : Nat} (l : List Nat) (h : x < n) : (toldV n l)[x]? = some (.bool (decide (x ∈ l))) := by
 unfold toldV
 rw [List.getElem?_map, List.getElem?_range h]; rfl
theorem toldV_set {n i : Nat} (l : List Nat) (h : i < n) : (toldV n l).set i (.bool true) = toldV n (l ++ [i]) := by
 apply List.ext_getElem?
 intro j
 rcases Nat.lt_or_ge j n with hj | hj
 ·
  rw [toldV_get _ hj]
  by_cases e : i = j
  ·
   subst e
   rw [List.getElem?_set_self (by rw [toldV_len]; exact h)]
   simp
  ·
   rw [List.getElem?_set_ne e, toldV_get _ hj]
   congr 2
   exact decide_eq_decide.2 ⟨fun h => List.mem_append_left _ h, fun h => (List.mem_append.1 h).resolve_right (fun h => e (List.mem_singleton.1 h).symm)⟩
 · rw [List.getElem?_eq_none (by rw [List.length_set, toldV_len]; exact hj), List.getElem?_eq_none (by rw [toldV_len]; exact hj)]
set_option maxRecDepth 100000 in
theorem info_boolN : (Tryz.prog.info? 4).map (fun i => (i.zero, i.size, i.bytes)) = some (some (.bool false), 1, 1) := by kernel_rfl
set_option maxRecDepth 100000 in
theorem info_intN : (Tryz.prog.info? 3).map (fun i => (i.zero, i.size, i.bytes)) = some (some (.int .i64 0), 1, 8) := by kernel_rfl
def lenV : Value → Nat
 | .slice _ n _ => n
 | _ => 0
theorem ord_less {n len k : Nat} (h : len < n) (_ : k ≤ n) : (n - (len + 1)) * (n + 2) + (n + 1) < (n - len) * (n + 2) + (n + 1 - k) := by
 obtain ⟨d, hd⟩ : ∃ d, n - len = d + 1 := ⟨n - len - 1, by omega⟩
 rw [hd, show n - (len + 1) = d by omega, Nat.succ_mul]; omega
set_option maxRecDepth 100000 in
theorem order1_any (n : Nat) (l : List Nat) (pt : Option Addr) (ct tb : Nat) (w : World) (hb : boxAt w tb [.slice pt n ct]) (ht : Sl w (.slice pt n ct) 1 n (toldV n l)) (_ : n ≤ 1048576) (x : Nat) (hx : x < n) :
  Calls Tryz.prog 86 #[.int .i64 (x : Int), .pointer (some ⟨tb, 0, none⟩)] w fun e w' => e = .returned (.bool (!decide (x ∈ l))) ∧ Gr w w' := by
 obtain ⟨b, off, rfl, hbl, hc⟩ : ∃ b off, pt = some ⟨b, off, none⟩ ∧ b < w.heap.size ∧ w.cell? ⟨b, off + x, none⟩ = some (.bool (decide (x ∈ l))) := by
  obtain ⟨_, _, ⟨_, h0⟩ | ⟨b, off, cap, hv, hb, hc⟩⟩ := ht
  · omega
  ·
   injection hv with hp _ _
   exact ⟨b, off, hp, hb (by omega), hc x _ (toldV_get l hx)⟩
 have hxI : (x : Int) < (n : Int) := by omega
 obtain ⟨q, hq⟩ : ∃ q, decide (x ∈ l) = q := ⟨_, rfl⟩
 rw [hq] at hc ⊢
 clear ht hq hx
 go_enter Tryz.func86, Tryz.ntmps86
 have c_t0 := hb.cell 0 _ rfl
 have m_t0 := hb.mark 0 _ rfl
 have l_t := hb.lt (Nat.succ_pos _)
 go_wp2_with fail
 go_ret
 exact ⟨rfl, Gr.refl _⟩
set_option maxRecDepth 100000 in
set_option maxHeartbeats 2000000 in
theorem
    indexF_told (r : List Nat) (p : Option Addr) (c : Nat) (n : Nat) (l : List Nat) (pt : Option Addr) (ct tb : Nat) (w : World) (h : Sl w (.slice p r.length c) 1 r.length (r.map natV)) (hb : boxAt w tb [.slice pt n ct]) (ht : Sl w (.slice pt n ct) 1 n (toldV n l)) (hn : n ≤ 1048576) (hr : ∀ x ∈ r, x < n) :
  Calls Tryz.prog 112 #[.slice p r.length c, .func (.func 86) #[] #[.pointer (some ⟨tb, 0, none⟩)]] w fun e w' => (∃ k : Int, e = .returned (.int .i64 k) ∧ decide (0 ≤ k) = !(r.all fun u => decide (u ∈ l))) ∧ Gr w w' := by
 have hmx := h.2.1
 unfold maxLen at hmx
 have H := Lib.hid h
 have HF := Lib.hid (fun (x : Nat) (hx : x ∈ r) (w' : World) (hG : Gr w w') => order1_any n l pt ct tb w' (hb.later hG) (ht.later hG) hn x (hr x hx))
 obtain ⟨m, hm⟩ : ∃ m, r.length = m := ⟨_, rfl⟩
 have HN := Lib.hid hm
 rw [hm] at H hmx ⊢
 clear h hb ht hn hr hm
 go_enter Tryz.func112, Tryz.ntmps112
 go_wp2_with fail
 go_loopw [8] (fun i wr => ∃ k : Nat, k ≤ m ∧ i = .int .i64 (k : Int) ∧ Gr w wr ∧ Hid ((r.take k).all (fun u => decide (u ∈ l)) = true)) (fun i _ => m - (intOf i).toNat)
 case atStart => exact ⟨0, Nat.zero_le _, rfl, Gr.refl _, Lib.hid rfl⟩
 case round =>
  obtain ⟨k, hk, rfl, hg, HA⟩ := hrel
  cases hx : r[k]? with
  |
   none =>
   have hkl : ¬ (k : Int) < (m : Int) := by
    rcases Nat.lt_or_ge k r.length with h | h
    · rw [List.getElem?_eq_getElem h] at hx; cases hx
    · have := HN.out; omega
   have HA2 := Lib.hid (show r.all (fun u => decide (u ∈ l)) = true by have := HA.out; rw [List.take_of_length_le (by have := HN.out; omega)] at this; exact this)
   clear hx hk HA
   go_wp2_with fail
   go_ret
   exact ⟨⟨-1, rfl, by rw [HA2.out]; rfl⟩, hg⟩
  |
   some x =>
   have hkl : k < r.length := (List.getElem?_eq_some_iff.1 hx).1
   have hkn : k < m := by rw [← HN.out]; exact hkl
   obtain ⟨b, off, rfl, hb, hc⟩ := num_at (HN.out.symm ▸ H.out) hx
   have k0 : wr.cell? ⟨b, off + k, none⟩ = some (.int .i64 (x : Int)) := hg.cell hc
   have hbr := Nat.lt_of_lt_of_le hb hg.size
   have HX := Lib.hid hx
   have HKN := Lib.hid hkn
   have hkI : (k : Int) < (m : Int) := by omega
   have HL := Lib.hid (HF.out x (List.mem_of_getElem? hx))
   clear hx hk hkl hkn hc
   cases hb2 : decide (x ∈ l)
   all_goals
    rw [hb2] at HL
    have YES := Lib.hid (fun h : decide (x ∈ l) = true => Lib.hid (show (r.take (k + 1)).all (fun u => decide (u ∈ l)) = true by rw [List.take_add_one, HX.out]; simp only [Option.toList_some, List.all_append, HA.out, List.all_cons, List.all_nil, h, Bool.and_self]))
    have NO := Lib.hid (fun h : decide (x ∈ l) = false => Lib.hid (show r.all (fun u => decide (u ∈ l)) = false from List.all_eq_false.2 ⟨_, List.mem_of_getElem? HX.out, by rw [h]; simp⟩))
    have HB2 := Lib.hid hb2
    clear hb2
    go_wp2_with fail
    go_at_call 86
    (with_reducible refine (HL.out wr hg).mono ?_); rintro e w1 ⟨rfl, hb1⟩
    have hg1 := hg.trans hb1
    clear hb1
    go_wp2_with fail
   ·
    go_ret
    exact ⟨⟨k, rfl, by rw [(NO.out HB2.out).out]; simp⟩, hg1⟩
   ·
    go_roundw
    case rel => exact ⟨k + 1, HKN.out, by go_num, hg1, YES.out HB2.out⟩
    case measure => have := HKN.out; simp [intOf]; omega
set_option maxRecDepth 100000 in
theorem containsF_told (r : List Nat) (p : Option Addr) (c : Nat) (n : Nat) (l : List Nat) (pt : Option Addr) (ct tb : Nat) (w : World) (h : Sl w (.slice p r.length c) 1 r.length (r.map natV)) (hb : boxAt w tb [.slice pt n ct]) (ht : Sl w (.slice pt n ct) 1 n (toldV n l)) (hn : n ≤ 1048576) (hr : ∀ x ∈ r, x < n) :
  Calls Tryz.prog 85 #[.slice p r.length c, .func (.func 86) #[] #[.pointer (some ⟨tb, 0, none⟩)]] w fun e w' => e = .returned (.bool (!(r.all fun u => decide (u ∈ l)))) ∧ Gr w w' := by
 have HI := Lib.hid (indexF_told r p c n l pt ct tb w h hb ht hn hr)
 clear h hb ht hn hr
 go_enter Tryz.func85, Tryz.ntmps85
 go_wp2_with fail
 go_at_call 112
 refine HI.out.mono ?_; rintro e w1 ⟨⟨k, rfl, hk⟩, hg⟩
 have HK := Lib.hid hk
 clear hk
 go_wp2_with fail
 go_ret
 exact ⟨ret_bool HK.out, hg⟩
structure OrdI (w0 : World) (U : List (List Nat)) (n m k : Nat) (l : List Nat) (tb tr : Nat) (lv : Value) (w : World) : Prop where
 gr : Gr w0 w
 box : boxAt w tb [.slice (some ⟨tr, 0, none⟩) n n]
 told : w.ownsRow w0.heap.size 4 1 (.slice (some ⟨tr, 0, none⟩) n n) n (toldV n l)
 row : w.ownsRow w0.heap.size 3 1 lv l.length (l.map natV)
 ap1 : lv.ownBlock ≠ some tr
 ap2 : lv.ownBlock ≠ some tb
 ap3 : tr ≠ tb
 low : w0.heap.size ≤ tb ∧ w0.heap.size ≤ tr
 ord : Ordered U l
 run : orderN U n [] = orderN U m l
 len : l.length + m = n
 no : ∀ y, y < k → freeN U l y = false
theorem OrdI.later {w0 w w' : World} {U : List (List Nat)} {n m k : Nat} {l : List Nat} {tb tr : Nat} {lv : Value} (h : OrdI w0 U n m k l tb tr lv w) (hG : Gr w w') : OrdI w0 U n m k l tb tr lv w' :=
 { h with gr := h.gr.trans hG, box := h.box.later hG, told := owns_later h.told hG, row := owns_later h.row hG }
theorem OrdI.skip {w0 w : World} {U : List (List Nat)} {n m k : Nat} {l : List Nat} {tb tr : Nat} {lv : Value} (h : OrdI w0 U n m k l tb tr lv w) (hf : freeN U l k = false) : OrdI w0 U n m (k + 1) l tb tr lv w :=
 { h
   with no := fun y hy => (Nat.lt_or_ge y k).elim (h.no y) (fun h1 => by
   have : y = k := by omega
   subst this; exact hf) }
theorem OrdI.room {w0 w : World} {U : List (List Nat)} {n m k : Nat} {l : List Nat} {tb tr : Nat} {lv : Value} (h : OrdI w0 U n m k l tb tr lv w) (hU : U.length = n) (hk : k < n) (hf : freeN U l k = true) : l.length < n ∧ Ordered U (l ++ [k]) ∧ ∃ m', m = m' + 1 ∧ orderN U n [] = orderN U m' (l ++ [k]) := by
 have hfi : (List.range U.length).find? (freeN U l) = some k := by
  rw [List.find?_range_eq_some]
  exact ⟨hf, by rw [List.mem_range, hU]; exact hk, fun y hy => by rw [h.no y hy]; rfl⟩
 have ho := ordered_snoc h.ord hfi
 have hl : (l ++ [k]).length ≤ n := nodup_le n _ (ordered_nodup ho) (fun x hx => by
  obtain ⟨j, hj, rfl⟩ := List.mem_iff_getElem.1 hx
  rw [← hU]; exact (ho j _ (List.getElem?_eq_getElem hj)).1)
 rw [List.length_append] at hl
 have hl2 : l.length < n := by simp at hl; omega
 refine ⟨hl2, ho, m - 1, by have := h.len; omega, ?_⟩
 rw [h.run, show m = (m - 1) + 1 by have := h.len; omega, orderN, hfi]
 simp
theorem OrdI.done {w0 w : World} {U : List (List Nat)} {n m : Nat} {l : List Nat} {tb tr : Nat} {lv : Value} (h : OrdI w0 U n m n l tb tr lv w) (hU : U.length = n) : orderN U n [] = l := by
 rw [h.run]
 have hfi : (List.range U.length).find? (freeN U l) = none := by
  rw [List.find?_eq_none]
  intro x hx
  rw [List.mem_range, hU] at hx
  rw [h.no x hx]; simp
 cases m with
 | zero => rfl
 | succ m => rw [orderN, hfi]
theorem freeN_row {U : List (List Nat)} {l : List Nat} {k : Nat} {r : List Nat} (h : U[k]? = some r) : freeN U l k = (!decide (k ∈ l) && r.all fun u => decide (u ∈ l)) := by
 unfold freeN
 rw [h]
 by_cases hk : k ∈ l <;> simp [hk]
theorem new_cells_put (w : World) (a : Addr) (x : Value) (vs : List Value) (e : TypeId) : ∀ (j : Nat) (u : Value), vs[j]? = some u → ((w.setCell a x).alloc (.cells vs.toArray e)).cell? ((⟨w.heap.size, 0, none⟩ : Addr).add j) = some u := by
 have := new_cells (w.setCell a x) vs e
 rwa [show (w.setCell a x).heap.size = w.heap.size by simp [World.setCell]] at this
theorem OrdI.step {w0 w w4 : World} {U : List (List Nat)} {n m m' k : Nat} {l : List Nat} {tb tr : Nat} {lv v' : Value} {o : Obj} (h : OrdI w0 U n m k l tb tr lv w) (hk : k < n) (hord : Ordered U (l ++ [k])) (hm : m = m' + 1) (hrun : orderN U n [] = orderN U m' (l ++ [k]))
  (hown : w4.ownsRow w0.heap.size 3 1 v' (l.length + 1) (l.map natV ++ [.int .i64 (k : Int)])) (hg : ((w.setCell ⟨tr, k, none⟩ (.bool true)).alloc o).grownBy w4 lv.ownBlock) (hloc : v'.ownBlock = lv.ownBlock ∨ v'.ownBlock = some ((w.setCell ⟨tr, k, none⟩ (.bool true)).alloc o).heap.size) :
  OrdI w0 U n m' 0 (l ++ [k]) tb tr v' w4 := by
 have hsz : ((w.setCell ⟨tr, k, none⟩ (.bool true)).alloc o).heap.size = w.heap.size + 1 := by simp [World.setCell]
 have lt1 := h.box.lt (by simp)
 have lt2 := (World.ownsRow.lt h.told tr rfl).2
 have gra : Gr (w.setCell ⟨tr, k, none⟩ (.bool true)) ((w.setCell ⟨tr, k, none⟩ (.bool true)).alloc o) := Gr.alloc _ _
 have gr0 : Gr w0 ((w.setCell ⟨tr, k, none⟩ (.bool true)).alloc o) := (show Gr w0 (w.setCell ⟨tr, k, none⟩ (.bool true)) from Below.setCell h.gr (show w0.heap.size ≤ (⟨tr, k, none⟩ : Addr).block from h.low.2) _).trans gra
 have hkp : ∀ g, g < w.heap.size → lv.ownBlock ≠ some g → w4.heap[g]? = ((w.setCell ⟨tr, k, none⟩ (.bool true)).alloc o).heap[g]? := fun g hlt hne => hg.block g (by omega) (fun e => hne e.symm)
 have hlow : ∀ g, lv.ownBlock = some g → w0.heap.size ≤ g := fun g hg => (World.ownsRow.lt h.row g hg).1
 have n1 : ∀ g, g < w.heap.size → lv.ownBlock ≠ some g → v'.ownBlock ≠ some g := fun g hlt hne => by
  rcases hloc with e | e
  · rw [e]; exact hne
  · rw [e, hsz]; intro h; injection h with h; omega
 refine ⟨Gr.grown gr0 hg (fun g hg' => hlow g hg'), ?_, ?_, ?_, n1 _ lt2 h.ap1, n1 _ lt1 h.ap2, h.ap3, h.low, hord, hrun, by rw [List.length_append]; have := h.len; simp; omega, fun y hy => by omega⟩
 · exact ((h.box.far ⟨tr, k, none⟩ _ h.ap3).later gra).heap (hkp tb lt1 h.ap2)
 ·
  have := owns_later (owns_set h.told k (by rw [toldV_len]; exact hk) (.bool true)) gra
  rw [toldV_set l hk] at this
  exact owns_heap this (fun g hg' => by
   injection hg' with hg'
   rw [← hg']; exact hkp tr lt2 h.ap1)
 · rw [List.length_append, List.map_append]; exact hown
set_option maxRecDepth 100000 in
set_option maxHeartbeats 8000000 in
theorem
    order_any (w : World) (fb : Nat) (c0 c1 c2 c3 c4 v bv : Value) (kk : Int) (U : List (List Nat)) (hb : boxAt w fb [c0, c1, c2, c3, c4, v, bv, .int .i64 kk]) (hU : RowsN w v U) (hn : U.length ≤ 1048576) (hin : ∀ (i : Nat) (r : List Nat), U[i]? = some r → ∀ x ∈ r, x < U.length) :
  Calls Tryz.prog 44 #[.pointer (some ⟨fb, 0, none⟩)] w fun e w' => ∃ v', e = .returned v' ∧ w'.ownsRow w.heap.size 3 1 v' (orderN U U.length []).length ((orderN U U.length []).map natV) ∧ Gr w w' := by
 obtain ⟨i0, hi, hz0, hz1, hz2⟩ := info_parts info_boolN
 obtain ⟨i1, ki, ky0, ky1, ky2⟩ := info_parts info_intN
 obtain ⟨n, hln⟩ : ∃ n, U.length = n := ⟨_, rfl⟩
 obtain ⟨pv, cv, rfl⟩ : ∃ p c, v = .slice p n c := by
  obtain ⟨vs, h1, h2, _⟩ := hU.sl
  rw [hln] at h2
  exact h2.len
 have HU := Lib.hid hU
 have HLN := Lib.hid hln
 have HIN := Lib.hid (show ∀ (i : Nat) (r : List Nat), U[i]? = some r → ∀ x ∈ r, x < n from fun i r h x hx => by have := hin i r h x hx; omega)
 have HB := Lib.hid hb
 rw [hln] at hn ⊢
 have hnI : (n : Int) ≤ 1048576 := by omega
 have HNB := Lib.hid hn
 clear hU hin hln
 go_enter Tryz.func44, Tryz.ntmps44
 obtain ⟨c_f0, c_f1, c_f2, c_f3, c_f4, c_f5, c_f6, c_f7, m_f0, m_f1, m_f2, m_f3, m_f4, m_f5, m_f6, m_f7, l_f⟩ := unb8 hb
 go_upto_block 0 with (first
  | (at_make; refine wpList_make_full w rfl _ _ _ rfl w.heap.size 4 i0 (.bool false) 1 Tryz.underlying140 hi hz0 hz1 .i64 .i64 _ _ n rfl rfl rfl rfl (by rw [hz2]; have := HNB.out; omega) (by have := HNB.out; unfold maxLen; omega) (Nat.le_refl _) ?_; intro w1 hown1 hg1; have HOWN := Lib.hid hown1; have HG1 := Lib.hid hg1; clear hown1 hg1)
  | go_in)
 refine name_world (fun W hW => ?_)
 have hg1 : Gr w w1 := Gr.grown (Gr.refl _) HG1.out (fun k hk => by cases hk)
 have hgW : Gr w1 W := by rw [hW]; exact Gr.alloc _ _
 have hs1 := hg1.size
 have HI0 := Lib.hid (show OrdI w U n n 0 [] w1.heap.size w.heap.size (.slice none 0 0) W from
  {
   gr := hg1.trans hgW
   box := by rw [hW]; exact boxAt.new_atN _ _ _ rfl rfl
   told := by
    have := HOWN.out
    rw [made_rep _ rfl, ← toldV_nil] at this
    exact owns_later this hgW
   row := World.ownsRow_nil _ _ _ _
   ap1 := by simp [Value.ownBlock]
   ap2 := by simp [Value.ownBlock]
   ap3 := by
    have := (World.ownsRow.lt HOWN.out w.heap.size rfl).2
    omega
   low := ⟨hs1, Nat.le_refl _⟩
   ord := ordered_nil U
   run := rfl
   len := by simp
   no := fun y hy => by omega })
 obtain ⟨tb, htb⟩ : ∃ tb, w1.heap.size = tb := ⟨_, rfl⟩
 obtain ⟨tr, htr⟩ : ∃ tr, w.heap.size = tr := ⟨_, rfl⟩
 have HTR := Lib.hid htr
 rw [htb] at HI0 ⊢
 rw [htr] at HI0 ⊢
 have hI0 := HI0
 clear hW hg1 hgW hs1 htb htr HOWN HG1 HI0
 clear c_f0 c_f1 c_f2 c_f3 c_f4 c_f5 c_f6 c_f7 m_f0 m_f1 m_f2 m_f3 m_f4 m_f5 m_f6 m_f7 l_f
 go_wp2_with fail
 go_loopw [3, 5] (fun lv iv wr => ∃ (k m : Nat) (l : List Nat), k ≤ n ∧ iv = .int .i64 (k : Int) ∧ Hid (OrdI w U n m k l tb tr lv wr)) (fun lv iv _ => (n - lenV lv) * (n + 2) + (n + 1 - (intOf iv).toNat))
 case atStart => exact ⟨0, n, [], Nat.zero_le _, rfl, hI0⟩
 case round =>
  obtain ⟨k, m, l, hk, rfl, HI⟩ := hrel
  obtain ⟨pl, cl, rfl⟩ := (Sl.of_owns HI.out.row).len
  have xt := HI.out.box
  have c_t0 := xt.cell 0 _ rfl
  have m_t0 := xt.mark 0 _ rfl
  have l_t := xt.lt (Nat.succ_pos _)
  rcases Nat.lt_or_ge k n with hkn | hkn
  ·
   have hkI : (k : Int) < (n : Int) := by omega
   have HKN := Lib.hid hkn
   obtain ⟨r, hr⟩ : ∃ r, U[k]? = some r := ⟨_, List.getElem?_eq_getElem (by rw [HLN.out]; exact hkn)⟩
   have HFR := Lib.hid (freeN_row (l := l) hr)
   have HRI := Lib.hid (HIN.out k r hr)
   obtain ⟨b, off, u, hpv, hbl, hcu, hsu⟩ := HU.out.row hr
   subst hpv
   obtain ⟨pu, cu, rfl⟩ := hsu.len
   have ku := HI.out.gr.cell hcu
   have hbr := Nat.lt_of_lt_of_le hbl HI.out.gr.size
   have HSU := Lib.hid (hsu.later HI.out.gr)
   have kt := owns_cell HI.out.told k _ (toldV_get l hkn)
   have kn := owns_mark HI.out.told k
   have hbt := (World.ownsRow.lt HI.out.told tr rfl).2
   have xf := HB.out.later HI.out.gr
   obtain ⟨c_f0, c_f1, c_f2, c_f3, c_f4, c_f5, c_f6, c_f7, m_f0, m_f1, m_f2, m_f3, m_f4, m_f5, m_f6, m_f7, l_f⟩ := unb8 xf
   obtain ⟨ml, hml⟩ : ∃ x, l.length = x := ⟨_, rfl⟩
   rw [hml]
   have HML := Lib.hid hml
   obtain ⟨q, hq⟩ : ∃ q, decide (k ∈ l) = q := ⟨_, rfl⟩
   rw [hq] at kt HFR
   clear hr hk hkn hcu hsu hml hq hbl
   cases q with
   |
    true =>
    go_wp2_with fail
    clear c_f0 c_f1 c_f2 c_f3 c_f4 c_f5 c_f6 c_f7 m_f0 m_f1 m_f2 m_f3 m_f4 m_f5 m_f6 m_f7 l_f
    go_roundw
    case rel => exact ⟨k + 1, m, l, HKN.out, by go_num, Lib.hid (by have := HI.out.skip (by rw [HFR.out]; rfl); rw [HML.out] at this; exact this)⟩
    case measure => have := HKN.out; simp [intOf, lenV]; omega
   |
    false =>
    obtain ⟨q2, hq2⟩ : ∃ q, (r.all fun u => decide (u ∈ l)) = q := ⟨_, rfl⟩
    have HC := Lib.hid (containsF_told r pu cu n l _ n tb wr HSU.out HI.out.box (Sl.of_owns HI.out.told) HNB.out HRI.out)
    rw [hq2] at HC HFR
    clear hq2
    go_wp2_with fail
    go_at_call 85
    (with_reducible refine HC.out.mono ?_); rintro e w2 ⟨rfl, hg2⟩
    have HI2 := Lib.hid (HI.out.later hg2)
    clear c_f0 c_f1 c_f2 c_f3 c_f4 c_f5 c_f6 c_f7 m_f0 m_f1 m_f2 m_f3 m_f4 m_f5 m_f6 m_f7 l_f
    clear c_t0 m_t0 l_t
    clear hg2
    cases q2 with
    |
     false =>
     go_wp2_with fail
     go_roundw
     case rel => exact ⟨k + 1, m, l, HKN.out, by go_num, Lib.hid (by have := HI2.out.skip (by rw [HFR.out]; rfl); rw [HML.out] at this; exact this)⟩
     case measure => have := HKN.out; simp [intOf, lenV]; omega
    |
     true =>
     obtain ⟨hroom, hord, m', hm', hrun⟩ := HI2.out.room HLN.out HKN.out (by rw [HFR.out]; rfl)
     have HROOM := Lib.hid hroom
     have HORD := Lib.hid hord
     have HM' := Lib.hid hm'
     have HRUN := Lib.hid hrun
     have xt2 := HI2.out.box
     have c_t0 := xt2.cell 0 _ rfl
     have m_t0 := xt2.mark 0 _ rfl
     have l_t := xt2.lt (Nat.succ_pos _)
     have kt2 := owns_cell HI2.out.told k _ (toldV_get l HKN.out)
     have kn2 := owns_mark HI2.out.told k
     have bt2 := (World.ownsRow.lt HI2.out.told tr rfl).2
     have ne1 : tr ≠ tb := HI2.out.ap3
     have hml2 : ml < n := by have := HROOM.out; have := HML.out; omega
     have HML2 := Lib.hid hml2
     have HROW := Lib.hid (show w2.ownsRow w.heap.size 3 1 (.slice pl ml cl) ml (l.map natV) by have := HI2.out.row; rw [HML.out] at this; exact this)
     have HAP := Lib.hid (show (Value.slice pl ml cl).ownBlock ≠ some tr by have := HI2.out.ap1; rw [HML.out] at this; exact this)
     clear hroom hord hm' hrun hml2
     go_wp2_with (first
      | (at_builtin; refine wpList_append_own_at _ rfl (.tmp 38) (.tmp 40) 32 rfl w.heap.size 3 i1 (.int .i64 0) 1 8 Tryz.underlying32 ki ky0 ky1 ky2 rfl (by decide) _ ml (l.map natV) rfl ((own_far HROW.out ⟨tr, k, none⟩ (.bool true) HAP.out).alloc _) ⟨w2.heap.size, 0, none⟩ 1 1 [.int .i64 (k : Int)] rfl rfl (new_cells_put _ _ _ _ _) (by intro u hu; simp at hu; subst hu; rfl) (by have := HML2.out; have := HNB.out; unfold maxLen; omega) (by have := HML2.out; have := HNB.out; omega) (by have := HI2.out.gr.size; simp [World.setCell]; omega) ?_; intro v' w4 hown4 hg4 _ hloc; obtain ⟨p4, c4, rfl⟩ := (Sl.of_owns hown4).len; have HOW4 := Lib.hid hown4; have HG4 := Lib.hid hg4; have HLOC := Lib.hid hloc; clear hown4 hg4 hloc)
      | go_in)
     go_roundw
     case rel => exact ⟨0, m', l ++ [k], Nat.zero_le _, by go_num, Lib.hid (by have h4 := HOW4.out; have g4 := HG4.out; have l4 := HLOC.out; rw [← HML.out] at h4 g4 l4; have := HI2.out.step HKN.out HORD.out HM'.out HRUN.out h4 g4 l4; rw [HML.out] at this; exact this)⟩
     case measure => have := HKN.out; have := HML2.out; simp only [intOf, lenV]; exact ord_less (by omega) (by omega)
  ·
   have hkI : ¬ (k : Int) < (n : Int) := by omega
   have hke : k = n := by omega
   subst hke
   have HD := Lib.hid (HI.out.done HLN.out)
   clear hkn hk
   go_wp2_with fail
   go_ret
   exact ⟨_, rfl, by rw [HD.out]; exact HI.out.row, HI.out.gr⟩
end Go.Proofs.YtkkopdmemjncdaaGreatDoor
