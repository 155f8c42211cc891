/- Texts of mine, put together: N6O, NmWa, NmCy, N6R. No condition but what each says. -/
import Derived.Test.YtkkopdmemjncdaaGreatDoorPN6I
import Derived.Test.YtkkopdmemjncdaaGreatDoorPHl
import Derived.Test.YtkkopdmemjncdaaGreatDoorPEqL
import Derived.Test.YtkkopdmemjncdaaGreatDoorPN6N
import Derived.Test.YtkkopdmemjncdaaGreatDoorPN6Q
import Derived.Test.YtkkopdmemjncdaaGreatDoorPGh
namespace Go.Proofs.YtkkopdmemjncdaaGreatDoor
open Go Go.RowKit
theorem own_mem {v : Value} {g : Nat} (h : v.ownBlock = some g) : g ∈ v.ownBlock.toList := by rw [h]; simp
theorem Rws.mid {w w' : World} {B : Nat} {X : List Nat} {P Q : List RwE} {r : RwE} (h : Rws w B X (P ++ r :: Q)) {v' : Value} {n' : Nat} {xs' : List Value}
  (hg : w.grownBy w' r.v.ownBlock) (ho : w'.ownsRow B r.e r.k v' n' xs') (hat : v'.ownBlock = r.v.ownBlock ∨ v'.ownBlock = some w.heap.size) (hX : ∀ x ∈ X, x < w.heap.size) : Rws w' B X (P ++ (⟨v', r.e, r.k, n', xs'⟩ : RwE) :: Q) := by
 have := Rws.grow h (i := P.length) (r := r) (by simp) hg ho hat hX
 rw [List.set_append_right _ _ (Nat.le_refl _), Nat.sub_self, List.set_cons_zero] at this
 exact this
theorem fill_set6 {xs : List Value} {k : Nat} {c : Value} (h : k < xs.length) : (List.replicate k c ++ xs.drop k).set k c = List.replicate (k + 1) c ++ xs.drop (k + 1) := by
 rw [List.set_append_right _ _ (by simp), List.length_replicate, Nat.sub_self, List.drop_eq_getElem_cons h, List.set_cons_zero, List.replicate_succ', List.append_assoc]
 rfl
set_option maxRecDepth 100000 in
set_option maxHeartbeats 4000000 in
theorem overInts_any (B n : Nat) (v : Value) (xs : List Value) (w : World) (hn : n ≤ 1048576) (hBw : B ≤ w.heap.size) (hown : w.ownsRow B 3 1 v n xs) :
  Calls Tryz.prog 16 #[v] w fun e w' => e = .returned (.tuple #[]) ∧ KpR v.ownBlock.toList w w' := by
 obtain ⟨i0, hi, hz0, hz1, hz2⟩ := info_parts info_intN
 obtain ⟨pv, cv, rfl⟩ := (Sl.of_owns hown).len
 have HOWN := Lib.hid hown
 go_enter Tryz.func16, Tryz.ntmps16
 go_wp2_with (at_builtin; refine wpList_append_own_at _ rfl (.tmp 3) (.tmp 4) 32 rfl B 3 i0 (.int .i64 0) 1 8 Tryz.underlying32 hi hz0 hz1 hz2 rfl (by decide) _ n xs rfl (hown.alloc _) ⟨w.heap.size, 0, none⟩ 3 3 [.int .i64 1, .int .i64 2, .int .i64 3] rfl rfl (new_cells _ _ _) (by intro u hu; simp at hu; rcases hu with rfl | rfl | rfl <;> rfl) (by unfold maxLen; omega) (by omega) (by simp; omega) ?_)
 intro v1 w1 hown1 hgrow _ hloc
 have hk1 : KpR (Value.slice pv n cv).ownBlock.toList w w1 := (KpR.gr (Gr.alloc _ _)).grown hgrow (fun g hg => .inr (own_mem hg))
 obtain ⟨g, cap, rfl, hBg, hgl, _⟩ := owns_block hown1 (by omega)
 have HGI := Lib.hid (show w.heap.size ≤ g ∨ g ∈ (Value.slice pv n cv).ownBlock.toList from by
  rcases hloc with h | h
  · exact .inr (own_mem (h.symm.trans rfl))
  ·
   injection h with h
   have h : g = w.heap.size + 1 := h
   exact .inl (by omega))
 have HO := Lib.hid hown1
 have HK1 := Lib.hid hk1
 clear hown hown1 hgrow hBg hloc hk1
 go_wp2_with fail
 go_loopw [2] (fun i w2 => ∃ (k : Nat) (xs : List Value), k ≤ n + 3 ∧ i = .int .i64 (k : Int) ∧ Hid (w2.ownsRow B 3 1 (.slice (some ⟨g, 0, none⟩) (n + 3) cap) (n + 3) xs) ∧ Hid (KpR (Value.slice pv n cv).ownBlock.toList w w2)) (fun i _ => n + 3 - (intOf i).toNat)
 case atStart => exact ⟨0, _, by omega, rfl, HO, HK1⟩
 case round =>
  clear HO HK1
  obtain ⟨k, xs, hk, rfl, HX, HK⟩ := hrel
  by_cases hlt : k < n + 3
  ·
   have hkI : (k : Int) < (n : Int) + 3 := by omega
   have hxl : k < xs.length := by have := HX.out.1; omega
   obtain ⟨old, hold⟩ : ∃ x, xs[k]? = some x := ⟨_, List.getElem?_eq_getElem hxl⟩
   have c1 := owns_cell HX.out k old hold
   have m1 := owns_mark HX.out k
   have hgr := (World.ownsRow.lt HX.out g rfl).2
   have HLT := Lib.hid hlt
   have HXL := Lib.hid hxl
   clear hlt hk hxl hold
   go_wp2_with fail
   go_roundw
   case rel => exact ⟨k + 1, _, by have := HLT.out; omega, by go_num, Lib.hid (owns_set HX.out k HXL.out (.int .i64 (-99))), Lib.hid (HK.out.put (a := ⟨g, k, none⟩) HGI.out _)⟩
   case measure => have := HLT.out; simp [intOf]; omega
  ·
   have hkE : k = n + 3 := by omega
   clear hk hlt
   subst hkE
   go_wp2_with fail
   go_end0
   exact ⟨rfl, HK.out⟩
def ovV (k : Nat) : Value := .int .i64 (-1000 - (k : Int))
def doneE (k : Nat) : List (List Nat) → List Value → List RwE
 | r :: U, x :: X => ⟨x, 3, 1, r.length + 2, List.replicate (r.length + 2) (ovV k)⟩ :: doneE (k + 1) U X
 | _, _ => []
theorem doneE_snoc : ∀ (U : List (List Nat)) (X : List Value) (k : Nat) (r : List Nat) (x : Value), X.length = U.length → doneE k (U ++ [r]) (X ++ [x]) = doneE k U X ++ [⟨x, 3, 1, r.length + 2, List.replicate (r.length + 2) (ovV (k + U.length))⟩]
 | [], [], k, r, x, _ => rfl
 | [], _ :: _, _, _, _, h => by simp at h
 | _ :: _, [], _, _, _, h => by simp at h
 |
  a :: U, b :: X, k, r, x, h => by
  simp only [List.cons_append, doneE]
  rw [doneE_snoc U X (k + 1) r x (by simpa using h), show k + 1 + U.length = k + (a :: U).length by simp; omega]
theorem doneE_get : ∀ (U : List (List Nat)) (X : List Value) (k i : Nat) (r : List Nat), X.length = U.length → U[i]? = some r → ∃ x, X[i]? = some x ∧ (⟨x, 3, 1, r.length + 2, List.replicate (r.length + 2) (ovV (k + i))⟩ : RwE) ∈ doneE k U X
 | [], _, _, _, _, _, h => by simp at h
 | _ :: _, [], _, _, _, h, _ => by simp at h
 |
  a :: U, b :: X, k, 0, r, _, hk => by
  simp at hk; subst hk; exact ⟨b, rfl, by simp [doneE]⟩
 |
  a :: U, b :: X, k, i + 1, r, h, hk => by
  obtain ⟨x, h1, h2⟩ := doneE_get U X (k + 1) i r (by simpa using h) (by simpa using hk)
  refine ⟨x, by simpa using h1, ?_⟩
  rw [show k + 1 + i = k + (i + 1) by omega] at h2
  simp [doneE, h2]
theorem rowsE_drop {U : List (List Nat)} {vs : List Value} {i : Nat} {r : List Nat} {u : Value} (h1 : U[i]? = some r) (h2 : vs[i]? = some u) : rowsE (U.drop i) (vs.drop i) = ⟨u, 3, 1, r.length, r.map natV⟩ :: rowsE (U.drop (i + 1)) (vs.drop (i + 1)) := by
 obtain ⟨a1, a2⟩ := List.getElem?_eq_some_iff.1 h1
 obtain ⟨b1, b2⟩ := List.getElem?_eq_some_iff.1 h2
 rw [List.drop_eq_getElem_cons a1, List.drop_eq_getElem_cons b1, a2, b2]
 rfl
def blks (vs : List Value) : List Nat := vs.flatMap fun v => v.ownBlock.toList
theorem blks_mem {vs : List Value} {i : Nat} {u : Value} (h : vs[i]? = some u) {g : Nat} (hg : u.ownBlock = some g) : g ∈ blks vs := List.mem_flatMap.2 ⟨u, List.mem_of_getElem? h, own_mem hg⟩
set_option maxRecDepth 100000 in
set_option maxHeartbeats 16000000 in
theorem
    overRows_any (A : List (List Nat)) (v : Value) (vs : List Value) (w : World) (B : Nat) (hl : vs.length = A.length) (hn : A.length ≤ 1048576) (hrl : ∀ r ∈ A, r.length ≤ 1048576) (hB : B ≤ w.heap.size) (hr : Rws w B [] (⟨v, 32, 1, A.length, vs⟩ :: rowsE A vs)) :
  Calls Tryz.prog 15 #[v] w fun e w' => e = .returned (.bool true) ∧ KpR (blks vs) w w' := by
 obtain ⟨iI, nI, ny0, ny1, ny2⟩ := info_parts info_intN
 obtain ⟨iR, rI, ry0, ry1, ry2⟩ := info_parts info_rowN
 obtain ⟨pv, cv, rfl⟩ : ∃ p c, v = .slice p A.length c := by
  have h := hr.own _ (List.mem_cons_self ..)
  exact (Sl.of_owns h).len
 obtain ⟨n, hnl⟩ : ∃ n, A.length = n := ⟨_, rfl⟩
 rw [hnl] at hr hn hl ⊢
 have HNL := Lib.hid hnl
 have HVL := Lib.hid hl
 have HRL := Lib.hid hrl
 have HB := Lib.hid hB
 have HNB := Lib.hid hn
 have hnI : (n : Int) ≤ 1048576 := by omega
 have HR0 := Lib.hid (show Rws w B [] (⟨.slice pv n cv, 32, 1, n, vs⟩ :: ⟨.slice none 0 0, 32, 1, 0, []⟩ :: (doneE 0 (A.take 0) [] ++ rowsE (A.drop 0) (vs.drop 0))) from by
  have h1 := hr.push 32 1
  refine ⟨fun r hm => ?_, ?_, fun r _ g _ hg => by cases hg⟩
  ·
   refine h1.own r ?_
   simp only [doneE, List.take_zero, List.nil_append, List.drop_zero, List.mem_cons, List.mem_append, List.not_mem_nil, or_false] at hm ⊢
   rcases hm with h | h | h
   · exact .inl (.inl h)
   · exact .inr h
   · exact .inl (.inr h)
  ·
   have h2 := hr.apart
   rw [List.pairwise_cons] at h2
   show List.Pairwise _ (_ :: _ :: rowsE A vs)
   rw [List.pairwise_cons, List.pairwise_cons]
   refine ⟨fun x hx g hg => ?_, (fun x hx g hg => by cases hg), h2.2⟩
   rcases List.mem_cons.1 hx with rfl | hx
   · intro e; cases e
   · exact h2.1 x hx g hg)
 clear hnl hl hrl hB hr hn
 go_enter Tryz.func15, Tryz.ntmps15
 go_wp2_with fail
 go_loopw [3, 4] (fun av i wr => ∃ (k : Nat) (X : List Value), k ≤ n ∧ i = .int .i64 (k : Int) ∧ Hid (X.length = k) ∧ Hid (Rws wr B [] (⟨.slice pv n cv, 32, 1, n, vs⟩ :: ⟨av, 32, 1, k, X⟩ :: (doneE 0 (A.take k) X ++ rowsE (A.drop k) (vs.drop k)))) ∧ Hid (KpR (blks vs) w wr) ∧ Hid (∀ g, av.ownBlock = some g → w.heap.size ≤ g)) (fun _ i _ => n - (intOf i).toNat)
 case atStart => exact ⟨0, [], Nat.zero_le _, rfl, Lib.hid rfl, HR0, Lib.hid (KpR.refl _ _), Lib.hid (fun g hg => by cases hg)⟩
 case round =>
  clear HR0
  obtain ⟨k, X, hk, rfl, HXL, HRW, HKP, HAL⟩ := hrel
  have h0 := HRW.out.own _ (List.mem_cons_of_mem _ (List.mem_cons_self ..))
  dsimp only at h0
  obtain ⟨pa, ca, rfl⟩ := (Sl.of_owns h0).len
  clear h0
  rcases Nat.lt_or_ge k n with hkn | hkn
  ·
   have hkI : (k : Int) < (n : Int) := by omega
   have hkI2 : (k : Int) ≤ 1048576 := by omega
   have HKN := Lib.hid hkn
   obtain ⟨r, hx⟩ : ∃ x, A[k]? = some x := ⟨_, List.getElem?_eq_getElem (by rw [HNL.out]; exact hkn)⟩
   obtain ⟨u, hu⟩ : ∃ x, vs[k]? = some x := ⟨_, List.getElem?_eq_getElem (by rw [HVL.out]; exact hkn)⟩
   have HX := Lib.hid hx
   have HU := Lib.hid hu
   have HDR := Lib.hid (rowsE_drop hx hu)
   have HRN := Lib.hid (HRL.out r (List.mem_of_getElem? hx))
   obtain ⟨m, hm⟩ : ∃ m, r.length = m := ⟨_, rfl⟩
   have HML := Lib.hid hm
   rw [hm] at HDR HRN
   have hmI : (m : Int) ≤ 1048576 := by have := HRN.out; omega
   have HR1 := Lib.hid (show Rws wr B [] (((⟨.slice pv n cv, 32, 1, n, vs⟩ : RwE) :: ⟨.slice pa k ca, 32, 1, k, X⟩ :: doneE 0 (A.take k) X) ++ (⟨u, 3, 1, m, r.map natV⟩ : RwE) :: rowsE (A.drop (k + 1)) (vs.drop (k + 1))) from by
    have h := HRW.out
    rw [HDR.out] at h
    exact h)
   have hown := HR1.out.own (⟨u, 3, 1, m, r.map natV⟩ : RwE) (List.mem_append_right _ (List.mem_cons_self ..))
   dsimp only at hown
   obtain ⟨pu, cu, rfl⟩ := (Sl.of_owns hown).len
   have HOWN := Lib.hid hown
   have hvo := HRW.out.own _ (List.mem_cons_self ..)
   dsimp only at hvo
   obtain ⟨gv, capv, hve, _, hgvl, _⟩ := owns_block hvo (by omega)
   injection hve with e1 _ e3
   subst e1 e3
   have kv := owns_cell hvo k _ hu
   clear hx hu hk hkn hown hvo hm HDR HRW
   go_wp2_with (at_builtin; refine wpList_append_own_at _ rfl (.tmp 18) (.tmp 19) 32 rfl B 3 iI (.int .i64 0) 1 8 Tryz.underlying32 nI ny0 ny1 ny2 rfl (by decide) _ m (r.map natV) rfl (HOWN.out.alloc _) ⟨wr.heap.size, 0, none⟩ 2 2 [.int .i64 (-1), .int .i64 (-2)] rfl rfl (new_cells _ _ _) (by intro u hu; simp at hu; rcases hu with rfl | rfl <;> rfl) (by have := HRN.out; unfold maxLen; omega) (by have := HRN.out; omega) (Nat.le_trans HB.out (Nat.le_trans HKP.out.size (Gr.alloc _ _).size)) ?_; intro v' w4' hown4 hg4 _ hloc; obtain ⟨gx, capx, hv4, _, _, _⟩ := owns_block hown4 (by omega); subst hv4; have HOW4 := Lib.hid hown4; have HG4 := Lib.hid hg4; have HLOC := Lib.hid hloc; clear hown4 hg4 hloc)
   clear kv
   have HGX := Lib.hid (show w.heap.size ≤ gx ∨ gx ∈ blks vs from by
    rcases HLOC.out with h | h
    · exact .inr (blks_mem HU.out (h.symm.trans rfl))
    ·
     injection h with h
     have h : gx = (wr.alloc (.cells #[.int .i64 (-1), .int .i64 (-2)] 3)).heap.size := h
     rw [h]; exact .inl (Nat.le_trans HKP.out.size (Gr.alloc _ _).size))
   have HK4 := Lib.hid (show KpR (blks vs) w w4' from (HKP.out.trans (KpR.gr (R := []) (Gr.alloc wr (.cells #[.int .i64 (-1), .int .i64 (-2)] 3))) (fun x hx => by cases hx)).grown HG4.out (fun g hg => .inr (blks_mem HU.out hg)))
   have HR4 := Lib.hid (Rws.mid (HR1.out.keep (fun g hg _ _ => Below.block (Gr.alloc wr (.cells #[.int .i64 (-1), .int .i64 (-2)] 3)) g hg)) HG4.out HOW4.out HLOC.out (fun x hx => by cases hx))
   obtain ⟨ys, hys⟩ : ∃ l, r.map natV ++ [Value.int .i64 (-1), Value.int .i64 (-2)] = l := ⟨_, rfl⟩
   have HYL := Lib.hid (show ys.length = m + 2 by rw [← hys, List.length_append, List.length_map, HML.out]; rfl)
   rw [hys] at HR4
   clear hys HR1 HOWN HLOC HG4 HOW4 HKP
   go_wp2_with fail
   go_loopw [6] (fun i wz => ∃ j : Nat, j ≤ m + 2 ∧ i = .int .i64 (j : Int) ∧ Hid (Rws wz B [] (((⟨.slice (some ⟨gv, 0, none⟩) n cv, 32, 1, n, vs⟩ : RwE) :: ⟨.slice pa k ca, 32, 1, k, X⟩ :: doneE 0 (A.take k) X) ++ (⟨.slice (some ⟨gx, 0, none⟩) (m + 2) capx, 3, 1, m + 2, List.replicate j (ovV k) ++ ys.drop j⟩ : RwE) :: rowsE (A.drop (k + 1)) (vs.drop (k + 1)))) ∧ Hid (KpR (blks vs) w wz)) (fun i _ => m + 2 - (intOf i).toNat)
   case atStart => exact ⟨0, Nat.zero_le _, rfl, HR4, HK4⟩
   case round =>
    clear HR4 HK4
    obtain ⟨j, hj, rfl, HRJ, HKJ⟩ := hrel
    have hown := HRJ.out.own (⟨.slice (some ⟨gx, 0, none⟩) (m + 2) capx, 3, 1, m + 2, List.replicate j (ovV k) ++ ys.drop j⟩ : RwE) (List.mem_append_right _ (List.mem_cons_self ..))
    dsimp only at hown
    rcases Nat.lt_or_ge j (m + 2) with hjn | hjn
    ·
     have hjI : (j : Int) < (m : Int) + 2 := by omega
     have HJN := Lib.hid hjn
     obtain ⟨old, hold⟩ : ∃ x, (List.replicate j (ovV k) ++ ys.drop j)[j]? = some x := ⟨_, List.getElem?_eq_getElem (by have := hown.1; omega)⟩
     have c1 := owns_cell hown j old hold
     have m1 := owns_mark hown j
     have hgr := (World.ownsRow.lt hown gx rfl).2
     have HOWN := Lib.hid hown
     have hsub : IntKind.i64.wrap (-1000 - (k : Int)) = -1000 - (k : Int) := IntWalk.i64_in _ (by omega)
     clear hjn hj hold hown
     go_wp2_with fail
     clear c1 m1 hgr
     go_roundw
     case rel => exact ⟨j + 1, HJN.out, by go_num, Lib.hid (by
      have h := Rws.mid HRJ.out (grown_set wr gx j (ovV k)) (by
       have h2 := owns_set HOWN.out j (by rw [HOWN.out.1]; have := HJN.out; omega) (ovV k)
       rw [fill_set6 (by rw [HYL.out]; exact HJN.out)] at h2
       exact h2) (.inl rfl) (fun x hx => by cases hx)
      exact h), Lib.hid (HKJ.out.put (a := ⟨gx, j, none⟩) HGX.out _)⟩
     case measure => have := HJN.out; simp [intOf]; omega
    ·
     have hjI : ¬ (j : Int) < (m : Int) + 2 := by omega
     have hje : j = m + 2 := by omega
     have HRF := Lib.hid (show Rws wr B [] ([(⟨.slice (some ⟨gv, 0, none⟩) n cv, 32, 1, n, vs⟩ : RwE)] ++ (⟨.slice pa k ca, 32, 1, k, X⟩ : RwE) :: (doneE 0 (A.take k) X ++ (⟨.slice (some ⟨gx, 0, none⟩) (m + 2) capx, 3, 1, m + 2, List.replicate (m + 2) (ovV k)⟩ : RwE) :: rowsE (A.drop (k + 1)) (vs.drop (k + 1)))) from by
      have h := HRJ.out
      rw [hje, List.drop_of_length_le (by rw [HYL.out]; exact Nat.le_refl _), List.append_nil] at h
      exact h)
     have hal := HRF.out.own (⟨.slice pa k ca, 32, 1, k, X⟩ : RwE) (by simp)
     dsimp only at hal
     have HALL := Lib.hid hal
     clear hj hjn hje HRJ hown hal
     go_wp2_with (at_builtin; refine wpList_append_own_at _ rfl (.tmp 32) (.tmp 34) 31 rfl B 32 iR (.slice none 0 0) 1 24 Tryz.underlying31 rI ry0 ry1 ry2 rfl (by decide) _ k X rfl (HALL.out.alloc _) ⟨wr.heap.size, 0, none⟩ 1 1 [.slice (some ⟨gx, 0, none⟩) (m + 2) capx] rfl rfl (new_cells _ _ _) (by intro u hu; simp at hu; subst hu; rfl) (by have := HKN.out; have := HNB.out; unfold maxLen; omega) (by have := HKN.out; have := HNB.out; omega) (Nat.le_trans HB.out (Nat.le_trans HKJ.out.size (Gr.alloc _ _).size)) ?_; intro v' w4' hown4 hg4 _ hloc; have HOW4 := Lib.hid hown4; have HG4 := Lib.hid hg4; have HLOC := Lib.hid hloc; clear hown4 hg4 hloc)
     go_roundw
     case rel => exact ⟨k + 1, X ++ [.slice (some ⟨gx, 0, none⟩) (m + 2) capx], HKN.out, by go_num, Lib.hid (by rw [List.length_append, HXL.out]; rfl), Lib.hid (by
      have h := Rws.mid (HRF.out.keep (fun g hg _ _ => Below.block (Gr.alloc wr (.cells #[.slice (some ⟨gx, 0, none⟩) (m + 2) capx] 32)) g hg)) HG4.out HOW4.out HLOC.out (fun x hx => by cases hx)
      have ht : A.take (k + 1) = A.take k ++ [r] := by rw [List.take_add_one, HX.out]; rfl
      have hlen : X.length = (A.take k).length := by rw [HXL.out, List.length_take, HNL.out]; have := HKN.out; omega
      rw [ht, doneE_snoc _ _ _ _ _ hlen, HML.out, Nat.zero_add, ← hlen, HXL.out, List.append_assoc]
      exact h), Lib.hid ((HKJ.out.trans (KpR.gr (R := []) (Gr.alloc wr (.cells #[.slice (some ⟨gx, 0, none⟩) (m + 2) capx] 32))) (fun x hx => by cases hx)).grown HG4.out (fun g hg => .inl (HAL.out g hg))), Lib.hid (fun g hg => by
       rcases HLOC.out with h | h
       · exact HAL.out g ((show (Value.slice pa k ca).ownBlock = _ from h.symm).trans hg)
       · rw [h] at hg; injection hg with hg; rw [← hg]; exact Nat.le_trans HKJ.out.size (Gr.alloc _ _).size)⟩
     case measure => have := HKN.out; simp [intOf]; omega
  ·
   have hkI : ¬ (k : Int) < (n : Int) := by omega
   have hke : k = n := by omega
   subst hke
   have HRF := Lib.hid (show Rws wr B [] ((⟨.slice pv k cv, 32, 1, k, vs⟩ : RwE) :: ⟨.slice pa k ca, 32, 1, k, X⟩ :: doneE 0 A X) from by
    have h := HRW.out
    rw [List.take_of_length_le (by rw [HNL.out]; exact Nat.le_refl _), List.drop_of_length_le (by rw [HNL.out]; exact Nat.le_refl _)] at h
    rw [show rowsE [] (vs.drop k) = [] by rfl, List.append_nil] at h
    exact h)
   have HALL := Lib.hid (show wr.ownsRow B 32 1 (.slice pa k ca) k X from HRF.out.own (⟨.slice pa k ca, 32, 1, k, X⟩ : RwE) (by simp))
   clear hk hkn HRW HAL
   go_wp2_with fail
   go_loopw [7] (fun i wz => ∃ j : Nat, j ≤ k ∧ i = .int .i64 (j : Int) ∧ wr = wz) (fun i _ => k - (intOf i).toNat)
   case atStart => exact ⟨0, Nat.zero_le _, rfl, rfl⟩
   case round =>
    obtain ⟨j, hj, rfl, rfl⟩ := hrel
    rcases Nat.lt_or_ge j k with hjn | hjn
    ·
     have hjI : (j : Int) < (k : Int) := by omega
     have hjI2 : (j : Int) ≤ 1048576 := by omega
     have HJN := Lib.hid hjn
     obtain ⟨r, hx⟩ : ∃ x, A[j]? = some x := ⟨_, List.getElem?_eq_getElem (by rw [HNL.out]; exact hjn)⟩
     obtain ⟨x, hX, hmem⟩ := doneE_get A X 0 j r (by rw [HXL.out, HNL.out]) hx
     have hown := HRF.out.own _ (List.mem_cons_of_mem _ (List.mem_cons_of_mem _ hmem))
     dsimp only at hown
     rw [Nat.zero_add] at hown
     have HRN := Lib.hid (HRL.out r (List.mem_of_getElem? hx))
     obtain ⟨m, hm⟩ : ∃ m, r.length = m := ⟨_, rfl⟩
     rw [hm] at hown HRN
     have hmI : (m : Int) ≤ 1048576 := by have := HRN.out; omega
     obtain ⟨gx, capx, hv4, _, hgxl, _⟩ := owns_block hown (by omega)
     subst hv4
     obtain ⟨ga, capa, hva, _, hgal, _⟩ := owns_block HALL.out (by omega)
     injection hva with e1 _ e3
     subst e1 e3
     have ka := owns_cell HALL.out j _ hX
     have HOWN := Lib.hid hown
     clear hj hjn hx hX hmem hown hm
     go_wp2_with fail
     go_loopw [8] (fun i wz => ∃ z : Nat, z ≤ m + 2 ∧ i = .int .i64 (z : Int) ∧ wr = wz) (fun i _ => m + 2 - (intOf i).toNat)
     case atStart => exact ⟨0, Nat.zero_le _, rfl, rfl⟩
     case round =>
      obtain ⟨z, hz, rfl, rfl⟩ := hrel
      rcases Nat.lt_or_ge z (m + 2) with hzn | hzn
      ·
       have hzI : (z : Int) < (m : Int) + 2 := by omega
       have HZN := Lib.hid hzn
       have kx := owns_cell HOWN.out z (ovV j) (by rw [List.getElem?_replicate, if_pos hzn])
       unfold ovV at kx
       have hsub : IntKind.i64.wrap (-1000 - (j : Int)) = -1000 - (j : Int) := IntWalk.i64_in _ (by omega)
       clear hz hzn
       go_wp2_with fail
       go_roundw
       case rel => exact ⟨z + 1, HZN.out, by go_num, by first | rfl | trivial⟩
       case measure => have := HZN.out; simp [intOf]; omega
      ·
       have hzI : ¬ (z : Int) < (m : Int) + 2 := by omega
       clear hz hzn
       go_wp2_with fail
       go_roundw
       case rel => exact ⟨j + 1, HJN.out, by go_num, by first | rfl | trivial⟩
       case measure => have := HJN.out; simp [intOf]; omega
    ·
     have hjI : ¬ (j : Int) < (k : Int) := by omega
     clear hj hjn
     go_wp2_with fail
     go_ret
     exact ⟨rfl, HKP.out⟩
end Go.Proofs.YtkkopdmemjncdaaGreatDoor
namespace Go.Proofs.YtkkopdmemjncdaaGreatDoor
open Go Go.RowKit Go.Maps
end Go.Proofs.YtkkopdmemjncdaaGreatDoor
namespace Go.Proofs.YtkkopdmemjncdaaGreatDoor
open Go Go.RowKit
end Go.Proofs.YtkkopdmemjncdaaGreatDoor
namespace Go.Proofs.YtkkopdmemjncdaaGreatDoor
open Go Go.RowKit Go.Maps
theorem rf6_form {s : Sc} {w w' : World} {e : Ending} (h : Rf6 s w e w') : ∃ (p0 p1 p2 p3 : Option Addr) (n0 k0 n1 k1 n2 k2 n3 k3 : Nat) (c m : Int) (p : Option Addr) (n k : Nat), e = .returned (.tuple #[.agg #[.slice p0 n0 k0, .slice p1 n1 k1, .slice p2 n2 k2, .slice p3 n3 k3], .agg #[.int .i64 c, .int .i64 0, .int .i64 0, .int .i64 m, .slice p n k]]) := by
 cases h with
 | arg h he => exact ⟨_, _, _, _, _, _, _, _, _, _, _, _, _, _, _, _, _, he⟩
 | name x p c h hx hs he => exact ⟨_, _, _, _, _, _, _, _, _, _, _, _, _, _, _, _, _, he⟩
 | cyc i L d p n c h hn hi hc hd hf hl hs he => exact ⟨_, _, _, _, _, _, _, _, _, _, _, _, _, _, _, _, _, he⟩
 |
  fine v0 v1 v2 v3 h hn hc hs he =>
  obtain ⟨q0, k0, rfl⟩ := hs.m.len
  obtain ⟨vs, _, hs1, _⟩ := hs.a.sl
  obtain ⟨q1, k1, rfl⟩ := hs1.len
  obtain ⟨q2, k2, rfl⟩ := hs.o.len
  obtain ⟨vt, _, hs3, _⟩ := hs.c.sl
  obtain ⟨q3, k3, rfl⟩ := hs3.len
  exact ⟨_, _, _, _, _, _, _, _, _, _, _, _, _, _, _, _, _, he⟩
theorem Rws.low9 {w : World} {B B' : Nat} {X : List Nat} {L : List RwE} (h : Rws w B X L) (hB : B' ≤ B) : Rws w B' X L := ⟨fun r hr => owns_low9 (h.own r hr) hB, h.apart, h.out⟩
theorem
    path_cyc {s : Sc} (hL : Linked s) {i : Nat} {far : List Int} (hf : FarOk (linksS s) i far) (hp : pathP (linksS s) far i (s.defs.length + 1) i ≠ []) : Cyc (linksN s) i := by
 rw [← srt_cyc]
 have hU : ∀ (i k : Nat), k ∈ (linksS s)[i]?.getD [] → k < (linksS s).length := fun i k hk => by
  cases hr : (linksS s)[i]? with
  | none => rw [hr] at hk; cases hk
  |
   some r =>
   rw [hr] at hk
   unfold linksS at hr ⊢
   rw [List.getElem?_map] at hr
   rw [List.length_map]
   cases hq : (linksN s)[i]? with
   | none => rw [hq] at hr; cases hr
   |
    some q =>
    rw [hq] at hr
    injection hr with hr
    have hk : k ∈ r := hk
    rw [← hr] at hk
    exact linksN_in hL hq k (srtN_mem.1 hk)
 refine (FarOk.cyc hf hU).2 ?_
 rw [pathP] at hp
 cases hk : nearP far ((linksS s)[i]?.getD []) with
 | none => rw [hk] at hp; exact absurd rfl hp
 | some k => exact ⟨k, rfl⟩
theorem dsok_cyc {U : List (List Nat)} {i L : Nat} {d : List Int} (hd : DsOk U i d) (hi : i < U.length) (hf : farAt d i = ((L + 1 : Nat) : Int)) : Cyc U i := by
 rcases hd.at' i hi with ⟨h, _⟩ | ⟨m, h1, _, _, h, _⟩
 · rw [hf] at h; omega
 · exact ⟨m - 1, by rw [show m - 1 + 1 = m by omega]; exact h⟩
structure Alike (W W' : World) (e : Ending) (av fv : Value) (p0 p1 p2 p3 : Option Addr) (n0 k0 n1 k1 n2 k2 n3 k3 : Nat) (ev : Value) (B : Nat) (N : List ByteArray) (A : List (List Nat)) (vs1 : List Value) (O : List Nat) : Prop where
 he : e = .returned (.tuple #[.agg #[.slice p0 n0 k0, .slice p1 n1 k1, .slice p2 n2 k2, .slice p3 n3 k3], ev])
 lo : W.heap.size ≤ B
 hi : B ≤ W'.heap.size
 l1 : vs1.length = A.length
 a0 : N.length = n0
 a1 : A.length = n1
 a2 : O.length = n2
 b0 : n0 ≤ 1048576
 b1 : n1 ≤ 1048576
 b2 : n2 ≤ 1048576
 br : ∀ r ∈ A, r.length ≤ 1048576
 rws : Rws W' B [] (⟨.slice p0 n0 k0, 9, 1, n0, N.map .string⟩ :: ⟨.slice p1 n1 k1, 32, 1, n1, vs1⟩ :: rowsE A vs1)
 own : W'.ownsRow W.heap.size 3 1 (.slice p2 n2 k2) n2 (O.map natV)
 ob : ∀ g, (Value.slice p2 n2 k2).ownBlock = some g → g < B
 same : ∀ W2, Gr W' W2 → Calls Tryz.prog 13 #[ev, fv] W2 fun e w2 => e = .returned (.bool true) ∧ Gr W2 w2
 eqn : ∀ W2, Gr W' W2 → Calls Tryz.prog 14 #[.agg #[.slice p0 n0 k0, .slice p1 n1 k1, .slice p2 n2 k2, .slice p3 n3 k3], av] W2 fun e w2 => e = .returned (.bool true) ∧ Gr W2 w2
def AlikeE (W W' : World) (e : Ending) (av fv : Value) : Prop := ∃ p0 p1 p2 p3 n0 k0 n1 k1 n2 k2 n3 k3 ev B N A vs1 O, Alike W W' e av fv p0 p1 p2 p3 n0 k0 n1 k1 n2 k2 n3 k3 ev B N A vs1 O
theorem alike_bad {W W' : World} {e : Ending} {fv ev : Value} (hG : Gr W W') (he : e = .returned (.tuple #[nmsZ, ev])) (hsame : ∀ W2, Gr W' W2 → Calls Tryz.prog 13 #[ev, fv] W2 fun e w2 => e = .returned (.bool true) ∧ Gr W2 w2) : AlikeE W W' e nmsZ fv := by
 refine ⟨none, none, none, none, 0, 0, 0, 0, 0, 0, 0, 0, ev, W'.heap.size, [], [], [], [], he, hG.size, Nat.le_refl _, rfl, rfl, rfl, rfl, by omega, by omega, by omega, (fun r hr => by cases hr), ?_, World.ownsRow_nil _ _ _ _, (fun g hg => by cases hg), hsame, fun W2 h2 => ?_⟩
 · exact ((Rws.nilX _ _ _).push _ _).push _ _
 · exact eqNames6 [] [] [] [] _ _ _ _ _ _ _ _ W2 (NmsIn.nil W2) (NmsIn.nil W2)
theorem
    alike6 {s : Sc} {w0 w1 W W' : World} {e : Ending} {es : Nat → Addr} {av fv : Value} (hR : Rf6 s w0 (.returned (.tuple #[av, fv])) w1) (hG1 : Gr w1 W) (hF : FaultsIn W' es) (hdl : s.defs.length ≤ 1048576) (hrl : s.rules.length ≤ 1048576) (h : ResE s (esN es 15) (esN es 6) (esN es 7) W e W') (hGW : Gr W W') : AlikeE W W' e av fv := by
 have hlen := linksN_len s
 cases h with
 |
  arg h he =>
  cases hR with
  | name x p c h' => rw [h] at h'; cases h'
  | cyc i L d p n c h' => rw [h] at h'; cases h'
  | fine v0 v1 v2 v3 h' => rw [h] at h'; cases h'
  |
   arg h' he' =>
   injection he' with he'
   simp only [Value.tuple.injEq, Array.mk.injEq, List.cons.injEq, and_true] at he'
   obtain ⟨rfl, rfl⟩ := he'
   refine alike_bad hGW he (fun W2 h2 => same_names _ _ 15 0 0 0 [] _ W2 (by omega) (Sl.nil W2 1) (fun W3 h3 => ?_))
   have hF3 := hF.later (h2.trans h3)
   refine (tell_gen hF3 (.leaf (es 15)) (hF3.leaf 15 (by omega) (by omega)) trivial [] (by first | rfl | trivial | exact ⟨rfl⟩) 15 (fun W' hg => code_any (hF3.later hg) _ ((hF3.later hg).leaf 15 (by omega) (by omega)) 15 (by omega) (by omega) rfl)).mono ?_
   rintro e' w' ⟨hg, nv', rfl, ho⟩
   exact ⟨nv', rfl, Sl.of_owns ho, hg⟩
 |
  name x v h hx hv he =>
  cases hR with
  | arg h' => rw [h] at h'; cases h'
  | cyc i L d p n c h' hn => rw [hx] at hn; cases hn
  | fine v0 v1 v2 v3 h' hn => rw [hx] at hn; cases hn
  |
   name x' p c h' hx' hs he' =>
   rw [hx] at hx'
   injection hx' with hx'
   subst hx'
   injection he' with he'
   simp only [Value.tuple.injEq, Array.mk.injEq, List.cons.injEq, and_true] at he'
   obtain ⟨rfl, rfl⟩ := he'
   obtain ⟨b1, b2, nv, rfl, _⟩ := id hv
   refine alike_bad hGW he (fun W2 h2 => same_names _ _ 6 0 0 x.2 [x.1.data.toList] _ W2 (by omega) (by rw [← vS_one]; exact ((hs.later hG1).later hGW).later h2) (fun W3 h3 => ?_))
   refine (tell_bad (hF.later (h2.trans h3)) (hv.keep (fun k hk _ => Below.block (h2.trans h3) k hk))).mono ?_
   rintro e' w' ⟨nv', rfl, ho, hg⟩
   exact ⟨nv', rfl, by rw [← vS_one]; exact Sl.of_owns ho, hg⟩
 |
  cyc
    i far b nv h hn hi hc hf hp hb hlb ho he =>
  have hLk := linked_of (right_of hn)
  have hcyc := path_cyc hLk hf hp
  cases hR with
  | arg h' => rw [h] at h'; cases h'
  | name x p c h' hx => rw [worst_none.2 hn] at hx; cases hx
  | fine v0 v1 v2 v3 h' _ hc' => exact absurd hcyc (noW_cyc (hc' i hi))
  |
   cyc i' L d p n c h' _ hi' hc' hd' hf' hl' hs' he' =>
   have hcyc' := dsok_cyc hd' (by rw [hlen]; exact hi') hf'
   have hii : i' = i := by
    rcases Nat.lt_trichotomy i' i with h1 | h1 | h1
    · exact absurd ((srt_cyc _ _).2 hcyc') (hc i' h1)
    · exact h1
    · exact absurd hcyc (noW_cyc (hc' i h1))
   subst hii
   obtain ⟨L', hL', hpath⟩ := path_dist (U := linksN s) hf hd' (fun i k hk => by
    cases hr : (linksN s)[i]? with
    | none => rw [hr] at hk; cases hk
    | some r => rw [hr] at hk; exact linksN_in hLk hr k hk) (by rw [hlen]; exact hi') (by rw [hlen]; exact hp)
   have hLL : L' = L := by rw [hf'] at hL'; omega
   subst hLL
   rw [hlen] at hpath
   have hpath : pathP (linksS s) far i' (s.defs.length + 1) i' = i' :: pathD (linksN s) d i' L' i' := hpath
   rw [hpath] at ho
   injection he' with he'
   simp only [Value.tuple.injEq, Array.mk.injEq, List.cons.injEq, and_true] at he'
   obtain ⟨rfl, rfl⟩ := he'
   have hpl : (i' :: pathD (linksN s) d i' L' i').length ≤ 1048576 := by
    have h1 := pathD_len (linksN s) d i' L' i'
    rw [List.length_cons]
    rcases hd'.at' i' (by rw [hlen]; exact hi') with ⟨h2, _⟩ | ⟨m, h2, h3, h4, _⟩
    · rw [hf'] at h2; omega
    · rw [hf'] at h4; rw [hlen] at h3; omega
   obtain ⟨PL, hPL⟩ : ∃ l, (i' :: pathD (linksN s) d i' L' i') = l := ⟨_, rfl⟩
   rw [hPL] at ho hs' hpl hl'
   subst hl'
   refine alike_bad hGW he (fun W2 h2 => same_names _ _ 7 0 0 0 (PL.map fun j => (nmD s j).data.toList) _ W2 (by omega) (by rw [← vS_map, List.length_map]; exact ((hs'.later hG1).later hGW).later h2) (fun W3 h3 => ?_))
   refine (tell_cyc (hF.later (h2.trans h3)) (hb.later (h2.trans h3)) (nmD s) PL ⟨_, owns_later ho (h2.trans h3)⟩ hpl).mono ?_
   rintro e' w' ⟨nv', rfl, ho', hg⟩
   exact ⟨nv', rfl, by rw [← vS_map, List.length_map]; exact Sl.of_owns ho', hg⟩
 |
  fine B v0 v1 v2 v3 vs1 vs3 h hn hl hB h1 h3 hr h2 ha he =>
  cases hR with
  | arg h' => rw [h] at h'; cases h'
  | name x p c h' hx => rw [worst_none.2 hn] at hx; cases hx
  |
   cyc i' L d p n c h' _ hi' hc' hd' hf' hl' hs' he' =>
   have hcyc' := dsok_cyc hd' (by rw [hlen]; exact hi') hf'
   have hlS : (linksS s).length = s.defs.length := by unfold linksS; rw [List.length_map, hlen]
   exact absurd ((srt_cyc _ _).2 hcyc') (whole_cyc (U := linksS s) (by rw [hlS]; exact hl) (by rw [hlS]; exact hi'))
  |
   fine a0 a1 a2 a3 h' _ hc' hs' he' =>
   injection he' with he'
   simp only [Value.tuple.injEq, Array.mk.injEq, List.cons.injEq, and_true] at he'
   obtain ⟨rfl, rfl⟩ := he'
   have hNI := NmIn.of (w0 := W) h1 h3 hr h2
   obtain ⟨q0, k0, rfl⟩ := hNI.m.len
   obtain ⟨vs, _, hs1, _⟩ := hNI.a.sl
   obtain ⟨q1, k1, rfl⟩ := hs1.len
   obtain ⟨q2, k2, rfl⟩ := hNI.o.len
   obtain ⟨vt, _, hs3, _⟩ := hNI.c.sl
   obtain ⟨q3, k3, rfl⟩ := hs3.len
   have hsl := spec_lens h
   have hml : (modesN s).length ≤ 1048576 := by
    unfold modesN
    split
    · simp
    · rw [List.length_map]; omega
   refine ⟨q0, q1, q2, q3, _, k0, _, k1, _, k2, _, k3, .nilIface, min B W'.heap.size, (namesN s).modes, (namesN s).active, vs1, (namesN s).order, he, Nat.le_min.2 ⟨hB, hGW.size⟩, Nat.min_le_right _ _, h1, rfl, rfl, rfl, hml, ?_, ?_, ?_, ?_, h2, fun g hg => Nat.lt_min.2 ⟨ha g hg, (World.ownsRow.lt h2 g hg).2⟩, fun W2 hh => same_nil W2, fun W2 hh => ?_⟩
   ·
    show ((List.range (modesN s).length).map fun m => activeN s m (ownM s m)).length ≤ _
    rw [List.length_map, List.length_range]; exact hml
   ·
    show (orderN (linksN s) s.defs.length []).length ≤ _
    have := order_le (linksN s)
    rw [hlen] at this
    omega
   ·
    intro r hr'
    obtain ⟨m, _, rfl⟩ := List.mem_map.1 (show r ∈ (List.range (modesN s).length).map fun m => activeN s m (ownM s m) from hr')
    unfold activeN
    exact Nat.le_trans (List.length_filter_le _ _) (by rw [List.length_range]; exact hrl)
   ·
    refine (Rws.low9 hr (Nat.min_le_left _ _)).sub ?_
    unfold nmsRows
    exact List.Sublist.cons_cons _ (List.Sublist.cons_cons _ (List.Sublist.cons _ (List.sublist_append_left _ _)))
   · exact eqNames6 (namesN s).modes (namesN s).active (namesN s).order (namesN s).acts _ _ _ _ _ _ _ _ W2 ⟨hNI.m.later hh, hNI.a.later hh, hNI.o.later hh, hNI.c.later hh⟩ (((hs'.later hG1).later hGW).later hh)
end Go.Proofs.YtkkopdmemjncdaaGreatDoor
