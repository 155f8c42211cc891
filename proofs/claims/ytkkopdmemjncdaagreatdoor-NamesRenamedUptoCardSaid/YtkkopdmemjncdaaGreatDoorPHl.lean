/- Texts of mine, put together: NmHas, NmZ. No condition but what each says. -/
import Derived.Test.YtkkopdmemjncdaaGreatDoorPNmI
import Derived.Test.YtkkopdmemjncdaaGreatDoorPHk

/- bolterlaw6.has. No condition. -/
namespace Go.Proofs.YtkkopdmemjncdaaGreatDoor
open Go Go.RowKit

set_option maxRecDepth 100000 in
set_option maxHeartbeats 2000000 in
theorem has_any6 (r : List Nat) (v : Value) (x : Int) (w : World) (h : Sl w v 1 r.length (r.map natV)) : Calls Tryz.prog 24 #[v, .int .i64 x] w fun e w' => e = .returned (.bool (r.any fun y => decide ((y : Int) = x))) ∧ Gr w w' := by
  have hmx := h.2.1
  unfold maxLen at hmx
  obtain ⟨p, c, rfl⟩ := h.len
  have H := Lib.hid h
  obtain ⟨n, hn⟩ : ∃ n, r.length = n := ⟨_, rfl⟩
  have HN := Lib.hid hn
  rw [hn] at hmx ⊢
  clear h hn
  go_enter Tryz.func24, Tryz.ntmps24
  go_wp2_with fail
  go_loopw [5] (fun i wr => ∃ k : Nat, k ≤ n ∧ i = .int .i64 (k : Int) ∧ w = wr ∧ Hid ((r.take k).any (fun y => decide ((y : Int) = x)) = false)) (fun i _ => n - (intOf i).toNat)
  case atStart => exact ⟨0, Nat.zero_le _, rfl, rfl, Lib.hid rfl⟩
  case round =>
    obtain ⟨k, hk, rfl, rfl, HA⟩ := hrel
    cases hx : r[k]? with
    | none =>
      have hkl : ¬ (k : Int) < (n : Int) := by
        rcases Nat.lt_or_ge k r.length with h | h
        · rw [List.getElem?_eq_getElem h] at hx; cases hx
        · have := HN.out; omega
      have HA2 := Lib.hid (show r.any (fun y => decide ((y : Int) = x)) = false by have := HA.out; rw [List.take_of_length_le (by have := HN.out; omega)] at this; exact this)
      clear hx hk HA
      go_wp2_with fail
      go_ret
      exact ⟨ret_bool HA2.out.symm, Gr.refl _⟩
    | some y =>
      have hkl : k < r.length := (List.getElem?_eq_some_iff.1 hx).1
      have hkn : k < n := by rw [← HN.out]; exact hkl
      obtain ⟨b, off, rfl, hb, hc⟩ := num_at H.out hx
      have HX := Lib.hid hx
      have HKN := Lib.hid hkn
      have hkI : (k : Int) < (n : Int) := by omega
      clear hx hk hkl hkn
      by_cases he : (y : Int) = x
      · have heb : ((y : Int) == x) = true := by rw [he]; simp
        have HF := Lib.hid (show r.any (fun y => decide ((y : Int) = x)) = true from List.any_eq_true.2 ⟨_, List.mem_of_getElem? HX.out, decide_eq_true he⟩)
        clear he
        go_wp2_with fail
        go_ret
        exact ⟨ret_bool HF.out.symm, Gr.refl _⟩
      · have heb : ((y : Int) == x) = false := by rw [beq_eq_false_iff_ne]; exact he
        have HF := Lib.hid (show (r.take (k + 1)).any (fun y => decide ((y : Int) = x)) = false by rw [List.take_add_one, HX.out]; simp only [Option.toList_some, List.any_append, HA.out, List.any_cons, List.any_nil, decide_eq_false he, Bool.or_self])
        clear he
        go_wp2_with fail
        go_roundw
        case rel => exact ⟨k + 1, HKN.out, by go_num, by first | rfl | trivial, HF⟩
        case measure => have := HKN.out; simp [intOf]; omega

end Go.Proofs.YtkkopdmemjncdaaGreatDoor

/- What names stand for, to be read; bounds of names. Printed by gen_nmj.py. No condition. -/
namespace Go.Proofs.YtkkopdmemjncdaaGreatDoor
open Go Go.RowKit

mutual
theorem refs_wt : ∀ e : Ex, (refsE e).length ≤ wtE e
  | .mk op pos set text mn mx args => by
    rw [refsE, wtE, List.length_append]
    have h1 := refs_wtL args
    have h2 : (if op = 4 then [(text, pos)] else []).length ≤ 1 := by split <;> simp
    omega
theorem refs_wtL : ∀ l : List Ex, (refsL l).length ≤ wtL l
  | [] => by rw [refsL, wtL]; simp
  | a :: r => by
    rw [refsL, wtL, List.length_append]
    have h1 := refs_wt a
    have h2 := refs_wtL r
    omega
end
theorem sum_mem {α : Type} (f : α → Nat) : ∀ (l : List α) (a : α), a ∈ l → f a ≤ (l.map f).sum
  | b :: l, a, h => by
    rw [List.map_cons, List.sum_cons]
    rcases List.mem_cons.1 h with rfl | h
    · omega
    · have := sum_mem f l a h; omega
theorem refs_wtS {s : Sc} (h : wtS s ≤ 1048576) : ∀ d ∈ s.defs, (refsE d.ex).length ≤ 1048576 := fun d hd => by
  have h1 := refs_wt d.ex
  have h2 := sum_mem (fun d : Df => wtE d.ex) s.defs d hd
  unfold wtS at h
  omega
/-- Rows of steps in memory, to be read. -/
structure StepsN (w : World) (v : Value) (C : List (List (Int × Int))) : Prop where
  sl : ∃ vs : List Value, vs.length = C.length ∧ Sl w v 1 C.length vs ∧ ∀ (k : Nat) (r : List (Int × Int)), C[k]? = some r → ∃ u, vs[k]? = some u ∧ Sl w u 2 r.length (r.flatMap prC)
theorem StepsN.later {w w' : World} {v : Value} {C : List (List (Int × Int))} (h : StepsN w v C) (hG : Gr w w') : StepsN w' v C := by
  obtain ⟨vs, h1, h2, h3⟩ := h.sl
  exact ⟨vs, h1, h2.later hG, fun k r hk => by
    obtain ⟨u, h4, h5⟩ := h3 k r hk
    exact ⟨u, h4, h5.later hG⟩⟩
theorem StepsN.row {w : World} {p : Option Addr} {c n : Nat} {C : List (List (Int × Int))} (h : StepsN w (.slice p n c) C) {k : Nat} {r : List (Int × Int)} (hk : C[k]? = some r) : ∃ b off u, p = some ⟨b, off, none⟩ ∧ b < w.heap.size ∧ w.cell? ⟨b, off + k, none⟩ = some u ∧ Sl w u 2 r.length (r.flatMap prC) := by
  obtain ⟨vs, hl, hs, hr⟩ := h.sl
  obtain ⟨u, hu, hsu⟩ := hr k r hk
  have hkl := (List.getElem?_eq_some_iff.1 hk).1
  obtain ⟨_, _, ⟨_, h0⟩ | ⟨b, off, cap, hv, hb, hc⟩⟩ := hs
  · omega
  · injection hv with hp _ _
    exact ⟨b, off, u, hp, hb (by omega), hc k u hu, hsu⟩
theorem step_at {w : World} {p : Option Addr} {n c : Nat} {r : List (Int × Int)} (h : Sl w (.slice p n c) 2 r.length (r.flatMap prC)) {k : Nat} {x : Int × Int} (hk : r[k]? = some x) : ∃ b off, p = some ⟨b, off, none⟩ ∧ b < w.heap.size ∧ w.cell? ⟨b, off + k * 2, none⟩ = some (.int .i64 x.1) ∧ w.cell? ⟨b, off + k * 2 + 1, none⟩ = some (.int .i64 x.2) := by
  have hkl := (List.getElem?_eq_some_iff.1 hk).1
  obtain ⟨_, _, ⟨_, h0⟩ | ⟨b, off, cap, hv, hb, hc⟩⟩ := h
  · omega
  · injection hv with hp _ _
    have g := fun (t : Nat) (ht : t < 2) (u : Value) (hu : (prC x)[t]? = some u) => hc (k * 2 + t) u ((flatMap_get prC 2 (fun _ => rfl) r k t x hk ht).trans hu)
    refine ⟨b, off, hp, hb (by omega), ?_, ?_⟩
    · have := g 0 (by omega) _ rfl
      rw [Nat.add_zero] at this; exact this
    · have := g 1 (by omega) _ rfl
      rw [← Nat.add_assoc] at this; exact this
/-- What names stand for, to be read. -/
structure NmIn (w : World) (s : Sc) (v0 v1 v2 v3 : Value) : Prop where
  m : Sl w v0 1 (modesN s).length ((modesN s).map .string)
  a : RowsN w v1 (namesN s).active
  o : Sl w v2 1 (namesN s).order.length ((namesN s).order.map natV)
  c : StepsN w v3 (actsR s)
theorem NmIn.later {w w' : World} {s : Sc} {v0 v1 v2 v3 : Value} (h : NmIn w s v0 v1 v2 v3) (hG : Gr w w') : NmIn w' s v0 v1 v2 v3 := ⟨h.m.later hG, h.a.later hG, h.o.later hG, h.c.later hG⟩
theorem NmIn.of {w0 w : World} {s : Sc} {B : Nat} {v0 v1 v2 v3 : Value} {vs1 vs3 : List Value} (h1 : vs1.length = (namesN s).active.length) (h3 : vs3.length = (namesN s).acts.length) (hr : Rws w B [] (nmsRows (namesN s).modes (namesN s).active (namesN s).acts v0 v1 v3 vs1 vs3)) (h2 : w.ownsRow w0.heap.size 3 1 v2 (namesN s).order.length ((namesN s).order.map natV)) : NmIn w s v0 v1 v2 v3 := by
  refine ⟨Sl.of_owns (hr.own ⟨v0, 9, 1, (namesN s).modes.length, (namesN s).modes.map .string⟩ (by simp [nmsRows])), RowsN.of_rws h1 hr (by simp [nmsRows]) (fun r hr => by simp [nmsRows, hr]), Sl.of_owns h2, ⟨vs3, h3, Sl.of_owns (hr.own ⟨v3, 81, 1, (namesN s).acts.length, vs3⟩ (by simp [nmsRows])), fun k r hk => ?_⟩⟩
  obtain ⟨u, h4, h5⟩ := stepsE_get (namesN s).acts vs3 k r h3 hk
  exact ⟨u, h4, Sl.of_owns (hr.own ⟨u, 83, 2, r.length, r.flatMap prC⟩ (by simp [nmsRows, h5]))⟩
theorem txt_at {w : World} {p : Option Addr} {n c : Nat} {l : List ByteArray} (h : Sl w (.slice p n c) 1 l.length (l.map .string)) {k : Nat} {x : ByteArray} (hk : l[k]? = some x) : ∃ b off, p = some ⟨b, off, none⟩ ∧ b < w.heap.size ∧ w.cell? ⟨b, off + k, none⟩ = some (.string x) := by
  have hkl := (List.getElem?_eq_some_iff.1 hk).1
  obtain ⟨_, _, ⟨_, h0⟩ | ⟨b, off, cap, hv, hb, hc⟩⟩ := h
  · omega
  · injection hv with hp _ _
    exact ⟨b, off, hp, hb (by omega), hc k (.string x) (by rw [List.getElem?_map, hk]; rfl)⟩
theorem toList_inj {a b : ByteArray} (h : a.toList = b.toList) : a = b := by
  rw [st_of a, st_of b] at h
  rw [st_list, st_list] at h
  rw [st_of a, st_of b, h]
theorem ownM_nil {s : Sc} (h : s.modes = []) (m : Nat) : ownM s m = false := by unfold ownM; rw [h]; rfl
theorem modesN_pos (s : Sc) : 0 < (modesN s).length := by
  unfold modesN
  by_cases h : s.modes = []
  · rw [if_pos h]; simp
  · rw [if_neg h, List.length_map]; exact List.length_pos_iff.2 h

end Go.Proofs.YtkkopdmemjncdaaGreatDoor
