/- Texts of mine, put together: NmW, NmN, NmF, NmG. No condition but what each says. -/
import Derived.Test.YtkkopdmemjncdaaGreatDoorPHi
import Derived.Test.YtkkopdmemjncdaaGreatDoorPHe
import Derived.Test.YtkkopdmemjncdaaGreatDoorPHg
namespace Go.Proofs.YtkkopdmemjncdaaGreatDoor
open Go Go.RowKit Go.Maps
def BadV (w : World) (X : List Nat) (ev v : Value) (x : Nt) : Prop := ∃ (b1 b2 : Nat) (nv : Value), v = .iface 119 (.pointer (some ⟨b2, 0, none⟩)) ∧ boxAt w b2 [.iface 114 (.pointer (some ⟨b1, 0, none⟩)), nv] ∧ boxAt w b1 [ev, .int .i64 x.2] ∧ (∃ B, w.ownsRow B 9 1 nv 1 [.string x.1]) ∧ b1 ∉ X ∧ b2 ∉ X ∧ ∀ k, nv.ownBlock = some k → k ∉ X
def BadIs (w : World) (X : List Nat) (ev : Value) : Option Nt → Value → Int → Prop
 | none, v, k => v = .nilIface ∧ k = 0
 | some x, v, k => BadV w X ev v x ∧ k = x.2
theorem BadV.keep {w w' : World} {X : List Nat} {ev v : Value} {x : Nt} (h : BadV w X ev v x) (hb : ∀ k, k < w.heap.size → k ∉ X → w'.heap[k]? = w.heap[k]?) : BadV w' X ev v x := by
 obtain ⟨b1, b2, nv, h1, h2, h3, ⟨B, h4⟩, h5, h6, h7⟩ := h
 exact ⟨b1, b2, nv, h1, h2.heap (hb _ (h2.lt (by simp)) h6), h3.heap (hb _ (h3.lt (by simp)) h5), ⟨B, owns_heap h4 (fun g hg => hb g (World.ownsRow.lt h4 g hg).2 (h7 g hg))⟩, h5, h6, h7⟩
theorem BadIs.keep {w w' : World} {X : List Nat} {ev v : Value} {b : Option Nt} {k : Int} (h : BadIs w X ev b v k) (hb : ∀ k, k < w.heap.size → k ∉ X → w'.heap[k]? = w.heap[k]?) : BadIs w' X ev b v k := by
 cases b with
 | none => exact h
 | some x => exact ⟨h.1.keep hb, h.2⟩
theorem BadV.addX {w : World} {X : List Nat} {ev v : Value} {x : Nt} (h : BadV w X ev v x) {m : Nat} (hm : w.heap.size ≤ m) : BadV w (m :: X) ev v x := by
 obtain ⟨b1, b2, nv, h1, h2, h3, ⟨B, h4⟩, h5, h6, h7⟩ := h
 have l2 := h2.lt (by simp)
 have l3 := h3.lt (by simp)
 refine ⟨b1, b2, nv, h1, h2, h3, ⟨B, h4⟩, fun h => ?_, fun h => ?_, fun k hk h => ?_⟩
 ·
  rcases List.mem_cons.1 h with e | h
  · omega
  · exact h5 h
 ·
  rcases List.mem_cons.1 h with e | h
  · omega
  · exact h6 h
 ·
  have := (World.ownsRow.lt h4 k hk).2
  rcases List.mem_cons.1 h with e | h
  · omega
  · exact h7 k hk h
theorem BadIs.addX {w : World} {X : List Nat} {ev v : Value} {b : Option Nt} {k : Int} (h : BadIs w X ev b v k) {m : Nat} (hm : w.heap.size ≤ m) : BadIs w (m :: X) ev b v k := by
 cases b with
 | none => exact h
 | some x => exact ⟨h.1.addX hm, h.2⟩
structure FS (w0 w : World) (X : List Nat) (fb : Nat) (ev c0 c1 c2 c3 c4 c5 : Value) (b : Option Nt) : Prop where
 gr : Gr w0 w
 low : ∀ x ∈ X, w0.heap.size ≤ x ∧ x < w.heap.size
 mem : fb ∈ X
 err : w0.cell? ⟨3, 0, none⟩ = some ev
 face : ∃ t x, ev = .iface t x
 box : ∃ bv k, boxAt w fb [c0, c1, c2, c3, c4, c5, bv, .int .i64 k] ∧ BadIs w X ev b bv k
theorem FS.keep {w0 w w' : World} {X Y : List Nat} {fb : Nat} {ev c0 c1 c2 c3 c4 c5 : Value} {b : Option Nt} (h : FS w0 w X fb ev c0 c1 c2 c3 c4 c5 b) (hk : KpR Y w w') (hY : ∀ x ∈ Y, x ∈ X ∧ x ≠ fb) : FS w0 w' X fb ev c0 c1 c2 c3 c4 c5 b := by
 obtain ⟨bv, k, hb, hbad⟩ := h.box
 refine ⟨KpR.toGr h.gr hk (fun x hx => (h.low x (hY x hx).1).1), fun x hx => ⟨(h.low x hx).1, Nat.lt_of_lt_of_le (h.low x hx).2 hk.size⟩, h.mem, h.err, h.face, bv, k, hk.box hb (fun hm => (hY fb hm).2 rfl) (by simp), hbad.keep (fun k hlt hn => hk.block k hlt (fun hm => hn (hY k hm).1))⟩
theorem FS.later {w0 w w' : World} {X : List Nat} {fb : Nat} {ev c0 c1 c2 c3 c4 c5 : Value} {b : Option Nt} (h : FS w0 w X fb ev c0 c1 c2 c3 c4 c5 b) (hG : Gr w w') : FS w0 w' X fb ev c0 c1 c2 c3 c4 c5 b :=
 h.keep (Y := []) (KpR.gr hG) (fun x hx => by cases hx)
theorem FS.alloc {w0 w : World} {X : List Nat} {fb : Nat} {ev c0 c1 c2 c3 c4 c5 : Value} {b : Option Nt} (h : FS w0 w X fb ev c0 c1 c2 c3 c4 c5 b) (o : Obj) : FS w0 (w.alloc o) (w.heap.size :: X) fb ev c0 c1 c2 c3 c4 c5 b := by
 obtain ⟨bv, k, hb, hbad⟩ := h.box
 have hg := Gr.alloc w o
 refine ⟨h.gr.trans hg, fun x hx => ?_, List.mem_cons_of_mem _ h.mem, h.err, h.face, bv, k, hb.later hg, (hbad.addX (Nat.le_refl _)).keep (fun k hk _ => Below.block hg k hk)⟩
 have hs : (w.alloc o).heap.size = w.heap.size + 1 := by simp
 rcases List.mem_cons.1 hx with rfl | hx
 · exact ⟨h.gr.size, by omega⟩
 ·
  have := h.low x hx
  exact ⟨this.1, by omega⟩
theorem FS.dropX {w0 w : World} {X : List Nat} {m fb : Nat} {ev c0 c1 c2 c3 c4 c5 : Value} {b : Option Nt} (h : FS w0 w (m :: X) fb ev c0 c1 c2 c3 c4 c5 b) (hX : fb ∈ X) : FS w0 w X fb ev c0 c1 c2 c3 c4 c5 b := by
 obtain ⟨bv, k, hb, hbad⟩ := h.box
 refine ⟨h.gr, fun x hx => h.low x (List.mem_cons_of_mem _ hx), hX, h.err, h.face, bv, k, hb, ?_⟩
 cases b with
 | none => exact hbad
 |
  some x =>
  obtain ⟨⟨b1, b2, nv, h1, h2, h3, h4, h5, h6, h7⟩, h8⟩ := hbad
  exact ⟨⟨b1, b2, nv, h1, h2, h3, h4, fun hm => h5 (List.mem_cons_of_mem _ hm), fun hm => h6 (List.mem_cons_of_mem _ hm), fun k hk hm => h7 k hk (List.mem_cons_of_mem _ hm)⟩, h8⟩
theorem FS.gr_put {w0 w : World} {X : List Nat} {fb : Nat} {ev c0 c1 c2 c3 c4 c5 : Value} {b : Option Nt} (h : FS w0 w X fb ev c0 c1 c2 c3 c4 c5 b) (j : Nat) (u : Value) : Gr w0 (w.setCell ⟨fb, j, none⟩ u) :=
 KpR.toGr (R := [fb]) h.gr ((KpR.refl [fb] w).put (a := ⟨fb, j, none⟩) (.inr (by simp)) u) (fun x hx => by rw [List.mem_singleton.1 hx]; exact (h.low _ h.mem).1)
theorem FS.put {w0 w : World} {X : List Nat} {fb : Nat} {ev c0 c1 c2 c3 c4 c5 : Value} {b : Option Nt} (h : FS w0 w X fb ev c0 c1 c2 c3 c4 c5 b) (j : Nat) (u : Value) (d0 d1 d2 d3 d4 d5 : Value) (hd : ∀ x y, [c0, c1, c2, c3, c4, c5, x, y].set j u = [d0, d1, d2, d3, d4, d5, x, y]) (hj : j < 6) : FS w0 (w.setCell ⟨fb, j, none⟩ u) X fb ev d0 d1 d2 d3 d4 d5 b := by
 obtain ⟨bv, k, hb, hbad⟩ := h.box
 refine ⟨h.gr_put j u, fun x hx => by have := h.low x hx; simp [World.setCell]; exact this, h.mem, h.err, h.face, bv, k, ?_, hbad.keep (fun k hk hn => Below.heap_setCell w _ u k (fun e => hn (by rw [e]; exact h.mem)))⟩
 have := hb.put j u (by simp; omega)
 rw [hd] at this
 exact this
theorem FS.noted {w0 w w3 : World} {X : List Nat} {fb : Nat} {ev c0 c1 c2 c3 c4 c5 : Value} {b : Option Nt} (h : FS w0 w X fb ev c0 c1 c2 c3 c4 c5 b) {x : Nt} (hx : note1 b x = some x) (hg : Gr w w3) {b1 b2 : Nat} {nv : Value} (h1 : boxAt w3 b1 [ev, .int .i64 x.2])
  (h2 : boxAt w3 b2 [.iface 114 (.pointer (some ⟨b1, 0, none⟩)), nv]) {B : Nat} (h3 : w3.ownsRow B 9 1 nv 1 [.string x.1]) (l1 : w.heap.size ≤ b1) (l2 : w.heap.size ≤ b2) (l3 : w.heap.size ≤ B) :
  FS w0 ((w3.setCell ⟨fb, 6, none⟩ (.iface 119 (.pointer (some ⟨b2, 0, none⟩)))).setCell ⟨fb, 7, none⟩ (.int .i64 x.2)) X fb ev c0 c1 c2 c3 c4 c5 (note1 b x) ∧ KpR [fb] w ((w3.setCell ⟨fb, 6, none⟩ (.iface 119 (.pointer (some ⟨b2, 0, none⟩)))).setCell ⟨fb, 7, none⟩ (.int .i64 x.2)) := by
 have kp : KpR [fb] w ((w3.setCell ⟨fb, 6, none⟩ (.iface 119 (.pointer (some ⟨b2, 0, none⟩)))).setCell ⟨fb, 7, none⟩ (.int .i64 x.2)) :=
  ((KpR.gr hg).put (a := ⟨fb, 6, none⟩) (.inr (by simp)) _).put (a := ⟨fb, 7, none⟩) (.inr (by simp)) _
 obtain ⟨bv, k, hb, hbad⟩ := h.box
 have hfb := hb.lt (by simp)
 refine ⟨⟨KpR.toGr h.gr kp (fun y hy => by rw [List.mem_singleton.1 hy]; exact (h.low _ h.mem).1), fun y hy => ⟨(h.low y hy).1, Nat.lt_of_lt_of_le (h.low y hy).2 kp.size⟩, h.mem, h.err, h.face, _, x.2, ((hb.later hg).put 6 _ (by simp)).put 7 _ (by simp), ?_⟩, kp⟩
 rw [hx]
 have out : ∀ m, w.heap.size ≤ m → m ∉ X := fun m hm hX => by have := (h.low m hX).2; omega
 refine ⟨⟨b1, b2, nv, rfl, ?_, ?_, ⟨B, ?_⟩, out _ l1, out _ l2, fun k hk => out k (Nat.le_trans l3 (World.ownsRow.lt h3 k hk).1)⟩, rfl⟩
 · exact (h2.far _ _ (by show fb ≠ b2; omega)).far _ _ (by show fb ≠ b2; omega)
 · exact (h1.far _ _ (by show fb ≠ b1; omega)).far _ _ (by show fb ≠ b1; omega)
 ·
  have hn : nv.ownBlock ≠ some fb := fun e => by have := (World.ownsRow.lt h3 _ e).1; omega
  exact own_far (own_far h3 _ _ hn) _ _ hn
set_option maxRecDepth 100000 in
set_option maxHeartbeats 8000000 in
theorem
    wrong_any (w0 w : World) (X : List Nat) (fb : Nat) (ev c0 c1 c2 c3 c4 c5 : Value) (b : Option Nt) (h : FS w0 w X fb ev c0 c1 c2 c3 c4 c5 b) (x : Nt) :
  Calls Tryz.prog 77 #[.pointer (some ⟨fb, 0, none⟩), .string x.1, .int .i64 x.2] w fun e w' => e = .returned (.tuple #[]) ∧ FS w0 w' X fb ev c0 c1 c2 c3 c4 c5 (note1 b x) ∧ KpR [fb] w w' := by
 obtain ⟨bv, k, hb, hbad⟩ := h.box
 obtain ⟨t, y, rfl⟩ := h.face
 obtain ⟨nm, a⟩ := x
 have HFS := Lib.hid h
 have HBB := Lib.hid hb
 have HBAD := Lib.hid hbad
 have herr := h.gr.cell h.err
 have hge := World.block_lt_of_cell? w _ herr
 have HPL := Lib.hid (fun w' => placeF_any t y a w')
 dsimp only
 cases b with
 |
  none =>
  obtain ⟨rfl, rfl⟩ := hbad
  have HNOTE := Lib.hid (show note1 none (nm, a) = some (nm, a) from rfl)
  clear h hb
  go_enter Tryz.func77, Tryz.ntmps77
  obtain ⟨c_b0, c_b1, c_b2, c_b3, c_b4, c_b5, c_b6, c_b7, m_b0, m_b1, m_b2, m_b3, m_b4, m_b5, m_b6, m_b7, l_b⟩ := unb8 HBB.out
  go_wp2_with fail
  go_at_call 107
  (with_reducible refine (HPL.out _).mono ?_); rintro e w1 ⟨rfl, hb1, hg1⟩
  have HB1 := Lib.hid hb1
  have HG1 := Lib.hid hg1
  have hfb1 : fb < w1.heap.size := Nat.lt_of_lt_of_le l_b hg1.size
  have xb1 := HBB.out.later hg1
  clear c_b0 c_b1 c_b2 c_b3 c_b4 c_b5 c_b6 c_b7 m_b0 m_b1 m_b2 m_b3 m_b4 m_b5 m_b6 m_b7 l_b
  clear hb1 hg1
  obtain ⟨c_b0, c_b1, c_b2, c_b3, c_b4, c_b5, c_b6, c_b7, m_b0, m_b1, m_b2, m_b3, m_b4, m_b5, m_b6, m_b7, l_b⟩ := unb8 xb1
  go_wp2_with fail
  go_at_call 84
  refine name_calls (fun W hW => ?_)
  have hgW : Gr w1 W := by rw [hW]; exact Gr.alloc _ _
  have hsl : Sl W (.slice (some ⟨w1.heap.size, 0, none⟩) 1 1) 1 [nm.data.toList].length ([nm.data.toList].map vS) := by
   refine ⟨by simp, by unfold maxLen; simp, .inr ⟨w1.heap.size, 0, 1, rfl, fun _ => by rw [hW]; simp, fun j u hj => ?_⟩⟩
   have hx : [Value.string nm][j]? = some u := by
    have e : vS nm.data.toList = .string nm := by unfold vS; rw [← st_of]
    simpa [e] using hj
   have := new_cells w1 [Value.string nm] 9 j u hx
   rw [addr_add] at this
   rw [hW]
   exact this
  clear hW
  (with_reducible refine (named_any _ _ _ _ W hsl (by simp)).mono ?_); rintro e w3 ⟨b2, nv, rfl, hl2, hb2, hown, hg3⟩
  have HB2 := Lib.hid hb2
  have HG3 := Lib.hid hg3
  have HL2 := Lib.hid hl2
  have HOWN := Lib.hid hown
  have HGW := Lib.hid hgW
  have xb3 := (xb1.later hgW).later hg3
  clear c_b0 c_b1 c_b2 c_b3 c_b4 c_b5 c_b6 c_b7 m_b0 m_b1 m_b2 m_b3 m_b4 m_b5 m_b6 m_b7 l_b
  clear hsl hb2 hg3 hl2 hown hgW xb1 hfb1
  obtain ⟨c_b0, c_b1, c_b2, c_b3, c_b4, c_b5, c_b6, c_b7, m_b0, m_b1, m_b2, m_b3, m_b4, m_b5, m_b6, m_b7, l_b⟩ := unb8 xb3
  go_wp2_with fail
  refine name_endU (fun W9 hW9 => ?_)
  go_end0
  rw [hW9]
  have hs1 := HG1.out.size
  have hs2 := HGW.out.size
  exact ⟨rfl, HFS.out.noted HNOTE.out (HG1.out.trans (HGW.out.trans HG3.out)) (HB1.out.later (HGW.out.trans HG3.out)) HB2.out (by have := HOWN.out; simpa [vS, ← st_of] using this) (Nat.le_refl _) (by have := HL2.out; omega) (by omega)⟩
 |
  some z =>
  obtain ⟨⟨b1, b2, nv, rfl, h2⟩, rfl⟩ := hbad
  clear h2
  by_cases hlt : a < z.2
  ·
   have HNOTE := Lib.hid (show note1 (some z) (nm, a) = some (nm, a) by unfold note1; simp only [if_pos hlt])
   clear h hb
   go_enter Tryz.func77, Tryz.ntmps77
   obtain ⟨c_b0, c_b1, c_b2, c_b3, c_b4, c_b5, c_b6, c_b7, m_b0, m_b1, m_b2, m_b3, m_b4, m_b5, m_b6, m_b7, l_b⟩ := unb8 HBB.out
   go_wp2_with fail
   go_at_call 107
   (with_reducible refine (HPL.out _).mono ?_); rintro e w1 ⟨rfl, hb1, hg1⟩
   have HB1 := Lib.hid hb1
   have HG1 := Lib.hid hg1
   have hfb1 : fb < w1.heap.size := Nat.lt_of_lt_of_le l_b hg1.size
   have xb1 := HBB.out.later hg1
   clear c_b0 c_b1 c_b2 c_b3 c_b4 c_b5 c_b6 c_b7 m_b0 m_b1 m_b2 m_b3 m_b4 m_b5 m_b6 m_b7 l_b
   clear hb1 hg1
   obtain ⟨c_b0, c_b1, c_b2, c_b3, c_b4, c_b5, c_b6, c_b7, m_b0, m_b1, m_b2, m_b3, m_b4, m_b5, m_b6, m_b7, l_b⟩ := unb8 xb1
   go_wp2_with fail
   go_at_call 84
   refine name_calls (fun W hW => ?_)
   have hgW : Gr w1 W := by rw [hW]; exact Gr.alloc _ _
   have hsl : Sl W (.slice (some ⟨w1.heap.size, 0, none⟩) 1 1) 1 [nm.data.toList].length ([nm.data.toList].map vS) := by
    refine ⟨by simp, by unfold maxLen; simp, .inr ⟨w1.heap.size, 0, 1, rfl, fun _ => by rw [hW]; simp, fun j u hj => ?_⟩⟩
    have hx : [Value.string nm][j]? = some u := by
     have e : vS nm.data.toList = .string nm := by unfold vS; rw [← st_of]
     simpa [e] using hj
    have := new_cells w1 [Value.string nm] 9 j u hx
    rw [addr_add] at this
    rw [hW]
    exact this
   clear hW
   (with_reducible refine (named_any _ _ _ _ W hsl (by simp)).mono ?_); rintro e w3 ⟨b2, nv, rfl, hl2, hb2, hown, hg3⟩
   have HB2 := Lib.hid hb2
   have HG3 := Lib.hid hg3
   have HL2 := Lib.hid hl2
   have HOWN := Lib.hid hown
   have HGW := Lib.hid hgW
   have xb3 := (xb1.later hgW).later hg3
   clear c_b0 c_b1 c_b2 c_b3 c_b4 c_b5 c_b6 c_b7 m_b0 m_b1 m_b2 m_b3 m_b4 m_b5 m_b6 m_b7 l_b
   clear hsl hb2 hg3 hl2 hown hgW xb1 hfb1
   obtain ⟨c_b0, c_b1, c_b2, c_b3, c_b4, c_b5, c_b6, c_b7, m_b0, m_b1, m_b2, m_b3, m_b4, m_b5, m_b6, m_b7, l_b⟩ := unb8 xb3
   go_wp2_with fail
   refine name_endU (fun W9 hW9 => ?_)
   go_end0
   rw [hW9]
   have hs1 := HG1.out.size
   have hs2 := HGW.out.size
   exact ⟨rfl, HFS.out.noted HNOTE.out (HG1.out.trans (HGW.out.trans HG3.out)) (HB1.out.later (HGW.out.trans HG3.out)) HB2.out (by have := HOWN.out; simpa [vS, ← st_of] using this) (Nat.le_refl _) (by have := HL2.out; omega) (by omega)⟩
  ·
   have HNOTE := Lib.hid (show note1 (some z) (nm, a) = some z by unfold note1; simp only [if_neg hlt])
   clear h hb
   go_enter Tryz.func77, Tryz.ntmps77
   obtain ⟨c_b0, c_b1, c_b2, c_b3, c_b4, c_b5, c_b6, c_b7, m_b0, m_b1, m_b2, m_b3, m_b4, m_b5, m_b6, m_b7, l_b⟩ := unb8 HBB.out
   go_wp2_with fail
   go_end0
   exact ⟨rfl, by rw [HNOTE.out]; exact HFS.out, KpR.refl _ _⟩
end Go.Proofs.YtkkopdmemjncdaaGreatDoor
namespace Go.Proofs.YtkkopdmemjncdaaGreatDoor
open Go Go.RowKit Go.Maps
theorem dups_snoc : ∀ (l : List Nt) (seen : List ByteArray) (x : Nt), dups seen (l ++ [x]) = dups seen l ++ (if memN (seen ++ l.map (·.1)) x.1 = true then [x] else [])
 | [], seen, x => by simp [dups]
 | y :: l, seen, x => by rw [List.cons_append, dups, dups_snoc l, dups]; simp [List.append_assoc]
def numF (l : List ByteArray) : ByteArray → Option Int := fun s => if memN l s = true then some (noOf l s : Int) else none
theorem memN_snoc (l : List ByteArray) (x s : ByteArray) : memN (l ++ [x]) s = (memN l s || decide (x = s)) := by unfold memN; rw [List.any_append]; simp
theorem noOf_lt {l : List ByteArray} {s : ByteArray} (h : memN l s = true) : noOf l s < l.length := by
 unfold noOf
 rw [List.findIdx_lt_length]
 unfold memN at h
 rw [List.any_eq_true] at h
 exact h
theorem noOf_none {l : List ByteArray} {s : ByteArray} (h : memN l s = false) : noOf l s = l.length := by
 unfold noOf
 rw [List.findIdx_eq_length]
 unfold memN at h
 rw [List.any_eq_false] at h
 intro x hx
 simpa using h x hx
theorem numF_old {l : List ByteArray} {x : ByteArray} (h : memN l x = true) (s : ByteArray) : numF (l ++ [x]) s = numF l s := by
 unfold numF
 rw [memN_snoc]
 by_cases hs : memN l s = true
 ·
  rw [hs]
  have : noOf (l ++ [x]) s = noOf l s := by
   have := noOf_lt hs
   unfold noOf at this ⊢
   rw [List.findIdx_append, if_pos this]
  rw [this]; rfl
 ·
  have e : ¬ x = s := fun e => by subst e; exact hs h
  rw [Bool.not_eq_true] at hs
  rw [hs, decide_eq_false e]; rfl
theorem numF_new {l : List ByteArray} {x : ByteArray} (h : memN l x = false) (s : ByteArray) : numF (l ++ [x]) s = putF (numF l) x l.length s := by
 unfold putF
 by_cases e : s = x
 ·
  subst e
  rw [if_pos rfl]
  unfold numF
  rw [memN_snoc, h, decide_eq_true rfl]
  have : noOf (l ++ [s]) s = l.length := by
   have h1 := noOf_none h
   unfold noOf at h1 ⊢
   rw [List.findIdx_append, if_neg (by omega)]
   simp
  rw [this]; rfl
 ·
  rw [if_neg e]
  unfold numF
  rw [memN_snoc, decide_eq_false (fun h => e h.symm), Bool.or_false]
  by_cases hs : memN l s = true
  ·
   rw [if_pos hs, if_pos hs]
   have h2 := noOf_lt hs
   unfold noOf at h2 ⊢
   rw [List.findIdx_append, if_pos h2]
  · rw [if_neg hs, if_neg hs]
theorem numF_some (l : List ByteArray) (s : ByteArray) : (numF l s).isSome = memN l s := by unfold numF; cases memN l s <;> rfl
theorem foldl_dups_snoc (l : List Nt) (x : Nt) (b : Option Nt) : (dups [] (l ++ [x])).foldl note1 b = if memN (l.map (·.1)) x.1 = true then note1 ((dups [] l).foldl note1 b) x else (dups [] l).foldl note1 b := by
 rw [dups_snoc, List.nil_append, List.foldl_append]
 by_cases h : memN (l.map (·.1)) x.1 = true
 · rw [if_pos h, if_pos h]; rfl
 · rw [if_neg h, if_neg h]; rfl
set_option maxRecDepth 100000 in
set_option maxHeartbeats 8000000 in
theorem
    numbered_modes (xs : List Nt) (hn : xs.length ≤ 1048576) (hsz : ∀ x ∈ xs, x.1.size ≤ maxLen) (w0 wN : World) (X : List Nat) (fb tb : Nat) (ev c0 c1 c2 c3 c4 c5 : Value) (b : Option Nt) (h : FS w0 wN X fb ev c0 c1 c2 c3 c4 c5 b)
  (hnm : ∀ (k : Nat) (x : Nt), xs[k]? = some x → ∀ w', KpR X wN w' → Calls Tryz.prog 76 #[.int .i64 (k : Int), .pointer (some ⟨tb, 0, none⟩)] w' fun e w2 => e = .returned (.tuple #[.string x.1, .int .i64 x.2]) ∧ Gr w' w2) :
  Calls Tryz.prog 75 #[.int .i64 (xs.length : Int), .func (.func 76) #[] #[.pointer (some ⟨tb, 0, none⟩)], .func (.func 77) #[.pointer (some ⟨fb, 0, none⟩)] #[]] wN fun e w' =>
   ∃ m, e = .returned (.map (some m)) ∧ wN.heap.size ≤ m ∧ MapF w' m xs.length (numF (xs.map (·.1))) ∧ FS w0 w' X fb ev c0 c1 c2 c3 c4 c5 ((dups [] xs).foldl note1 b) ∧ KpR [fb] wN w' := by
 have hmm := @run_makeMap Tryz.prog
 have HF := Lib.hid h
 have HNM := Lib.hid hnm
 have HSZ := Lib.hid hsz
 obtain ⟨n, hxn⟩ : ∃ n, xs.length = n := ⟨_, rfl⟩
 have HXN := Lib.hid hxn
 rw [hxn] at hn ⊢
 clear h hnm hsz hxn
 go_enter Tryz.func75, Tryz.ntmps75
 go_upto_block 0 with fail
 refine name_world (fun W hW => ?_)
 have HW := Lib.hid hW
 have HF1 := Lib.hid (show FS w0 W (wN.heap.size :: X) fb ev c0 c1 c2 c3 c4 c5 b by rw [hW]; exact HF.out.alloc _)
 have HM1 := Lib.hid (show MapF W wN.heap.size 0 (numF []) by rw [hW]; exact MapF.made _)
 have HK1 := Lib.hid (show KpR [fb] wN W by rw [hW]; exact KpR.gr (Gr.alloc _ _))
 obtain ⟨m, hm⟩ : ∃ m, wN.heap.size = m := ⟨_, rfl⟩
 rw [hm] at HF1 HM1 ⊢
 have HM := Lib.hid hm
 have hfm : fb ≠ m := fun e => by have := (HF.out.low fb HF.out.mem).2; omega
 have HFM := Lib.hid hfm
 clear hW hm hfm
 go_wp2_with fail
 go_loopw [15] (fun i wr => ∃ k : Nat, k ≤ n ∧ i = .int .i64 (k : Int) ∧ Hid (FS w0 wr (m :: X) fb ev c0 c1 c2 c3 c4 c5 ((dups [] (xs.take k)).foldl note1 b)) ∧ Hid (MapF wr m k (numF ((xs.take k).map (·.1)))) ∧ Hid (KpR [fb] wN wr)) (fun i _ => n - (intOf i).toNat)
 case atStart => exact ⟨0, Nat.zero_le _, rfl, HF1, HM1, HK1⟩
 case round =>
  obtain ⟨k, hk, rfl, HFk, HMk, HKk⟩ := hrel
  rcases Nat.lt_or_ge k n with hkn | hkn
  ·
   have hkI : (k : Int) < (n : Int) := by omega
   have HKN := Lib.hid hkn
   obtain ⟨⟨nm, at_⟩, hx⟩ : ∃ x, xs[k]? = some x := ⟨_, List.getElem?_eq_getElem (by rw [HXN.out]; exact hkn)⟩
   have HX := Lib.hid hx
   have HS := Lib.hid (HSZ.out _ (List.mem_of_getElem? hx))
   have HC := Lib.hid (HNM.out k _ hx wr (HKk.out.mono (fun x hx => .inl (by rw [List.mem_singleton.1 hx]; exact HF.out.mem))))
   have HTK := Lib.hid (show xs.take (k + 1) = xs.take k ++ [(nm, at_)] by rw [List.take_add_one, hx]; rfl)
   have HLK := Lib.hid (show ((xs.take k).map (·.1)).length = k by rw [List.length_map, List.length_take]; have := HXN.out; omega)
   obtain ⟨q, hq⟩ : ∃ q, memN ((xs.take k).map (·.1)) nm = q := ⟨_, rfl⟩
   have HQ := Lib.hid hq
   have hn20 : (n : Int) ≤ 1048576 := by omega
   clear hx hk hkn hq
   go_wp2_with fail
   go_at_call 76
   (with_reducible refine HC.out.mono ?_); rintro e w1 ⟨rfl, hb1⟩
   have HM1 := Lib.hid (HMk.out.later hb1)
   have HF1 := Lib.hid (HFk.out.later hb1)
   have HK1 := Lib.hid (show KpR [fb] wN w1 from HKk.out.trans (KpR.gr (R := [fb]) hb1) (fun x hx => .inl hx))
   obtain ⟨c, hc⟩ : ∃ c, (numF ((xs.take k).map (·.1)) nm).getD 0 = c := ⟨_, rfl⟩
   have hrun := HM1.out.look HS.out hc ((numF_some _ _).trans HQ.out)
   clear hb1 hc
   cases q with
   |
    true =>
    go_wp2_with fail
    go_at_call 77
    (with_reducible refine (wrong_any w0 w1 _ fb ev c0 c1 c2 c3 c4 c5 _ HF1.out (nm, at_)).mono ?_); rintro e w2 ⟨rfl, hf2, hk2⟩
    have HF2 := Lib.hid (show FS w0 w2 (m :: X) fb ev c0 c1 c2 c3 c4 c5 ((dups [] (xs.take (k + 1))).foldl note1 b) by
     rw [HTK.out, foldl_dups_snoc, if_pos HQ.out]; exact hf2)
    have HM2 := Lib.hid (show MapF w2 m (k + 1) (numF ((xs.take (k + 1)).map (·.1))) by
     rw [HTK.out, List.map_append]
     refine ((HM1.out.heap (hk2.block m HM1.out.lt (fun hm => HFM.out (List.mem_singleton.1 hm).symm))).mono (Nat.le_succ _)).same (fun s => ?_)
     exact (numF_old HQ.out s).symm)
    have HK2 := Lib.hid (show KpR [fb] wN w2 from HK1.out.trans hk2 (fun x hx => .inl hx))
    clear hf2 hk2 hrun
    go_wp2_with fail
    go_roundw
    case rel => exact ⟨k + 1, HKN.out, by go_num, HF2, HM2, HK2⟩
    case measure => have := HKN.out; simp [intOf]; omega
   |
    false =>
    go_wp2_with (first
     | (at_mapUpdate; refine wpList_storeF rfl _ _ _ rfl _ _ _ HM1.out _ HS.out (by have := HKN.out; unfold maxLen; omega) _ (wf_fit (by have := HKN.out; unfold fit64; omega)) rfl rfl rfl ?_; intro w2 hmf2 hg2; have HMF2 := Lib.hid hmf2; have HG2 := Lib.hid hg2; clear hmf2 hg2)
     | go_in)
    go_roundw
    case rel =>
     refine ⟨k + 1, HKN.out, by go_num, Lib.hid ?_, Lib.hid ?_, Lib.hid ?_⟩
     ·
      rw [HTK.out, foldl_dups_snoc, if_neg (by rw [HQ.out]; simp)]
      exact HF1.out.keep (Y := [m]) ((KpR.refl [m] w1).grown HG2.out (fun k hk => by injection hk with hk; subst hk; right; simp)) (fun x hx => by rw [List.mem_singleton.1 hx]; exact ⟨by simp, fun e => HFM.out e.symm⟩)
     ·
      rw [HTK.out, List.map_append]
      refine HMF2.out.same (fun s => ?_)
      have := numF_new HQ.out s
      rw [HLK.out] at this
      exact this.symm
     · exact HK1.out.grown HG2.out (fun k hk => by injection hk with hk; subst hk; left; have := HM.out; omega)
    case measure => have := HKN.out; simp [intOf]; omega
  ·
   have hkI : ¬ (k : Int) < (n : Int) := by omega
   have HE := Lib.hid (show k = n by omega)
   clear hk hkn
   go_wp2_with fail
   go_ret
   refine ⟨m, rfl, by rw [HM.out]; exact Nat.le_refl _, ?_, ?_, HKk.out⟩
   ·
    have := HMk.out
    rw [List.take_of_length_le (by have := HXN.out; have := HE.out; omega), HE.out] at this
    exact this
   ·
    have := HFk.out
    rw [List.take_of_length_le (by have := HXN.out; have := HE.out; omega)] at this
    exact this.dropX HF.out.mem
set_option maxRecDepth 100000 in
set_option maxHeartbeats 8000000 in
theorem
    numbered_defs (xs : List Nt) (hn : xs.length ≤ 1048576) (hsz : ∀ x ∈ xs, x.1.size ≤ maxLen) (w0 wN : World) (X : List Nat) (fb tb : Nat) (ev c0 c1 c2 c3 c4 c5 : Value) (b : Option Nt) (h : FS w0 wN X fb ev c0 c1 c2 c3 c4 c5 b)
  (hnm : ∀ (k : Nat) (x : Nt), xs[k]? = some x → ∀ w', KpR X wN w' → Calls Tryz.prog 78 #[.int .i64 (k : Int), .pointer (some ⟨tb, 0, none⟩)] w' fun e w2 => e = .returned (.tuple #[.string x.1, .int .i64 x.2]) ∧ Gr w' w2) :
  Calls Tryz.prog 75 #[.int .i64 (xs.length : Int), .func (.func 78) #[] #[.pointer (some ⟨tb, 0, none⟩)], .func (.func 77) #[.pointer (some ⟨fb, 0, none⟩)] #[]] wN fun e w' =>
   ∃ m, e = .returned (.map (some m)) ∧ wN.heap.size ≤ m ∧ MapF w' m xs.length (numF (xs.map (·.1))) ∧ FS w0 w' X fb ev c0 c1 c2 c3 c4 c5 ((dups [] xs).foldl note1 b) ∧ KpR [fb] wN w' := by
 have hmm := @run_makeMap Tryz.prog
 have HF := Lib.hid h
 have HNM := Lib.hid hnm
 have HSZ := Lib.hid hsz
 obtain ⟨n, hxn⟩ : ∃ n, xs.length = n := ⟨_, rfl⟩
 have HXN := Lib.hid hxn
 rw [hxn] at hn ⊢
 clear h hnm hsz hxn
 go_enter Tryz.func75, Tryz.ntmps75
 go_upto_block 0 with fail
 refine name_world (fun W hW => ?_)
 have HW := Lib.hid hW
 have HF1 := Lib.hid (show FS w0 W (wN.heap.size :: X) fb ev c0 c1 c2 c3 c4 c5 b by rw [hW]; exact HF.out.alloc _)
 have HM1 := Lib.hid (show MapF W wN.heap.size 0 (numF []) by rw [hW]; exact MapF.made _)
 have HK1 := Lib.hid (show KpR [fb] wN W by rw [hW]; exact KpR.gr (Gr.alloc _ _))
 obtain ⟨m, hm⟩ : ∃ m, wN.heap.size = m := ⟨_, rfl⟩
 rw [hm] at HF1 HM1 ⊢
 have HM := Lib.hid hm
 have hfm : fb ≠ m := fun e => by have := (HF.out.low fb HF.out.mem).2; omega
 have HFM := Lib.hid hfm
 clear hW hm hfm
 go_wp2_with fail
 go_loopw [15] (fun i wr => ∃ k : Nat, k ≤ n ∧ i = .int .i64 (k : Int) ∧ Hid (FS w0 wr (m :: X) fb ev c0 c1 c2 c3 c4 c5 ((dups [] (xs.take k)).foldl note1 b)) ∧ Hid (MapF wr m k (numF ((xs.take k).map (·.1)))) ∧ Hid (KpR [fb] wN wr)) (fun i _ => n - (intOf i).toNat)
 case atStart => exact ⟨0, Nat.zero_le _, rfl, HF1, HM1, HK1⟩
 case round =>
  obtain ⟨k, hk, rfl, HFk, HMk, HKk⟩ := hrel
  rcases Nat.lt_or_ge k n with hkn | hkn
  ·
   have hkI : (k : Int) < (n : Int) := by omega
   have HKN := Lib.hid hkn
   obtain ⟨⟨nm, at_⟩, hx⟩ : ∃ x, xs[k]? = some x := ⟨_, List.getElem?_eq_getElem (by rw [HXN.out]; exact hkn)⟩
   have HX := Lib.hid hx
   have HS := Lib.hid (HSZ.out _ (List.mem_of_getElem? hx))
   have HC := Lib.hid (HNM.out k _ hx wr (HKk.out.mono (fun x hx => .inl (by rw [List.mem_singleton.1 hx]; exact HF.out.mem))))
   have HTK := Lib.hid (show xs.take (k + 1) = xs.take k ++ [(nm, at_)] by rw [List.take_add_one, hx]; rfl)
   have HLK := Lib.hid (show ((xs.take k).map (·.1)).length = k by rw [List.length_map, List.length_take]; have := HXN.out; omega)
   obtain ⟨q, hq⟩ : ∃ q, memN ((xs.take k).map (·.1)) nm = q := ⟨_, rfl⟩
   have HQ := Lib.hid hq
   have hn20 : (n : Int) ≤ 1048576 := by omega
   clear hx hk hkn hq
   go_wp2_with fail
   go_at_call 78
   (with_reducible refine HC.out.mono ?_); rintro e w1 ⟨rfl, hb1⟩
   have HM1 := Lib.hid (HMk.out.later hb1)
   have HF1 := Lib.hid (HFk.out.later hb1)
   have HK1 := Lib.hid (show KpR [fb] wN w1 from HKk.out.trans (KpR.gr (R := [fb]) hb1) (fun x hx => .inl hx))
   obtain ⟨c, hc⟩ : ∃ c, (numF ((xs.take k).map (·.1)) nm).getD 0 = c := ⟨_, rfl⟩
   have hrun := HM1.out.look HS.out hc ((numF_some _ _).trans HQ.out)
   clear hb1 hc
   cases q with
   |
    true =>
    go_wp2_with fail
    go_at_call 77
    (with_reducible refine (wrong_any w0 w1 _ fb ev c0 c1 c2 c3 c4 c5 _ HF1.out (nm, at_)).mono ?_); rintro e w2 ⟨rfl, hf2, hk2⟩
    have HF2 := Lib.hid (show FS w0 w2 (m :: X) fb ev c0 c1 c2 c3 c4 c5 ((dups [] (xs.take (k + 1))).foldl note1 b) by
     rw [HTK.out, foldl_dups_snoc, if_pos HQ.out]; exact hf2)
    have HM2 := Lib.hid (show MapF w2 m (k + 1) (numF ((xs.take (k + 1)).map (·.1))) by
     rw [HTK.out, List.map_append]
     refine ((HM1.out.heap (hk2.block m HM1.out.lt (fun hm => HFM.out (List.mem_singleton.1 hm).symm))).mono (Nat.le_succ _)).same (fun s => ?_)
     exact (numF_old HQ.out s).symm)
    have HK2 := Lib.hid (show KpR [fb] wN w2 from HK1.out.trans hk2 (fun x hx => .inl hx))
    clear hf2 hk2 hrun
    go_wp2_with fail
    go_roundw
    case rel => exact ⟨k + 1, HKN.out, by go_num, HF2, HM2, HK2⟩
    case measure => have := HKN.out; simp [intOf]; omega
   |
    false =>
    go_wp2_with (first
     | (at_mapUpdate; refine wpList_storeF rfl _ _ _ rfl _ _ _ HM1.out _ HS.out (by have := HKN.out; unfold maxLen; omega) _ (wf_fit (by have := HKN.out; unfold fit64; omega)) rfl rfl rfl ?_; intro w2 hmf2 hg2; have HMF2 := Lib.hid hmf2; have HG2 := Lib.hid hg2; clear hmf2 hg2)
     | go_in)
    go_roundw
    case rel =>
     refine ⟨k + 1, HKN.out, by go_num, Lib.hid ?_, Lib.hid ?_, Lib.hid ?_⟩
     ·
      rw [HTK.out, foldl_dups_snoc, if_neg (by rw [HQ.out]; simp)]
      exact HF1.out.keep (Y := [m]) ((KpR.refl [m] w1).grown HG2.out (fun k hk => by injection hk with hk; subst hk; right; simp)) (fun x hx => by rw [List.mem_singleton.1 hx]; exact ⟨by simp, fun e => HFM.out e.symm⟩)
     ·
      rw [HTK.out, List.map_append]
      refine HMF2.out.same (fun s => ?_)
      have := numF_new HQ.out s
      rw [HLK.out] at this
      exact this.symm
     · exact HK1.out.grown HG2.out (fun k hk => by injection hk with hk; subst hk; left; have := HM.out; omega)
    case measure => have := HKN.out; simp [intOf]; omega
  ·
   have hkI : ¬ (k : Int) < (n : Int) := by omega
   have HE := Lib.hid (show k = n by omega)
   clear hk hkn
   go_wp2_with fail
   go_ret
   refine ⟨m, rfl, by rw [HM.out]; exact Nat.le_refl _, ?_, ?_, HKk.out⟩
   ·
    have := HMk.out
    rw [List.take_of_length_le (by have := HXN.out; have := HE.out; omega), HE.out] at this
    exact this
   ·
    have := HFk.out
    rw [List.take_of_length_le (by have := HXN.out; have := HE.out; omega)] at this
    exact this.dropX HF.out.mem
end Go.Proofs.YtkkopdmemjncdaaGreatDoor
namespace Go.Proofs.YtkkopdmemjncdaaGreatDoor
open Go Go.RowKit Go.Maps
theorem lost_snoc (known : List ByteArray) (p : List Nt) (x : Nt) : lost known (p ++ [x]) = lost known p ++ (if memN known x.1 = true then [] else [x]) := by
 unfold lost
 rw [List.filter_append]
 by_cases h : memN known x.1 = true
 · rw [if_pos h, List.filter_cons, if_neg (by simp [h])]; rfl
 · rw [if_neg h, List.filter_cons, if_pos (by simp [h])]; rfl
structure RefI (w0 : World) (X : List Nat) (fb qa dm nd : Nat) (fd : ByteArray → Option Int) (known : List ByteArray) (ev c0 c1 c2 c3 c5 : Value) (b : Option Nt) (p : List Nt) (R : List Nat) (w : World) : Prop where
 fs : FS w0 w X fb ev c0 c1 c2 c3 (.map (some dm)) c5 ((lost known p).foldl note1 b)
 qb : boxAt w qa [.pointer (some ⟨fb, 0, none⟩)]
 qn : qa ≠ fb
 mp : MapF w dm nd fd
 mn : dm ≠ fb
 kn : ∀ s, (fd s).isSome = memN known s
 rr : R = [fb]
theorem RefI.each (w0 : World) (X : List Nat) (fb qa dm nd : Nat) (fd : ByteArray → Option Int) (known : List ByteArray) (ev c0 c1 c2 c3 c5 : Value) (b : Option Nt) : EachIn w0 (RefI w0 X fb qa dm nd fd known ev c0 c1 c2 c3 c5 b) where
 gr := fun p R w h => h.fs.gr
 low := fun p R w h x hx => by
  rw [h.rr] at hx
  rw [List.mem_singleton.1 hx]
  exact h.fs.low fb h.fs.mem
 later := fun p R w w' h hG => ⟨h.fs.later hG, h.qb.later hG, h.qn, h.mp.later hG, h.mn, h.kn, h.rr⟩
set_option maxRecDepth 100000 in
set_option maxHeartbeats 8000000 in
theorem
    refs1_any (w0 : World) (X : List Nat) (fb qa dm nd : Nat) (fd : ByteArray → Option Int) (known : List ByteArray) (ev c0 c1 c2 c3 c5 : Value) (b : Option Nt) (e : Ex) (cs : List Value) (p : List Nt) (R : List Nat) (w : World) (he : ExIn w0 e cs)
  (hI : RefI w0 X fb qa dm nd fd known ev c0 c1 c2 c3 c5 b p R w) :
  Calls Tryz.prog 108 #[.agg cs.toArray, .pointer (some ⟨qa, 0, none⟩)] w fun e' w' => e' = .returned (.tuple #[]) ∧ EachEnd (RefI w0 X fb qa dm nd fd known ev c0 c1 c2 c3 c5 b) (p ++ ownN e) R w w' := by
 cases he with
 |
  mk op
     pos s text mn mx v l h1 h2 h3 h4 h5 hlen hs hn hb hargs =>
  obtain ⟨pv, cv, rfl⟩ := hs.len
  obtain ⟨n, hnl⟩ : ∃ n, l.length = n := ⟨_, rfl⟩
  rw [hnl]
  have HOWN := Lib.hid (show ownN (.mk op pos s text mn mx (l.map (·.1))) = if op = 4 then [(text, pos)] else [] from rfl)
  obtain ⟨O, hO⟩ : ∃ O, ownN (.mk op pos s text mn mx (l.map (·.1))) = O := ⟨_, rfl⟩
  rw [hO] at HOWN ⊢
  have HTX := Lib.hid h5
  have HI := Lib.hid hI
  have xq := hI.qb
  obtain ⟨bv, kk, xf, _⟩ := hI.fs.box
  obtain ⟨q, hq⟩ : ∃ q, (fd text).isSome = q := ⟨_, rfl⟩
  obtain ⟨c, hc⟩ : ∃ c, (fd text).getD 0 = c := ⟨_, rfl⟩
  have HQ := Lib.hid hq
  have HC := Lib.hid hc
  clear hq hc hI h1 h2 h3 h4 h5 hlen hs hn hb hargs hnl hO
  unfold exCells
  go_enter Tryz.func108, Tryz.ntmps108
  go_wp2_with fail
  refine name_world (fun W hW => ?_)
  have xe : boxAt W w.heap.size [.int .i64 op, .int .i64 pos, .int .u64 (wd s 0), .int .u64 (wd s 1), .int .u64 (wd s 2), .int .u64 (wd s 3), .string text, .int .i64 mn, .int .i64 mx, .slice pv n cv] := by rw [hW]; exact boxAt.new_atN _ _ _ rfl rfl
  have hgW : Gr w W := by rw [hW]; exact Gr.alloc _ _
  have HI1 := Lib.hid ((RefI.each w0 X fb qa dm nd fd known ev c0 c1 c2 c3 c5 b).later _ _ _ _ HI.out hgW)
  have HGW := Lib.hid hgW
  replace xq := xq.later hgW
  replace xf := xf.later hgW
  clear hW hgW
  obtain ⟨c_e0, c_e1, c_e2, c_e3, c_e4, c_e5, c_e6, c_e7, c_e8, c_e9, m_e0, m_e1, m_e2, m_e3, m_e4, m_e5, m_e6, m_e7, m_e8, m_e9, l_e⟩ := unb10 xe
  have c_q0 := xq.cell 0 _ rfl
  have m_q0 := xq.mark 0 _ rfl
  have l_q := xq.lt (Nat.succ_pos _)
  obtain ⟨c_f0, c_f1, c_f2, c_f3, c_f4, c_f5, c_f6, c_f7, m_f0, m_f1, m_f2, m_f3, m_f4, m_f5, m_f6, m_f7, l_f⟩ := unb8 xf
  refine wp_region_G (.take 0 (.take 1 (.take 2 (.take 3 (.take 4 (.take 5 (.run 6 false (.take 7 (.take 8 (.take 9 (.run 10 false (.run 11 true .nil)))))))))))) (by kernel_rfl) (by kernel_rfl) ?_
  simp only [pickOps, nthOp]
  intro wq hG
  repeat (first | (refine wpG_skip_take ?_ ?_; (focus rfl); try simp only [Act.put, List.setIfInBounds_toArray, List.set_cons_zero, List.set_cons_succ]) | (refine wpG_skip_run ?_ ?_; (focus rfl); try simp only [Act.put, List.setIfInBounds_toArray, List.set_cons_zero, List.set_cons_succ]) | (refine wpG_run ?_ (fun K hK => ?_); (focus rfl); have hrun := (HI1.out.mp.later hG).look HTX.out HC.out HQ.out; go_simp; clear hrun; (try dsimp only); refine hK.out _ _ hG ?_; clear hK K; try simp only [Act.put, List.setIfInBounds_toArray, List.set_cons_zero, List.set_cons_succ]) | (refine wpG_take ?_ ?_; (focus rfl); apply Exists.intro; refine ⟨fun w' hw' => ?_, ?_⟩; (focus (have hc := Gr.cells hw'; go_simp; (try rfl); done)); try simp only [Act.put, List.setIfInBounds_toArray, List.set_cons_zero, List.set_cons_succ]))
  all_goals
   refine wpG_last ?_ (fun K hK => ?_); (focus rfl)
   have hc := hG.cells
   have hm := hG.marks
   go_simp
   refine hK.out _ _ ?_
   try simp only [Act.put, List.setIfInBounds_toArray, List.set_cons_zero, List.set_cons_succ]
   clear hK K hc hm
   refine wpG_done ?_
   have HI2 := Lib.hid ((RefI.each w0 X fb qa dm nd fd known ev c0 c1 c2 c3 c5 b).later _ _ _ _ HI1.out hG)
   have hg2 : Gr w wq := HGW.out.trans hG
   have HG2 := Lib.hid hg2
   replace xe := xe.later hG
   replace xq := xq.later hG
   have xf2 := xf.later hG
   clear c_e0 c_e1 c_e2 c_e3 c_e4 c_e5 c_e6 c_e7 c_e8 c_e9 m_e0 m_e1 m_e2 m_e3 m_e4 m_e5 m_e6 m_e7 m_e8 m_e9 l_e
   clear c_q0 m_q0 l_q
   clear c_f0 c_f1 c_f2 c_f3 c_f4 c_f5 c_f6 c_f7 m_f0 m_f1 m_f2 m_f3 m_f4 m_f5 m_f6 m_f7 l_f
   obtain ⟨c_e0, c_e1, c_e2, c_e3, c_e4, c_e5, c_e6, c_e7, c_e8, c_e9, m_e0, m_e1, m_e2, m_e3, m_e4, m_e5, m_e6, m_e7, m_e8, m_e9, l_e⟩ := unb10 xe
   have c_q0 := xq.cell 0 _ rfl
   have m_q0 := xq.mark 0 _ rfl
   have l_q := xq.lt (Nat.succ_pos _)
   obtain ⟨c_f0, c_f1, c_f2, c_f3, c_f4, c_f5, c_f6, c_f7, m_f0, m_f1, m_f2, m_f3, m_f4, m_f5, m_f6, m_f7, l_f⟩ := unb8 xf2
   clear hG hg2
   have END0 : lost known (p ++ O) = lost known p → EachEnd (RefI w0 X fb qa dm nd fd known ev c0 c1 c2 c3 c5 b) (p ++ O) R w wq := fun hl => by
    have h2 := HI2.out
    refine ⟨R, ⟨by rw [hl]; exact h2.fs, h2.qb, h2.qn, h2.mp, h2.mn, h2.kn, h2.rr⟩, KpR.gr HG2.out, fun x hx => .inl hx⟩
   have HEND0 := Lib.hid END0
   clear END0
   by_cases ho : op = 4
   rotate_left
   ·
    have hob : (op == 4) = false := by rw [beq_eq_false_iff_ne]; exact ho
    have HO := Lib.hid (show O = [] by rw [HOWN.out, if_neg ho])
    clear ho
    go_wp2_with fail
    go_end0
    exact ⟨rfl, HEND0.out (by rw [HO.out, List.append_nil])⟩
   have HO := Lib.hid (show O = [(text, pos)] by rw [HOWN.out, if_pos ho])
   subst ho
   have HKN := Lib.hid ((HI2.out.kn text).symm.trans HQ.out)
   cases q with
   |
    true =>
    go_wp2_with fail
    go_end0
    exact ⟨rfl, HEND0.out (by rw [HO.out, lost_snoc, if_pos HKN.out, List.append_nil])⟩
   |
    false =>
    go_wp2_with fail
    go_at_call 77
    (with_reducible refine (wrong_any w0 wq X fb ev c0 c1 c2 c3 _ c5 _ HI2.out.fs (text, pos)).mono ?_); rintro e w2 ⟨rfl, hf2, hk2⟩
    have HF2 := Lib.hid hf2
    have HK2 := Lib.hid hk2
    clear c_e0 c_e1 c_e2 c_e3 c_e4 c_e5 c_e6 c_e7 c_e8 c_e9 m_e0 m_e1 m_e2 m_e3 m_e4 m_e5 m_e6 m_e7 m_e8 m_e9 l_e
    clear c_q0 m_q0 l_q
    clear c_f0 c_f1 c_f2 c_f3 c_f4 c_f5 c_f6 c_f7 m_f0 m_f1 m_f2 m_f3 m_f4 m_f5 m_f6 m_f7 l_f
    clear hf2 hk2
    go_wp2_with fail
    go_end0
    refine ⟨rfl, [fb], ⟨?_, HK2.out.box HI2.out.qb (fun hm => HI2.out.qn (List.mem_singleton.1 hm)) (by simp), HI2.out.qn, HI2.out.mp.heap (HK2.out.block dm HI2.out.mp.lt (fun hm => HI2.out.mn (List.mem_singleton.1 hm))), HI2.out.mn, HI2.out.kn, rfl⟩, ?_, fun x hx => .inl (by rw [HI2.out.rr]; exact hx)⟩
    ·
     rw [HO.out, lost_snoc, if_neg (by rw [HKN.out]; simp), List.foldl_append]
     exact HF2.out
    ·
     rw [HI2.out.rr]
     exact (KpR.gr HG2.out).trans HK2.out (fun x hx => .inl hx)
set_option maxRecDepth 100000 in
set_option maxHeartbeats 4000000 in
theorem refs_any (w0 w : World) (X : List Nat) (fb dm nd : Nat) (fd : ByteArray → Option Int) (known : List ByteArray) (ev c0 c1 c2 c3 c5 : Value) (b : Option Nt) (h : FS w0 w X fb ev c0 c1 c2 c3 (.map (some dm)) c5 b) (hm : MapF w dm nd fd) (hne : dm ≠ fb) (hkn : ∀ s, (fd s).isSome = memN known s) (e : Ex) (cs : List Value) (he : ExIn w0 e cs) :
  Calls Tryz.prog 79 #[.pointer (some ⟨fb, 0, none⟩), .agg cs.toArray] w fun e' w' => e' = .returned (.tuple #[]) ∧ FS w0 w' X fb ev c0 c1 c2 c3 (.map (some dm)) c5 ((lost known (refsE e)).foldl note1 b) ∧ KpR [fb] w w' := by
 have HE := Lib.hid (fun (qa : Nat) (W : World) (hI : RefI w0 X fb qa dm nd fd known ev c0 c1 c2 c3 c5 b [] [fb] W) => each_refs qa (refsE e).length w0 (RefI w0 X fb qa dm nd fd known ev c0 c1 c2 c3 c5 b) (RefI.each w0 X fb qa dm nd fd known ev c0 c1 c2 c3 c5 b) (fun e2 cs2 p R w2 h1 h2 _ => refs1_any w0 X fb qa dm nd fd known ev c0 c1 c2 c3 c5 b e2 cs2 p R w2 h1 h2) _ e (Nat.le_refl _) cs [] [fb] W he hI (by simp))
 have HF := Lib.hid h
 have HM := Lib.hid hm
 have HNE := Lib.hid hne
 have HKN := Lib.hid hkn
 obtain ⟨op, ps, s1, tx, mn, mx, p1, n1, c1', rfl⟩ := he.formN
 clear h hm hne hkn he
 unfold exCells at HE ⊢
 try dsimp only at HE
 go_enter Tryz.func79, Tryz.ntmps79
 go_wp2_with fail
 go_at_call 50
 refine name_calls (fun W hW => ?_)
 have hgW : Gr w W := by rw [hW]; exact (Gr.alloc _ _).trans (Gr.alloc _ _)
 have hI : RefI w0 X fb w.heap.size dm nd fd known ev c0 c1 c2 c3 c5 b [] [fb] W := by
  refine ⟨HF.out.later hgW, ?_, fun e => by have := (HF.out.low fb HF.out.mem).2; omega, HM.out.later hgW, HNE.out, HKN.out, rfl⟩
  rw [hW]
  exact (boxAt.new_atN _ _ _ rfl rfl).later (Gr.alloc _ _)
 have HGW := Lib.hid hgW
 clear hW hgW
 (with_reducible refine (HE.out _ W hI).mono ?_); rintro e' w1 ⟨rfl, R1, hI1, hk1, hr1⟩
 rw [List.nil_append] at hI1
 have HF1 := Lib.hid hI1.fs
 have HK1 := Lib.hid (show KpR [fb] w w1 from (KpR.gr HGW.out).trans hk1 (fun x hx => .inl hx))
 clear hI hI1 hk1 hr1
 go_wp2_with fail
 go_end0
 exact ⟨rfl, HF1.out, HK1.out⟩
end Go.Proofs.YtkkopdmemjncdaaGreatDoor
namespace Go.Proofs.YtkkopdmemjncdaaGreatDoor
open Go Go.RowKit
set_option maxRecDepth 100000 in
set_option maxHeartbeats 4000000 in
theorem read1_any (s : Sc) (vm vd vr : Value) (w : World) (h : ScIn w s vm vd vr) (tb : Nat) (hb : boxAt w tb [vm, vd, vr]) (k : Nat) (x : Nt) (hx : (modeN s)[k]? = some x) :
  Calls Tryz.prog 76 #[.int .i64 (k : Int), .pointer (some ⟨tb, 0, none⟩)] w fun e w2 => e = .returned (.tuple #[.string x.1, .int .i64 x.2]) ∧ Gr w w2 := by
 obtain ⟨m, hk, rfl⟩ : ∃ m, s.modes[k]? = some m ∧ x = (m.name, m.pos) := by
  unfold modeN at hx
  rw [List.getElem?_map] at hx
  cases hk : s.modes[k]? with
  | none => rw [hk] at hx; cases hx
  | some m => rw [hk] at hx; injection hx with hx; exact ⟨m, rfl, hx.symm⟩
 have hms := h.modes
 obtain ⟨pm, cm, rfl⟩ := hms.len
 obtain ⟨b2, off, hpm, hbl, hc⟩ := mode_at hms hk
 obtain ⟨nm, ow, po⟩ := m
 subst hpm
 have hkl := (List.getElem?_eq_some_iff.1 hk).1
 have hmx := h.modesB
 obtain ⟨n, hn⟩ : ∃ n, s.modes.length = n := ⟨_, rfl⟩
 rw [hn] at hkl hmx hb
 have k0 : w.cell? ⟨b2, off + k * 3, none⟩ = some (.string nm) := hc 0 _ rfl
 have k2 : w.cell? ⟨b2, off + k * 3 + 2, none⟩ = some (.int .i64 po) := hc 2 _ rfl
 have hkI : (k : Int) < (n : Int) := by omega
 have hnI : (n : Int) ≤ 9223372036854775807 := by omega
 clear h hk hc hn hms hx
 dsimp only
 go_enter Tryz.func76, Tryz.ntmps76
 obtain ⟨c_t0, c_t1, c_t2, m_t0, m_t1, m_t2, l_t⟩ := unb3 hb
 go_wp2_with fail
 refine wp_region_G (.take 0 (.take 1 (.take 2 (.take 3 (.take 4 (.take 5 (.take 6 (.take 7 (.take 8 (.take 9 (.take 10 (.take 11 (.run 12 false (.run 13 true .nil)))))))))))))) (by kernel_rfl) (by kernel_rfl) ?_
 simp only [pickOps, nthOp]
 intro wq hG
 repeat (first | (refine wpG_skip_take ?_ ?_; (focus rfl); try simp only [Act.put, List.setIfInBounds_toArray, List.set_cons_zero, List.set_cons_succ]) | (refine wpG_skip_run ?_ ?_; (focus rfl); try simp only [Act.put, List.setIfInBounds_toArray, List.set_cons_zero, List.set_cons_succ]) | (refine wpG_run ?_ (fun K hK => ?_); (focus rfl); go_simp; (try dsimp only); refine hK.out _ _ hG ?_; clear hK K; try simp only [Act.put, List.setIfInBounds_toArray, List.set_cons_zero, List.set_cons_succ]) | (refine wpG_take ?_ ?_; (focus rfl); apply Exists.intro; refine ⟨fun w' hw' => ?_, ?_⟩; (focus (have hc := Gr.cells hw'; go_simp; (try rfl); done)); try simp only [Act.put, List.setIfInBounds_toArray, List.set_cons_zero, List.set_cons_succ]))
 all_goals
  refine wpG_last ?_ (fun K hK => ?_); (focus rfl)
  have hc := hG.cells
  have hm := hG.marks
  go_simp
  refine hK.out _ _ ?_
  try simp only [Act.put, List.setIfInBounds_toArray, List.set_cons_zero, List.set_cons_succ]
  clear hK K hc hm
  refine wpG_done ?_
  go_wp2_with fail
  refine bodyPost_ret (v := .tuple #[.string nm, .int .i64 po]) (by simp [results, Tryz.results76, go_sem]) rfl ⟨rfl, ?_⟩
  exact hG
set_option maxRecDepth 100000 in
set_option maxHeartbeats 4000000 in
theorem read2_any (s : Sc) (vm vd vr : Value) (w : World) (h : ScIn w s vm vd vr) (tb : Nat) (hb : boxAt w tb [vm, vd, vr]) (k : Nat) (x : Nt) (hx : (defN s)[k]? = some x) :
  Calls Tryz.prog 78 #[.int .i64 (k : Int), .pointer (some ⟨tb, 0, none⟩)] w fun e w2 => e = .returned (.tuple #[.string x.1, .int .i64 x.2]) ∧ Gr w w2 := by
 obtain ⟨p, hk, rfl⟩ : ∃ p, h.dl[k]? = some p ∧ x = (p.1.name, p.1.pos) := by
  unfold defN at hx
  rw [List.getElem?_map, ← h.hd, List.getElem?_map] at hx
  cases hk : h.dl[k]? with
  | none => rw [hk] at hx; cases hx
  | some m => rw [hk] at hx; injection hx with hx; exact ⟨m, rfl, hx.symm⟩
 have hms := h.defs
 have hin := h.defsI _ (List.mem_of_getElem? hk)
 have hkl := (List.getElem?_eq_some_iff.1 hk).1
 have hmx := h.defsB
 obtain ⟨n, hn⟩ : ∃ n, h.dl.length = n := ⟨_, rfl⟩
 rw [hn] at hkl hmx hms
 obtain ⟨pm, cm, e⟩ := hms.len
 subst e
 obtain ⟨b2, off, hpm, hbl, hc⟩ := elem_at hms (fun x hx => (h.defsI x hx).len) hn hk
 subst hpm
 obtain ⟨d, cs⟩ := p
 dsimp only at hin hc ⊢
 cases hin with
 | mk ec hee hnn hpp =>
 obtain ⟨nm, po, ex⟩ := d
 dsimp only at hc ⊢
 have k0 : w.cell? ⟨b2, off + k * 12, none⟩ = some (.string nm) := hc 0 _ rfl
 have k1 : w.cell? ⟨b2, off + k * 12 + 1, none⟩ = some (.int .i64 po) := hc 1 _ rfl
 have hkI : (k : Int) < (n : Int) := by omega
 have hnI : (n : Int) ≤ 9223372036854775807 := by omega
 clear h hk hc hn hms hx hee hnn hpp
 go_enter Tryz.func78, Tryz.ntmps78
 obtain ⟨c_t0, c_t1, c_t2, m_t0, m_t1, m_t2, l_t⟩ := unb3 hb
 go_wp2_with fail
 refine wp_region_G (.take 0 (.take 1 (.take 2 (.take 3 (.take 4 (.take 5 (.take 6 (.take 7 (.take 8 (.take 9 (.take 10 (.take 11 (.run 12 false (.run 13 true .nil)))))))))))))) (by kernel_rfl) (by kernel_rfl) ?_
 simp only [pickOps, nthOp]
 intro wq hG
 repeat (first | (refine wpG_skip_take ?_ ?_; (focus rfl); try simp only [Act.put, List.setIfInBounds_toArray, List.set_cons_zero, List.set_cons_succ]) | (refine wpG_skip_run ?_ ?_; (focus rfl); try simp only [Act.put, List.setIfInBounds_toArray, List.set_cons_zero, List.set_cons_succ]) | (refine wpG_run ?_ (fun K hK => ?_); (focus rfl); go_simp; (try dsimp only); refine hK.out _ _ hG ?_; clear hK K; try simp only [Act.put, List.setIfInBounds_toArray, List.set_cons_zero, List.set_cons_succ]) | (refine wpG_take ?_ ?_; (focus rfl); apply Exists.intro; refine ⟨fun w' hw' => ?_, ?_⟩; (focus (have hc := Gr.cells hw'; go_simp; (try rfl); done)); try simp only [Act.put, List.setIfInBounds_toArray, List.set_cons_zero, List.set_cons_succ]))
 all_goals
  refine wpG_last ?_ (fun K hK => ?_); (focus rfl)
  have hc := hG.cells
  have hm := hG.marks
  go_simp
  refine hK.out _ _ ?_
  try simp only [Act.put, List.setIfInBounds_toArray, List.set_cons_zero, List.set_cons_succ]
  clear hK K hc hm
  refine wpG_done ?_
  go_wp2_with fail
  refine bodyPost_ret (v := .tuple #[.string nm, .int .i64 po]) (by simp [results, Tryz.results78, go_sem]) rfl ⟨rfl, ?_⟩
  exact hG
def TrailsE (r : Rl) (w0 w w' : World) (e : Ending) : Prop := ∃ (b : Nat) (el : List (Ex × List Value)), e = .returned (.slice (some ⟨b, 0, none⟩) el.length el.length) ∧ w.heap.size ≤ b ∧ el.map (·.1) = trailsR r ∧ el.length ≤ 2 ∧ Sl w' (.slice (some ⟨b, 0, none⟩) el.length el.length) 10 el.length (el.flatMap (·.2)) ∧ (∀ p ∈ el, ExIn w0 p.1 p.2)
set_option maxRecDepth 100000 in
set_option maxHeartbeats 4000000 in
theorem
    trails_any (r : Rl) (cs : List Value) (w0 w : World) (h : RlIn w0 r cs) : Calls Tryz.prog 80 #[.agg cs.toArray] w fun e w' => TrailsE r w0 w w' e ∧ Gr w w' := by
 obtain ⟨ec, tc, he, ht, hel, htl, hcs⟩ : ∃ ec tc, ExIn w0 r.head ec ∧ ExIn w0 r.trail tc ∧ cs[13]? = some (.bool r.hasTrail) ∧ ec = (cs.drop 3).take 10 ∧ tc = (cs.drop 14).take 10 := by
  cases h with
  |
   mk vm va ec tc he ht hm hmn hmb hmo ha han hab hao hl hp =>
   obtain ⟨op, ps, s1, tx, mn, mx, p1, n1, c1, rfl⟩ := he.formN
   obtain ⟨op2, ps2, s2, tx2, mn2, mx2, p2, n2, c2, rfl⟩ := ht.formN
   exact ⟨_, _, he, ht, rfl, rfl, rfl⟩
 obtain ⟨po, al, pum, num, cum, op, ps, s1, tx, mn, mx, p1, n1, c1, ht', op2, ps2, s2, tx2, mn2, mx2, p2, n2, c2, lb, pua, nua, cua, rfl⟩ := h.form
 simp only [List.drop, List.take] at htl hcs
 subst htl hcs
 have hbt : ht' = r.hasTrail := by simp at hel; exact hel
 subst hbt
 have HE := Lib.hid he
 have HT := Lib.hid ht
 obtain ⟨TL, hTL⟩ : ∃ T, trailsR r = T := ⟨_, rfl⟩
 have HTL := Lib.hid hTL
 obtain ⟨q, hq⟩ : ∃ q, r.hasTrail = q := ⟨_, rfl⟩
 have HQ := Lib.hid hq
 rw [hq]
 clear h hel he ht hTL hq
 cases q with
 |
  true =>
  go_enter Tryz.func80, Tryz.ntmps80
  go_wp2_with fail
  refine name_body (fun W hW => ?_)
  have x1 : boxAt W (w.heap.size + 1) [.int .i64 op, .int .i64 ps, .int .u64 (wd s1 0), .int .u64 (wd s1 1), .int .u64 (wd s1 2), .int .u64 (wd s1 3), .string tx, .int .i64 mn, .int .i64 mx, .slice p1 n1 c1, .int .i64 op2, .int .i64 ps2, .int .u64 (wd s2 0), .int .u64 (wd s2 1), .int .u64 (wd s2 2), .int .u64 (wd s2 3), .string tx2, .int .i64 mn2, .int .i64 mx2, .slice p2 n2 c2] := by rw [hW]; exact boxAt.new_atN _ _ _ rfl (by simp)
  have hgW : Gr w W := by rw [hW]; exact (Gr.alloc _ _).trans (Gr.alloc _ _)
  have hlt := x1.lt (by simp)
  have X1 := Lib.hid x1
  clear hW x1
  go_ret
  exact ⟨⟨w.heap.size + 1, [(r.head, [.int .i64 op, .int .i64 ps, .int .u64 (wd s1 0), .int .u64 (wd s1 1), .int .u64 (wd s1 2), .int .u64 (wd s1 3), .string tx, .int .i64 mn, .int .i64 mx, .slice p1 n1 c1]), (r.trail, [.int .i64 op2, .int .i64 ps2, .int .u64 (wd s2 0), .int .u64 (wd s2 1), .int .u64 (wd s2 2), .int .u64 (wd s2 3), .string tx2, .int .i64 mn2, .int .i64 mx2, .slice p2 n2 c2])], rfl, by omega, by unfold trailsR; rw [if_pos HQ.out]; rfl, by simp,
   ⟨rfl, (show (2 : Nat) ≤ maxLen by decide), .inr ⟨w.heap.size + 1, 0, 2, rfl, fun _ => hlt, fun j u hj => by rw [Nat.zero_add]; exact X1.out.cell j u hj⟩⟩, fun p hp => by
    rcases List.mem_cons.1 hp with rfl | hp
    · exact HE.out
    · rw [List.mem_singleton] at hp; subst hp; exact HT.out⟩, hgW⟩
 |
  false =>
  go_enter Tryz.func80, Tryz.ntmps80
  go_wp2_with fail
  refine name_body (fun W hW => ?_)
  have x1 : boxAt W (w.heap.size + 1) [.int .i64 op, .int .i64 ps, .int .u64 (wd s1 0), .int .u64 (wd s1 1), .int .u64 (wd s1 2), .int .u64 (wd s1 3), .string tx, .int .i64 mn, .int .i64 mx, .slice p1 n1 c1] := by rw [hW]; exact boxAt.new_atN _ _ _ rfl (by simp)
  have hgW : Gr w W := by rw [hW]; exact (Gr.alloc _ _).trans (Gr.alloc _ _)
  have hlt := x1.lt (by simp)
  have X1 := Lib.hid x1
  clear hW x1
  go_ret
  exact ⟨⟨w.heap.size + 1, [(r.head, [.int .i64 op, .int .i64 ps, .int .u64 (wd s1 0), .int .u64 (wd s1 1), .int .u64 (wd s1 2), .int .u64 (wd s1 3), .string tx, .int .i64 mn, .int .i64 mx, .slice p1 n1 c1])], rfl, by omega, by unfold trailsR; rw [if_neg (by rw [HQ.out]; simp)]; rfl, by simp,
   ⟨rfl, (show (1 : Nat) ≤ maxLen by decide), .inr ⟨w.heap.size + 1, 0, 1, rfl, fun _ => hlt, fun j u hj => by rw [Nat.zero_add]; exact X1.out.cell j u hj⟩⟩, fun p hp => by
    rw [List.mem_singleton] at hp; subst hp; exact HE.out⟩, hgW⟩
end Go.Proofs.YtkkopdmemjncdaaGreatDoor
