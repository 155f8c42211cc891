/- Texts of mine, put together: NmE, NmM, NmU. No condition but what each says. -/
import Derived.Test.YtkkopdmemjncdaaGreatDoorPHe
import Derived.Test.YtkkopdmemjncdaaGreatDoorPGb
import Derived.Test.YtkkopdmemjncdaaGreatDoorPSpE
import Derived.Maps.OwnSet
import Derived.Maps.AppendAt
namespace Go.Proofs.YtkkopdmemjncdaaGreatDoor
open Go Go.RowKit
structure KpR (R : List Nat) (w w' : World) : Prop where
 os : w'.os = w.os
 tape : w'.tape = w.tape
 output : w'.output = w.output
 size : w.heap.size ≤ w'.heap.size
 block : ∀ k, k < w.heap.size → k ∉ R → w'.heap[k]? = w.heap[k]?
theorem KpR.refl (R : List Nat) (w : World) : KpR R w w := ⟨rfl, rfl, rfl, Nat.le_refl _, fun _ _ _ => rfl⟩
theorem KpR.gr {R : List Nat} {w w' : World} (h : Gr w w') : KpR R w w' := ⟨h.os, h.tape, h.output, h.size, fun k hk _ => Below.block h k hk⟩
theorem KpR.trans {R R' : List Nat} {a b c : World} (h : KpR R a b) (k : KpR R' b c) (hr : ∀ x ∈ R', x ∈ R ∨ a.heap.size ≤ x) : KpR R a c :=
 ⟨k.os.trans h.os, k.tape.trans h.tape, k.output.trans h.output, Nat.le_trans h.size k.size, fun i hi hp => (k.block i (Nat.lt_of_lt_of_le hi h.size) (fun hm => (hr i hm).elim hp (fun h => by omega))).trans (h.block i hi hp)⟩
theorem KpR.put {R : List Nat} {w w' : World} (h : KpR R w w') {a : Addr} (ha : w.heap.size ≤ a.block ∨ a.block ∈ R) (v : Value) : KpR R w (w'.setCell a v) :=
 ⟨h.os, h.tape, h.output, by simp [World.setCell]; exact h.size, fun k hk hp => (Below.heap_setCell w' a v k (by
  rintro rfl
  rcases ha with ha | ha
  · omega
  · exact hp ha)).trans (h.block k hk hp)⟩
theorem KpR.toGr {R : List Nat} {w0 w w' : World} (h0 : Gr w0 w) (h : KpR R w w') (hp : ∀ x ∈ R, w0.heap.size ≤ x) : Gr w0 w' :=
 Below.trans h0 ⟨h.os, h.tape, h.output, h.size, fun k hk => h.block k (Nat.lt_of_lt_of_le hk h0.size) (fun hm => by have := hp k hm; omega)⟩
theorem KpR.box {R : List Nat} {w w' : World} (hk : KpR R w w') {b : Nat} {vs : List Value} (h : boxAt w b vs) (hb : b ∉ R) (hn : 0 < vs.length) : boxAt w' b vs := h.heap (hk.block b (h.lt hn) hb)
theorem KpR.grown {R : List Nat} {w a b : World} {row : Option Nat} (h : KpR R w a) (hg : a.grownBy b row) (hr : ∀ k, row = some k → w.heap.size ≤ k ∨ k ∈ R) : KpR R w b :=
 ⟨hg.os.trans h.os, hg.tape.trans h.tape, hg.output.trans h.output, Nat.le_trans h.size hg.size, fun k hk hp => (hg.block k (Nat.lt_of_lt_of_le hk h.size) (fun e => by
  rcases hr k e.symm with h | h
  · omega
  · exact hp h)).trans (h.block k hk hp)⟩
theorem KpR.mono {R R' : List Nat} {w w' : World} (h : KpR R w w') (hs : ∀ x ∈ R, x ∈ R' ∨ w.heap.size ≤ x) : KpR R' w w' := ⟨h.os, h.tape, h.output, h.size, fun k hk hp => h.block k hk (fun hm => (hs k hm).elim hp (fun h => by omega))⟩
def ownN : Ex → List Nt
 | .mk op pos _ text _ _ _ => if op = 4 then [(text, pos)] else []
theorem refsE_own (op pos : Int) (s : BitVec 256) (text : ByteArray) (mn mx : Int) (args : List Ex) : refsE (.mk op pos s text mn mx args) = ownN (.mk op pos s text mn mx args) ++ args.flatMap refsE := by
 rw [refsE, refsL_flat]; rfl
theorem flat_take {α β : Type} (f : α → List β) : ∀ (l : List α) (k : Nat) (a : α), l[k]? = some a → ((l.take k).flatMap f).length + (f a).length ≤ (l.flatMap f).length
 | [], _, _, h => by cases h
 |
  x :: l, 0, a, h => by
  have h : some x = some a := h
  injection h with h; subst h
  simp [List.flatMap_cons]
 |
  x :: l, k + 1, a, h => by
  have := flat_take f l k a (by simpa using h)
  simp only [List.take_succ_cons, List.flatMap_cons, List.length_append]; omega
structure EachIn (w0 : World) (I : List Nt → List Nat → World → Prop) : Prop where
 later : ∀ p R w w', I p R w → Gr w w' → I p R w'
 gr : ∀ p R w, I p R w → Gr w0 w
 low : ∀ p R w, I p R w → ∀ x ∈ R, w0.heap.size ≤ x ∧ x < w.heap.size
def EachEnd (I : List Nt → List Nat → World → Prop) (p : List Nt) (R : List Nat) (w w' : World) : Prop := ∃ R', I p R' w' ∧ KpR R w w' ∧ ∀ x ∈ R', x ∈ R ∨ w.heap.size ≤ x
set_option maxRecDepth 100000 in
set_option maxHeartbeats 8000000 in
theorem
    each_uses (qa qb T : Nat) (w0 : World) (I : List Nt → List Nat → World → Prop) (hI : EachIn w0 I)
  (hcl : ∀ (e : Ex) (cs : List Value) (p : List Nt) (R : List Nat) (w : World), ExIn w0 e cs → I p R w → p.length + (ownN e).length ≤ T → Calls Tryz.prog 51 #[.agg cs.toArray, .pointer (some ⟨qa, 0, none⟩), .pointer (some ⟨qb, 0, none⟩)] w fun e' w' => e' = .returned (.tuple #[]) ∧ EachEnd I (p ++ ownN e) R w w') :
  ∀ k, ∀ (e : Ex), SizeOf.sizeOf e ≤ k → ∀ (cs : List Value) (p : List Nt) (R : List Nat) (w : World), ExIn w0 e cs → I p R w → p.length + (refsE e).length ≤ T →
  Calls Tryz.prog 50 #[.agg cs.toArray, .func (.func 51) #[] #[.pointer (some ⟨qa, 0, none⟩), .pointer (some ⟨qb, 0, none⟩)]] w fun e' w' => e' = .returned (.tuple #[]) ∧ EachEnd I (p ++ refsE e) R w w' := by
 intro k
 induction k with
 | zero => intro e h; cases e; simp only [Ex.mk.sizeOf_spec] at h; omega
 |
  succ k ih =>
  intro e hk cs p R w he hIw hT
  have HE := Lib.hid (hcl e cs p R)
  cases he with
  |
   mk op
      pos s text mn mx v l h1 h2 h3 h4 h5 hlen hs hn hb hargs =>
   have hsz : ∀ p ∈ l, SizeOf.sizeOf p.1 ≤ k := fun p hp => by
    have := Ex.size_arg (.mk op pos s text mn mx (l.map (·.1))) p.1 (List.mem_map.2 ⟨p, hp, rfl⟩)
    omega
   have HX := Lib.hid (show ExIn w0 (.mk op pos s text mn mx (l.map (·.1))) _ from .mk op pos s text mn mx v l h1 h2 h3 h4 h5 hlen hs hn hb hargs)
   obtain ⟨pv, cv, rfl⟩ := hs.len
   have HIH := Lib.hid (fun (x : Ex × List Value) (hx : x ∈ l) => ih x.1 (hsz x hx) x.2)
   have HS := Lib.hid hs
   have HA := Lib.hid hargs
   have HLEN := Lib.hid hlen
   have HI := Lib.hid hI
   have HIW := Lib.hid hIw
   obtain ⟨Q, hQ⟩ : ∃ Q, p ++ ownN (.mk op pos s text mn mx (l.map (·.1))) = Q := ⟨_, rfl⟩
   have HQ := Lib.hid (show p ++ refsE (.mk op pos s text mn mx (l.map (·.1))) = Q ++ l.flatMap (fun x => refsE x.1) by rw [refsE_own, ← List.append_assoc, hQ, List.flatMap_map])
   have HTO := Lib.hid (show p.length + (ownN (.mk op pos s text mn mx (l.map (·.1)))).length ≤ T by rw [refsE_own, List.length_append] at hT; omega)
   have HT := Lib.hid (show ∀ (k : Nat) (a : Ex × List Value), l[k]? = some a → (Q ++ (l.take k).flatMap (fun x => refsE x.1)).length + (refsE a.1).length ≤ T by
    intro k a ha
    have h1 := flat_take (fun x : Ex × List Value => refsE x.1) l k a ha
    have h2 := congrArg List.length HQ.out
    rw [List.length_append, List.length_append] at h2
    rw [List.length_append]; omega)
   clear hT
   rw [hQ] at HE
   rw [HQ.out]
   have hll : l.length ≤ 9223372036854775807 := by omega
   clear ih hcl hk h1 h2 h3 h4 h5 hn hs hargs hlen hb hI hIw hsz hQ
   unfold exCells at HE HX ⊢
   try dsimp only at HE HX
   obtain ⟨n, hn⟩ : ∃ n, l.length = n := ⟨_, rfl⟩
   have HN := Lib.hid hn
   rw [hn] at HE HX hll ⊢
   clear hn
   go_enter Tryz.func50, Tryz.ntmps50
   go_wp2_with fail
   go_at_call 51
   refine name_calls (fun W hW => ?_)
   have hgW : Gr w W := by rw [hW]; exact Gr.alloc _ _
   have xb : boxAt W w.heap.size [.int .i64 op, .int .i64 pos, .int .u64 (wd s 0), .int .u64 (wd s 1), .int .u64 (wd s 2), .int .u64 (wd s 3), .string text, .int .i64 mn, .int .i64 mx, .slice pv n cv] := by rw [hW]; exact boxAt.new_atN [.int .i64 op, .int .i64 pos, .int .u64 (wd s 0), .int .u64 (wd s 1), .int .u64 (wd s 2), .int .u64 (wd s 3), .string text, .int .i64 mn, .int .i64 mx, .slice pv n cv] _ _ rfl rfl
   have hsW : w.heap.size < W.heap.size := xb.lt (by simp)
   clear hW
   (with_reducible refine (HE.out W HX.out (HI.out.later _ _ _ _ HIW.out hgW) HTO.out).mono ?_); rintro e w1 ⟨rfl, R1, hI1, hk1, hr1⟩
   have hnR : w.heap.size ∉ R := fun hm => by have := (HI.out.low _ _ _ HIW.out _ hm).2; omega
   replace xb := hk1.box xb hnR (by simp)
   replace hk1 : KpR R w w1 := (KpR.gr hgW).trans hk1 (fun x hx => .inl hx)
   replace hr1 : ∀ x ∈ R1, x ∈ R ∨ w.heap.size ≤ x := fun x hx => (hr1 x hx).imp id (fun h => by omega)
   have HI1 := Lib.hid hI1
   have HR1 := Lib.hid hr1
   have HK1 := Lib.hid hk1
   obtain ⟨c_e0, c_e1, c_e2, c_e3, c_e4, c_e5, c_e6, c_e7, c_e8, c_e9, m_e0, m_e1, m_e2, m_e3, m_e4, m_e5, m_e6, m_e7, m_e8, m_e9, l_e⟩ := unb10 xb
   clear hI1 hr1 hk1 hgW hsW hnR
   go_wp2_with fail
   go_loopw [12] (fun i wr => ∃ (k : Nat) (R2 : List Nat), k ≤ n ∧ i = .int .i64 (k : Int) ∧ Hid (I (Q ++ (l.take k).flatMap (fun x => refsE x.1)) R2 wr) ∧ Hid (KpR R w wr) ∧ Hid (∀ x ∈ R2, x ∈ R ∨ w.heap.size ≤ x)) (fun i _ => n - (intOf i).toNat)
   case atStart => exact ⟨0, R1, Nat.zero_le _, rfl, Lib.hid (by simpa using HI1.out), HK1, HR1⟩
   case round =>
    obtain ⟨k, R2, hk, rfl, HI2, HK2, HR2⟩ := hrel
    rcases Nat.lt_or_ge k n with hkn | hkn
    ·
     obtain ⟨b, off, op, pos, s, text, mn, mx, p2, n2, c2, a, rfl, hb, hx, hin, hat⟩ := args_at HS.out HLEN.out HA.out k (by rw [HN.out]; exact hkn)
     have hg := HI.out.gr _ _ _ HI2.out
     obtain ⟨hbr, hcell⟩ := hat wr hg
     unfold exCells at hcell
     have d0 := hcell 0 _ (by omega) rfl
     have d1 := hcell 1 _ (by omega) rfl
     have d2 := hcell 2 _ (by omega) rfl
     have d3 := hcell 3 _ (by omega) rfl
     have d4 := hcell 4 _ (by omega) rfl
     have d5 := hcell 5 _ (by omega) rfl
     have d6 := hcell 6 _ (by omega) rfl
     have d7 := hcell 7 _ (by omega) rfl
     have d8 := hcell 8 _ (by omega) rfl
     have d9 := hcell 9 _ (by omega) rfl
     simp only [Nat.add_zero] at d0
     have HX2 := Lib.hid hx
     have HKN := Lib.hid hkn
     have hkI : (k : Int) < (n : Int) := by omega
     have HL := Lib.hid (HIH.out _ (List.mem_of_getElem? hx))
     have HIN := Lib.hid hin
     unfold exCells at HL HIN
     try dsimp only at HL
     clear hx hk hkn hin hat hcell hb hg
     go_wp2_with fail
     go_at_call 50
     refine name_calls (fun W hW => ?_)
     have hgW : Gr wr W := by rw [hW]; exact Gr.alloc _ _
     clear hW
     (with_reducible refine (HL.out _ R2 W HIN.out (HI.out.later _ _ _ _ HI2.out hgW) (HT.out _ _ HX2.out)).mono ?_); rintro e w3 ⟨rfl, R3, hI3, hk3, hr3⟩
     have HI3 := Lib.hid (show I (Q ++ (l.take (k + 1)).flatMap (fun x => refsE x.1)) R3 w3 by
      rw [List.take_add_one, HX2.out]
      simpa using hI3)
     have HK3 := Lib.hid (show KpR R w w3 from (HK2.out.trans (KpR.gr hgW) (fun x hx => .inl hx)).trans hk3 HR2.out)
     have HR3 := Lib.hid (show ∀ x ∈ R3, x ∈ R ∨ w.heap.size ≤ x from fun x hx => (hr3 x hx).elim (HR2.out x) (fun h => .inr (by have := hgW.size; have := HK2.out.size; omega)))
     clear hI3 hk3 hr3 hgW
     go_wp2_with fail
     go_roundw
     case rel => exact ⟨k + 1, R3, HKN.out, by go_num, HI3, HK3, HR3⟩
     case measure => have := HKN.out; simp [intOf]; omega
    ·
     have hkl : ¬ (k : Int) < (n : Int) := by omega
     have HI4 := Lib.hid (show I (Q ++ l.flatMap (fun x => refsE x.1)) R2 wr by have := HI2.out; rw [List.take_of_length_le (by have := HN.out; omega)] at this; exact this)
     clear hk hkn
     go_wp2_with fail
     go_end0
     exact ⟨rfl, R2, HI4.out, HK2.out, HR2.out⟩
set_option maxRecDepth 100000 in
set_option maxHeartbeats 8000000 in
theorem
    each_refs (qa T : Nat) (w0 : World) (I : List Nt → List Nat → World → Prop) (hI : EachIn w0 I)
  (hcl : ∀ (e : Ex) (cs : List Value) (p : List Nt) (R : List Nat) (w : World), ExIn w0 e cs → I p R w → p.length + (ownN e).length ≤ T → Calls Tryz.prog 108 #[.agg cs.toArray, .pointer (some ⟨qa, 0, none⟩)] w fun e' w' => e' = .returned (.tuple #[]) ∧ EachEnd I (p ++ ownN e) R w w') :
  ∀ k, ∀ (e : Ex), SizeOf.sizeOf e ≤ k → ∀ (cs : List Value) (p : List Nt) (R : List Nat) (w : World), ExIn w0 e cs → I p R w → p.length + (refsE e).length ≤ T →
  Calls Tryz.prog 50 #[.agg cs.toArray, .func (.func 108) #[] #[.pointer (some ⟨qa, 0, none⟩)]] w fun e' w' => e' = .returned (.tuple #[]) ∧ EachEnd I (p ++ refsE e) R w w' := by
 intro k
 induction k with
 | zero => intro e h; cases e; simp only [Ex.mk.sizeOf_spec] at h; omega
 |
  succ k ih =>
  intro e hk cs p R w he hIw hT
  have HE := Lib.hid (hcl e cs p R)
  cases he with
  |
   mk op
      pos s text mn mx v l h1 h2 h3 h4 h5 hlen hs hn hb hargs =>
   have hsz : ∀ p ∈ l, SizeOf.sizeOf p.1 ≤ k := fun p hp => by
    have := Ex.size_arg (.mk op pos s text mn mx (l.map (·.1))) p.1 (List.mem_map.2 ⟨p, hp, rfl⟩)
    omega
   have HX := Lib.hid (show ExIn w0 (.mk op pos s text mn mx (l.map (·.1))) _ from .mk op pos s text mn mx v l h1 h2 h3 h4 h5 hlen hs hn hb hargs)
   obtain ⟨pv, cv, rfl⟩ := hs.len
   have HIH := Lib.hid (fun (x : Ex × List Value) (hx : x ∈ l) => ih x.1 (hsz x hx) x.2)
   have HS := Lib.hid hs
   have HA := Lib.hid hargs
   have HLEN := Lib.hid hlen
   have HI := Lib.hid hI
   have HIW := Lib.hid hIw
   obtain ⟨Q, hQ⟩ : ∃ Q, p ++ ownN (.mk op pos s text mn mx (l.map (·.1))) = Q := ⟨_, rfl⟩
   have HQ := Lib.hid (show p ++ refsE (.mk op pos s text mn mx (l.map (·.1))) = Q ++ l.flatMap (fun x => refsE x.1) by rw [refsE_own, ← List.append_assoc, hQ, List.flatMap_map])
   have HTO := Lib.hid (show p.length + (ownN (.mk op pos s text mn mx (l.map (·.1)))).length ≤ T by rw [refsE_own, List.length_append] at hT; omega)
   have HT := Lib.hid (show ∀ (k : Nat) (a : Ex × List Value), l[k]? = some a → (Q ++ (l.take k).flatMap (fun x => refsE x.1)).length + (refsE a.1).length ≤ T by
    intro k a ha
    have h1 := flat_take (fun x : Ex × List Value => refsE x.1) l k a ha
    have h2 := congrArg List.length HQ.out
    rw [List.length_append, List.length_append] at h2
    rw [List.length_append]; omega)
   clear hT
   rw [hQ] at HE
   rw [HQ.out]
   have hll : l.length ≤ 9223372036854775807 := by omega
   clear ih hcl hk h1 h2 h3 h4 h5 hn hs hargs hlen hb hI hIw hsz hQ
   unfold exCells at HE HX ⊢
   try dsimp only at HE HX
   obtain ⟨n, hn⟩ : ∃ n, l.length = n := ⟨_, rfl⟩
   have HN := Lib.hid hn
   rw [hn] at HE HX hll ⊢
   clear hn
   go_enter Tryz.func50, Tryz.ntmps50
   go_wp2_with fail
   go_at_call 108
   refine name_calls (fun W hW => ?_)
   have hgW : Gr w W := by rw [hW]; exact Gr.alloc _ _
   have xb : boxAt W w.heap.size [.int .i64 op, .int .i64 pos, .int .u64 (wd s 0), .int .u64 (wd s 1), .int .u64 (wd s 2), .int .u64 (wd s 3), .string text, .int .i64 mn, .int .i64 mx, .slice pv n cv] := by rw [hW]; exact boxAt.new_atN [.int .i64 op, .int .i64 pos, .int .u64 (wd s 0), .int .u64 (wd s 1), .int .u64 (wd s 2), .int .u64 (wd s 3), .string text, .int .i64 mn, .int .i64 mx, .slice pv n cv] _ _ rfl rfl
   have hsW : w.heap.size < W.heap.size := xb.lt (by simp)
   clear hW
   (with_reducible refine (HE.out W HX.out (HI.out.later _ _ _ _ HIW.out hgW) HTO.out).mono ?_); rintro e w1 ⟨rfl, R1, hI1, hk1, hr1⟩
   have hnR : w.heap.size ∉ R := fun hm => by have := (HI.out.low _ _ _ HIW.out _ hm).2; omega
   replace xb := hk1.box xb hnR (by simp)
   replace hk1 : KpR R w w1 := (KpR.gr hgW).trans hk1 (fun x hx => .inl hx)
   replace hr1 : ∀ x ∈ R1, x ∈ R ∨ w.heap.size ≤ x := fun x hx => (hr1 x hx).imp id (fun h => by omega)
   have HI1 := Lib.hid hI1
   have HR1 := Lib.hid hr1
   have HK1 := Lib.hid hk1
   obtain ⟨c_e0, c_e1, c_e2, c_e3, c_e4, c_e5, c_e6, c_e7, c_e8, c_e9, m_e0, m_e1, m_e2, m_e3, m_e4, m_e5, m_e6, m_e7, m_e8, m_e9, l_e⟩ := unb10 xb
   clear hI1 hr1 hk1 hgW hsW hnR
   go_wp2_with fail
   go_loopw [12] (fun i wr => ∃ (k : Nat) (R2 : List Nat), k ≤ n ∧ i = .int .i64 (k : Int) ∧ Hid (I (Q ++ (l.take k).flatMap (fun x => refsE x.1)) R2 wr) ∧ Hid (KpR R w wr) ∧ Hid (∀ x ∈ R2, x ∈ R ∨ w.heap.size ≤ x)) (fun i _ => n - (intOf i).toNat)
   case atStart => exact ⟨0, R1, Nat.zero_le _, rfl, Lib.hid (by simpa using HI1.out), HK1, HR1⟩
   case round =>
    obtain ⟨k, R2, hk, rfl, HI2, HK2, HR2⟩ := hrel
    rcases Nat.lt_or_ge k n with hkn | hkn
    ·
     obtain ⟨b, off, op, pos, s, text, mn, mx, p2, n2, c2, a, rfl, hb, hx, hin, hat⟩ := args_at HS.out HLEN.out HA.out k (by rw [HN.out]; exact hkn)
     have hg := HI.out.gr _ _ _ HI2.out
     obtain ⟨hbr, hcell⟩ := hat wr hg
     unfold exCells at hcell
     have d0 := hcell 0 _ (by omega) rfl
     have d1 := hcell 1 _ (by omega) rfl
     have d2 := hcell 2 _ (by omega) rfl
     have d3 := hcell 3 _ (by omega) rfl
     have d4 := hcell 4 _ (by omega) rfl
     have d5 := hcell 5 _ (by omega) rfl
     have d6 := hcell 6 _ (by omega) rfl
     have d7 := hcell 7 _ (by omega) rfl
     have d8 := hcell 8 _ (by omega) rfl
     have d9 := hcell 9 _ (by omega) rfl
     simp only [Nat.add_zero] at d0
     have HX2 := Lib.hid hx
     have HKN := Lib.hid hkn
     have hkI : (k : Int) < (n : Int) := by omega
     have HL := Lib.hid (HIH.out _ (List.mem_of_getElem? hx))
     have HIN := Lib.hid hin
     unfold exCells at HL HIN
     try dsimp only at HL
     clear hx hk hkn hin hat hcell hb hg
     go_wp2_with fail
     go_at_call 50
     refine name_calls (fun W hW => ?_)
     have hgW : Gr wr W := by rw [hW]; exact Gr.alloc _ _
     clear hW
     (with_reducible refine (HL.out _ R2 W HIN.out (HI.out.later _ _ _ _ HI2.out hgW) (HT.out _ _ HX2.out)).mono ?_); rintro e w3 ⟨rfl, R3, hI3, hk3, hr3⟩
     have HI3 := Lib.hid (show I (Q ++ (l.take (k + 1)).flatMap (fun x => refsE x.1)) R3 w3 by
      rw [List.take_add_one, HX2.out]
      simpa using hI3)
     have HK3 := Lib.hid (show KpR R w w3 from (HK2.out.trans (KpR.gr hgW) (fun x hx => .inl hx)).trans hk3 HR2.out)
     have HR3 := Lib.hid (show ∀ x ∈ R3, x ∈ R ∨ w.heap.size ≤ x from fun x hx => (hr3 x hx).elim (HR2.out x) (fun h => .inr (by have := hgW.size; have := HK2.out.size; omega)))
     clear hI3 hk3 hr3 hgW
     go_wp2_with fail
     go_roundw
     case rel => exact ⟨k + 1, R3, HKN.out, by go_num, HI3, HK3, HR3⟩
     case measure => have := HKN.out; simp [intOf]; omega
    ·
     have hkl : ¬ (k : Int) < (n : Int) := by omega
     have HI4 := Lib.hid (show I (Q ++ l.flatMap (fun x => refsE x.1)) R2 wr by have := HI2.out; rw [List.take_of_length_le (by have := HN.out; omega)] at this; exact this)
     clear hk hkn
     go_wp2_with fail
     go_end0
     exact ⟨rfl, R2, HI4.out, HK2.out, HR2.out⟩
end Go.Proofs.YtkkopdmemjncdaaGreatDoor
namespace Go.Proofs.YtkkopdmemjncdaaGreatDoor
open Go Go.RowKit Go.Maps
theorem lawS : Keyed Tryz.prog 9 := string_keyed Tryz.underlying9
theorem zeroInt (w : World) : (zeroValue 3).run Tryz.prog w = .ok (.int .i64 0) w := by kernel_rfl
def kyS (s : ByteArray) : Lit := .string s.data.toList
theorem key_of {s : ByteArray} (h : s.size ≤ maxLen) : keyOf Tryz.prog 9 (.string s) = some (kyS s) := WideMaps.keyOf_string_mk Tryz.underlying9 h
set_option maxRecDepth 100000 in
theorem info_strN : (Tryz.prog.info? 9).map (fun i => (i.zero, i.size, i.bytes)) = some (some (.string { data := #[] }), 1, 16) := by kernel_rfl
theorem wf_fit {v : Int} (h : fit64 v) : (Lit.int .i64 v).wf = true := WalkArith.wf_i64 h
theorem kyS_key (s : ByteArray) : WideAt.IsKeyLit (kyS s) := trivial
theorem kyS_inj {s t : ByteArray} (h : kyS s = kyS t) : s = t := by
 obtain ⟨⟨a⟩⟩ := s
 obtain ⟨⟨b⟩⟩ := t
 unfold kyS at h
 injection h with h
 simp at h
 rw [h]
def MapF (w : World) (b n : Nat) (f : ByteArray → Option Int) : Prop :=
 ∃ D : DataW Unit, w.ownsMap Tryz.prog 9 (plainElem Tryz.prog 3) b n D ∧ ∀ s : ByteArray, s.size ≤ maxLen → Maps.has D (kyS s) = (f s).isSome ∧ D.atKey (kyS s) (.lit (.int .i64 0)) = .lit (.int .i64 ((f s).getD 0))
theorem MapF.made (w : World) : MapF (w.alloc (.map #[] 0)) w.heap.size 0 (fun _ => none) := ⟨.map [], World.ownsMap_made _ _ _ _, fun _ _ => ⟨rfl, rfl⟩⟩
theorem MapF.heap {w w' : World} {b n : Nat} {f : ByteArray → Option Int} (h : MapF w b n f) (hb : w'.heap[b]? = w.heap[b]?) : MapF w' b n f := by
 obtain ⟨D, ⟨es, clock, h1, h2⟩, h3⟩ := h
 exact ⟨D, ⟨es, clock, by rw [hb]; exact h1, h2⟩, h3⟩
theorem MapF.lt {w : World} {b n : Nat} {f : ByteArray → Option Int} (h : MapF w b n f) : b < w.heap.size := by
 obtain ⟨D, h1, _⟩ := h
 exact h1.lt
theorem MapF.grown {w w' : World} {b n : Nat} {f : ByteArray → Option Int} {row : Option Nat} (h : MapF w b n f) (hg : w.grownBy w' row) (hr : row ≠ some b) : MapF w' b n f := h.heap (hg.block b h.lt (fun e => hr e.symm))
theorem MapF.far {w : World} {b n : Nat} {f : ByteArray → Option Int} (h : MapF w b n f) (a : Addr) (v : Value) (ha : a.block ≠ b) : MapF (w.setCell a v) b n f := h.heap (Below.heap_setCell w a v b (fun e => ha e.symm))
theorem MapF.later {w w' : World} {b n : Nat} {f : ByteArray → Option Int} (h : MapF w b n f) (hG : Gr w w') : MapF w' b n f := h.heap (Below.block hG b h.lt)
theorem MapF.mono {w : World} {b n n' : Nat} {f : ByteArray → Option Int} (h : MapF w b n f) (hn : n ≤ n') : MapF w b n' f := by
 obtain ⟨D, h1, h2⟩ := h
 exact ⟨D, h1.mono hn, h2⟩
theorem MapF.same {w : World} {b n : Nat} {f g : ByteArray → Option Int} (h : MapF w b n f) (hfg : ∀ s, f s = g s) : MapF w b n g := by
 have : f = g := funext hfg
 rw [← this]; exact h
set_option maxRecDepth 100000 in
theorem MapF.look {w : World} {b n : Nat} {f : ByteArray → Option Int} (h : MapF w b n f) {s : ByteArray} (hs : s.size ≤ maxLen) {c : Int} {q : Bool} (hc : (f s).getD 0 = c) (hq : (f s).isSome = q) :
  (Instr.lookup 95 (.map (some b)) (.string s) true).run Tryz.prog w = .ok (.tuple #[.int .i64 c, .bool q]) w := by
 obtain ⟨D, h1, h2⟩ := h
 obtain ⟨v, ps, hrun, hv⟩ := h1.look_ok lawS Tryz.underlying95 (zeroInt w) (plainElem_int (q := .i64) Tryz.underlying3 (a := 0) (by decide)) (key_of hs)
 obtain ⟨h3, h4⟩ := h2 s hs
 obtain ⟨c', rfl, hc', _⟩ := plainElem_int_inv Tryz.underlying3 hv
 have e := congrArg Prod.fst hc'
 dsimp only at e
 rw [h4] at e
 injection e with e
 injection e with _ e
 rw [hrun, h3, hq, ← e, hc]
set_option maxRecDepth 100000 in
theorem MapF.look1 {w : World} {b n : Nat} {f : ByteArray → Option Int} (h : MapF w b n f) {s : ByteArray} (hs : s.size ≤ maxLen) {c : Int} (hc : (f s).getD 0 = c) :
  (Instr.lookup 95 (.map (some b)) (.string s) false).run Tryz.prog w = .ok (.int .i64 c) w := by
 obtain ⟨D, h1, h2⟩ := h
 obtain ⟨c', hrun, hat, _⟩ := h1.lookup_int lawS Tryz.underlying95 Tryz.underlying3 (zeroInt w) (key_of hs)
 rw [(h2 s hs).2] at hat
 injection hat with e
 injection e with _ e
 rw [hrun, ← e, hc]
def putF (f : ByteArray → Option Int) (s : ByteArray) (v : Int) : ByteArray → Option Int := fun t => if t = s then some v else f t
set_option maxRecDepth 100000 in
theorem MapF.store {w : World} {b n : Nat} {f : ByteArray → Option Int} (h : MapF w b n f) {s : ByteArray} (hs : s.size ≤ maxLen) (hn : n < maxLen) {v : Int} (hv : (Lit.int .i64 v).wf = true) :
  ∃ w', (Instr.mapUpdate 95 (.map (some b)) (.string s) (.int .i64 v)).run Tryz.prog w = .ok () w' ∧ MapF w' b (n + 1) (putF f s v) ∧ w.grownBy w' (some b) := by
 obtain ⟨D, h1, h2⟩ := h
 obtain ⟨w', hrun, h3, h4⟩ := h1.store lawS Tryz.underlying95 hn (key_of hs) (plainElem_int Tryz.underlying3 hv)
 refine ⟨w', hrun, ⟨_, h3, fun t ht => ?_⟩, h4.grown⟩
 unfold putF
 by_cases e : t = s
 ·
  subst e
  rw [if_pos rfl]
  exact ⟨has_put_same h1.isMap (kyS_key _) _, atKey_put_same h1.isMap (kyS_key _) _ _⟩
 ·
  rw [if_neg e]
  have hne : kyS t ≠ kyS s := fun h => e (kyS_inj h)
  exact ⟨(has_put_other hne _).trans (h2 t ht).1, (atKey_put_other hne _ _).trans (h2 t ht).2⟩
section
variable {P : Program} {w : World} {ops : Array Oper} {rest : List Oper} {o : Oper} {a : Act} {Q : Exit → Act → World → Prop}
theorem wpList_storeF {w : World} {ops : Array Oper} {rest : List Oper} {o : Oper} {a : Act} {Q : Exit → Act → World → Prop} (hg : o.guard = none) (m x y : Operand) (hop : o.op = Op.mapUpdate 95 m x y) (b n : Nat) (f : ByteArray → Option Int) (h : MapF w b n f)
  (s : ByteArray) (hs : s.size ≤ maxLen) (hn : n < maxLen) (v : Int) (hv : (Lit.int .i64 v).wf = true) (hm : a.eval m = .map (some b)) (hx : a.eval x = .string s) (hy : a.eval y = .int .i64 v)
  (hK : ∀ w', MapF w' b (n + 1) (putF f s v) → w.grownBy w' (some b) → wpList Tryz.prog ops Q rest (a.put o.dst undef) w') : wpList Tryz.prog ops Q (o :: rest) a w := by
 obtain ⟨w', hrun, h1, h2⟩ := h.store hs hn hv
 refine wpList_plain hg fun K' hK' => ?_
 unfold Oper.wp
 simp [execOp, hop, hm, hx, hy, hrun, Result.andThen]
 exact hK' _ _ (hK w' h1 h2)
end
end Go.Proofs.YtkkopdmemjncdaaGreatDoor
namespace Go.Proofs.YtkkopdmemjncdaaGreatDoor
open Go Go.RowKit Go.Maps
def usesL (p : List Nt) : List ByteArray := p.foldl (fun l x => withN l x.1) []
theorem usesL_snoc (p : List Nt) (x : Nt) : usesL (p ++ [x]) = withN (usesL p) x.1 := by unfold usesL; rw [List.foldl_append]; rfl
theorem usesL_len (p : List Nt) : (usesL p).length ≤ p.length := by
 have h : ∀ (p : List Nt) (l : List ByteArray), (p.foldl (fun l x => withN l x.1) l).length ≤ l.length + p.length := fun p => by
  induction p with
  | nil => intro l; exact Nat.le_refl _
  |
   cons x p ih =>
   intro l
   have h1 := ih (withN l x.1)
   have h2 : (withN l x.1).length ≤ l.length + 1 := by unfold withN; split <;> simp
   rw [List.foldl_cons, List.length_cons]; omega
 have := h p []
 simpa [usesL] using this
structure UsesI (w0 : World) (bt bl bm : Nat) (p : List Nt) (R : List Nat) (w : World) : Prop where
 gr : Gr w0 w
 tb : boxAt w bt [.map (some bm)]
 ne1 : bt ≠ bl
 ne2 : bt ≠ bm
 ne3 : bl ≠ bm
 lo1 : w0.heap.size ≤ bt
 lo2 : w0.heap.size ≤ bl
 lo3 : w0.heap.size ≤ bm
 row : ∃ v, boxAt w bl [v] ∧ w.ownsRow w0.heap.size 9 1 v (usesL p).length ((usesL p).map .string) ∧ v.ownBlock ≠ some bt ∧ v.ownBlock ≠ some bl ∧ v.ownBlock ≠ some bm ∧ R = bl :: bm :: v.ownBlock.toList
 map : ∃ n f, MapF w bm n f ∧ n ≤ p.length ∧ ∀ s, (f s).isSome = memN (usesL p) s
theorem UsesI.each (w0 : World) (bt bl bm : Nat) : EachIn w0 (UsesI w0 bt bl bm) where
 gr := fun p R w h => h.gr
 low
   := fun p R w h x hx => by
  obtain ⟨v, h1, h2, _, _, _, rfl⟩ := h.row
  obtain ⟨n, f, h3, _⟩ := h.map
  rcases List.mem_cons.1 hx with rfl | hx
  · exact ⟨h.lo2, h1.lt (by simp)⟩
  ·
   rcases List.mem_cons.1 hx with rfl | hx
   · exact ⟨h.lo3, h3.lt⟩
   · exact World.ownsRow.lt h2 x (by simpa using hx)
 later := fun p R w w' h hG => by
  obtain ⟨v, h1, h2, h3⟩ := h.row
  obtain ⟨n, f, h4, h5⟩ := h.map
  exact ⟨h.gr.trans hG, h.tb.later hG, h.ne1, h.ne2, h.ne3, h.lo1, h.lo2, h.lo3, ⟨v, h1.later hG, owns_later h2 hG, h3⟩, ⟨n, f, h4.later hG, h5⟩⟩
theorem own_far {w : World} {B e n k : Nat} {v : Value} {xs : List Value} (h : w.ownsRow B e k v n xs) (a : Addr) (u : Value) (ha : v.ownBlock ≠ some a.block) : (w.setCell a u).ownsRow B e k v n xs := by
 refine owns_heap h (fun g hg => Below.heap_setCell w a u g (fun e => ?_))
 subst e
 exact ha hg
theorem
    UsesI.step {w0 : World} {bt bl bm : Nat} {p : List Nt} {R : List Nat} {w w1 w2 w2a w3 : World} {v v' : Value} {x : Nt} {nm : Nat} {f : ByteArray → Option Int} {z : Int} (h : UsesI w0 bt bl bm p R w) (hl : boxAt w bl [v])
  (hown : w.ownsRow w0.heap.size 9 1 v (usesL p).length ((usesL p).map .string)) (hb1 : v.ownBlock ≠ some bt) (hb2 : v.ownBlock ≠ some bl) (hb3 : v.ownBlock ≠ some bm) (hR : R = bl :: bm :: v.ownBlock.toList)
  (hnm : nm ≤ p.length) (hf : ∀ s, (f s).isSome = memN (usesL p) s) (hx : memN (usesL p) x.1 = false)
  (g1 : Gr w w1) (hm : MapF w2 bm (nm + 1) (putF f x.1 z)) (g2 : w1.grownBy w2 (some bm)) (g2a : Gr w2 w2a)
  (hown3 : w3.ownsRow w0.heap.size 9 1 v' ((usesL p).length + 1) ((usesL p).map .string ++ [.string x.1])) (g3 : w2a.grownBy w3 v.ownBlock) (hloc : v'.ownBlock = v.ownBlock ∨ v'.ownBlock = some w2a.heap.size) :
  EachEnd (UsesI w0 bt bl bm) (p ++ [x]) R w (w3.setCell ⟨bl, 0, none⟩ v') := by
 have hU : usesL (p ++ [x]) = usesL p ++ [x.1] := by rw [usesL_snoc]; unfold withN; rw [if_neg (by rw [hx]; simp)]
 have hs1 := g1.size
 have hs2 := g2.size
 have hs3 := g2a.size
 have hs4 := g3.size
 have lt1 := h.tb.lt (by simp)
 have lt2 := hl.lt (by simp)
 have lt3 := hm.lt
 have hlow : ∀ k, v.ownBlock = some k → w0.heap.size ≤ k ∧ k < w.heap.size := World.ownsRow.lt hown
 have lt4 : bm < w.heap.size := by
  obtain ⟨n, f, h3, _⟩ := h.map
  exact h3.lt
 have n1 : v'.ownBlock ≠ some bt := by
  rcases hloc with e | e
  · rw [e]; exact hb1
  · rw [e]; intro h; injection h with h; omega
 have n2 : v'.ownBlock ≠ some bl := by
  rcases hloc with e | e
  · rw [e]; exact hb2
  · rw [e]; intro h; injection h with h; omega
 have n3 : v'.ownBlock ≠ some bm := by
  rcases hloc with e | e
  · rw [e]; exact hb3
  · rw [e]; intro h; injection h with h; omega
 have kp : KpR R w (w3.setCell ⟨bl, 0, none⟩ v') :=
  ((((KpR.gr g1).grown g2 (fun k hk => by injection hk with hk; subst hk; right; rw [hR]; simp)).trans (KpR.gr (R := R) g2a) (fun x hx => .inl hx)).grown g3 (fun k hk => by right; rw [hR, hk]; simp)).put (a := ⟨bl, 0, none⟩) (.inr (by rw [hR]; simp)) v'
 have box : ∀ b vs, boxAt w b vs → 0 < vs.length → b ≠ bm → v.ownBlock ≠ some b → boxAt w3 b vs := fun b vs hb hn e1 e2 => ((((hb.later g1).grown g2 hn (fun e => by injection e with e; exact e1 e.symm)).later g2a).grown g3 hn e2)
 refine ⟨bl :: bm :: v'.ownBlock.toList, ⟨?_, (box bt _ h.tb (by simp) h.ne2 hb1).far _ _ (fun e => h.ne1 e.symm), h.ne1, h.ne2, h.ne3, h.lo1, h.lo2, h.lo3, ⟨v', ?_, ?_, n1, n2, n3, rfl⟩, ⟨nm + 1, putF f x.1 z, ?_, ?_, ?_⟩⟩, kp, fun y hy => ?_⟩
 · exact KpR.toGr h.gr kp (fun y hy => ((UsesI.each w0 bt bl bm).low _ _ _ h y hy).1)
 · exact (box bl _ hl (by simp) h.ne3 hb2).put 0 v' (by simp)
 ·
  rw [hU, List.length_append, List.map_append]
  exact own_far hown3 _ _ n2
 · exact ((hm.later g2a).grown g3 hb3).far _ _ h.ne3
 · rw [List.length_append]; simp; omega
 ·
  intro s
  rw [hU]
  unfold putF
  by_cases e : s = x.1
  ·
   subst e
   rw [if_pos rfl]
   simp [memN]
  ·
   rw [if_neg e, hf s]
   unfold memN
   rw [List.any_append]
   simp
   intro h
   exact absurd h.symm e
 ·
  rcases List.mem_cons.1 hy with rfl | hy
  · left; rw [hR]; simp
  ·
   rcases List.mem_cons.1 hy with rfl | hy
   · left; rw [hR]; simp
   ·
    have hy : v'.ownBlock = some y := by simpa using hy
    rcases hloc with e | e
    · left; rw [hR, ← e, hy]; simp
    · right; rw [e] at hy; injection hy with hy; omega
theorem name_endU {P : Program} {f : Func} {R : Ending → World → Prop} {x : Exit} {a : Act} {w0 : World} (h : ∀ W, W = w0 → bodyPost P f R x a W) : bodyPost P f R x a w0 := h _ rfl
set_option maxRecDepth 100000 in
set_option maxHeartbeats 8000000 in
theorem
    uses1_any (w0 : World) (bt bl bm T : Nat) (hT : T ≤ 1048576) (e : Ex) (cs : List Value) (p : List Nt) (R : List Nat) (w : World) (he : ExIn w0 e cs) (hI : UsesI w0 bt bl bm p R w) (hp : p.length + (ownN e).length ≤ T) :
  Calls Tryz.prog 51 #[.agg cs.toArray, .pointer (some ⟨bt, 0, none⟩), .pointer (some ⟨bl, 0, none⟩)] w fun e' w' => e' = .returned (.tuple #[]) ∧ EachEnd (UsesI w0 bt bl bm) (p ++ ownN e) R w w' := by
 obtain ⟨i0, hi, hz0, hz1, hz2⟩ := info_parts info_strN
 cases he with
 |
  mk op pos s text mn mx v l h1 h2 h3 h4 h5 hlen hs hn hb hargs =>
  obtain ⟨pv, cv, rfl⟩ := hs.len
  obtain ⟨n, hnl⟩ : ∃ n, l.length = n := ⟨_, rfl⟩
  rw [hnl]
  have HOWN := Lib.hid (show ownN (.mk op pos s text mn mx (l.map (·.1))) = if op = 4 then [(text, pos)] else [] from rfl)
  obtain ⟨O, hO⟩ : ∃ O, ownN (.mk op pos s text mn mx (l.map (·.1))) = O := ⟨_, rfl⟩
  rw [hO] at HOWN hp ⊢
  have HP := Lib.hid hp
  have HTX := Lib.hid h5
  have HI := Lib.hid hI
  have tb := hI.tb
  have ne1 := hI.ne1
  have ne2 := hI.ne2
  have ne3 := hI.ne3
  obtain ⟨vl, xl, hown, hb1, hb2, hb3, hR⟩ := hI.row
  obtain ⟨nm, f, hmap, hnm, hf⟩ := hI.map
  have HMP := Lib.hid hmap
  have HNM := Lib.hid hnm
  have HF := Lib.hid (hf text)
  have HFF := Lib.hid hf
  obtain ⟨pl, cl, rfl⟩ := (Sl.of_owns hown).len
  obtain ⟨nl, hnl2⟩ : ∃ x, (usesL p).length = x := ⟨_, rfl⟩
  obtain ⟨XS, hXS⟩ : ∃ X : List Value, (usesL p).map .string = X := ⟨_, rfl⟩
  rw [hnl2] at hb1 hb2 hb3 hown xl hR
  rw [hXS] at hown
  have HNL := Lib.hid hnl2
  have HXS := Lib.hid hXS
  have HOW := Lib.hid hown
  have HR := Lib.hid hR
  have HB := Lib.hid (show (Value.slice pl nl cl).ownBlock ≠ some bt ∧ (Value.slice pl nl cl).ownBlock ≠ some bl ∧ (Value.slice pl nl cl).ownBlock ≠ some bm from ⟨hb1, hb2, hb3⟩)
  have HNE := Lib.hid (show bt ≠ bl ∧ bt ≠ bm ∧ bl ≠ bm from ⟨ne1, ne2, ne3⟩)
  have HTT := Lib.hid hT
  have HLX := Lib.hid xl
  clear hT hI hown hmap hnm hf hR hb1 hb2 hb3 h1 h2 h3 h4 h5 hlen hs hn hb hargs hnl hO hp ne1 ne2 ne3 hnl2 hXS
  unfold exCells
  obtain ⟨q, hq⟩ : ∃ q, (f text).isSome = q := ⟨_, rfl⟩
  obtain ⟨c, hc⟩ : ∃ c, (f text).getD 0 = c := ⟨_, rfl⟩
  have HQ := Lib.hid hq
  have HC := Lib.hid hc
  clear hq hc
  go_enter Tryz.func51, Tryz.ntmps51
  have c_t0 := tb.cell 0 _ rfl
  have m_t0 := tb.mark 0 _ rfl
  have l_t := tb.lt (Nat.succ_pos _)
  have c_l0 := xl.cell 0 _ rfl
  have m_l0 := xl.mark 0 _ rfl
  have l_l := xl.lt (Nat.succ_pos _)
  have hrun := (HMP.out.later (Gr.alloc w (.cells #[.int .i64 op, .int .i64 pos, .int .u64 (wd s 0), .int .u64 (wd s 1), .int .u64 (wd s 2), .int .u64 (wd s 3), .string text, .int .i64 mn, .int .i64 mx, .slice pv n cv] 55))).look HTX.out HC.out HQ.out
  by_cases ho : op = 4
  rotate_left
  ·
   have hob : (op == 4) = false := by rw [beq_eq_false_iff_ne]; exact ho
   have hO : O = [] := by rw [HOWN.out, if_neg ho]
   have HO := Lib.hid hO
   clear ho hO
   go_wp2_with fail
   go_end0
   refine ⟨rfl, R, ?_, KpR.gr (Gr.alloc _ _), fun x hx => .inl hx⟩
   rw [HO.out, List.append_nil]
   exact (UsesI.each w0 bt bl bm).later _ _ _ _ HI.out (Gr.alloc _ _)
  have hO : O = [(text, pos)] := by rw [HOWN.out, if_pos ho]
  subst ho
  have HO := Lib.hid hO
  clear hO
  cases q with
  |
   true =>
   go_wp2_with fail
   go_end0
   refine ⟨rfl, R, ?_, KpR.gr (Gr.alloc _ _), fun x hx => .inl hx⟩
   have h1 : usesL (p ++ O) = usesL p := by rw [HO.out, usesL_snoc]; unfold withN; rw [if_pos (HF.out.symm.trans HQ.out)]
   have h2 := (UsesI.each w0 bt bl bm).later _ _ _ _ HI.out (Gr.alloc w (.cells #[.int .i64 4, .int .i64 pos, .int .u64 (wd s 0), .int .u64 (wd s 1), .int .u64 (wd s 2), .int .u64 (wd s 3), .string text, .int .i64 mn, .int .i64 mx, .slice pv n cv] 55))
   refine ⟨h2.gr, h2.tb, h2.ne1, h2.ne2, h2.ne3, h2.lo1, h2.lo2, h2.lo3, by rw [h1]; exact h2.row, ?_⟩
   rw [h1]
   obtain ⟨n, f, h3, h4, h5⟩ := h2.map
   exact ⟨n, f, h3, by rw [List.length_append]; omega, h5⟩
  |
   false =>
   have hpl : p.length + 1 ≤ 1048576 := by
    have h1 := HP.out
    have h2 := HTT.out
    rw [HO.out] at h1
    simp at h1; omega
   have HPL := Lib.hid hpl
   have hnlp : nl ≤ p.length := by rw [← HNL.out]; exact usesL_len p
   have hnI : (nl : Int) ≤ 1048576 := by omega
   have HNI := Lib.hid hnlp
   clear hpl hnlp
   go_wp2_with (first
    | (at_mapUpdate; refine wpList_storeF rfl _ _ _ rfl _ _ _ (HMP.out.later (Gr.alloc _ _)) _ HTX.out (by have := HNM.out; have := HPL.out; unfold maxLen; omega) _ (wf_fit (by have := HNI.out; have := HPL.out; unfold fit64; omega)) rfl rfl rfl ?_; intro w2 hmf2 hg2; have HMF2 := Lib.hid hmf2; have HG2 := Lib.hid hg2; have HXL2 := Lib.hid (boxAt.grown (HLX.out.later (Gr.alloc w (.cells #[.int .i64 4, .int .i64 pos, .int .u64 (wd s 0), .int .u64 (wd s 1), .int .u64 (wd s 2), .int .u64 (wd s 3), .string text, .int .i64 mn, .int .i64 mx, .slice pv n cv] 55))) hg2 (by simp) (fun e => by injection e with e; exact HNE.out.2.2 e.symm)); have e0 := HXL2.out.cell 0 _ rfl; have el := HXL2.out.lt (by simp); have n0 := HXL2.out.mark 0 _ rfl; have xe2 := (boxAt.grown (boxAt.new_atN (w := w) [.int .i64 4, .int .i64 pos, .int .u64 (wd s 0), .int .u64 (wd s 1), .int .u64 (wd s 2), .int .u64 (wd s 3), .string text, .int .i64 mn, .int .i64 mx, .slice pv n cv] 55 w.heap.size rfl rfl) hg2 (by simp) (fun e => by injection e with e; have := HMP.out.lt; omega)); have e6 := xe2.cell 6 _ rfl; have ee := xe2.lt (by simp); have HOW2 := Lib.hid (World.ownsRow.kept (HOW.out.alloc (.cells #[.int .i64 4, .int .i64 pos, .int .u64 (wd s 0), .int .u64 (wd s 1), .int .u64 (wd s 2), .int .u64 (wd s 3), .string text, .int .i64 mn, .int .i64 mx, .slice pv n cv] 55)) hg2 (.inr HB.out.2.2)); clear hmf2 hg2 xe2)
    | (at_builtin; refine wpList_append_own_at _ rfl (.tmp 25) (.tmp 28) 30 rfl w0.heap.size 9 i0 (.string ⟨#[]⟩) 1 16 Tryz.underlying30 hi hz0 hz1 hz2 rfl (by decide) _ nl XS rfl (HOW2.out.alloc _) ⟨w2.heap.size, 0, none⟩ 1 1 [.string text] rfl rfl (new_cells _ _ _) (by intro u hu; simp at hu; subst hu; rfl) (by have := HNI.out; have := HPL.out; unfold maxLen; omega) (by have := HNI.out; have := HPL.out; omega) (Nat.le_trans (show w0.heap.size ≤ w2.heap.size from Nat.le_trans HI.out.gr.size (Nat.le_trans (Gr.alloc w (.cells #[.int .i64 4, .int .i64 pos, .int .u64 (wd s 0), .int .u64 (wd s 1), .int .u64 (wd s 2), .int .u64 (wd s 3), .string text, .int .i64 mn, .int .i64 mx, .slice pv n cv] 55)).size HG2.out.size)) (Gr.alloc _ _).size) ?_; intro v' w3 hown3 hg3 _ hloc; obtain ⟨pv3, cv3, rfl⟩ := (Sl.of_owns hown3).len; have HOW3 := Lib.hid hown3; have HG3 := Lib.hid hg3; have HLOC := Lib.hid hloc; have HXL3 := Lib.hid (boxAt.grown (HXL2.out.later (Gr.alloc _ _)) hg3 (by simp) HB.out.2.1); have f0 := HXL3.out.cell 0 _ rfl; have fl := HXL3.out.lt (by simp); have o0 := HXL3.out.mark 0 _ rfl; clear hown3 hg3 hloc)
    | go_in)
   refine name_endU (fun W9 hW9 => ?_)
   go_end0
   refine ⟨rfl, ?_⟩
   rw [hW9, HO.out]
   exact UsesI.step HI.out HLX.out (by rw [HNL.out, HXS.out]; exact HOW.out) HB.out.1 HB.out.2.1 HB.out.2.2 HR.out HNM.out HFF.out (HF.out.symm.trans HQ.out) (Gr.alloc _ _) HMF2.out HG2.out (Gr.alloc _ _) (by rw [HNL.out, HXS.out]; exact HOW3.out) HG3.out HLOC.out
theorem usesN_eq (e : Ex) : usesN e = usesL (refsE e) := rfl
set_option maxRecDepth 100000 in
set_option maxHeartbeats 8000000 in
theorem
    uses_any (e : Ex) (cs : List Value) (w : World) (he : ExIn w e cs) (hT : (refsE e).length ≤ 1048576) :
  Calls Tryz.prog 18 #[.agg cs.toArray] w fun e' w' => ∃ v, e' = .returned v ∧ w'.ownsRow w.heap.size 9 1 v (usesN e).length ((usesN e).map .string) ∧ Gr w w' := by
 have HE := Lib.hid (fun (W : World) (bt bl bm : Nat) (R : List Nat) (hI : UsesI w bt bl bm [] R W) => each_uses bt bl (refsE e).length w (UsesI w bt bl bm) (UsesI.each w bt bl bm) (fun e2 cs2 p R w2 h1 h2 h3 => uses1_any w bt bl bm _ hT e2 cs2 p R w2 h1 h2 h3) _ e (Nat.le_refl _) cs [] R W he hI (by simp))
 cases he with
 |
  mk op pos s text mn mx v l h1 h2 h3 h4 h5 hlen hs hn hb hargs =>
  obtain ⟨pv, cv, rfl⟩ := hs.len
  obtain ⟨n, hnl⟩ : ∃ n, l.length = n := ⟨_, rfl⟩
  rw [usesN_eq]
  unfold exCells at HE ⊢
  try dsimp only at HE
  rw [hnl] at HE ⊢
  obtain ⟨Z, hZ⟩ : ∃ Z, refsE (.mk op pos s text mn mx (l.map (·.1))) = Z := ⟨_, rfl⟩
  rw [hZ] at HE hT ⊢
  clear h1 h2 h3 h4 h5 hlen hs hn hb hargs hnl hZ hT
  have hmm := @run_makeMap Tryz.prog
  go_enter Tryz.func18, Tryz.ntmps18
  go_wp2_with fail
  go_at_call 50
  refine name_calls (fun W hW => ?_)
  have hI : UsesI w (w.heap.size + 1 + 1 + 1) (w.heap.size + 1) (w.heap.size + 1 + 1) [] [w.heap.size + 1, w.heap.size + 1 + 1] W := by
   rw [hW]
   refine ⟨((((Gr.alloc _ _).trans (Gr.alloc _ _)).trans (Gr.alloc _ _)).trans (Gr.alloc _ _)), boxAt.new_atN _ _ _ rfl (by simp), by omega, by omega, by omega, by omega, by omega, by omega, ⟨.slice none 0 0, ?_, ?_, by simp [Value.ownBlock], by simp [Value.ownBlock], by simp [Value.ownBlock], by simp [Value.ownBlock]⟩, ⟨0, fun _ => none, ?_, Nat.le_refl _, fun s => rfl⟩⟩
   · exact (boxAt.new_atN _ _ _ rfl (by simp)).later ((Gr.alloc _ _).trans (Gr.alloc _ _))
   · exact World.ownsRow_nil _ _ _ _
   ·
    have h := MapF.made ((w.alloc (.cells #[.int .i64 op, .int .i64 pos, .int .u64 (wd s 0), .int .u64 (wd s 1), .int .u64 (wd s 2), .int .u64 (wd s 3), .string text, .int .i64 mn, .int .i64 mx, .slice pv n cv] 55)).alloc (.cells #[.slice none 0 0] 30))
    have e : ((w.alloc (.cells #[.int .i64 op, .int .i64 pos, .int .u64 (wd s 0), .int .u64 (wd s 1), .int .u64 (wd s 2), .int .u64 (wd s 3), .string text, .int .i64 mn, .int .i64 mx, .slice pv n cv] 55)).alloc (.cells #[.slice none 0 0] 30)).heap.size = w.heap.size + 1 + 1 := by simp
    rw [e] at h
    exact h.later (Gr.alloc _ _)
  (with_reducible refine (HE.out W _ _ _ _ hI).mono ?_); rintro e w1 ⟨rfl, R1, hI1, hk1, hr1⟩
  rw [List.nil_append] at hI1
  obtain ⟨v, xl, hown, _⟩ := hI1.row
  have HOW := Lib.hid hown
  have HG := Lib.hid hI1.gr
  obtain ⟨pl, cl, rfl⟩ := (Sl.of_owns hown).len
  have c_l0 := xl.cell 0 _ rfl
  have m_l0 := xl.mark 0 _ rfl
  have l_l := xl.lt (Nat.succ_pos _)
  clear hI hW hI1 hk1 hr1 hown
  go_wp2_with fail
  go_ret
  exact ⟨_, rfl, HOW.out, HG.out⟩
end Go.Proofs.YtkkopdmemjncdaaGreatDoor
