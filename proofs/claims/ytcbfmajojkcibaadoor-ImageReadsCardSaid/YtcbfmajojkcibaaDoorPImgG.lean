/- image.number: a number from the front, or a panic. No condition but that the bytes lie elsewhere than the reader. -/
import Derived.Test.YtcbfmajojkcibaaDoorPImgF
import Derived.Laws.BitsAllLaws
namespace Go.Proofs.YtcbfmajojkcibaaDoor
open Go Go.RowKit

theorem i64_or_nat (a b : Nat) (ha : a < 4611686018427387904) (hb : b < 4611686018427387904) : bits .or .i64 (a : Int) (b : Int) = ((a ||| b : Nat) : Int) := by
  have hab : a ||| b < 2 ^ 62 := Nat.or_lt_two_pow (by omega) (by omega)
  show IntKind.i64.wrap ((BitVec.ofInt 64 (a : Int) ||| BitVec.ofInt 64 (b : Int)).toNat : Int) = _
  rw [BitVec.toNat_or, ofInt_u64 a (by omega), ofInt_u64 b (by omega), IntWalk.i64_in _ (by omega)]
/-- All blocks but p are as they were. -/
structure KpP (p : Nat) (w w' : World) : Prop where
  os : w'.os = w.os
  tape : w'.tape = w.tape
  output : w'.output = w.output
  size : w.heap.size ≤ w'.heap.size
  block : ∀ k, k < w.heap.size → k ≠ p → w'.heap[k]? = w.heap[k]?
theorem KpP.refl (p : Nat) (w : World) : KpP p w w := ⟨rfl, rfl, rfl, Nat.le_refl _, fun _ _ _ => rfl⟩
theorem KpP.trans {p : Nat} {a b c : World} (h : KpP p a b) (k : KpP p b c) : KpP p a c :=
  ⟨k.os.trans h.os, k.tape.trans h.tape, k.output.trans h.output, Nat.le_trans h.size k.size, fun i hi hp => (k.block i (Nat.lt_of_lt_of_le hi h.size) hp).trans (h.block i hi hp)⟩
theorem KpP.gr {p : Nat} {w w' : World} (h : Gr w w') : KpP p w w' := ⟨h.os, h.tape, h.output, h.size, fun k hk _ => Below.block h k hk⟩
theorem KpP.at_p {p : Nat} {w w' : World} (h : KpP p w w') (j : Nat) (v : Value) : KpP p w (w'.setCell ⟨p, j, none⟩ v) :=
  ⟨h.os, h.tape, h.output, by simp [World.setCell]; exact h.size, fun k hk hp => (Below.heap_setCell w' ⟨p, j, none⟩ v k (by rintro rfl; exact hp rfl)).trans (h.block k hk hp)⟩
theorem boxAt.keptP {w w' : World} {p b : Nat} {vs : List Value} (h : boxAt w b vs) (hk : KpP p w w') (hb : b ≠ p) (hn : 0 < vs.length) : boxAt w' b vs := h.heap (hk.block b (h.lt hn) hb)
theorem KpP.cell {p : Nat} {w w' : World} (hk : KpP p w w') {a : Addr} {v : Value} (h : w.cell? a = some v) (ha : a.block ≠ p) : w'.cell? a = some v := by
  rw [← h]; exact World.cell?_of_block (w := w) (hk.block a.block (World.block_lt_of_cell? w _ h) ha)

/-- What is left behind so many bytes of a number. -/
def combV (j acc : Nat) : Option (Nat × List UInt8) → Option (Nat × List UInt8)
  | none => none
  | some (m, r) => if j ≠ 0 ∧ m = 0 then none else some (acc + 128 ^ j * m, r)
theorem combV_zero (x : Option (Nat × List UInt8)) : combV 0 0 x = x := by
  cases x with
  | none => rfl
  | some y => obtain ⟨m, r⟩ := y; simp [combV]
theorem combV_step (j acc : Nat) (c : UInt8) (l : List UInt8) (hc : ¬ c.toNat < 128) : combV j acc (rdV (c :: l)) = combV (j + 1) (acc + c.toNat % 128 * 128 ^ j) (rdV l) := by
  rw [rdV, if_neg hc]
  cases rdV l with
  | none => rfl
  | some y =>
    obtain ⟨m, r⟩ := y
    dsimp only
    by_cases hm : m = 0
    · rw [if_pos hm]; simp [combV, hm]
    · rw [if_neg hm]
      simp only [combV]
      rw [if_neg (by omega), if_neg (by omega), Nat.pow_succ, Nat.mul_add]
      congr 2
      rw [Nat.mul_comm (128 ^ j) (c.toNat % 128), Nat.mul_assoc (128 ^ j) 128 m]
      omega
theorem wrap64_small (x : Nat) (h : x < 34359738368) : wrap64 (x : Int) = (x : Int) := by unfold wrap64; omega
theorem shl_fact (d sh X : Nat) (h : d * 2 ^ sh = X) (hX : X < 34359738368) : wrap64 ((d : Int) * 2 ^ sh) = (X : Int) := by
  have e : (d : Int) * 2 ^ sh = (X : Int) := by rw [← h, Int.natCast_mul, Int.natCast_pow]; rfl
  rw [e]; exact wrap64_small X hX
theorem or_fact (acc X sh d : Nat) (h : d * 2 ^ sh = X) (hacc : acc < 2 ^ sh) (h1 : acc < 268435456) (h2 : X < 34359738368) : bits .or .i64 (acc : Int) (X : Int) = ((acc + X : Nat) : Int) := by
  have e : acc ||| X = acc + X := by
    rw [Nat.or_comm, nat_join sh X acc (by rw [← h]; exact Nat.mul_mod_left _ _) hacc, Nat.add_comm]
  rw [i64_or_nat acc X (Nat.lt_trans h1 (by decide)) (Nat.lt_trans h2 (by decide)), e]
theorem pow_fact {sh j : Nat} (h : 7 * j = sh) : 128 ^ j = 2 ^ sh := by
  rw [← h, Nat.pow_mul]
theorem numR_comb {most j acc m : Nat} {L r : List UInt8} (h : rdV L = combV j acc (some (m, r))) : numR most L = if j ≠ 0 ∧ m = 0 then none else if acc + 128 ^ j * m ≤ most then some (acc + 128 ^ j * m, r) else none := by
  unfold numR
  rw [h]
  by_cases hc : j ≠ 0 ∧ m = 0
  · simp only [combV, if_pos hc]
  · simp only [combV, if_neg hc]
/-- The reader of an image: its bytes, where it stands. -/
structure RdI (w : World) (rb : Nat) (pb : Option Addr) (c : Nat) (bs : List UInt8) (k : Nat) : Prop where
  box : boxAt w rb [.slice pb bs.length c, .int .i64 (k : Int)]
  bytes : Sl w (.slice pb bs.length c) 1 bs.length (bs.map vB)
  apart : ∀ b off, pb = some ⟨b, off, none⟩ → b ≠ rb
  le : k ≤ bs.length
  small : bs.length ≤ 70368744177664
  room : bs.length ≤ c
theorem RdI.later {w w' : World} {rb : Nat} {pb : Option Addr} {c : Nat} {bs : List UInt8} {k : Nat} (h : RdI w rb pb c bs k) (hG : Gr w w') : RdI w' rb pb c bs k := ⟨h.box.later hG, h.bytes.later hG, h.apart, h.le, h.small, h.room⟩
theorem RdI.put {w : World} {rb : Nat} {pb : Option Addr} {c : Nat} {bs : List UInt8} {k k' : Nat} (h : RdI w rb pb c bs k) (hk : k' ≤ bs.length) : RdI (w.setCell ⟨rb, 1, none⟩ (.int .i64 (k' : Int))) rb pb c bs k' := by
  refine ⟨h.box.put 1 _ (by simp), ?_, h.apart, hk, h.small, h.room⟩
  obtain ⟨h1, h2, h3⟩ := h.bytes
  refine ⟨h1, h2, h3.imp id ?_⟩
  rintro ⟨b, off, cap, hv, hb, hc⟩
  refine ⟨b, off, cap, hv, fun hn => by simp [World.setCell]; exact hb hn, fun j u hj => ?_⟩
  rw [World.cell?_setCell_other]
  · exact hc j u hj
  · intro e
    injection hv with hp _ _
    injection e with e1 _
    exact h.apart b off hp e1.symm
def refusalV : Value := .iface 88 (.agg #[])
/-- How number ends. -/
def NumEnd (w : World) (rb : Nat) (pb : Option Addr) (c : Nat) (bs : List UInt8) (k most : Nat) (e : Ending) (w' : World) : Prop := KpP rb w w' ∧ match numR most (bs.drop k) with
  | some (m, r) => e = .returned (.int .i64 (m : Int)) ∧ ∃ k', RdI w' rb pb c bs k' ∧ bs.drop k' = r
  | none => e = .panicked [{ v := refusalV, recovered := false }] ∧ ∃ k', RdI w' rb pb c bs k'

set_option maxRecDepth 100000 in
set_option maxHeartbeats 1000000 in
theorem number_any (w : World) (rb : Nat) (pb : Option Addr) (c : Nat) (bs : List UInt8) (k most : Nat) (h : RdI w rb pb c bs k) (hm : most ≤ 262144) :
    Calls Tryd.prog 65 #[.pointer (some ⟨rb, 0, none⟩), .int .i64 (most : Int)] w (NumEnd w rb pb c bs k most) := by
  have H := Lib.hid h
  obtain ⟨L, hL⟩ : ∃ L, bs.drop k = L := ⟨_, rfl⟩
  have HL := Lib.hid hL
  have hsm := h.small
  clear h hL
  go_enter Tryd.func65, Tryd.ntmps65
  go_wp2_with fail
  go_loopw [5, 6, 7] (fun n s _ wr => ∃ (j acc : Nat), n = .int .i64 (acc : Int) ∧ s = .int .i64 ((7 * j : Nat) : Int) ∧ acc < 2 ^ (7 * j) ∧ j ≤ 5 ∧ RdI wr rb pb c bs (k + j) ∧ KpP rb w wr ∧ Hid (rdV L = combV j acc (rdV (bs.drop (k + j))))) (fun _ s _ _ => 100 - (intOf s).toNat)
  case atStart => exact ⟨0, 0, rfl, rfl, by decide, by omega, H.out, KpP.refl _ _, Lib.hid (by rw [combV_zero, ← HL.out]; rfl)⟩
  case round =>
    obtain ⟨j, acc, rfl, rfl, hacc, hj, hR, hK, HE⟩ := hrel
    have xr := hR.box
    have hle := hR.le
    have HR := Lib.hid hR
    clear hR
    have NONE := Lib.hid (fun (hn : numR most L = none) => (show ∀ e w', KpP rb w w' → e = .panicked [{ v := refusalV, recovered := false }] → (∃ k', RdI w' rb pb c bs k') → NumEnd w rb pb c bs k most e w' from fun e w' h1 h2 h3 => ⟨h1, by rw [HL.out, hn]; exact ⟨h2, h3⟩⟩))
    obtain ⟨q, hq⟩ : ∃ q, k + j = q := ⟨_, rfl⟩
    have HQ := Lib.hid hq
    rw [hq] at xr hle HR HE
    obtain ⟨sh, hsh⟩ : ∃ q, 7 * j = q := ⟨_, rfl⟩
    have HSH := Lib.hid hsh
    rw [hsh] at hacc ⊢
    have hsh35 : sh ≤ 35 := by omega
    clear hq hsh
    have c_e0 := xr.cell 0 _ rfl
    have c_e1 := xr.cell 1 _ rfl
    have m_e0 := xr.mark 0 _ rfl
    have m_e1 := xr.mark 1 _ rfl
    have l_e := xr.lt (Nat.succ_pos _)
    rcases Nat.lt_or_ge q bs.length with hql | hql
    · by_cases hj5 : j = 5
      · have hn : numR most L = none := by
          unfold numR
          rw [HE.out]
          subst hj5
          cases rdV (bs.drop q) with
          | none => rfl
          | some y =>
            obtain ⟨m, r⟩ := y
            simp only [combV]
            by_cases h0 : m = 0
            · rw [if_pos ⟨by omega, h0⟩]
            · rw [if_neg (fun h => h0 h.2)]
              simp only
              rw [if_neg (by omega)]
        have Z := Lib.hid (NONE.out hn)
        have hqI := Lib.hid (show decide (bs.length ≤ q) = false from decide_eq_false (by omega))
        have hshI : 28 < (sh : Int) := by have := HSH.out; omega
        clear hn hql
        go_wp2_with fail
        refine wp_region_G (.take 0 (.take 1 (.take 2 (.take 3 (.take 4 (.take 5 (.take 6 (.take 7 (.take 8 (.take 9 (.take 10 (.take 11 (.take 12 (.take 13 .nil)))))))))))))) (by kernel_rfl) (by kernel_rfl) ?_
        simp only [pickOps, nthOp]
        intro wq hG
        repeat (first | (refine wpG_skip_take ?_ ?_; (focus rfl); try simp only [Act.put, List.setIfInBounds_toArray, List.set_cons_zero, List.set_cons_succ]) | (refine wpG_skip_run ?_ ?_; (focus rfl); try simp only [Act.put, List.setIfInBounds_toArray, List.set_cons_zero, List.set_cons_succ]) | (refine wpG_take ?_ ?_; (focus rfl); apply Exists.intro; refine ⟨fun w' hw' => ?_, ?_⟩; (focus (have hc := Gr.cells hw'; go_simp; (try rfl); done)); try simp only [Act.put, List.setIfInBounds_toArray, List.set_cons_zero, List.set_cons_succ]))
        rw [hqI.out]
        repeat (first | (refine wpG_skip_take ?_ ?_; (focus rfl); try simp only [Act.put, List.setIfInBounds_toArray, List.set_cons_zero, List.set_cons_succ]) | (refine wpG_skip_run ?_ ?_; (focus rfl); try simp only [Act.put, List.setIfInBounds_toArray, List.set_cons_zero, List.set_cons_succ]) | (refine wpG_take ?_ ?_; (focus rfl); apply Exists.intro; refine ⟨fun w' hw' => ?_, ?_⟩; (focus (have hc := Gr.cells hw'; go_simp; (try rfl); done)); try simp only [Act.put, List.setIfInBounds_toArray, List.set_cons_zero, List.set_cons_succ]))
        refine wpG_done ?_
        go_wp2_with fail
        exact ⟨rfl, Z.out _ _ (hK.trans (KpP.gr hG)) rfl ⟨q, HR.out.later hG⟩⟩
      · obtain ⟨ch, hch⟩ : ∃ c, bs[q]? = some c := ⟨_, List.getElem?_eq_getElem hql⟩
        have hqI := Lib.hid (show decide (bs.length ≤ q) = false from decide_eq_false (by omega))
        have hsh28 : sh ≤ 28 := by have := HSH.out; omega
        have hshI : (sh : Int) ≤ 28 := by omega
        have hsh0 := HSH.out
        have hj4 : j ≤ 4 := by omega
        have hdrop : bs.drop q = ch :: bs.drop (q + 1) := by
          obtain ⟨h1, h2⟩ := List.getElem?_eq_some_iff.1 hch
          rw [List.drop_eq_getElem_cons h1, h2]
        have HDR := Lib.hid hdrop
        have hsl := HR.out.bytes
        obtain ⟨b, off, hpb, hbl, hcell⟩ : ∃ b off, pb = some ⟨b, off, none⟩ ∧ b < wr.heap.size ∧ wr.cell? ⟨b, off + q, none⟩ = some (.int .u8 (ch.toNat : Int)) := by
          obtain ⟨_, _, ⟨_, h0⟩ | ⟨b, off, cap, hv, hb, hc⟩⟩ := hsl
          · omega
          · injection hv with hp _ _
            exact ⟨b, off, hp, hb (by omega), hc q _ (by rw [List.getElem?_map, hch]; rfl)⟩
        have hbrb : b ≠ rb := HR.out.apart b off hpb
        subst hpb
        obtain ⟨m, hm0⟩ : ∃ m, ch.toNat = m := ⟨_, rfl⟩
        have HM := Lib.hid hm0
        have hm256 : m < 256 := by rw [← hm0]; exact ch.toNat_lt
        rw [hm0] at hcell
        have hqlI : (q : Int) < (bs.length : Int) := by omega
        clear hch hdrop hsl hm0 hql
        go_wp2_with fail
        refine wp_region_G (.take 0 (.take 1 (.take 2 (.take 3 (.take 4 (.take 5 (.take 6 (.take 7 (.take 8 (.take 9 (.take 10 (.take 11 (.take 12 (.take 13 .nil)))))))))))))) (by kernel_rfl) (by kernel_rfl) ?_
        simp only [pickOps, nthOp]
        intro wq hG
        repeat (first | (refine wpG_skip_take ?_ ?_; (focus rfl); try simp only [Act.put, List.setIfInBounds_toArray, List.set_cons_zero, List.set_cons_succ]) | (refine wpG_skip_run ?_ ?_; (focus rfl); try simp only [Act.put, List.setIfInBounds_toArray, List.set_cons_zero, List.set_cons_succ]) | (refine wpG_take ?_ ?_; (focus rfl); apply Exists.intro; refine ⟨fun w' hw' => ?_, ?_⟩; (focus (have hc := Gr.cells hw'; go_simp; (try rfl); done)); try simp only [Act.put, List.setIfInBounds_toArray, List.set_cons_zero, List.set_cons_succ]))
        rw [hqI.out]
        repeat (first | (refine wpG_skip_take ?_ ?_; (focus rfl); try simp only [Act.put, List.setIfInBounds_toArray, List.set_cons_zero, List.set_cons_succ]) | (refine wpG_skip_run ?_ ?_; (focus rfl); try simp only [Act.put, List.setIfInBounds_toArray, List.set_cons_zero, List.set_cons_succ]) | (refine wpG_take ?_ ?_; (focus rfl); apply Exists.intro; refine ⟨fun w' hw' => ?_, ?_⟩; (focus (have hc := Gr.cells hw'; go_simp; (try rfl); done)); try simp only [Act.put, List.setIfInBounds_toArray, List.set_cons_zero, List.set_cons_succ]))
        refine wpG_done ?_
        clear c_e0 c_e1 m_e0 m_e1 l_e
        have xr4 := xr.later hG
        have hc4 := hG.cell hcell
        have hbl4 := Nat.lt_of_lt_of_le hbl hG.size
        have HG4 := Lib.hid hG
        clear hG
        have c_e0 := xr4.cell 0 _ rfl
        have c_e1 := xr4.cell 1 _ rfl
        have m_e0 := xr4.mark 0 _ rfl
        have m_e1 := xr4.mark 1 _ rfl
        have l_e := xr4.lt (Nat.succ_pos _)
        go_wp2_with fail
        obtain ⟨W4, hW4⟩ : ∃ W4, W4 = wq := ⟨_, rfl⟩
        subst hW4
        refine wp_region_G (.take 0 (.take 1 (.take 2 (.take 3 (.take 4 (.take 5 (.take 6 (.take 7 (.take 8 (.take 9 (.run 10 true .nil))))))))))) (by kernel_rfl) (by kernel_rfl) ?_
        simp only [pickOps, nthOp]
        intro wq hG
        repeat (first | (refine wpG_skip_take ?_ ?_; (focus rfl); try simp only [Act.put, List.setIfInBounds_toArray, List.set_cons_zero, List.set_cons_succ]) | (refine wpG_skip_run ?_ ?_; (focus rfl); try simp only [Act.put, List.setIfInBounds_toArray, List.set_cons_zero, List.set_cons_succ]) | (refine wpG_take ?_ ?_; (focus rfl); apply Exists.intro; refine ⟨fun w' hw' => ?_, ?_⟩; (focus (have hc := Gr.cells hw'; go_simp; (try rfl); done)); try simp only [Act.put, List.setIfInBounds_toArray, List.set_cons_zero, List.set_cons_succ]))
        refine wpG_last ?_ (fun K hK => ?_); (focus rfl)
        have hc := hG.cells
        have hm := hG.marks
        go_simp
        refine hK.out _ _ ?_
        try simp only [Act.put, List.setIfInBounds_toArray, List.set_cons_zero, List.set_cons_succ]
        clear hK K hc hm
        refine wpG_done ?_
        clear c_e0 c_e1 m_e0 m_e1 l_e
        have xr5 := xr4.later hG
        have HG5 := Lib.hid (HG4.out.trans hG)
        clear hG hc4 hbl4
        obtain ⟨W5, hW5⟩ : ∃ W5, W5 = wq := ⟨_, rfl⟩
        subst hW5
        have c_e0 := xr5.cell 0 _ rfl
        have c_e1 := xr5.cell 1 _ rfl
        have m_e0 := xr5.mark 0 _ rfl
        have m_e1 := xr5.mark 1 _ rfl
        have l_e := xr5.lt (Nat.succ_pos _)
        have hw1 : IntKind.i64.wrap ((q : Int) + 1) = ((q + 1 : Nat) : Int) := by rw [IntWalk.i64_in _ (by omega)]; omega
        have hand : bits .and .u8 (m : Int) 127 = ((m % 128 : Nat) : Int) := by
          rw [show (127 : Int) = ((127 : Nat) : Int) from rfl, u8_and_nat m 127 hm256 (by omega)]
          congr 1
          exact Nat.and_two_pow_sub_one_eq_mod m 7
        obtain ⟨d, hd⟩ : ∃ d, m % 128 = d := ⟨_, rfl⟩
        have hd128 : d < 128 := by omega
        rw [hd] at hand
        have HDD := Lib.hid hd
        have hpow : 2 ^ sh ≤ 268435456 := Nat.le_trans (Nat.pow_le_pow_right (by omega) hsh28) (by decide)
        obtain ⟨X, hX⟩ : ∃ X, d * 2 ^ sh = X := ⟨_, rfl⟩
        have hXb : X < 34359738368 := by
          rw [← hX]
          exact Nat.lt_of_le_of_lt (Nat.mul_le_mul_left d hpow) (by omega)
        have haccb : acc < 268435456 := Nat.lt_of_lt_of_le hacc hpow
        have hput := HR.out.later HG5.out
        have hput2 := hput.put (k' := q + 1) (by omega)
        have hkp2 := (hK.trans (KpP.gr HG5.out)).at_p 1 (.int .i64 ((q + 1 : Nat) : Int))
        have hq1 : ((q + 1 : Nat) : Int) = (q : Int) + 1 := by omega
        rw [hq1] at hput2 hkp2
        have HPUT := Lib.hid (show _ ∧ _ from ⟨hput2, hkp2⟩)
        clear hput hput2 hkp2 hq1
        have hsl := shl_fact d sh X hX hXb
        have hor := or_fact acc X sh d hX hacc haccb hXb
        obtain ⟨A, hA⟩ : ∃ A, acc + X = A := ⟨_, rfl⟩
        rw [hA] at hor
        have HA := Lib.hid hA
        have HX := Lib.hid hX
        have HACC := Lib.hid hacc
        have hAb : A < 68719476736 := by rw [← hA]; exact Nat.lt_of_lt_of_le (Nat.add_lt_add haccb hXb) (by decide)
        have hpj : 128 ^ j = 2 ^ sh := pow_fact hsh0
        have HPJ := Lib.hid hpj
        clear hd hX hA hacc hpow hpj hXb haccb hsh0
        by_cases hm128 : m < 128
        · have hdm : d = m := by rw [← HDD.out]; exact Nat.mod_eq_of_lt hm128
          have hval : acc + 128 ^ j * m = A := by
            rw [HPJ.out, ← HA.out, ← HX.out, hdm, Nat.mul_comm]
          have hrd : rdV L = combV j acc (some (m, bs.drop (q + 1))) := by
            rw [HE.out, HDR.out, rdV, HM.out, if_pos hm128]
          have hm128I : (m : Int) < 128 := by exact_mod_cast hm128
          rcases Nat.eq_zero_or_pos m with hm0 | hm0
          · rcases Nat.eq_zero_or_pos j with hj0 | hj0
            · have hsh00 : sh = 0 := by rw [← HSH.out, hj0]
              have hacc0 : acc = 0 := by have := HACC.out; rw [hsh00] at this; exact Nat.lt_one_iff.1 this
              have hA0 : A = 0 := by rw [← hval, hacc0, hm0, Nat.mul_zero]
              have hn : numR most L = some (0, bs.drop (q + 1)) := by
                rw [numR_comb hrd, if_neg (fun h => h.1 hj0), hval, hA0, if_pos (Nat.zero_le _)]
              have Z := Lib.hid (show NumEnd w rb (some ⟨b, off, none⟩) c bs k most (.returned (.int .i64 ((0 : Nat) : Int))) (W5.setCell ⟨rb, 1, none⟩ (.int .i64 ((q : Int) + 1))) from ⟨HPUT.out.2, by
                rw [HL.out, hn]; exact ⟨rfl, q + 1, HPUT.out.1, rfl⟩⟩)
              have hmost : ¬ (most : Int) < 0 := by omega
              have f1 : bits .and .u8 0 127 = 0 := by decide +kernel
              have f2 : wrap64 0 = 0 := by decide +kernel
              have f3 : bits .or .i64 0 0 = 0 := by decide +kernel
              clear hval hrd hn hdm hsl hor hand
              subst hsh00 hA0 hm0 hacc0
              clear hj0
              go_wp2_with fail
              go_ret
              exact Z.out
            · have hn : numR most L = none := by
                rw [numR_comb hrd, if_pos ⟨by omega, hm0⟩]
              have Z := Lib.hid (NONE.out hn)
              have hshp : (0 : Int) < (sh : Int) := by have := HSH.out; omega
              subst hm0
              clear hval hrd hn hj0 hdm
              go_wp2_with fail
              exact ⟨rfl, Z.out _ _ HPUT.out.2 rfl ⟨q + 1, HPUT.out.1⟩⟩
          · have hmz : ((m : Int) == 0) = false := by rw [beq_eq_false_iff_ne]; omega
            by_cases hAm : A ≤ most
            · have hn : numR most L = some (A, bs.drop (q + 1)) := by
                rw [numR_comb hrd, if_neg (fun h => by omega), hval, if_pos hAm]
              have Z := Lib.hid (show NumEnd w rb (some ⟨b, off, none⟩) c bs k most (.returned (.int .i64 (A : Int))) (W5.setCell ⟨rb, 1, none⟩ (.int .i64 ((q : Int) + 1))) from ⟨HPUT.out.2, by
                rw [HL.out, hn]; exact ⟨rfl, q + 1, HPUT.out.1, rfl⟩⟩)
              have hAI : ¬ (most : Int) < (A : Int) := by omega
              clear hval hrd hn hm0 hdm
              go_wp2_with fail
              go_ret
              exact Z.out
            · have hn : numR most L = none := by
                rw [numR_comb hrd, if_neg (fun h => by omega), hval, if_neg hAm]
              have Z := Lib.hid (NONE.out hn)
              have hAI : (most : Int) < (A : Int) := by omega
              clear hval hrd hn hm0 hdm
              go_wp2_with fail
              exact ⟨rfl, Z.out _ _ HPUT.out.2 rfl ⟨q + 1, HPUT.out.1⟩⟩
        · have hrd : rdV L = combV (j + 1) A (rdV (bs.drop (k + (j + 1)))) := by
            rw [HE.out, HDR.out, combV_step j acc ch _ (by rw [HM.out]; exact hm128), HM.out, HDD.out, HPJ.out, HX.out, HA.out, ← Nat.add_assoc, HQ.out]
          have hAlt : A < 2 ^ (7 * (j + 1)) := by
            rw [← HA.out, ← HX.out, Nat.mul_add, Nat.mul_one, Nat.pow_add, HSH.out]
            have h1 := HACC.out
            have h2 : (d + 1) * 2 ^ sh ≤ 128 * 2 ^ sh := Nat.mul_le_mul_right _ hd128
            rw [Nat.add_mul, Nat.one_mul] at h2
            rw [Nat.mul_comm (2 ^ sh)]
            exact Nat.lt_of_lt_of_le (by rw [Nat.add_comm]; exact Nat.add_lt_add_left h1 _) h2
          have HRD := Lib.hid hrd
          have HALT := Lib.hid hAlt
          have hm128I : ¬ (m : Int) < 128 := by omega
          have hw7 : IntKind.i64.wrap ((sh : Int) + 7) = ((7 * (j + 1) : Nat) : Int) := by rw [IntWalk.i64_in _ (by omega)]; have := HSH.out; omega
          clear hrd hAlt hm128
          go_wp2_with fail
          go_roundw
          case rel => exact ⟨j + 1, A, rfl, by have := HSH.out; congr 1 <;> omega, HALT.out, by omega, by rw [← Nat.add_assoc, HQ.out]; exact HPUT.out.1, HPUT.out.2, HRD⟩
          case measure => have := HSH.out; simp [intOf]; omega
    · have hqe : bs.length = q := by omega
      have hn : numR most L = none := by
        unfold numR
        rw [HE.out, List.drop_of_length_le (by omega)]
        rfl
      have Z := Lib.hid (NONE.out hn)
      have hqI := Lib.hid (show decide (bs.length ≤ q) = true from decide_eq_true (by omega))
      have hqJ : ¬ q < bs.length := by omega
      clear hn hql hqe
      go_wp2_with fail
      refine wp_region_G (.take 0 (.take 1 (.take 2 (.take 3 (.take 4 (.take 5 (.take 6 (.take 7 (.take 8 (.take 9 (.take 10 (.take 11 (.take 12 (.take 13 .nil)))))))))))))) (by kernel_rfl) (by kernel_rfl) ?_
      simp only [pickOps, nthOp]
      intro wq hG
      repeat (first | (refine wpG_skip_take ?_ ?_; (focus rfl); try simp only [Act.put, List.setIfInBounds_toArray, List.set_cons_zero, List.set_cons_succ]) | (refine wpG_skip_run ?_ ?_; (focus rfl); try simp only [Act.put, List.setIfInBounds_toArray, List.set_cons_zero, List.set_cons_succ]) | (refine wpG_take ?_ ?_; (focus rfl); apply Exists.intro; refine ⟨fun w' hw' => ?_, ?_⟩; (focus (have hc := Gr.cells hw'; go_simp; (try rfl); done)); try simp only [Act.put, List.setIfInBounds_toArray, List.set_cons_zero, List.set_cons_succ]))
      rw [hqI.out]
      repeat (first | (refine wpG_skip_take ?_ ?_; (focus rfl); try simp only [Act.put, List.setIfInBounds_toArray, List.set_cons_zero, List.set_cons_succ]) | (refine wpG_skip_run ?_ ?_; (focus rfl); try simp only [Act.put, List.setIfInBounds_toArray, List.set_cons_zero, List.set_cons_succ]) | (refine wpG_take ?_ ?_; (focus rfl); apply Exists.intro; refine ⟨fun w' hw' => ?_, ?_⟩; (focus (have hc := Gr.cells hw'; go_simp; (try rfl); done)); try simp only [Act.put, List.setIfInBounds_toArray, List.set_cons_zero, List.set_cons_succ]))
      refine wpG_done ?_
      go_wp2_with fail
      exact ⟨rfl, Z.out _ _ (hK.trans (KpP.gr hG)) rfl ⟨q, HR.out.later hG⟩⟩

end Go.Proofs.YtcbfmajojkcibaaDoor
