/- bolterref0.EqLexemes of like lists. No condition. -/
import Derived.Test.YtdjankfcmoblhaaDoorPLexBlanks
namespace Go.Proofs.YtdjankfcmoblhaaDoor
open Go Go.RowKit

@[go_sem] theorem eqSet9 (s t : BitVec 256) (w : World) : (Op.equalIn 9999 30 (.agg #[.int .u64 (wd s 0), .int .u64 (wd s 1), .int .u64 (wd s 2), .int .u64 (wd s 3)]) (.agg #[.int .u64 (wd t 0), .int .u64 (wd t 1), .int .u64 (wd t 2), .int .u64 (wd t 3)])).run Tryd.prog w = .ok (s == t) w := by
  rw [← wd_beq]; exact eqSet_d 9997 _ _ _ _ _ _ _ _ w
@[go_sem] theorem eqSet9_zero (s : BitVec 256) (w : World) : (Op.equalIn 9999 30 (.agg #[.int .u64 (wd s 0), .int .u64 (wd s 1), .int .u64 (wd s 2), .int .u64 (wd s 3)]) (.agg #[.int .u64 0, .int .u64 0, .int .u64 0, .int .u64 0])).run Tryd.prog w = .ok (s == emptyS) w := by
  rw [← wd_beq, wd_zero, wd_zero, wd_zero, wd_zero]; exact eqSet_d 9997 _ _ _ _ _ _ _ _ w
@[go_sem] theorem eqSet9_00 (w : World) : (Op.equalIn 9999 30 (.agg #[.int .u64 0, .int .u64 0, .int .u64 0, .int .u64 0]) (.agg #[.int .u64 0, .int .u64 0, .int .u64 0, .int .u64 0])).run Tryd.prog w = .ok true w := eqSet_d 9997 0 0 0 0 0 0 0 0 w
theorem sl_lex {w : World} {b off cap : Nat} {L : List Tok} (h : Sl w (.slice (some ⟨b, off, none⟩) L.length cap) 9 L.length (L.flatMap tokC)) (h0 : L ≠ []) : b < w.heap.size ∧ ∀ i x, L[i]? = some x → ∀ j u, (tokC x)[j]? = some u → w.cell? ⟨b, off + i * 9 + j, none⟩ = some u := by
  obtain ⟨_, _, ⟨_, hn⟩ | ⟨b', off', cap', hv, hb, hc⟩⟩ := h
  · exact absurd (List.eq_nil_of_length_eq_zero hn) h0
  · injection hv with h1 _ _
    simp only [Option.some.injEq, Addr.mk.injEq, and_true] at h1
    obtain ⟨rfl, rfl⟩ := h1
    refine ⟨hb (fun h => h0 (List.eq_nil_of_length_eq_zero h)), fun i x hx j u hj => ?_⟩
    have hj9 : j < 9 := by
      rcases Nat.lt_or_ge j 9 with h | h
      · exact h
      · rw [List.getElem?_eq_none (by rw [tokC_len]; exact h)] at hj; cases hj
    rw [Nat.add_assoc]
    exact hc _ _ (by rw [flatMap_get tokC 9 tokC_len L i j x hx hj9]; exact hj)
set_option maxRecDepth 100000 in
set_option maxHeartbeats 4000000 in
theorem eqLexemes_same (L : List Tok) (v u : Value) (w : World) (hv : Sl w v 9 L.length (L.flatMap tokC)) (hu : Sl w u 9 L.length (L.flatMap tokC)) :
    Calls Tryd.prog 11 #[v, u] w fun e w' => e = .returned (.bool true) ∧ Gr w w' := by
  have hmax := hv.2.1
  unfold maxLen at hmax
  obtain ⟨p, cap, rfl⟩ := hv.len
  obtain ⟨q, caq, rfl⟩ := hu.len
  have HV := Lib.hid hv
  have HU := Lib.hid hu
  clear hv hu
  go_enter Tryd.func11, Tryd.ntmps11
  go_wp2_with fail
  go_loopw [5] (fun i wr => ∃ k : Nat, k ≤ L.length ∧ i = .int .i64 (k : Int) ∧ Gr w wr) (fun i _ => L.length - (intOf i).toNat)
  case atStart => exact ⟨0, Nat.zero_le _, rfl, Gr.refl _⟩
  case round =>
    obtain ⟨k, hk, rfl, hr⟩ := hrel
    cases hx : L[k]? with
    | none =>
      have hkl : k = L.length := by
        rcases Nat.lt_or_ge k L.length with h | h
        · rw [List.getElem?_eq_getElem h] at hx; cases hx
        · omega
      subst hkl
      clear hx hk
      go_wp2_with fail
      go_ret
      exact ⟨rfl, hr⟩
    | some x =>
      have hkl : k < L.length := (List.getElem?_eq_some_iff.1 hx).1
      have h0 : L ≠ [] := fun h => by rw [h] at hkl; exact absurd hkl (Nat.not_lt_zero _)
      obtain ⟨b, off, rfl⟩ : ∃ b off, p = some ⟨b, off, none⟩ := by
        obtain ⟨_, _, ⟨_, hn⟩ | ⟨b', off', cap', hv, _⟩⟩ := HV.out
        · omega
        · injection hv with h1 _ _; exact ⟨_, _, h1⟩
      obtain ⟨b2, off2, rfl⟩ : ∃ b off, q = some ⟨b, off, none⟩ := by
        obtain ⟨_, _, ⟨_, hn⟩ | ⟨b', off', cap', hv, _⟩⟩ := HU.out
        · omega
        · injection hv with h1 _ _; exact ⟨_, _, h1⟩
      obtain ⟨hb, hc⟩ := sl_lex (HV.out.later hr) h0
      obtain ⟨hb2, hc2⟩ := sl_lex (HU.out.later hr) h0
      have a0 := hc k x hx 0 _ rfl
      have a1 := hc k x hx 1 _ rfl
      have a2 := hc k x hx 2 _ rfl
      have a3 := hc k x hx 3 _ rfl
      have a4 := hc k x hx 4 _ rfl
      have a5 := hc k x hx 5 _ rfl
      have a6 := hc k x hx 6 _ rfl
      have a7 := hc k x hx 7 _ rfl
      have a8 := hc k x hx 8 _ rfl
      have d0 := hc2 k x hx 0 _ rfl
      have d1 := hc2 k x hx 1 _ rfl
      have d2 := hc2 k x hx 2 _ rfl
      have d3 := hc2 k x hx 3 _ rfl
      have d4 := hc2 k x hx 4 _ rfl
      have d5 := hc2 k x hx 5 _ rfl
      have d6 := hc2 k x hx 6 _ rfl
      have d7 := hc2 k x hx 7 _ rfl
      have d8 := hc2 k x hx 8 _ rfl
      rw [Nat.add_zero] at a0 d0
      have hkI : (k : Int) < (L.length : Int) := by omega
      have hkw : IntKind.i64.wrap ((k : Int) + 1) = ((k + 1 : Nat) : Int) := by rw [IntWalk.i64_in _ (by omega)]; omega
      have HLT := Lib.hid hkl
      have HR := Lib.hid hr
      clear hc hc2 hx h0 hkl hk hr
      go_wp2_with fail
      refine wp_region_G (.take 0 (.take 1 (.take 2 (.take 3 (.take 4 (.take 5 (.take 6 (.take 7 (.take 8 .nil))))))))) (by kernel_rfl) (by kernel_rfl) ?_
      simp only [pickOps, nthOp]
      intro wq hG
      repeat (first | (refine wpG_skip_take ?_ ?_; (focus rfl); try simp only [Act.put, List.setIfInBounds_toArray, List.set_cons_zero, List.set_cons_succ]) | (refine wpG_skip_run ?_ ?_; (focus rfl); try simp only [Act.put, List.setIfInBounds_toArray, List.set_cons_zero, List.set_cons_succ]) | (refine wpG_take ?_ ?_; (focus rfl); apply Exists.intro; refine ⟨fun w' hw' => ?_, ?_⟩; (focus (have hc := Gr.cells hw'; go_simp; (try rfl); done)); try simp only [Act.put, List.setIfInBounds_toArray, List.set_cons_zero, List.set_cons_succ]))
      refine wpG_done ?_
      go_wp2_with fail
      go_roundw
      case rel => exact ⟨k + 1, by have := HLT.out; omega, by go_num, HR.out.trans hG⟩
      case measure => have := HLT.out; simp [intOf]; omega

theorem sl_head {w : World} {b off cap n : Nat} {L : List Tok} (h : Sl w (.slice (some ⟨b, off, none⟩) L.length cap) 9 L.length (L.flatMap tokC)) (hn : n ≤ L.length) :
    Sl w (.slice (some ⟨b, off, none⟩) n cap) 9 (L.take n).length ((L.take n).flatMap tokC) := by
  rw [List.length_take, Nat.min_eq_left hn]
  refine ⟨?_, Nat.le_trans hn h.2.1, ?_⟩
  · rw [flatMap_len tokC 9 tokC_len, List.length_take, Nat.min_eq_left hn]
  · rcases Nat.eq_zero_or_pos n with rfl | h0
    · exact .inl ⟨⟨_, _, rfl⟩, rfl⟩
    · have hne : L ≠ [] := fun e => by rw [e] at hn; simp at hn; omega
      obtain ⟨hb, hc⟩ := sl_lex h hne
      refine .inr ⟨b, off, cap, rfl, fun _ => hb, fun j u hj => ?_⟩
      have hlt : j < ((L.take n).flatMap tokC).length := (List.getElem?_eq_some_iff.1 hj).1
      rw [flatMap_len tokC 9 tokC_len, List.length_take, Nat.min_eq_left hn] at hlt
      have hq : j / 9 < n := by omega
      have hx : (L.take n)[j / 9]? = some (L[j / 9]'(by omega)) := by rw [List.getElem?_take, if_pos hq, List.getElem?_eq_getElem (by omega)]
      have hm : j % 9 < 9 := by omega
      have hj2 : ((L.take n).flatMap tokC)[(j / 9) * 9 + j % 9]? = some u := by rw [show (j / 9) * 9 + j % 9 = j by omega]; exact hj
      rw [flatMap_get tokC 9 tokC_len (L.take n) (j / 9) (j % 9) _ hx hm] at hj2
      have := hc (j / 9) (L[j / 9]'(by omega)) (List.getElem?_eq_getElem (by omega)) (j % 9) u hj2
      rw [show off + j / 9 * 9 + j % 9 = off + j by omega] at this
      exact this
theorem run_upto {P : Program} (w : World) (t : TypeId) (l : List UInt8) (b : Nat) (ht : P.underlying t = some .string) (h2 : b ≤ l.length) :
    (Instr.slice t (.string (st l)) none (some (.int .i64 (b : Int))) none).run P w = .ok (.string (st (l.take b))) w := by
  rw [run_slice_string_to_if w t (st l) .i64 (b : Int) ht, if_pos (by rw [st_size]; omega), Int.toNat_natCast, st_extract]; rfl

end Go.Proofs.YtdjankfcmoblhaaDoor
