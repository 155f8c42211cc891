/- bolterref1: Spans; the longest rows of neighbours are one. No condition. -/
import Derived.Test.YtihjmeoklbmnmaaDoorRefD
namespace Go.Proofs.YtihjmeoklbmnmaaDoor
open Go Go.RowKit

theorem Runs.last {acc : List Sp} {l : List UInt8} (h : Runs acc l) : ∀ p, acc.getLast? = some p → l.getLast? = some p.2 := by
  cases h with
  | nil => intro p h; simp at h
  | new acc l b _ _ => intro p h; simp at h; subst h; simp
  | ext acc q l b _ _ => intro p h; simp at h; subst h; simp
theorem Runs.empty {acc : List Sp} {l : List UInt8} (h : Runs acc l) : acc = [] → l = [] := by
  cases h with
  | nil => intro _; rfl
  | new acc l b _ _ => intro h; simp at h
  | ext acc q l b _ _ => intro h; simp at h
theorem Runs.back {r : List Sp} {l : List UInt8} (h : Runs r l) : (l = [] ∧ r = []) ∨ (∃ acc l' b, l = l' ++ [b] ∧ r = acc ++ [(b, b)] ∧ Runs acc l' ∧ ∀ p, acc.getLast? = some p → p.2.toNat + 2 ≤ b.toNat) ∨
    (∃ acc p l' b, l = l' ++ [b] ∧ r = acc ++ [(p.1, b)] ∧ Runs (acc ++ [p]) l' ∧ p.2.toNat + 1 = b.toNat) := by
  cases h with
  | nil => exact .inl ⟨rfl, rfl⟩
  | new acc l b h1 h2 => exact .inr (.inl ⟨acc, l, b, rfl, rfl, h1, h2⟩)
  | ext acc q l b h1 h2 => exact .inr (.inr ⟨acc, q, l, b, rfl, rfl, h1, h2⟩)
theorem snoc_inj {α : Type} {a b : List α} {x y : α} (h : a ++ [x] = b ++ [y]) : a = b ∧ x = y := by
  have := List.append_inj' h rfl
  exact ⟨this.1, by simpa using this.2⟩
theorem Runs.one {r : List Sp} {l : List UInt8} (h : Runs r l) : ∀ r', Runs r' l → r = r' := by
  induction h with
  | nil => intro r' h'; rcases h'.back with ⟨_, h⟩ | ⟨acc, l', b, e, _⟩ | ⟨acc, p, l', b, e, _⟩
           · exact h.symm
           · simp at e
           · simp at e
  | new acc l b h1 h2 ih =>
    intro r' h'
    rcases h'.back with ⟨e, _⟩ | ⟨acc', l', b', e, rfl, h3, _⟩ | ⟨acc', p, l', b', e, rfl, h3, h4⟩
    · simp at e
    · obtain ⟨rfl, rfl⟩ := snoc_inj e
      rw [ih _ h3]
    · obtain ⟨rfl, rfl⟩ := snoc_inj e
      have := ih _ h3
      have h5 := h2 p (by rw [this]; simp)
      omega
  | ext acc q l b h1 h2 ih =>
    intro r' h'
    rcases h'.back with ⟨e, _⟩ | ⟨acc', l', b', e, rfl, h3, h4⟩ | ⟨acc', p, l', b', e, rfl, h3, h4⟩
    · simp at e
    · obtain ⟨rfl, rfl⟩ := snoc_inj e
      have := ih _ h3
      have h5 := h4 q (by rw [← this]; simp)
      omega
    · obtain ⟨rfl, rfl⟩ := snoc_inj e
      have := ih _ h3
      obtain ⟨rfl, rfl⟩ := snoc_inj this
      rfl

/-- What the last span says of the byte below. -/
theorem runs_yes (s : BitVec 256) (k : Nat) (hk : k < 256) (r : List Sp) (h : Runs r (bytesTo s (k + 1))) (hy : s.getLsbD k = true) : ∃ q p, r = q ++ [p] ∧ p.2.toNat = k := by
  have h0 : bytesTo s (k + 1) = bytesTo s k ++ [UInt8.ofNat k] := bytesTo_yes s k hy
  rcases List.eq_nil_or_concat r with rfl | ⟨q, p, rfl⟩
  · have := h.empty rfl; rw [h0] at this; simp at this
  · rw [List.concat_eq_append] at h ⊢
    refine ⟨q, p, rfl, ?_⟩
    have := h.last p (by simp)
    rw [h0] at this; simp at this
    rw [← this, toNat_ofNat8 k hk]
theorem runs_no (s : BitVec 256) (k : Nat) (hk : k < 256) (r : List Sp) (h : Runs r (bytesTo s k)) (hy : k = 0 ∨ ∃ j, k = j + 1 ∧ s.getLsbD j = false) : ∀ p, r.getLast? = some p → p.2.toNat + 2 ≤ k := by
  intro p hp
  have h1 := h.last p hp
  have h2 := (mem_bytesTo s k (by omega) p.2).1 (List.mem_of_getLast? h1)
  rcases hy with rfl | ⟨j, rfl, hj⟩
  · omega
  · rcases Nat.lt_or_ge p.2.toNat j with h3 | h3
    · omega
    · have : p.2.toNat = j := by omega
      rw [this, hj] at h2; exact absurd h2.2 (by simp)

set_option maxRecDepth 100000 in
set_option maxHeartbeats 4000000 in
theorem r1spans (s : BitVec 256) (w : World) : Calls Tryd.prog 23 #[.agg #[.int .u64 (wd s 0), .int .u64 (wd s 1), .int .u64 (wd s 2), .int .u64 (wd s 3)]] w (SomeSpans (bytesOf s) w) := by
  obtain ⟨i0, hi, hz0, hz1, hz2⟩ := info_parts info_span
  go_enter Tryd.func23, Tryd.ntmps23
  go_wp2_with fail
  go_loopw [3, 4] (fun v i wr => ∃ (k : Nat) (r : List Sp), k ≤ 256 ∧ i = .int .i64 (k : Int) ∧ Hid (Runs r (bytesTo s k)) ∧ wr.ownsRow (w.heap.size + 1) 53 2 v r.length (spsCells r) ∧ Gr w wr ∧ w.heap.size + 1 ≤ wr.heap.size ∧ boxAt wr w.heap.size [.int .u64 (wd s 0), .int .u64 (wd s 1), .int .u64 (wd s 2), .int .u64 (wd s 3)] ∧ (r = [] → v = .slice none 0 0)) (fun _ i _ => 256 - (intOf i).toNat)
  case atStart =>
    refine ⟨0, [], by omega, rfl, Lib.hid (by unfold bytesTo; exact .nil), World.ownsRow_nil _ _ _ _, Gr.alloc _ _, by simp, ?_, fun _ => rfl⟩
    exact boxAt.new [.int .u64 (wd s 0), .int .u64 (wd s 1), .int .u64 (wd s 2), .int .u64 (wd s 3)] 29 rfl
  case round =>
    obtain ⟨k, r, hk, rfl, HR, hown, hg, hz, xs, hnil⟩ := hrel
    by_cases hlt : k < 256
    · have hlI : (k : Int) < 256 := by omega
      have hl := bytesTo_len s k
      have hrl := HR.out.len
      have HL := Lib.hid hlt
      have HN := Lib.hid hnil
      obtain ⟨x, hx⟩ : ∃ x, s.getLsbD k = x := ⟨_, rfl⟩
      have HX := Lib.hid hx
      clear hlt hk hx hnil
      have c_s0 := xs.cell 0 _ rfl
      have c_s1 := xs.cell 1 _ rfl
      have c_s2 := xs.cell 2 _ rfl
      have c_s3 := xs.cell 3 _ rfl
      have m_s0 := xs.mark 0 _ rfl
      have m_s1 := xs.mark 1 _ rfl
      have m_s2 := xs.mark 2 _ rfl
      have m_s3 := xs.mark 3 _ rfl
      have l_s := xs.lt (Nat.succ_pos _)
      go_wp2_with fail
      clear c_s0 c_s1 c_s2 c_s3 m_s0 m_s1 m_s2 m_s3 l_s
      go_at_call 39
      refine (r1has s k x _ HL.out HX.out).mono ?_; rintro e w1 ⟨rfl, hb⟩
      replace xs := xs.later hb
      replace hown := owns_later hown hb
      have hs1 : w.heap.size + 1 ≤ w1.heap.size := by have := hb.size; omega
      replace hg := hg.trans hb
      clear hb hz
      cases x
      · have HB := Lib.hid (bytesTo_no s k HX.out)
        go_wp2_with fail
        go_roundw
        case rel => exact ⟨k + 1, r, by have := HL.out; omega, by go_num, by rw [HB.out]; exact HR, hown, hg, hs1, xs, HN.out⟩
        case measure => have := HL.out; simp [intOf]; omega
      · have HB := Lib.hid (bytesTo_yes s k HX.out)
        have c_s0 := xs.cell 0 _ rfl
        have c_s1 := xs.cell 1 _ rfl
        have c_s2 := xs.cell 2 _ rfl
        have c_s3 := xs.cell 3 _ rfl
        have m_s0 := xs.mark 0 _ rfl
        have m_s1 := xs.mark 1 _ rfl
        have m_s2 := xs.mark 2 _ rfl
        have m_s3 := xs.mark 3 _ rfl
        have l_s := xs.lt (Nat.succ_pos _)
        by_cases hk0 : k = 0
        · have hk0N : ¬ 0 < k := by omega
          have hk0I : ¬ (0 : Int) < (k : Int) := by omega
          have HK0 := Lib.hid hk0
          clear hk0
          go_wp2_with (at_builtin; refine wpList_append_own _ rfl (.tmp 29) (.tmp 35) 50 rfl (w.heap.size + 1) 53 i0 (.agg #[.int .u8 0, .int .u8 0]) 2 2 Tryd.underlying50 hi hz0 hz1 hz2 rfl (by decide) _ _ _ rfl (hown.alloc _) ⟨w1.heap.size, 0, none⟩ 1 1 [.int .u8 (k : Int), .int .u8 (k : Int)] rfl rfl ?c1 ?c2 ?c3 ?c4 ?c5 ?_)
          case c1 => exact new2_cells _ _ _ _
          case c2 => exact two_one _ _
          case c3 => unfold maxLen; omega
          case c4 => omega
          case c5 => simp; omega
          intro v' w3 hown2 hgrow _
          have hne : ∀ b, u3.ownBlock = some b → w.heap.size + 1 ≤ b := fun b hb => (World.ownsRow.lt hown b hb).1
          have R1 : Gr w w3 := Gr.grown (hg.trans (Gr.alloc _ _)) hgrow (fun b hb => by have := hne b hb; omega)
          have R2 := (xs.later (Gr.alloc w1 (.cells #[.int .u8 (k : Int), .int .u8 (k : Int)] 53))).grown hgrow (by simp) (fun e => by have := hne _ e; omega)
          have R3 := hgrow.size
          have R4 : w3.ownsRow (w.heap.size + 1) 53 2 v' (r ++ [(UInt8.ofNat k, UInt8.ofNat k)]).length (spsCells (r ++ [(UInt8.ofNat k, UInt8.ofNat k)])) := by
            rw [spsCells_snoc, List.length_append]
            have : vB (UInt8.ofNat k) = .int .u8 (k : Int) := by unfold vB; rw [UInt8.toNat_ofNat_of_lt' HL.out]
            rw [this]; exact hown2
          have R5 : w.heap.size + 1 ≤ w3.heap.size := by simp at R3; omega
          clear hown2 hgrow hown hne R3
          go_wp2_with fail
          go_roundw
          case rel =>
            refine ⟨k + 1, r ++ [(UInt8.ofNat k, UInt8.ofNat k)], by have := HL.out; omega, by go_num, ?_, R4, R1, R5, R2, fun h => by simp at h⟩
            rw [HB.out]
            refine Lib.hid (.new _ _ _ HR.out ?_)
            rw [toNat_ofNat8 k HL.out]
            exact runs_no s k HL.out r HR.out (.inl HK0.out)
          case measure => have := HL.out; simp [intOf]; omega
        · obtain ⟨j, hj⟩ : ∃ j, k = j + 1 := ⟨k - 1, by omega⟩
          have hk0N : 0 < k := by omega
          have hk0I : (0 : Int) < (k : Int) := by omega
          have HJ := Lib.hid hj
          have ek : IntKind.i64.wrap ((k : Int) - 1) = (j : Int) := by rw [IntWalk.i64_in _ (by omega)]; omega
          obtain ⟨y, hy⟩ : ∃ y, s.getLsbD j = y := ⟨_, rfl⟩
          have HY := Lib.hid hy
          clear hk0 hj hy
          go_wp2_with fail
          clear c_s0 c_s1 c_s2 c_s3 m_s0 m_s1 m_s2 m_s3 l_s
          go_at_call 39
          refine (r1has s j y _ (by have := HJ.out; have := HL.out; omega) HY.out).mono ?_; rintro e w2 ⟨rfl, hb⟩
          replace xs := xs.later hb
          replace hown := owns_later hown hb
          have hs2 : w.heap.size + 1 ≤ w2.heap.size := by have := hb.size; omega
          replace hg := hg.trans hb
          clear hb hs1 ek
          cases y
          · skip
            go_wp2_with (at_builtin; refine wpList_append_own _ rfl (.tmp 29) (.tmp 35) 50 rfl (w.heap.size + 1) 53 i0 (.agg #[.int .u8 0, .int .u8 0]) 2 2 Tryd.underlying50 hi hz0 hz1 hz2 rfl (by decide) _ _ _ rfl (hown.alloc _) ⟨w2.heap.size, 0, none⟩ 1 1 [.int .u8 (k : Int), .int .u8 (k : Int)] rfl rfl ?c1 ?c2 ?c3 ?c4 ?c5 ?_)
            case c1 => exact new2_cells _ _ _ _
            case c2 => exact two_one _ _
            case c3 => unfold maxLen; omega
            case c4 => omega
            case c5 => simp; omega
            intro v' w3 hown2 hgrow _
            have hne : ∀ b, u3.ownBlock = some b → w.heap.size + 1 ≤ b := fun b hb => (World.ownsRow.lt hown b hb).1
            have R1 : Gr w w3 := Gr.grown (hg.trans (Gr.alloc _ _)) hgrow (fun b hb => by have := hne b hb; omega)
            have R2 := (xs.later (Gr.alloc w2 (.cells #[.int .u8 (k : Int), .int .u8 (k : Int)] 53))).grown hgrow (by simp) (fun e => by have := hne _ e; omega)
            have R3 := hgrow.size
            have R4 : w3.ownsRow (w.heap.size + 1) 53 2 v' (r ++ [(UInt8.ofNat k, UInt8.ofNat k)]).length (spsCells (r ++ [(UInt8.ofNat k, UInt8.ofNat k)])) := by
              rw [spsCells_snoc, List.length_append]
              have : vB (UInt8.ofNat k) = .int .u8 (k : Int) := by unfold vB; rw [UInt8.toNat_ofNat_of_lt' HL.out]
              rw [this]; exact hown2
            have R5 : w.heap.size + 1 ≤ w3.heap.size := by simp at R3; omega
            clear hown2 hgrow hown hne R3
            go_wp2_with fail
            go_roundw
            case rel =>
              refine ⟨k + 1, r ++ [(UInt8.ofNat k, UInt8.ofNat k)], by have := HL.out; omega, by go_num, ?_, R4, R1, R5, R2, fun h => by simp at h⟩
              rw [HB.out]
              refine Lib.hid (.new _ _ _ HR.out ?_)
              rw [toNat_ofNat8 k HL.out]
              exact runs_no s k HL.out r HR.out (.inr ⟨j, HJ.out, HY.out⟩)
            case measure => have := HL.out; simp [intOf]; omega
          · obtain ⟨q, p, hrq, hpk⟩ := runs_yes s j (by have := HJ.out; have := HL.out; omega) r (by have := HR.out; rw [HJ.out] at this; exact this) HY.out
            subst hrq
            obtain ⟨g, cap, rfl, hBg, hgl, _⟩ := owns_block hown (by simp)
            have hl1 : (q ++ [p]).length = q.length + 1 := by simp
            rw [hl1] at hown hrl ⊢
            have c2 := owns_cell hown _ _ (spsCells_hi q p)
            have m2 := owns_mark hown (q.length * 2 + 1)
            obtain ⟨m, hm⟩ : ∃ m, q.length = m := ⟨_, rfl⟩
            have HO := Lib.hid hown
            have HM := Lib.hid hm
            have HP := Lib.hid hpk
            have HGB := Lib.hid hBg
            rw [hm] at c2 m2 hrl ⊢
            clear hown hm hpk hBg hl1
            unfold vB at c2
            have hmI : (m : Int) + 1 ≤ 256 := by have := HL.out; omega
            have em : IntKind.i64.wrap ((m : Int) + 1 - 1) = (m : Int) := by rw [IntWalk.i64_in _ (by omega)]; omega
            go_wp2_with fail
            go_roundw
            case rel =>
              refine ⟨k + 1, q ++ [(p.1, UInt8.ofNat k)], by have := HL.out; omega, by go_num, ?_, ?_, Below.setCell hg (by have := HGB.out; show _ ≤ g; omega) _, by simpa [World.setCell] using hs2, xs.far _ _ (by have := HGB.out; show g ≠ _; omega), fun h => by simp at h⟩
              · rw [HB.out]
                exact Lib.hid (.ext _ _ _ _ HR.out (by rw [toNat_ofNat8 k HL.out, HP.out, HJ.out]))
              · have := owns_set HO.out (q.length * 2 + 1) (by rw [spsCells_length, List.length_append, List.length_singleton]; omega) (vB (UInt8.ofNat k))
                rw [spsCells_setHi] at this
                rw [List.length_append, HM.out]
                unfold vB at this
                rw [toNat_ofNat8 k HL.out, HM.out] at this
                exact this
            case measure => have := HL.out; simp [intOf]; omega
    · obtain rfl : k = 256 := by omega
      have R := owns_base (B' := w.heap.size) hown (by omega)
      have HN := Lib.hid hnil
      clear hlt hown hnil
      go_wp2_with fail
      go_ret
      exact ⟨_, r, rfl, HR.out, R, hg, HN.out⟩

end Go.Proofs.YtihjmeoklbmnmaaDoor
