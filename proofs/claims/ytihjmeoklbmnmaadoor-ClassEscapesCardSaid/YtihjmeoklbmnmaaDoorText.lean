/- class.Text: a set's text. No condition. -/
import Derived.Test.YtihjmeoklbmnmaaDoorBackP
import Derived.Test.YtihjmeoklbmnmaaDoorBuilder
import Derived.Test.YtihjmeoklbmnmaaDoorSpansOf
namespace Go.Proofs.YtihjmeoklbmnmaaDoor
open Go Go.RowKit

theorem u8_eq (c : UInt8) (k : Nat) (hk : k < 256) : c = UInt8.ofNat k ↔ c.toNat = k := by
  constructor
  · rintro rfl; exact UInt8.toNat_ofNat_of_lt' hk
  · intro h; apply UInt8.toNat_inj.1; rw [h]; exact (UInt8.toNat_ofNat_of_lt' hk).symm
def digitsL : ByteArray := { data := #[48, 49, 50, 51, 52, 53, 54, 55, 56, 57, 97, 98, 99, 100, 101, 102] }
theorem digits_at : ∀ q, q < 16 → digitsL.extract q (q + 1) = st [hexD q] := by
  intro q hq
  have : ∀ q : Fin 16, digitsL.extract q.1 (q.1 + 1) = st [hexD q.1] := by decide
  exact this ⟨q, hq⟩
theorem index_mem (l : List UInt8) (c : UInt8) : 0 ≤ Lib.indexByte l c ↔ c ∈ l := by
  induction l with
  | nil => simp [Lib.indexByte]
  | cons b l ih =>
    have hge := Lib.indexByte_ge l c
    unfold Lib.indexByte
    by_cases h : b = c
    · subst h; simp
    · have hb : (b == c) = false := by simp [h]
      rw [hb]
      simp only [Bool.false_eq_true, if_false, List.mem_cons]
      have h' : ¬ c = b := fun e => h e.symm
      simp only [h', false_or, ← ih]
      by_cases h2 : Lib.indexByte l c = -1
      · simp [h2]
      · have : (Lib.indexByte l c == -1) = false := by simp [h2]
        rw [this]; simp only [Bool.false_eq_true, if_false]; omega

/-- Strings of known bytes, one behind the other. -/
theorem cat_is {P : Program} (x y z : ByteArray) (a b : List UInt8) (hx : x = st a) (hy : y = st b) (hz : z = st (a ++ b)) (h : a.length + b.length ≤ 9223372036854775807) :
    ∀ w : World, (Op.stringOp .add x y).run P w = .ok (.string z) w := fun w => by subst hx hy hz; exact run_cat w a b h

set_option maxRecDepth 100000 in
set_option maxHeartbeats 4000000 in
theorem written_hex (n least q r : Nat) (ms : ByteArray) (w : World) (hn : (n : Int) < 256) (e10 : ((n : Int) == 10) = false) (e9 : ((n : Int) == 9) = false) (e13 : ((n : Int) == 13) = false) (h : n < least ∨ 126 < (n : Int))
    (hq : (n : Int) / 16 = (q : Int)) (hr : (n : Int) % 16 = (r : Int)) :
    Calls Tryd.prog 22 #[.int .u8 (n : Int), .int .u8 (least : Int), .string ms] w fun e w' => e = .returned (.string (st [92, 120, hexD q, hexD r])) ∧ Gr w w' := by
  have q16 : q < 16 := by omega
  have r16 : r < 16 := by omega
  have sl : ∀ (q : Nat) (w' : World), q < 16 → (Instr.slice 9 (.string { data := #[48, 49, 50, 51, 52, 53, 54, 55, 56, 57, 97, 98, 99, 100, 101, 102] }) (some (.int .u8 (q : Int))) (some (.int .u8 ((q : Int) + 1))) none).run Tryd.prog w' = .ok (.string (st [hexD q])) w' := fun q w' hq => by
    have := run_slice_string (P := Tryd.prog) w' 9 digitsL .u8 .u8 (q : Int) ((q : Int) + 1) Tryd.underlying9 (by omega) (by omega) (by show ((q : Int) + 1) ≤ ((16 : Nat) : Int); omega)
    rw [show ((q : Int) + 1).toNat = q + 1 by omega, Int.toNat_natCast, digits_at q hq] at this
    exact this
  have slq := fun w' => sl q w' q16
  have slr := fun w' => sl r w' r16
  have ewq : IntKind.u8.wrap ((q : Int) + 1) = (q : Int) + 1 := by rw [IntKind.wrap_u8]; omega
  have ewr : IntKind.u8.wrap ((r : Int) + 1) = (r : Int) + 1 := by rw [IntKind.wrap_u8]; omega
  have c1 := cat_is (P := Tryd.prog) { data := #[92, 120] } (st [hexD q]) (st [92, 120, hexD q]) [92, 120] [hexD q] rfl rfl rfl (by simp)
  have c2 := cat_is (P := Tryd.prog) (st [92, 120, hexD q]) (st [hexD r]) (st [92, 120, hexD q, hexD r]) [92, 120, hexD q] [hexD r] rfl rfl rfl (by simp)
  have ea : bits .and .u8 (n : Int) 15 = (r : Int) := (u8_and15 (x := (n : Int)) (by omega) hn).trans hr
  clear sl q16 r16 hr
  go_enter Tryd.func22, Tryd.ntmps22
  go_wp2_with fail
  all_goals
    refine wp_region_G (.take 0 (.take 1 (.take 2 (.take 3 (.take 4 (.take 5 (.take 6 (.take 7 (.take 8 (.take 9 (.take 10 (.take 11 (.take 12 (.take 13 (.run 14 true .nil))))))))))))))) (by kernel_rfl) (by kernel_rfl) ?_
    simp only [pickOps, nthOp]
    intro wq hG
    repeat (first | (refine wpG_skip_take ?_ ?_; (focus rfl); try simp only [Act.put, List.setIfInBounds_toArray, List.set_cons_zero, List.set_cons_succ]) | (refine wpG_skip_run ?_ ?_; (focus rfl); try simp only [Act.put, List.setIfInBounds_toArray, List.set_cons_zero, List.set_cons_succ]) | (refine wpG_take ?_ ?_; (focus rfl); apply Exists.intro; refine ⟨fun w' hw' => ?_, ?_⟩; (focus (have hc := Gr.cells hw'; go_simp; (try rfl); done)); try simp only [Act.put, List.setIfInBounds_toArray, List.set_cons_zero, List.set_cons_succ]))
    rename_i w2
    refine wpG_last ?_ (fun K hK => ?_); (focus rfl)
    have hc := hG.cells
    have hm := hG.marks
    go_simp
    refine hK.out _ _ ?_
    try simp only [Act.put, List.setIfInBounds_toArray, List.set_cons_zero, List.set_cons_succ]
    clear hK K hc hm
    refine wpG_done ?_
    go_wp2
    go_ret
    exact ⟨rfl, hG⟩

theorem encode_ascii (n : Nat) (h : n < 128) : Utf8.encode (n : Int) = st [UInt8.ofNat n] := by
  have : ∀ n : Fin 128, Utf8.encode ((n.1 : Nat) : Int) = st [UInt8.ofNat n.1] := by decide
  exact this ⟨n, h⟩
theorem rune_st {P : Program} (w : World) (s t : TypeId) (n : Nat) (h : n < 128) (hs : (P.underlying s).isSome = true) (ht : P.underlying t = some .string) :
    (convert s t (.int .i32 (n : Int))).run P w = .ok (.string (st [UInt8.ofNat n])) w := by
  rw [run_convert_int_string w s t .i32 (n : Int) hs ht, encode_ascii n h]
set_option maxRecDepth 100000 in
set_option maxHeartbeats 4000000 in
theorem written_mark (n least : Nat) (marks : List UInt8) (b : Bool) (w : World) (e10 : ((n : Int) == 10) = false) (e9 : ((n : Int) == 9) = false) (e13 : ((n : Int) == 13) = false) (h : ¬ n < least) (h2 : ¬ 126 < (n : Int))
    (hb : decide (0 ≤ Lib.indexByte marks (UInt8.ofNat n)) = b) :
    Calls Tryd.prog 22 #[.int .u8 (n : Int), .int .u8 (least : Int), .string (st marks)] w fun e w' => e = .returned (.string (st (if b then [92, UInt8.ofNat n] else [UInt8.ofNat n]))) ∧ Gr w w' := by
  have hr := fun (w' : World) => rune_st (P := Tryd.prog) w' 21 9 n (by omega) (by rfl) Tryd.underlying9
  have ew : IntKind.i32.wrap (n : Int) = (n : Int) := by rw [IntKind.wrap_i32]; omega
  have c1 := cat_is (P := Tryd.prog) { data := #[92] } (st [UInt8.ofNat n]) (st [92, UInt8.ofNat n]) [92] [UInt8.ofNat n] rfl rfl rfl (by simp)
  have hc := Tryd.strings_IndexByte (st marks) (n : Int)
  rw [st_data, Int.toNat_natCast, show n.toUInt8 = UInt8.ofNat n from rfl] at hc
  obtain ⟨x, hx⟩ : ∃ x, Lib.indexByte marks (UInt8.ofNat n) = x := ⟨_, rfl⟩
  rw [hx] at hb hc
  clear hx
  have HC := Lib.hid hc
  clear hc
  cases b
  · have h0 : ¬ 0 ≤ x := by simpa using hb
    clear hb
    go_enter Tryd.func22, Tryd.ntmps22
    go_wp2_with (go_at_call 38; (with_reducible refine (HC.out _).mono ?_); rintro e w' ⟨rfl, rfl⟩)
    go_ret
    exact ⟨rfl, Gr.refl _⟩
  · have h0 : 0 ≤ x := by simpa using hb
    clear hb
    go_enter Tryd.func22, Tryd.ntmps22
    go_wp2_with (go_at_call 38; (with_reducible refine (HC.out _).mono ?_); rintro e w' ⟨rfl, rfl⟩)
    go_ret
    exact ⟨rfl, Gr.refl _⟩
set_option maxRecDepth 100000 in
theorem written_10 (least : Nat) (ms : ByteArray) (w : World) : Calls Tryd.prog 22 #[.int .u8 10, .int .u8 (least : Int), .string ms] w fun e w' => e = .returned (.string (st [92, 110])) ∧ Gr w w' := by
  go_enter Tryd.func22, Tryd.ntmps22
  go_wp2_with fail
  go_ret
  exact ⟨rfl, Gr.refl _⟩
set_option maxRecDepth 100000 in
theorem written_9 (least : Nat) (ms : ByteArray) (w : World) : Calls Tryd.prog 22 #[.int .u8 9, .int .u8 (least : Int), .string ms] w fun e w' => e = .returned (.string (st [92, 116])) ∧ Gr w w' := by
  go_enter Tryd.func22, Tryd.ntmps22
  go_wp2_with fail
  go_ret
  exact ⟨rfl, Gr.refl _⟩
set_option maxRecDepth 100000 in
theorem written_13 (least : Nat) (ms : ByteArray) (w : World) : Calls Tryd.prog 22 #[.int .u8 13, .int .u8 (least : Int), .string ms] w fun e w' => e = .returned (.string (st [92, 114])) ∧ Gr w w' := by
  go_enter Tryd.func22, Tryd.ntmps22
  go_wp2_with fail
  go_ret
  exact ⟨rfl, Gr.refl _⟩
/-- A byte's text. -/
theorem written_any (c : UInt8) (least : Nat) (marks : List UInt8) (w : World) :
    Calls Tryd.prog 22 #[.int .u8 (c.toNat : Int), .int .u8 (least : Int), .string (st marks)] w fun e w' => e = .returned (.string (st (wr c least marks))) ∧ Gr w w' := by
  have hc := c.toNat_lt
  have eq : ∀ k, k < 256 → ¬ c.toNat = k → ¬ c = UInt8.ofNat k := fun k hk h e => h ((u8_eq c k hk).1 e)
  unfold wr
  by_cases h10 : c.toNat = 10
  · rw [if_pos (show c = 10 from (u8_eq c 10 (by omega)).2 h10), h10]; exact written_10 _ _ _
  · rw [if_neg (show ¬ c = 10 from eq 10 (by omega) h10)]
    by_cases h9 : c.toNat = 9
    · rw [if_pos (show c = 9 from (u8_eq c 9 (by omega)).2 h9), h9]; exact written_9 _ _ _
    · rw [if_neg (show ¬ c = 9 from eq 9 (by omega) h9)]
      by_cases h13 : c.toNat = 13
      · rw [if_pos (show c = 13 from (u8_eq c 13 (by omega)).2 h13), h13]; exact written_13 _ _ _
      · rw [if_neg (show ¬ c = 13 from eq 13 (by omega) h13)]
        have e10 : ((c.toNat : Int) == 10) = false := by simp; omega
        have e9 : ((c.toNat : Int) == 9) = false := by simp; omega
        have e13 : ((c.toNat : Int) == 13) = false := by simp; omega
        by_cases hh : c.toNat < least ∨ 126 < c.toNat
        · rw [if_pos hh]
          exact written_hex c.toNat least _ _ _ w (by omega) e10 e9 e13 (by omega) (by omega) (by omega)
        · rw [if_neg hh]
          have := written_mark c.toNat least marks (decide (c ∈ marks)) w e10 e9 e13 (by omega) (by omega) (by rw [UInt8.ofNat_toNat]; exact decide_eq_decide.2 (index_mem marks c))
          rw [UInt8.ofNat_toNat] at this
          by_cases hm : c ∈ marks
          · rw [if_pos hm]; simpa [hm] using this
          · rw [if_neg hm]; simpa [hm] using this

theorem writtenT (c : UInt8) (w : World) : Calls Tryd.prog 22 #[.int .u8 (c.toNat : Int), .int .u8 33, .string { data := #[92, 91, 93, 45, 94, 38] }] w fun e w' => e = .returned (.string (st (wrT c))) ∧ Gr w w' := written_any c 33 marksT w
theorem wr_len (c : UInt8) (least : Nat) (marks : List UInt8) : (wr c least marks).length ≤ 4 := by
  unfold wr
  split
  · simp
  · split
    · simp
    · split
      · simp
      · split
        · simp
        · split <;> simp
theorem spanL_len (p : Sp) : (spanL p).length ≤ 9 := by
  unfold spanL
  have h1 := wr_len p.1 33 marksT
  have h2 := wr_len p.2 33 marksT
  unfold wrT
  simp only [List.length_append]
  split <;> split <;> simp <;> omega
theorem bodyL_len (l : List Sp) : (bodyL l).length ≤ 9 * l.length := by
  induction l with
  | nil => simp [bodyL]
  | cons p l ih => show (spanL p ++ bodyL l).length ≤ _; have := spanL_len p; rw [List.length_append, List.length_cons]; omega
theorem bodyL_snoc (l : List Sp) (p : Sp) : bodyL (l ++ [p]) = bodyL l ++ spanL p := by simp [bodyL]
theorem cats {P : Program} (a b : List UInt8) (h : (a.length : Int) + (b.length : Int) ≤ 9223372036854775807) : ∀ w : World, (Op.stringOp .add (st a) (st b)).run P w = .ok (.string (st (a ++ b))) w := fun w => run_cat w a b (by omega)
/-- The cells of an owned row of spans. -/
theorem span_cell {w : World} {B g cap : Nat} {r : List Sp} (h : w.ownsRow B 53 2 (.slice (some ⟨g, 0, none⟩) r.length cap) r.length (spsCells r)) (k : Nat) (p : Sp) (hp : r[k]? = some p) :
    w.cell? ⟨g, k * 2, none⟩ = some (vB p.1) ∧ w.cell? ⟨g, k * 2 + 1, none⟩ = some (vB p.2) := by
  have key : ∀ (r : List Sp) (k : Nat), r[k]? = some p → (spsCells r)[k * 2]? = some (vB p.1) ∧ (spsCells r)[k * 2 + 1]? = some (vB p.2) := by
    intro r
    induction r with
    | nil => intro k h; simp at h
    | cons q r ih =>
      intro k h
      have e : spsCells (q :: r) = vB q.1 :: vB q.2 :: spsCells r := rfl
      match k, h with
      | 0, h => simp at h; subst h; rw [e]; exact ⟨rfl, rfl⟩
      | k + 1, h =>
        have := ih k (by simpa using h)
        rw [e]
        have e1 : (k + 1) * 2 = k * 2 + 1 + 1 := by omega
        rw [e1]
        simpa using this
  exact ⟨owns_cell h _ _ (key r k hp).1, owns_cell h _ _ (key r k hp).2⟩

set_option maxRecDepth 100000 in
set_option maxHeartbeats 4000000 in
theorem text_any (s : BitVec 256) (w : World) : Calls Tryd.prog 8 #[.agg #[.int .u64 (wd s 0), .int .u64 (wd s 1), .int .u64 (wd s 2), .int .u64 (wd s 3)]] w fun e w' => ∃ r, Runs r (bytesOf s) ∧ e = .returned (.string (st (textL r))) ∧ Gr w w' := by
  go_enter Tryd.func8, Tryd.ntmps8
  go_wp2_with fail
  go_at_call 21
  refine (spans_any s _).mono ?_; rintro e w1 ⟨vs, r, rfl, hR, hs, hb, hnil⟩
  have hgw : Gr w w1 := (Gr.alloc _ _).trans hb
  have hrl : r.length ≤ 256 := Nat.le_trans hR.len (bytesTo_len s 256)
  have HR := Lib.hid hR
  obtain ⟨p0, c0, rfl⟩ := (Sl.of_owns hs).len
  have HS := Lib.hid hs
  clear hR hs hb hnil
  have hrI : (r.length : Int) ≤ 256 := by omega
  go_wp2_with fail
  go_loopw [3, 9] (fun b i wr => ∃ k : Nat, k ≤ r.length ∧ i = .int .i64 k ∧ b = .string (st (91 :: bodyL (r.take k))) ∧ Gr w1 wr) (fun _ i _ => r.length - (intOf i).toNat)
  case atStart => exact ⟨0, by omega, rfl, rfl, Gr.refl _⟩
  case round =>
    obtain ⟨k, hk, rfl, rfl, hg⟩ := hrel
    by_cases hlt : k < r.length
    · obtain ⟨g, cap, he, _, hgl, _⟩ := owns_block HS.out (by omega)
      simp only [Value.slice.injEq] at he
      obtain ⟨rfl, _, rfl⟩ := he
      obtain ⟨⟨a, b⟩, hp⟩ : ∃ x, r[k]? = some x := ⟨_, List.getElem?_eq_getElem hlt⟩
      obtain ⟨d1, d2⟩ := span_cell HS.out k _ hp
      have c1 := hg.cell d1
      have c2 := hg.cell d2
      have hgr : g < wr.heap.size := by have := hg.size; omega
      have hle : a.toNat ≤ b.toNat := (HR.out.mem _ (List.mem_of_getElem? hp)).1
      have ha := a.toNat_lt
      have hb := b.toNat_lt
      obtain ⟨acc, hacc⟩ : ∃ acc, 91 :: bodyL (r.take k) = acc := ⟨_, rfl⟩
      rw [hacc]
      have hal : acc.length ≤ 3000 := by
        rw [← hacc]
        have := bodyL_len (r.take k)
        rw [List.length_take] at this
        simp only [List.length_cons]; omega
      have hnext : 91 :: bodyL (r.take (k + 1)) = acc ++ spanL (a, b) := by
        rw [← hacc, List.take_add_one, hp]
        simp only [Option.toList_some, bodyL_snoc, List.cons_append]
      have hkI : (k : Int) < (r.length : Int) := by omega
      unfold vB at c1 c2 d1 d2
      simp only at c1 c2 d1 d2
      have es : IntKind.u8.wrap ((b.toNat : Int) - (a.toNat : Int)) = (b.toNat : Int) - (a.toNat : Int) := by rw [IntKind.wrap_u8]; omega
      have l1 := wr_len a 33 marksT
      have l2 := wr_len b 33 marksT
      have e1 := cats (P := Tryd.prog) acc (wrT a) (by unfold wrT; omega)
      have e2 := cat_is (P := Tryd.prog) (st (acc ++ wrT a)) { data := #[45] } (st (acc ++ wrT a ++ [45])) _ [45] rfl rfl rfl (by rw [List.length_append]; unfold wrT; simp; omega)
      have e3 := cats (P := Tryd.prog) (acc ++ wrT a ++ [45]) (wrT b) (by rw [List.length_append, List.length_append]; unfold wrT; simp; omega)
      have e4 := cats (P := Tryd.prog) (acc ++ wrT a) (wrT b) (by rw [List.length_append]; unfold wrT; omega)
      obtain ⟨x3, hx3⟩ : ∃ x, acc ++ wrT a ++ [45] ++ wrT b = x := ⟨_, rfl⟩
      rw [hx3] at e3
      obtain ⟨x2, hx2⟩ : ∃ x, acc ++ wrT a ++ [45] = x := ⟨_, rfl⟩
      rw [hx2] at e2 e3 hx3
      obtain ⟨x4, hx4⟩ : ∃ x, acc ++ wrT a ++ wrT b = x := ⟨_, rfl⟩
      rw [hx4] at e4
      obtain ⟨x1, hx1⟩ : ∃ x, acc ++ wrT a = x := ⟨_, rfl⟩
      rw [hx1] at e1 e2 e4 hx2 hx4
      have HX := Lib.hid (show acc ++ wrT a = x1 ∧ acc ++ (wrT a ++ ([45] ++ wrT b)) = x3 ∧ acc ++ (wrT a ++ wrT b) = x4 from ⟨hx1, by rw [← hx3, ← hx2, ← hx1]; simp, by rw [← hx4, ← hx1, List.append_assoc]⟩)
      clear hx1 hx2 hx3 hx4
      have HN := Lib.hid hnext
      have HLT := Lib.hid hlt
      have h3 : a.toNat + 1 < b.toNat ∨ a.toNat + 1 = b.toNat ∨ a.toNat = b.toNat := by omega
      have H3 := Lib.hid h3
      clear h3 hal hnext hacc hlt l1 l2 hp hrl
      go_wp2_with fail
      go_at_call 22
      refine name_calls (fun W hW => ?_)
      have xp : boxAt W wr.heap.size [.int .u8 (a.toNat : Int), .int .u8 (b.toNat : Int)] := boxAt.new _ _ hW
      have hgW : Gr wr W := by rw [hW]; exact Gr.alloc _ _
      clear hW
      refine (writtenT a W).mono ?_; rintro e w2 ⟨rfl, hq⟩
      replace xp := xp.later hq
      replace hgW := hgW.trans hq
      clear hq
      have c_p0 := xp.cell 0 _ rfl
      have c_p1 := xp.cell 1 _ rfl
      have m_p0 := xp.mark 0 _ rfl
      have m_p1 := xp.mark 1 _ rfl
      have l_p := xp.lt (Nat.succ_pos _)
      rcases H3.out with h3 | h3 | h3
      · have h4 : (1 : Int) < (b.toNat : Int) - (a.toNat : Int) := by omega
        have h5 : a.toNat < b.toNat := by omega
        have hsp : spanL (a, b) = wrT a ++ ([45] ++ wrT b) := by unfold spanL; simp only; rw [if_pos h3, if_pos h5]
        have HSP := Lib.hid hsp
        clear hsp h3 hle ha hb
        go_wp2_with (go_at_call 22; (with_reducible refine (writtenT _ _).mono ?_); rintro e w3 ⟨rfl, hq⟩)
        go_roundw
        case rel => exact ⟨k + 1, by have := HLT.out; omega, by go_num, by rw [HN.out, HSP.out, HX.out.2.1], (hg.trans hgW).trans hq⟩
        case measure => have := HLT.out; simp [intOf]; omega
      · have h4 : ¬ (1 : Int) < (b.toNat : Int) - (a.toNat : Int) := by omega
        have h5 : a.toNat < b.toNat := by omega
        have hsp : spanL (a, b) = wrT a ++ wrT b := by unfold spanL; simp only; rw [if_neg (by omega), if_pos h5]; rfl
        have HSP := Lib.hid hsp
        clear hsp h3 hle ha hb
        go_wp2_with (go_at_call 22; (with_reducible refine (writtenT _ _).mono ?_); rintro e w3 ⟨rfl, hq⟩)
        go_roundw
        case rel => exact ⟨k + 1, by have := HLT.out; omega, by go_num, by rw [HN.out, HSP.out, HX.out.2.2], (hg.trans hgW).trans hq⟩
        case measure => have := HLT.out; simp [intOf]; omega
      · obtain rfl : a = b := UInt8.toNat_inj.1 h3
        have hsp : spanL (a, a) = wrT a := by unfold spanL; simp
        have HSP := Lib.hid hsp
        clear hsp h3 hle ha hb
        go_wp2_with fail
        go_roundw
        case rel => exact ⟨k + 1, by have := HLT.out; omega, by go_num, by rw [HN.out, HSP.out, HX.out.1], hg.trans hgW⟩
        case measure => have := HLT.out; simp [intOf]; omega
    · have hkr : k = r.length := by omega
      have hfull : 91 :: bodyL (r.take k) = 91 :: bodyL r := by rw [hkr, List.take_length]
      rw [hfull]
      have hl := bodyL_len r
      have e1 := cat_is (P := Tryd.prog) (st (91 :: bodyL r)) { data := #[93] } (st (textL r)) (91 :: bodyL r) [93] rfl rfl rfl (by rw [List.length_cons, List.length_cons, List.length_nil]; omega)
      clear hfull hl hlt hk
      subst hkr
      go_wp2_with fail
      go_ret
      exact ⟨r, HR.out, rfl, hgw.trans hg⟩

theorem writtenQ (c : UInt8) (w : World) : Calls Tryd.prog 22 #[.int .u8 (c.toNat : Int), .int .u8 32, .string { data := #[34, 92] }] w fun e w' => e = .returned (.string (st (wrQ c))) ∧ Gr w w' := written_any c 32 marksQ w
theorem wrQs_len (l : List UInt8) : (l.flatMap wrQ).length ≤ 4 * l.length := by
  induction l with
  | nil => simp
  | cons c l ih => rw [List.flatMap_cons, List.length_append, List.length_cons]; have := wr_len c 32 marksQ; unfold wrQ at ih ⊢; omega
theorem wrQs_snoc (l : List UInt8) (k : Nat) (c : UInt8) (h : l[k]? = some c) : (l.take (k + 1)).flatMap wrQ = (l.take k).flatMap wrQ ++ wrQ c := by
  rw [List.take_add_one, h]; simp
/-- A builder that is just laid. -/
theorem builder_new (w : World) : BuilderIs w.heap.size w.heap.size [] (w.alloc (.cells #[.pointer none, .slice none 0 0] 58)) := by
  refine .inl ⟨Nat.le_refl _, .slice none 0 0, ?_, World.ownsRow_nil _ _ _ _, by simp [Value.ownBlock]⟩
  show (w.heap.push _)[w.heap.size]? = _
  simp
theorem BuilderIs.later {B b : Nat} {l : List UInt8} {w w' : World} (h : BuilderIs B b l w) (hG : Gr w w') : BuilderIs B b l w' := by
  have key : ∀ p, Lib.BuilderAt 58 5 B b p (Lib.byteCells l) w → Lib.BuilderAt 58 5 B b p (Lib.byteCells l) w' := fun p ⟨h1, v, h2, h3, h4⟩ =>
    ⟨h1, v, by rw [Below.block hG b (Array.getElem?_eq_some_iff.1 h2).1]; exact h2, owns_later h3 hG, h4⟩
  exact h.imp (key _) (key _)

set_option maxRecDepth 100000 in
set_option maxHeartbeats 4000000 in
theorem quote_any (l : List UInt8) (w : World) (hl : (l.length : Int) ≤ 1000000) : Calls Tryd.prog 10 #[.string (st l)] w fun e w' => e = .returned (.string (st (quoteL l))) ∧ Gr w w' := by
  have hsz := st_size l
  go_enter Tryd.func10, Tryd.ntmps10
  go_wp2_with fail
  go_at_call 25
  refine name_calls (fun W hW => ?_)
  have hB : BuilderIs w.heap.size w.heap.size [] W := by rw [hW]; exact builder_new w
  have hgW : Gr w W := by rw [hW]; exact Gr.alloc _ _
  clear hW
  refine (writeByte_any w.heap.size w.heap.size [] 34 W hB (by simp) hgW.size).mono ?_; rintro e w1 ⟨rfl, hB1, hb1⟩
  have hg1 : Gr w w1 := Below.trans hgW hb1
  have hB1' := Lib.hid hB1
  clear hB hb1 hgW hB1
  go_wp2_with fail
  go_loopw [8] (fun i wr => ∃ k : Nat, k ≤ l.length ∧ i = .int .i64 k ∧ BuilderIs w.heap.size w.heap.size (34 :: (l.take k).flatMap wrQ) wr ∧ Gr w wr) (fun i _ => l.length - (intOf i).toNat)
  case atStart => exact ⟨0, by omega, rfl, hB1'.out, hg1⟩
  case round =>
    obtain ⟨k, hk, rfl, hB, hg⟩ := hrel
    clear hB1' hg1
    by_cases hlt : k < l.length
    · obtain ⟨c, hc⟩ : ∃ x, l[k]? = some x := ⟨_, List.getElem?_eq_getElem hlt⟩
      have hix := fun w' => run_at (P := Tryd.prog) w' 9 l k c .i64 Tryd.underlying9 hc
      have hkI : (k : Int) < (l.length : Int) := by omega
      have hn := wrQs_snoc l k c hc
      have hlen : (34 :: (l.take k).flatMap wrQ).length + (wrQ c).length ≤ 140737488355328 := by
        have h1 := wrQs_len (l.take k)
        have h2 := wr_len c 32 marksQ
        rw [List.length_take] at h1
        unfold wrQ at h1 ⊢
        rw [List.length_cons]; omega
      obtain ⟨acc, hacc⟩ : ∃ x, 34 :: (l.take k).flatMap wrQ = x := ⟨_, rfl⟩
      have hn2 : 34 :: (l.take (k + 1)).flatMap wrQ = acc ++ wrQ c := by rw [hn, ← hacc]; rfl
      rw [hacc] at hB hlen
      have HN := Lib.hid hn2
      have HLT := Lib.hid hlt
      have HB := Lib.hid hB
      have HLEN := Lib.hid hlen
      clear hn hn2 hacc hc hB hlen hlt hk
      go_wp2_with fail
      go_at_call 22
      refine (writtenQ c wr).mono ?_; rintro e w2 ⟨rfl, hq⟩
      have hB2 := HB.out.later hq
      have hg2 := hg.trans hq
      have HB2 := Lib.hid hB2
      clear hB2 hq
      go_wp2_with fail
      go_at_call 26
      refine (writeString_any w.heap.size w.heap.size acc (wrQ c) w2 HB2.out HLEN.out hg2.size).mono ?_; rintro e w3 ⟨rfl, hB3, hb3⟩
      have HB3 := Lib.hid hB3
      have hg3 : Gr w w3 := Below.trans hg2 hb3
      clear hB3 hb3
      go_wp2_with fail
      go_roundw
      case rel => exact ⟨k + 1, by have := HLT.out; omega, by go_num, by rw [HN.out]; exact HB3.out, hg3⟩
      case measure => have := HLT.out; simp [intOf]; omega
    · have hkr : k = l.length := by omega
      rw [hkr, List.take_length] at hB
      have hlen : (34 :: l.flatMap wrQ).length + 1 ≤ 140737488355328 := by
        have h1 := wrQs_len l
        rw [List.length_cons]; omega
      have HB := Lib.hid hB
      have HLEN := Lib.hid hlen
      clear hB hlen hlt hk
      subst hkr
      go_wp2_with fail
      go_at_call 25
      refine (writeByte_any w.heap.size w.heap.size _ 34 wr HB.out HLEN.out hg.size).mono ?_; rintro e w2 ⟨rfl, hB2, hb2⟩
      have HB2 := Lib.hid hB2
      have hg2 : Gr w w2 := Below.trans hg hb2
      clear hB2 hb2
      go_wp2_with fail
      go_at_call 27
      refine (builderString_any w.heap.size w.heap.size _ w2 HB2.out (by simp)).mono ?_; rintro e w3 ⟨rfl, hb3⟩
      have hg3 : Gr w w3 := Below.trans hg2 hb3
      clear hb3
      go_wp2_with fail
      go_ret
      exact ⟨rfl, hg3⟩

end Go.Proofs.YtihjmeoklbmnmaaDoor
