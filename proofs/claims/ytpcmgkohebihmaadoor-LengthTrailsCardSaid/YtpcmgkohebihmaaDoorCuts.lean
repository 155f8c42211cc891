/- Cuts of length, of any rules. No condition but that the errors' variables hold some. -/
import Derived.Test.YtpcmgkohebihmaaDoorCo
import Derived.Test.YtpcmgkohebihmaaDoorCut
namespace Go.Proofs.YtpcmgkohebihmaaDoor
open Go Go.RowKit

def okCo (c : Co) : Bool := isCore c.head && (if c.has then isCore c.trail else zeroX c.trail)
def mayAll (l : List Co) : Bool := decide (l.length ≤ 200) && l.all okCo
def cutOf (c : Co) : Option (Int × Int) := if c.has then cutRes (ofE c.head) (ofE c.trail) else some (0, 0)
def cutCells (x : Int × Int) : List Value := [.int .i64 x.1, .int .i64 x.2]
theorem cutCells_ones (x : Int × Int) : ∀ u ∈ cutCells x, u.oneCell' = true := fun u hu => by
  simp only [cutCells, List.mem_cons, List.not_mem_nil, or_false] at hu
  rcases hu with rfl | rfl <;> rfl

/-- What Cuts tells. -/
inductive CutsTold (w w' : World) (l : List Co) (va vt : Value) : Value → Value → Prop
  | arg (h : mayAll l = false) : CutsTold w w' l va vt (.slice none 0 0) va
  | trail (j : Nat) (a : Co) (g : Nat) (h : mayAll l = true) (hj : l[j]? = some a) (ha : cutOf a = none) (hi : ∀ i x, i < j → l[i]? = some x → (cutOf x).isSome = true) (hg : w.heap.size ≤ g) (hb : boxAt w' g [vt, .int .i64 ((j : Int) + 1)]) :
      CutsTold w w' l va vt (.slice none 0 0) (.iface 109 (.pointer (some ⟨g, 0, none⟩)))
  | cuts (M : List (Int × Int)) (v : Value) (h : mayAll l = true) (hM : l.map cutOf = M.map some) (ho : w'.ownsRow w.heap.size 64 2 v M.length (M.flatMap cutCells)) : CutsTold w w' l va vt v .nilIface

/-- So far one of them is bad. -/
def badL (l : List Co) (j : Nat) : Bool := !(decide (l.length ≤ 200) && (l.take j).all okCo)
theorem badL_zero (l : List Co) : badL l 0 = decide (200 < l.length) := by
  unfold badL; rw [Bool.eq_iff_iff]; simp
theorem badL_succ {l : List Co} {j : Nat} {a : Co} (h : l[j]? = some a) : badL l (j + 1) = (badL l j || !okCo a) := by
  obtain ⟨g1, g2⟩ := List.getElem?_eq_some_iff.1 h
  unfold badL
  rw [List.take_succ_eq_append_getElem g1, g2, List.all_append]
  cases decide (l.length ≤ 200) <;> cases (l.take j).all okCo <;> cases h : okCo a <;> simp [h]
theorem badL_all (l : List Co) : badL l l.length = !mayAll l := by
  unfold badL mayAll; rw [List.take_length]

theorem may_mem {l : List Co} {a : Co} (h : mayAll l = true) (ha : a ∈ l) : okCo a = true := by
  unfold mayAll at h
  rw [Bool.and_eq_true] at h
  exact List.all_eq_true.1 h.2 a ha
theorem cut_any (e f : Ex) (hb : Bool) (op pos : Int) (s : BitVec 256) (text : ByteArray) (mn mx : Int) (p : Option Addr) (n c : Nat) (op2 pos2 : Int) (s2 : BitVec 256) (text2 : ByteArray) (mn2 mx2 : Int) (p2 : Option Addr) (n2 c2 : Nat) (w : World)
    (he : ExIn w e (exCells op pos s text mn mx (.slice p n c))) (hf : ExIn w f (exCells op2 pos2 s2 text2 mn2 mx2 (.slice p2 n2 c2))) (hok : okCo ⟨e, hb, f⟩ = true) :
    Calls Tryd.prog 29 #[.agg #[.int .i64 op, .int .i64 pos, .int .u64 (wd s 0), .int .u64 (wd s 1), .int .u64 (wd s 2), .int .u64 (wd s 3), .string text, .int .i64 mn, .int .i64 mx, .slice p n c, .bool hb, .int .i64 op2, .int .i64 pos2, .int .u64 (wd s2 0), .int .u64 (wd s2 1), .int .u64 (wd s2 2), .int .u64 (wd s2 3), .string text2, .int .i64 mn2, .int .i64 mx2, .slice p2 n2 c2]] w
      fun e' w' => e' = .returned (cutVal (cutOf ⟨e, hb, f⟩)) ∧ Gr w w' := by
  unfold okCo at hok
  rw [Bool.and_eq_true] at hok
  cases hb
  · exact cut_none op pos s text mn mx p n c op2 pos2 s2 text2 mn2 mx2 p2 n2 c2 w
  · exact (cut_trail e f op pos s text mn mx p n c op2 pos2 s2 text2 mn2 mx2 p2 n2 c2 w he hf hok.1 hok.2).mono fun e' w' h => by rw [cutOf, if_pos rfl]; exact h

theorem cuts_before {l : List Co} {j : Nat} {M : List (Int × Int)} (h : (l.take j).map cutOf = M.map some) (hj : M.length = j) : ∀ i x, i < j → l[i]? = some x → (cutOf x).isSome = true := fun i x hi hx => by
  have h1 : ((l.take j).map cutOf)[i]? = some (cutOf x) := by rw [List.getElem?_map, List.getElem?_take, if_pos hi, hx]; rfl
  rw [h, List.getElem?_map] at h1
  cases hm : M[i]? with
  | none => rw [hm] at h1; cases h1
  | some y => rw [hm] at h1; injection h1 with h1; rw [← h1]; rfl
theorem may_len {l : List Co} (h : mayAll l = true) : l.length ≤ 200 := by
  unfold mayAll at h
  rw [Bool.and_eq_true] at h
  exact of_decide_eq_true h.1
theorem cuts_next {l : List Co} {j : Nat} {M : List (Int × Int)} {a : Co} {x : Int × Int} (h : (l.take j).map cutOf = M.map some) (hj : l[j]? = some a) (ha : cutOf a = some x) : (l.take (j + 1)).map cutOf = (M ++ [x]).map some := by
  obtain ⟨g1, g2⟩ := List.getElem?_eq_some_iff.1 hj
  rw [List.take_succ_eq_append_getElem g1, g2, List.map_append, h, List.map_append]; simp [ha]
theorem info_cut : (Tryd.prog.info? 64).map (fun i => (i.zero, i.size, i.bytes)) = some (some (.agg #[.int .i64 0, .int .i64 0]), 2, 16) := by kernel_rfl

set_option maxRecDepth 100000 in
set_option maxHeartbeats 8000000 in
theorem cuts_any (l : List (Co × List Value)) (v : Value) (w : World) (hs : Sl w v 21 l.length (l.flatMap (·.2))) (hl : ∀ p ∈ l, CoIn w p.1 p.2) (va : Value) (hA : Errs w 0 va) (vt : Value) (hT : Errs w 1 vt) :
    Calls Tryd.prog 16 #[v] w fun e' w' => ∃ v' er, e' = .returned (.tuple #[v', er]) ∧ CutsTold w w' (l.map (·.1)) va vt v' er ∧ Gr w w' := by
  have HS := Lib.hid hs
  have HL := Lib.hid hl
  have HLN := Lib.hid (show (l.map (·.1)).length = l.length by simp)
  obtain ⟨pv, cv, rfl⟩ := hs.len
  have hll : l.length ≤ 9223372036854775807 := by have := hs.2.1; unfold maxLen at this; omega
  obtain ⟨i0, hi, hz0, hz1, hz2⟩ := info_parts info_cut
  obtain ⟨hac, ta, xa, rfl⟩ := hA
  obtain ⟨htc, tt, xt, rfl⟩ := hT
  clear hs hl
  go_enter Tryd.func16, Tryd.ntmps16
  go_wp2_with fail
  go_loopw [4, 17] (fun b i wr => ∃ j : Nat, j ≤ l.length ∧ i = .int .i64 (j : Int) ∧ b = .bool (badL (l.map (·.1)) j) ∧ Gr w wr) (fun _ i _ => l.length - (intOf i).toNat)
  case atStart =>
    refine ⟨0, by omega, rfl, ?_, Gr.refl _⟩
    rw [badL_zero, HLN.out]
    exact congrArg Value.bool (decide_eq_decide.2 (by omega))
  case round =>
    obtain ⟨j, hj, rfl, rfl, hg⟩ := hrel
    by_cases hlt : j < l.length
    · obtain ⟨b, off, cap, op, pos, s, text, mn, mx, p, n, c, op2, pos2, s2, text2, mn2, mx2, p2, n2, c2, e, hb, f, hv, hbW, ha, he, hf, hat⟩ := cores_at HS.out HL.out j hlt
      simp only [Value.slice.injEq, true_and] at hv
      obtain ⟨rfl, rfl⟩ := hv
      obtain ⟨hbr, hcell⟩ := hat wr hg
      have HCELL := Lib.hid (fun t u (h : [.int .i64 op, .int .i64 pos, .int .u64 (wd s 0), .int .u64 (wd s 1), .int .u64 (wd s 2), .int .u64 (wd s 3), .string text, .int .i64 mn, .int .i64 mx, .slice p n c, .bool hb, .int .i64 op2, .int .i64 pos2, .int .u64 (wd s2 0), .int .u64 (wd s2 1), .int .u64 (wd s2 2), .int .u64 (wd s2 3), .string text2, .int .i64 mn2, .int .i64 mx2, .slice p2 n2 c2][t]? = some u) => hcell t u (by have := (List.getElem?_eq_some_iff.1 h).1; simpa using this) h)
      have hjI : (j : Int) < (l.length : Int) := by omega
      have hmj : (l.map (·.1))[j]? = some ⟨e, hb, f⟩ := by rw [List.getElem?_map, ha]; rfl
      have HNX := Lib.hid (badL_succ hmj)
      have HLT := Lib.hid hlt
      have HE := Lib.hid he
      have HF := Lib.hid hf
      obtain ⟨q, hq⟩ : ∃ q, badL (l.map (·.1)) j = q := ⟨_, rfl⟩
      rw [hq] at HNX ⊢
      clear hq hlt hcell hat ha hj hbW hmj he hf
      have HE2 := HE
      have HF2 := HF
      unfold exCells at HE2 HF2
      obtain ⟨b1, hb1⟩ : ∃ b, isCore e = b := ⟨_, rfl⟩
      obtain ⟨b2, hb2⟩ : ∃ b, isCore f = b := ⟨_, rfl⟩
      obtain ⟨b3, hb3⟩ : ∃ b, zeroB op2 pos2 s2 text2 mn2 mx2 n2 = b := ⟨_, rfl⟩
      have HOK := Lib.hid (show okCo ⟨e, hb, f⟩ = (b1 && (if hb then b2 else b3)) by unfold okCo; rw [hb1, hb2, HF.out.zero, hb3])
      have HB1 := Lib.hid hb1
      have HB2 := Lib.hid hb2
      have HB3 := Lib.hid hb3
      have HN2 := Lib.hid (show n2 ≤ 9223372036854775807 from HF.out.small)
      clear hb1 hb2 hb3
      cases q
      · go_wp2_with (first | ((with_reducible refine wpList_plain ?_ (fun _ hK => ?_)); (focus rfl); refine wp_load_at 52 (.tmp 19) rfl b (off + j * 21) rfl [.int .i64 op, .int .i64 pos, .int .u64 (wd s 0), .int .u64 (wd s 1), .int .u64 (wd s 2), .int .u64 (wd s 3), .string text, .int .i64 mn, .int .i64 mx, .slice p n c, .bool hb, .int .i64 op2, .int .i64 pos2, .int .u64 (wd s2 0), .int .u64 (wd s2 1), .int .u64 (wd s2 2), .int .u64 (wd s2 3), .string text2, .int .i64 mn2, .int .i64 mx2, .slice p2 n2 c2] _ HCELL.out Tryd.underlying52 rfl (by kernel_rfl) (hK _ _ ?_)) | ((with_reducible refine wpList_plain ?_ (fun _ hK => ?_)); (focus rfl); refine wp_store_row 52 (.tmp 6) (.tmp 20) rfl wr.heap.size #[.int .i64 op, .int .i64 pos, .int .u64 (wd s 0), .int .u64 (wd s 1), .int .u64 (wd s 2), .int .u64 (wd s 3), .string text, .int .i64 mn, .int .i64 mx, .slice p n c, .bool hb, .int .i64 op2, .int .i64 pos2, .int .u64 (wd s2 0), .int .u64 (wd s2 1), .int .u64 (wd s2 2), .int .u64 (wd s2 3), .string text2, .int .i64 mn2, .int .i64 mx2, .slice p2 n2 c2] rfl rfl 52 _ (heap_alloc_new wr _) (by kernel_rfl) rfl (all_ones _ rfl) (hK _ _ ?_); clear hK; refine name_wpList (fun xc_w hxc => ?_); obtain ⟨xc, xc_g, xc_s⟩ := new_row (cs := [.int .i64 op, .int .i64 pos, .int .u64 (wd s 0), .int .u64 (wd s 1), .int .u64 (wd s 2), .int .u64 (wd s 3), .string text, .int .i64 mn, .int .i64 mx, .slice p n c, .bool hb, .int .i64 op2, .int .i64 pos2, .int .u64 (wd s2 0), .int .u64 (wd s2 1), .int .u64 (wd s2 2), .int .u64 (wd s2 3), .string text2, .int .i64 mn2, .int .i64 mx2, .slice p2 n2 c2]) hxc; clear hxc; have xc_h := boxAt.row xc; have c_c0 := xc.cell 0 _ rfl; have c_c1 := xc.cell 1 _ rfl; have c_c2 := xc.cell 2 _ rfl; have c_c3 := xc.cell 3 _ rfl; have c_c4 := xc.cell 4 _ rfl; have c_c5 := xc.cell 5 _ rfl; have c_c6 := xc.cell 6 _ rfl; have c_c7 := xc.cell 7 _ rfl; have c_c8 := xc.cell 8 _ rfl; have c_c9 := xc.cell 9 _ rfl; have c_c10 := xc.cell 10 _ rfl; have c_c11 := xc.cell 11 _ rfl; have c_c12 := xc.cell 12 _ rfl; have c_c13 := xc.cell 13 _ rfl; have c_c14 := xc.cell 14 _ rfl; have c_c15 := xc.cell 15 _ rfl; have c_c16 := xc.cell 16 _ rfl; have c_c17 := xc.cell 17 _ rfl; have c_c18 := xc.cell 18 _ rfl; have c_c19 := xc.cell 19 _ rfl; have c_c20 := xc.cell 20 _ rfl; have l_c := xc.lt (Nat.succ_pos _)))
        clear xc_h c_c0 c_c1 c_c2 c_c3 c_c4 c_c5 c_c6 c_c7 c_c8 c_c9 c_c10 c_c11 c_c12 c_c13 c_c14 c_c15 c_c16 c_c17 c_c18 c_c19 c_c20 l_c
        go_at_call 21
        refine (check_any e _ xc_w (HE2.out.later (hg.trans xc_g))).mono ?_; rintro e' w1 ⟨rfl, hb1⟩
        rw [HB1.out]
        replace xc := xc.later hb1
        replace hg := (hg.trans xc_g).trans hb1
        clear hb1 xc_g xc_s
        cases b1
        · go_wp2_with fail
          go_roundw
          case rel => exact ⟨j + 1, by have := HLT.out; omega, by go_num, by rw [HNX.out, HOK.out]; first | rfl | (cases hb <;> rfl), hg⟩
          case measure => have := HLT.out; simp [intOf]; omega
        · cases hb
          · have c_c0 := xc.cell 0 _ rfl
            have c_c1 := xc.cell 1 _ rfl
            have c_c2 := xc.cell 2 _ rfl
            have c_c3 := xc.cell 3 _ rfl
            have c_c4 := xc.cell 4 _ rfl
            have c_c5 := xc.cell 5 _ rfl
            have c_c6 := xc.cell 6 _ rfl
            have c_c7 := xc.cell 7 _ rfl
            have c_c8 := xc.cell 8 _ rfl
            have c_c9 := xc.cell 9 _ rfl
            have c_c10 := xc.cell 10 _ rfl
            have c_c11 := xc.cell 11 _ rfl
            have c_c12 := xc.cell 12 _ rfl
            have c_c13 := xc.cell 13 _ rfl
            have c_c14 := xc.cell 14 _ rfl
            have c_c15 := xc.cell 15 _ rfl
            have c_c16 := xc.cell 16 _ rfl
            have c_c17 := xc.cell 17 _ rfl
            have c_c18 := xc.cell 18 _ rfl
            have c_c19 := xc.cell 19 _ rfl
            have c_c20 := xc.cell 20 _ rfl
            have m_c0 := xc.mark 0 _ rfl
            have m_c1 := xc.mark 1 _ rfl
            have m_c2 := xc.mark 2 _ rfl
            have m_c3 := xc.mark 3 _ rfl
            have m_c4 := xc.mark 4 _ rfl
            have m_c5 := xc.mark 5 _ rfl
            have m_c6 := xc.mark 6 _ rfl
            have m_c7 := xc.mark 7 _ rfl
            have m_c8 := xc.mark 8 _ rfl
            have m_c9 := xc.mark 9 _ rfl
            have m_c10 := xc.mark 10 _ rfl
            have m_c11 := xc.mark 11 _ rfl
            have m_c12 := xc.mark 12 _ rfl
            have m_c13 := xc.mark 13 _ rfl
            have m_c14 := xc.mark 14 _ rfl
            have m_c15 := xc.mark 15 _ rfl
            have m_c16 := xc.mark 16 _ rfl
            have m_c17 := xc.mark 17 _ rfl
            have m_c18 := xc.mark 18 _ rfl
            have m_c19 := xc.mark 19 _ rfl
            have m_c20 := xc.mark 20 _ rfl
            have l_c := xc.lt (Nat.succ_pos _)
            go_wp2_with fail
            clear c_c0 c_c1 c_c2 c_c3 c_c4 c_c5 c_c6 c_c7 c_c8 c_c9 c_c10 c_c11 c_c12 c_c13 c_c14 c_c15 c_c16 c_c17 c_c18 c_c19 c_c20 m_c0 m_c1 m_c2 m_c3 m_c4 m_c5 m_c6 m_c7 m_c8 m_c9 m_c10 m_c11 m_c12 m_c13 m_c14 m_c15 m_c16 m_c17 m_c18 m_c19 m_c20 l_c
            go_at_call 28
            refine (zero_any op2 pos2 s2 text2 mn2 mx2 p2 n2 c2 w1 HN2.out).mono ?_; rintro e' w2 ⟨rfl, hb1⟩
            rw [HB3.out]
            replace hg := hg.trans hb1
            clear hb1 xc
            cases b3
            · go_wp2_with fail
              go_roundw
              case rel => exact ⟨j + 1, by have := HLT.out; omega, by go_num, by rw [HNX.out, HOK.out]; first | rfl | (cases hb <;> rfl), hg⟩
              case measure => have := HLT.out; simp [intOf]; omega
            · go_wp2_with fail
              go_roundw
              case rel => exact ⟨j + 1, by have := HLT.out; omega, by go_num, by rw [HNX.out, HOK.out]; first | rfl | (cases hb <;> rfl), hg⟩
              case measure => have := HLT.out; simp [intOf]; omega
          · have c_c0 := xc.cell 0 _ rfl
            have c_c1 := xc.cell 1 _ rfl
            have c_c2 := xc.cell 2 _ rfl
            have c_c3 := xc.cell 3 _ rfl
            have c_c4 := xc.cell 4 _ rfl
            have c_c5 := xc.cell 5 _ rfl
            have c_c6 := xc.cell 6 _ rfl
            have c_c7 := xc.cell 7 _ rfl
            have c_c8 := xc.cell 8 _ rfl
            have c_c9 := xc.cell 9 _ rfl
            have c_c10 := xc.cell 10 _ rfl
            have c_c11 := xc.cell 11 _ rfl
            have c_c12 := xc.cell 12 _ rfl
            have c_c13 := xc.cell 13 _ rfl
            have c_c14 := xc.cell 14 _ rfl
            have c_c15 := xc.cell 15 _ rfl
            have c_c16 := xc.cell 16 _ rfl
            have c_c17 := xc.cell 17 _ rfl
            have c_c18 := xc.cell 18 _ rfl
            have c_c19 := xc.cell 19 _ rfl
            have c_c20 := xc.cell 20 _ rfl
            have m_c0 := xc.mark 0 _ rfl
            have m_c1 := xc.mark 1 _ rfl
            have m_c2 := xc.mark 2 _ rfl
            have m_c3 := xc.mark 3 _ rfl
            have m_c4 := xc.mark 4 _ rfl
            have m_c5 := xc.mark 5 _ rfl
            have m_c6 := xc.mark 6 _ rfl
            have m_c7 := xc.mark 7 _ rfl
            have m_c8 := xc.mark 8 _ rfl
            have m_c9 := xc.mark 9 _ rfl
            have m_c10 := xc.mark 10 _ rfl
            have m_c11 := xc.mark 11 _ rfl
            have m_c12 := xc.mark 12 _ rfl
            have m_c13 := xc.mark 13 _ rfl
            have m_c14 := xc.mark 14 _ rfl
            have m_c15 := xc.mark 15 _ rfl
            have m_c16 := xc.mark 16 _ rfl
            have m_c17 := xc.mark 17 _ rfl
            have m_c18 := xc.mark 18 _ rfl
            have m_c19 := xc.mark 19 _ rfl
            have m_c20 := xc.mark 20 _ rfl
            have l_c := xc.lt (Nat.succ_pos _)
            go_wp2_with fail
            clear c_c0 c_c1 c_c2 c_c3 c_c4 c_c5 c_c6 c_c7 c_c8 c_c9 c_c10 c_c11 c_c12 c_c13 c_c14 c_c15 c_c16 c_c17 c_c18 c_c19 c_c20 m_c0 m_c1 m_c2 m_c3 m_c4 m_c5 m_c6 m_c7 m_c8 m_c9 m_c10 m_c11 m_c12 m_c13 m_c14 m_c15 m_c16 m_c17 m_c18 m_c19 m_c20 l_c
            go_at_call 21
            refine (check_any f _ w1 (HF2.out.later hg)).mono ?_; rintro e' w2 ⟨rfl, hb1⟩
            rw [HB2.out]
            replace xc := xc.later hb1
            replace hg := hg.trans hb1
            clear hb1
            cases b2
            · go_wp2_with fail
              go_roundw
              case rel => exact ⟨j + 1, by have := HLT.out; omega, by go_num, by rw [HNX.out, HOK.out]; first | rfl | (cases hb <;> rfl), hg⟩
              case measure => have := HLT.out; simp [intOf]; omega
            · have c_c0 := xc.cell 0 _ rfl
              have c_c1 := xc.cell 1 _ rfl
              have c_c2 := xc.cell 2 _ rfl
              have c_c3 := xc.cell 3 _ rfl
              have c_c4 := xc.cell 4 _ rfl
              have c_c5 := xc.cell 5 _ rfl
              have c_c6 := xc.cell 6 _ rfl
              have c_c7 := xc.cell 7 _ rfl
              have c_c8 := xc.cell 8 _ rfl
              have c_c9 := xc.cell 9 _ rfl
              have c_c10 := xc.cell 10 _ rfl
              have c_c11 := xc.cell 11 _ rfl
              have c_c12 := xc.cell 12 _ rfl
              have c_c13 := xc.cell 13 _ rfl
              have c_c14 := xc.cell 14 _ rfl
              have c_c15 := xc.cell 15 _ rfl
              have c_c16 := xc.cell 16 _ rfl
              have c_c17 := xc.cell 17 _ rfl
              have c_c18 := xc.cell 18 _ rfl
              have c_c19 := xc.cell 19 _ rfl
              have c_c20 := xc.cell 20 _ rfl
              have m_c0 := xc.mark 0 _ rfl
              have m_c1 := xc.mark 1 _ rfl
              have m_c2 := xc.mark 2 _ rfl
              have m_c3 := xc.mark 3 _ rfl
              have m_c4 := xc.mark 4 _ rfl
              have m_c5 := xc.mark 5 _ rfl
              have m_c6 := xc.mark 6 _ rfl
              have m_c7 := xc.mark 7 _ rfl
              have m_c8 := xc.mark 8 _ rfl
              have m_c9 := xc.mark 9 _ rfl
              have m_c10 := xc.mark 10 _ rfl
              have m_c11 := xc.mark 11 _ rfl
              have m_c12 := xc.mark 12 _ rfl
              have m_c13 := xc.mark 13 _ rfl
              have m_c14 := xc.mark 14 _ rfl
              have m_c15 := xc.mark 15 _ rfl
              have m_c16 := xc.mark 16 _ rfl
              have m_c17 := xc.mark 17 _ rfl
              have m_c18 := xc.mark 18 _ rfl
              have m_c19 := xc.mark 19 _ rfl
              have m_c20 := xc.mark 20 _ rfl
              have l_c := xc.lt (Nat.succ_pos _)
              go_wp2_with fail
              go_roundw
              case rel => exact ⟨j + 1, by have := HLT.out; omega, by go_num, by rw [HNX.out, HOK.out]; first | rfl | (cases hb <;> rfl), hg⟩
              case measure => have := HLT.out; simp [intOf]; omega
      · skip
        go_wp2_with (first | ((with_reducible refine wpList_plain ?_ (fun _ hK => ?_)); (focus rfl); refine wp_load_at 52 (.tmp 19) rfl b (off + j * 21) rfl [.int .i64 op, .int .i64 pos, .int .u64 (wd s 0), .int .u64 (wd s 1), .int .u64 (wd s 2), .int .u64 (wd s 3), .string text, .int .i64 mn, .int .i64 mx, .slice p n c, .bool hb, .int .i64 op2, .int .i64 pos2, .int .u64 (wd s2 0), .int .u64 (wd s2 1), .int .u64 (wd s2 2), .int .u64 (wd s2 3), .string text2, .int .i64 mn2, .int .i64 mx2, .slice p2 n2 c2] _ HCELL.out Tryd.underlying52 rfl (by kernel_rfl) (hK _ _ ?_)) | ((with_reducible refine wpList_plain ?_ (fun _ hK => ?_)); (focus rfl); refine wp_store_row 52 (.tmp 6) (.tmp 20) rfl wr.heap.size #[.int .i64 op, .int .i64 pos, .int .u64 (wd s 0), .int .u64 (wd s 1), .int .u64 (wd s 2), .int .u64 (wd s 3), .string text, .int .i64 mn, .int .i64 mx, .slice p n c, .bool hb, .int .i64 op2, .int .i64 pos2, .int .u64 (wd s2 0), .int .u64 (wd s2 1), .int .u64 (wd s2 2), .int .u64 (wd s2 3), .string text2, .int .i64 mn2, .int .i64 mx2, .slice p2 n2 c2] rfl rfl 52 _ (heap_alloc_new wr _) (by kernel_rfl) rfl (all_ones _ rfl) (hK _ _ ?_); clear hK; refine name_wpList (fun xc_w hxc => ?_); obtain ⟨xc, xc_g, xc_s⟩ := new_row (cs := [.int .i64 op, .int .i64 pos, .int .u64 (wd s 0), .int .u64 (wd s 1), .int .u64 (wd s 2), .int .u64 (wd s 3), .string text, .int .i64 mn, .int .i64 mx, .slice p n c, .bool hb, .int .i64 op2, .int .i64 pos2, .int .u64 (wd s2 0), .int .u64 (wd s2 1), .int .u64 (wd s2 2), .int .u64 (wd s2 3), .string text2, .int .i64 mn2, .int .i64 mx2, .slice p2 n2 c2]) hxc; clear hxc; have xc_h := boxAt.row xc))
        replace hg := hg.trans xc_g
        clear xc_h xc_s xc_g xc
        go_roundw
        case rel => exact ⟨j + 1, by have := HLT.out; omega, by go_num, by rw [HNX.out, HOK.out]; first | rfl | (cases hb <;> rfl), hg⟩
        case measure => have := HLT.out; simp [intOf]; omega
    · have hjE : j = l.length := by omega
      clear hlt hj
      subst hjE
      have HALL := Lib.hid (badL_all (l.map (·.1)))
      rw [HLN.out] at HALL
      obtain ⟨q, hq⟩ : ∃ q, mayAll (l.map (·.1)) = q := ⟨_, rfl⟩
      rw [HALL.out, hq]
      have HQ := Lib.hid hq
      clear hq HALL
      cases q
      all_goals simp only [Bool.not_true, Bool.not_false]
      · have hac2 := hg.cell hac
        have hgl : 0 < wr.heap.size := World.block_lt_of_cell? wr _ hac2
        go_wp2_with fail
        refine wp_region_G (.take 0 (.run 1 false (.run 2 true .nil))) (by kernel_rfl) (by kernel_rfl) ?_
        simp only [pickOps, nthOp]
        intro wq hG
        repeat (first | (refine wpG_skip_take ?_ ?_; (focus rfl); try simp only [Act.put, List.setIfInBounds_toArray, List.set_cons_zero, List.set_cons_succ]) | (refine wpG_skip_run ?_ ?_; (focus rfl); try simp only [Act.put, List.setIfInBounds_toArray, List.set_cons_zero, List.set_cons_succ]) | (refine wpG_take ?_ ?_; (focus rfl); apply Exists.intro; refine ⟨fun w' hw' => ?_, ?_⟩; (focus (have hc := Gr.cells hw'; go_simp; (try rfl); done)); try simp only [Act.put, List.setIfInBounds_toArray, List.set_cons_zero, List.set_cons_succ]))
        refine wpG_run rfl (fun K hK => ?_)
        go_simp
        refine hK.out _ _ hG ?_
        clear hK K
        try simp only [Act.put, List.setIfInBounds_toArray, List.set_cons_zero, List.set_cons_succ]
        refine wpG_last ?_ (fun K hK => ?_); (focus rfl)
        have hc := hG.cells
        have hm := hG.marks
        go_simp
        refine hK.out _ _ ?_
        try simp only [Act.put, List.setIfInBounds_toArray, List.set_cons_zero, List.set_cons_succ]
        clear hK K hc hm
        refine wpG_done ?_
        go_wp2_with fail
        exact bodyPost_ret (v := .tuple #[.slice none 0 0, .iface ta xa]) (by simp [results, Tryd.results16, go_sem]) rfl ⟨_, _, rfl, .arg HQ.out, hg.trans hG⟩
      · have HL200 := Lib.hid (show l.length ≤ 200 by have := may_len HQ.out; rw [HLN.out] at this; exact this)
        go_wp2_with fail
        go_loopw [7, 54] (fun v i wq => ∃ (j : Nat) (M : List (Int × Int)), j ≤ l.length ∧ i = .int .i64 (j : Int) ∧ Hid (M.length = j) ∧ Hid (((l.map (·.1)).take j).map cutOf = M.map some) ∧ wq.ownsRow w.heap.size 64 2 v j (M.flatMap cutCells) ∧ Gr w wq) (fun _ i _ => l.length - (intOf i).toNat)
        case atStart => exact ⟨0, [], by omega, rfl, Lib.hid rfl, Lib.hid rfl, World.ownsRow_nil _ _ _ _, hg⟩
        case round =>
          obtain ⟨j, M, hj, rfl, HMJ, HM, hown, hgr⟩ := hrel
          clear hg
          by_cases hlt : j < l.length
          · obtain ⟨b, off, cap, op, pos, s, text, mn, mx, p, n, c, op2, pos2, s2, text2, mn2, mx2, p2, n2, c2, e, hb, f, hv, hbW, ha, he, hf, hat⟩ := cores_at HS.out HL.out j hlt
            simp only [Value.slice.injEq, true_and] at hv
            obtain ⟨rfl, rfl⟩ := hv
            obtain ⟨hbr, hcell⟩ := hat wr hgr
            unfold exCells at hcell
            have HCELL := Lib.hid (fun t u (h : [.int .i64 op, .int .i64 pos, .int .u64 (wd s 0), .int .u64 (wd s 1), .int .u64 (wd s 2), .int .u64 (wd s 3), .string text, .int .i64 mn, .int .i64 mx, .slice p n c, .bool hb, .int .i64 op2, .int .i64 pos2, .int .u64 (wd s2 0), .int .u64 (wd s2 1), .int .u64 (wd s2 2), .int .u64 (wd s2 3), .string text2, .int .i64 mn2, .int .i64 mx2, .slice p2 n2 c2][t]? = some u) => hcell t u (by have := (List.getElem?_eq_some_iff.1 h).1; simpa using this) h)
            have hjI : (j : Int) < (l.length : Int) := by omega
            have hmj : (l.map (·.1))[j]? = some ⟨e, hb, f⟩ := by rw [List.getElem?_map, ha]; rfl
            have HMJ2 := Lib.hid hmj
            have HLT := Lib.hid hlt
            have HOK := Lib.hid (may_mem HQ.out (List.mem_of_getElem? hmj))
            have HE := Lib.hid he
            have HF := Lib.hid hf
            clear hlt hcell hat ha hj hbW hmj he hf
            go_wp2_with (first | ((with_reducible refine wpList_plain ?_ (fun _ hK => ?_)); (focus rfl); refine wp_load_at 52 (.tmp 57) rfl b (off + j * 21) rfl [.int .i64 op, .int .i64 pos, .int .u64 (wd s 0), .int .u64 (wd s 1), .int .u64 (wd s 2), .int .u64 (wd s 3), .string text, .int .i64 mn, .int .i64 mx, .slice p n c, .bool hb, .int .i64 op2, .int .i64 pos2, .int .u64 (wd s2 0), .int .u64 (wd s2 1), .int .u64 (wd s2 2), .int .u64 (wd s2 3), .string text2, .int .i64 mn2, .int .i64 mx2, .slice p2 n2 c2] _ HCELL.out Tryd.underlying52 rfl (by kernel_rfl) (hK _ _ ?_)) | ((with_reducible refine wpList_plain ?_ (fun _ hK => ?_)); (focus rfl); refine wp_store_row 52 (.tmp 9) (.tmp 58) rfl wr.heap.size #[.int .i64 op, .int .i64 pos, .int .u64 (wd s 0), .int .u64 (wd s 1), .int .u64 (wd s 2), .int .u64 (wd s 3), .string text, .int .i64 mn, .int .i64 mx, .slice p n c, .bool hb, .int .i64 op2, .int .i64 pos2, .int .u64 (wd s2 0), .int .u64 (wd s2 1), .int .u64 (wd s2 2), .int .u64 (wd s2 3), .string text2, .int .i64 mn2, .int .i64 mx2, .slice p2 n2 c2] rfl rfl 52 _ (heap_alloc_new wr _) (by kernel_rfl) rfl (all_ones _ rfl) (hK _ _ ?_); clear hK; refine name_wpList (fun xc_w hxc => ?_); obtain ⟨xc, xc_g, xc_s⟩ := new_row (cs := [.int .i64 op, .int .i64 pos, .int .u64 (wd s 0), .int .u64 (wd s 1), .int .u64 (wd s 2), .int .u64 (wd s 3), .string text, .int .i64 mn, .int .i64 mx, .slice p n c, .bool hb, .int .i64 op2, .int .i64 pos2, .int .u64 (wd s2 0), .int .u64 (wd s2 1), .int .u64 (wd s2 2), .int .u64 (wd s2 3), .string text2, .int .i64 mn2, .int .i64 mx2, .slice p2 n2 c2]) hxc; clear hxc; have xc_h := boxAt.row xc) | ((with_reducible refine wpList_plain ?_ (fun _ hK => ?_)); (focus rfl); refine wp_load_at 52 (.tmp 9) rfl wr.heap.size (0) rfl [.int .i64 op, .int .i64 pos, .int .u64 (wd s 0), .int .u64 (wd s 1), .int .u64 (wd s 2), .int .u64 (wd s 3), .string text, .int .i64 mn, .int .i64 mx, .slice p n c, .bool hb, .int .i64 op2, .int .i64 pos2, .int .u64 (wd s2 0), .int .u64 (wd s2 1), .int .u64 (wd s2 2), .int .u64 (wd s2 3), .string text2, .int .i64 mn2, .int .i64 mx2, .slice p2 n2 c2] _ xc_h Tryd.underlying52 rfl (by kernel_rfl) (hK _ _ ?_)))
            clear xc_h xc_s xc
            replace hown := owns_later hown xc_g
            replace hgr := hgr.trans xc_g
            clear xc_g
            go_at_call 29
            refine (cut_any e f hb op pos s text mn mx p n c op2 pos2 s2 text2 mn2 mx2 p2 n2 c2 xc_w (HE.out.later hgr) (HF.out.later hgr) HOK.out).mono ?_; rintro e' w1 ⟨rfl, hb1⟩
            replace hown := owns_later hown hb1
            replace hgr := hgr.trans hb1
            clear hb1
            obtain ⟨rc, hrc⟩ : ∃ r, cutOf ⟨e, hb, f⟩ = r := ⟨_, rfl⟩
            rw [hrc]
            have HRC := Lib.hid hrc
            clear hrc
            rcases rc with _ | ⟨k, m⟩
            · simp only [cutVal]
              have htc2 := hgr.cell htc
              have hgl : 1 < w1.heap.size := World.block_lt_of_cell? w1 _ htc2
              go_wp2_with fail
              go_at_call 30
              refine name_calls (fun W hW => ?_)
              have hgW : Gr w W := by rw [hW]; exact hgr.trans (Gr.alloc _ _)
              clear hW hown
              refine (inRule_any tt xt _ W).mono ?_; rintro e' w3 ⟨rfl, hbx, hg3⟩
              have hsz := hgW.size
              replace hgW := hgW.trans hg3
              go_wp2_with fail
              exact bodyPost_ret (v := .tuple #[.slice none 0 0, .iface 109 (.pointer (some ⟨W.heap.size, 0, none⟩))]) (by simp [results, Tryd.results16, go_sem]) rfl ⟨_, _, rfl, .trail j ⟨e, hb, f⟩ _ HQ.out HMJ2.out HRC.out (cuts_before HM.out HMJ.out) hsz hbx, hgW⟩
            · simp only [cutVal]
              go_wp2_with (at_builtin; refine name_wpList (fun W hW => ?_); have xk : boxAt W (w1.heap.size + 1) [.int .i64 k, .int .i64 m] := (by rw [hW]; have h1 := boxAt.new (w := w1.alloc (.cells #[.int .i64 k, .int .i64 m] 64)) [.int .i64 k, .int .i64 m] 64 rfl; simpa using h1); have hgW : Gr w1 W := (by rw [hW]; exact (Gr.alloc _ _).trans (Gr.alloc _ _)); clear hW; replace hown := owns_later hown hgW; refine wpList_append_own _ rfl (.tmp 70) (.tmp 72) 54 rfl w.heap.size 64 i0 (.agg #[.int .i64 0, .int .i64 0]) 2 16 Tryd.underlying54 hi hz0 hz1 hz2 rfl (by decide) _ _ _ rfl hown ⟨w1.heap.size + 1, 0, none⟩ 1 1 (cutCells (k, m)) rfl rfl ?c1 ?c2 ?c3 ?c4 ?c5 ?_)
              case c1 => exact fun t u h => by rw [addr_add]; exact xk.row t u h
              case c2 => exact cutCells_ones _
              case c3 => have := HL200.out; have := HLT.out; unfold maxLen; omega
              case c4 => have := HL200.out; have := HLT.out; omega
              case c5 => exact Nat.le_trans hgr.size hgW.size
              intro v6 w6 hown6 hgrow _
              have hg6 : Gr w w6 := Gr.grown (hgr.trans hgW) hgrow (fun k hk => (World.ownsRow.lt hown k hk).1)
              have hown7 : w6.ownsRow w.heap.size 64 2 v6 (j + 1) ((M ++ [(k, m)]).flatMap cutCells) := by
                rw [List.flatMap_append]; simpa using hown6
              clear hown6 hgrow hown hgr hgW xk
              go_wp2_with fail
              go_roundw
              case rel => exact ⟨j + 1, M ++ [(k, m)], by have := HLT.out; omega, by go_num, Lib.hid (by rw [List.length_append, HMJ.out]; rfl), Lib.hid (cuts_next HM.out HMJ2.out HRC.out), hown7, hg6⟩
              case measure => have := HLT.out; simp [intOf]; omega
          · have hjE : j = l.length := by omega
            clear hlt hj
            subst hjE
            obtain ⟨pw, cw, rfl⟩ := (Sl.of_owns hown).len
            go_wp2_with fail
            exact bodyPost_ret (v := .tuple #[.slice pw l.length cw, .nilIface]) (by simp [results, Tryd.results16, go_sem]) rfl ⟨_, _, rfl, .cuts M _ HQ.out (by rw [← HM.out, ← HLN.out, List.take_length]) (by rw [HMJ.out]; exact hown), hgr⟩

end Go.Proofs.YtpcmgkohebihmaaDoor
