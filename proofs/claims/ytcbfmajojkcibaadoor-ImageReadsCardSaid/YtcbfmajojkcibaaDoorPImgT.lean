/- bolterlaw17: what the kit tells of refusals, copies of bytes, wakes. No condition but that the errors' variables hold them. -/
import Derived.Test.YtcbfmajojkcibaaDoorPImgS
import Derived.Test.YtcbfmajojkcibaaDoorPGh
import Derived.Test.YtcbfmajojkcibaaDoorPAppend0
namespace Go.Proofs.YtcbfmajojkcibaaDoor
open Go Go.RowKit

/-- The error of a code. -/
def esI (s : Nat → Addr) (k : Nat) : Value := .iface 157 (.pointer (some (s k)))
theorem leaf_tell {W : World} {s : Nat → Addr} (hF : FaultsIn W s) (i : Nat) (h1 : 2 ≤ i) (h2 : i ≤ 17) : Calls Tryd.prog 47 #[esI s i] W fun x w' => x = .returned (.agg #[.int .i64 (i : Int), .int .i64 0, .int .i64 0, .int .i64 0, .slice none 0 0]) ∧ Gr W w' :=
  tell_any hF (.leaf (s i)) (hF.leaf i h1 h2) trivial i h1 h2 rfl rfl
set_option maxRecDepth 100000 in
theorem code_of_tell (v : Value) (W : World) (c : Int) (ht : Calls Tryd.prog 47 #[v] W fun e w' => e = .returned (.agg #[.int .i64 c, .int .i64 0, .int .i64 0, .int .i64 0, .slice none 0 0]) ∧ Gr W w') :
    Calls Tryd.prog 23 #[v] W fun e w' => e = .returned (.int .i64 c) ∧ Gr W w' := by
  have HT := Lib.hid ht
  clear ht
  have hf : ∀ w', (Instr.field 34 (.agg #[.int .i64 c, .int .i64 0, .int .i64 0, .int .i64 0, .slice none 0 0]) 0).run Tryd.prog w' = .ok (.int .i64 c) w' := fun _ => by kernel_rfl
  go_enter Tryd.func23, Tryd.ntmps23
  go_wp2_with (go_at_call 47; (with_reducible refine HT.out.mono ?_); rintro e w1 ⟨rfl, hg⟩)
  go_ret
  exact ⟨rfl, hg⟩
theorem leaf_code {W : World} {s : Nat → Addr} (hF : FaultsIn W s) (i : Nat) (h1 : 2 ≤ i) (h2 : i ≤ 17) : Calls Tryd.prog 23 #[esI s i] W fun x w' => x = .returned (.int .i64 (i : Int)) ∧ Gr W w' := code_of_tell _ _ _ (leaf_tell hF i h1 h2)
theorem nil_code (W : World) : Calls Tryd.prog 23 #[.nilIface] W fun x w' => x = .returned (.int .i64 0) ∧ Gr W w' := code_of_tell _ _ _ (tell_nil W)
theorem leaf_same {W : World} {s : Nat → Addr} (hF : FaultsIn W s) (i : Nat) (h1 : 2 ≤ i) (h2 : i ≤ 17) : Calls Tryd.prog 13 #[esI s i, .agg #[.int .i64 (i : Int), .int .i64 0, .int .i64 0, .int .i64 0, .slice none 0 0]] W fun e w' => e = .returned (.bool true) ∧ Gr W w' :=
  same_err _ _ _ 0 0 0 W (by omega) (fun W' hg => leaf_tell (hF.later hg) i h1 h2)
set_option maxRecDepth 100000 in
theorem is17_any (c : Int) (w : World) : Calls Tryd.prog 25 #[.int .i64 c] w fun e w' => e = .returned (.agg #[.int .i64 c, .int .i64 0, .int .i64 0, .int .i64 0, .slice none 0 0]) ∧ Gr w w' := by
  go_enter Tryd.func25, Tryd.ntmps25
  go_wp2_with fail
  refine bodyPost_ret (v := .agg #[.int .i64 c, .int .i64 0, .int .i64 0, .int .i64 0, .slice none 0 0]) (by simp [results, Tryd.results25, go_sem]) rfl ⟨rfl, Gr.alloc _ _⟩

theorem OwnB.nily {w : World} {B : Nat} {v : Value} {l : List UInt8} (h : OwnB w B v l) : Nily v := by
  obtain ⟨_, ⟨hv, _⟩ | ⟨g, cap, cur, hv, _⟩⟩ := h
  · exact .inl hv
  · exact .inr ⟨_, _, _, hv⟩
theorem OwnB.cap {w : World} {B : Nat} {v : Value} {l : List UInt8} (h : OwnB w B v l) : CapOk v := by
  intro p n c hv
  obtain ⟨_, ⟨h2, h3⟩ | ⟨g, cap, cur, h2, _, _, h3, _⟩⟩ := h
  · rw [h2] at hv; injection hv with _ e1 e2; omega
  · rw [h2] at hv; injection hv with _ e1 e2; omega
set_option maxRecDepth 100000 in
set_option maxHeartbeats 2000000 in
/-- bolterref0.Copy. -/
theorem copyB_any (l : List UInt8) (v : Value) (w : World) (h : Sl w v 1 l.length (l.map vB)) (hz : Nily v) (hl : l.length ≤ 70368744177664) :
    Calls Tryd.prog 22 #[v] w fun e w' => ∃ u, e = .returned u ∧ OwnB w' w.heap.size u l ∧ Gr w w' := by
  obtain ⟨i0, hi, hz0, hz1, hz2⟩ := info_parts info_byte
  obtain ⟨ao, c, rfl, hn, hs⟩ := src_of h hz
  have HN := Lib.hid hn
  have HS := Lib.hid hs
  clear h hz hn hs
  go_enter Tryd.func22, Tryd.ntmps22
  go_wp2_with (at_builtin; refine wpList_append_own_any rfl (.tmp 4) (.tmp 5) 32 rfl w.heap.size 5 i0 (.int .u8 0) 1 1 Tryd.underlying32 hi hz0 hz1 hz2 rfl (by decide) (.slice none 0 0) 0 [] rfl (World.ownsRow_nil _ _ _ _) ao l.length c (l.map vB) rfl (by simp) HN.out HS.out ?c1 ?c2 ?c3 ?c4 ?_)
  case c1 => intro u hu; obtain ⟨x, _, rfl⟩ := List.mem_map.1 hu; rfl
  case c2 => unfold maxLen; omega
  case c3 => omega
  case c4 => exact Nat.le_refl _
  intro v' w2 hown hgrow _
  have ho : OwnB w2 w.heap.size v' l := by
    unfold OwnB; exact hown
  have hg : Gr w w2 := (Gr.refl w).grown hgrow (fun k hk => by cases hk)
  have HO := Lib.hid ho
  obtain ⟨p2, c2, rfl⟩ := (Sl.of_owns ho).len
  clear hown hgrow ho
  go_wp2_with fail
  go_ret
  exact ⟨_, rfl, HO.out, hg⟩

theorem varB_eq (n : Nat) (h : n < 128) : varB n = [UInt8.ofNat n] := varB_small h
set_option maxRecDepth 100000 in
theorem enc_least : encT leastT = headB ++ ([1, 5, 115, 116, 97, 114, 116, 0] ++ ([0] ++ ([1] ++ (List.replicate 256 0 ++ ([1] ++ ([0, 0, 0] ++ [0])))))) := by
  have h0 : varB 0 = [0] := varB_small (by omega)
  have h1 : varB 1 = [1] := varB_small (by omega)
  have h5 : varB 5 = [5] := varB_small (by omega)
  have h256 : (List.replicate 256 (0 : Int)).flatMap encI = List.replicate 256 0 := by
    rw [List.flatMap_replicate]
    have : encI 0 = [0] := by unfold encI; exact h0
    rw [this]
    exact List.flatten_replicate_singleton
  unfold encT encRc rcOf leastT
  simp only [List.zip_cons_cons, List.zip_nil_right, List.zip_nil_left, List.length_cons, List.length_nil, List.flatMap_cons, List.flatMap_nil, encM, encS, txB, h256]
  simp only [encI]
  simp [h0, h1, h5]
theorem len_least : (encT leastT).length = 275 := by
  rw [enc_least]
  simp only [List.length_append, List.length_replicate, List.length_cons, List.length_nil, headB]
theorem may_least : mayB leastT = true := by decide +kernel
theorem dec_three : decT 2 3 255 [66, 76, 84] = none := by unfold decT; rw [if_neg (by decide)]
theorem TbO.tabs {w : World} {B : Nat} {t : Tb} {v : TbV} (h : TbO w B t v) (ht : ∀ s, s ∈ t.modes ∨ s ∈ t.labels → s.length ≤ 9223372036854775807) : TbIn w t v := h.rows.tabs h.len ht
theorem TbO.later {w w' : World} {B : Nat} {t : Tb} {v : TbV} (h : TbO w B t v) (hG : Gr w w') : TbO w' B t v := ⟨⟨fun r hr => owns_later (h.rows.own r hr) hG, h.rows.apart, h.rows.out⟩, h.len⟩
theorem least_txt : ∀ s, s ∈ leastT.modes ∨ s ∈ leastT.labels → s.length ≤ 9223372036854775807 := fun s hs => by
  rcases hs with hs | hs
  · rw [List.mem_singleton.1 hs]; decide
  · cases hs
theorem least_fit : ∀ s, s ∈ leastT.base → -9223372036854775808 ≤ s ∧ s ≤ 9223372036854775807 := fun s hs => by
  rw [List.mem_singleton.1 hs]; decide

end Go.Proofs.YtcbfmajojkcibaaDoor
