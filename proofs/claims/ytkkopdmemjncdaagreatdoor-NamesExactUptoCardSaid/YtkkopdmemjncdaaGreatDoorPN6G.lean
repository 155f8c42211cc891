/- Texts of mine, put together: N6G. No condition but what each says. -/
import Derived.Test.YtkkopdmemjncdaaGreatDoorPN6F
import Derived.Test.YtkkopdmemjncdaaGreatDoorPHl
import Derived.Test.YtkkopdmemjncdaaGreatDoorPNmK
namespace Go.Proofs.YtkkopdmemjncdaaGreatDoor
open Go Go.RowKit
def Ds (U : List (List Nat)) (tg N i : Nat) (x : Int) : Prop := (x = -1 ∧ ∀ m, 1 ≤ m → m < N → ¬ wayN U m i tg) ∨ ∃ m, 1 ≤ m ∧ m < N ∧ x = (m : Int) ∧ wayN U m i tg ∧ ∀ m', 1 ≤ m' → m' < m → ¬ wayN U m' i tg
structure DsIn (U : List (List Nat)) (tg N k : Nat) (d : List Int) : Prop where
 len : d.length = U.length
 new : ∀ i, i < k → i < U.length → Ds U tg (N + 1) i (farAt d i)
 old : ∀ i, k ≤ i → i < U.length → Ds U tg N i (farAt d i)
def hitB (tg N : Nat) (d : List Int) (j : Nat) : Bool := (decide (N = 1) && decide (j = tg)) || (decide (1 < N) && decide (farAt d j = (N : Int) - 1))
def hitTo (d : List Int) (i N : Nat) (q : Bool) : List Int := if q then d.set i (N : Int) else d
theorem hitTo_len (d : List Int) (i N : Nat) (q : Bool) : (hitTo d i N q).length = d.length := by
 unfold hitTo
 split
 · exact List.length_set
 · rfl
theorem hitTo_set (d : List Int) (i N : Nat) (q : Bool) : (hitTo d i N q).set i (N : Int) = hitTo d i N true := by
 unfold hitTo
 cases q with
 | false => rfl
 | true => exact List.set_set _
theorem hit_at {d : List Int} {i N : Nat} (hi : i < d.length) (h : farAt d i = -1) (hN : 1 < N) (q : Bool) (j : Nat) : farAt (hitTo d i N q) j = (N : Int) - 1 ↔ farAt d j = (N : Int) - 1 := by
 unfold hitTo
 cases q with
 | false => exact Iff.rfl
 |
  true =>
  show farAt (d.set i (N : Int)) j = _ ↔ _
  rw [farAt_set hi]
  by_cases e : j = i
  · subst e; rw [if_pos rfl, h]; omega
  · rw [if_neg e]
theorem DsIn.start (U : List (List Nat)) (tg : Nat) : DsIn U tg 1 0 (List.replicate U.length (-1)) :=
 ⟨List.length_replicate, (fun i hi _ => by omega), fun i _ hi => .inl ⟨by unfold farAt; rw [List.getElem?_replicate, if_pos hi]; rfl, fun m h1 h2 => by omega⟩⟩
theorem DsIn.next {U : List (List Nat)} {tg N k : Nat} {d : List Int} (h : DsIn U tg N k d) (hk : U.length ≤ k) : DsIn U tg (N + 1) 0 d :=
 ⟨h.len, (fun i hi _ => by omega), fun i _ hi => h.new i (by omega) hi⟩
theorem DsIn.at {U : List (List Nat)} {tg N k : Nat} {d : List Int} (h : DsIn U tg N k d) {j : Nat} (hj : j < U.length) : Ds U tg N j (farAt d j) ∨ Ds U tg (N + 1) j (farAt d j) := by
 rcases Nat.lt_or_ge j k with h1 | h1
 · exact .inr (h.new j h1 hj)
 · exact .inl (h.old j h1 hj)
theorem Ds.up {U : List (List Nat)} {tg N i : Nat} {x : Int} (h : Ds U tg N i x) (hx : 0 ≤ x) : Ds U tg (N + 1) i x := by
 rcases h with ⟨h, _⟩ | ⟨m, h1, h2, h3⟩
 · omega
 · exact .inr ⟨m, h1, by omega, h3⟩
theorem Ds.low {U : List (List Nat)} {tg N i : Nat} {x : Int} (h : Ds U tg N i x) (hx : x < 0) : x = -1 := by
 rcases h with ⟨h, _⟩ | ⟨m, h1, h2, h3, _⟩
 · exact h
 · omega
theorem DsIn.skip {U : List (List Nat)} {tg N k : Nat} {d : List Int} (h : DsIn U tg N k d) (hx : 0 ≤ farAt d k) : DsIn U tg N (k + 1) d :=
 ⟨h.len, fun i hi hl => by
  rcases Nat.lt_or_ge i k with h1 | h1
  · exact h.new i h1 hl
  ·
   have e : i = k := by omega
   subst e
   exact (h.old i h1 hl).up hx, fun i hi hl => h.old i (by omega) hl⟩
theorem
    hit_way {U : List (List Nat)} {tg N k : Nat} {d : List Int} (h : DsIn U tg N k d) (hN : 1 ≤ N) (hk : k < U.length) {r : List Nat} (hr : U[k]? = some r) (hin : ∀ x ∈ r, x < U.length) (hx : farAt d k = -1) : r.any (hitB tg N d) = true ↔ wayN U N k tg := by
 have hno : ∀ m, 1 ≤ m → m < N → ¬ wayN U m k tg := by
  rcases h.old k (Nat.le_refl _) hk with ⟨_, h1⟩ | ⟨m, h1, h2, h3, _⟩
  · exact h1
  · omega
 obtain ⟨M, rfl⟩ : ∃ M, N = M + 1 := ⟨N - 1, by omega⟩
 have e : U[k]?.getD [] = r := by rw [hr]; rfl
 rw [List.any_eq_true]
 constructor
 ·
  rintro ⟨j, hj, hb⟩
  refine ⟨j, by rw [e]; exact hj, ?_⟩
  unfold hitB at hb
  simp only [Bool.or_eq_true, Bool.and_eq_true, decide_eq_true_eq] at hb
  rcases hb with ⟨h1, h2⟩ | ⟨h1, h2⟩
  ·
   have : M = 0 := by omega
   subst this
   exact h2
  ·
   rcases h.at (hin j hj) with h3 | h3
   all_goals
    rcases h3 with ⟨h4, _⟩ | ⟨m, _, _, h5, h6, _⟩
    · omega
    ·
     have : m = M := by omega
     subst this
     exact h6
 ·
  rintro ⟨j, hj, hw⟩
  rw [e] at hj
  refine ⟨j, hj, ?_⟩
  unfold hitB
  simp only [Bool.or_eq_true, Bool.and_eq_true, decide_eq_true_eq]
  cases M with
  | zero => exact .inl ⟨rfl, hw⟩
  |
   succ M =>
   refine .inr ⟨by omega, ?_⟩
   have key : ∀ N', M + 2 ≤ N' → Ds U tg N' j (farAt d j) → farAt d j = ((M + 1 + 1 : Nat) : Int) - 1 := fun N' hN' h3 => by
    rcases h3 with ⟨_, h4⟩ | ⟨m, h4, h5, h6, h7, h8⟩
    · exact absurd hw (h4 (M + 1) (by omega) (by omega))
    ·
     rcases Nat.lt_trichotomy m (M + 1) with h9 | h9 | h9
     · exact absurd ⟨j, by rw [e]; exact hj, h7⟩ (hno (m + 1) (by omega) (by omega))
     · omega
     · exact absurd hw (h8 (M + 1) (by omega) h9)
   rcases h.at (hin j hj) with h3 | h3
   · exact key _ (by omega) h3
   · exact key _ (by omega) h3
theorem
    DsIn.look {U : List (List Nat)} {tg N k : Nat} {d : List Int} (h : DsIn U tg N k d) (hN : 1 ≤ N) (hk : k < U.length) {r : List Nat} (hr : U[k]? = some r) (hin : ∀ x ∈ r, x < U.length) (hx : farAt d k = -1) : DsIn U tg N (k + 1) (hitTo d k N (r.any (hitB tg N d))) := by
 have hw := hit_way h hN hk hr hin hx
 have hkl : k < d.length := by rw [h.len]; exact hk
 have hno : ∀ m, 1 ≤ m → m < N → ¬ wayN U m k tg := by
  rcases h.old k (Nat.le_refl _) hk with ⟨_, h1⟩ | ⟨m, h1, h2, h3, _⟩
  · exact h1
  · omega
 generalize r.any (hitB tg N d) = q at hw
 have hf : ∀ i, i ≠ k → farAt (hitTo d k N q) i = farAt d i := fun i hne => by
  unfold hitTo
  cases q with
  | false => rfl
  |
   true =>
   show farAt (d.set k (N : Int)) i = _
   rw [farAt_set hkl, if_neg hne]
 refine ⟨by rw [hitTo_len]; exact h.len, fun i hi hl => ?_, fun i hi hl => ?_⟩
 ·
  by_cases e : i = k
  ·
   subst e
   cases q with
   |
    false =>
    refine .inl ⟨hx, fun m h1 h2 => ?_⟩
    rcases Nat.lt_or_ge m N with h3 | h3
    · exact hno m h1 h3
    ·
     have : m = N := by omega
     subst this
     intro h4
     have := hw.2 h4
     cases this
   |
    true =>
    refine .inr ⟨N, hN, by omega, ?_, hw.1 rfl, hno⟩
    show farAt (d.set i (N : Int)) i = _
    rw [farAt_set hkl, if_pos rfl]
  ·
   rw [hf i e]
   exact h.new i (by omega) hl
 ·
  rw [hf i (by omega)]
  exact h.old i (by omega) hl
theorem any_snoc {α : Type} {l : List α} {k : Nat} {x : α} (f : α → Bool) (h : l[k]? = some x) : (l.take (k + 1)).any f = ((l.take k).any f || f x) := by
 rw [take_snoc h, List.any_append]
 simp
structure DkI (w0 : World) (tr n : Nat) (d : List Int) (w : World) : Prop where
 gr : Gr w0 w
 row : w.ownsRow w0.heap.size 3 1 (.slice (some ⟨tr, 0, none⟩) n n) n (farV d)
 len : d.length = n
 low : w0.heap.size ≤ tr
theorem DkI.later {w0 w w' : World} {tr n : Nat} {d : List Int} (h : DkI w0 tr n d w) (hG : Gr w w') : DkI w0 tr n d w' :=
 { h with gr := h.gr.trans hG, row := owns_later h.row hG }
theorem DkI.set {w0 w : World} {tr n : Nat} {d : List Int} (h : DkI w0 tr n d w) (i : Nat) (hi : i < n) (x : Int) : DkI w0 tr n (d.set i x) (w.setCell ⟨tr, i, none⟩ (.int .i64 x)) := by
 refine ⟨Below.setCell h.gr (show w0.heap.size ≤ (⟨tr, i, none⟩ : Addr).block from h.low) _, ?_, by rw [List.length_set]; exact h.len, h.low⟩
 rw [← farV_set]
 exact owns_set h.row i (by rw [farV_len, h.len]; exact hi) _
theorem farV_at {far : List Int} {i : Nat} (h : i < far.length) : (farV far)[i]? = some (.int .i64 (farAt far i)) := by
 unfold farV farAt
 rw [List.getElem?_map, List.getElem?_eq_getElem h]; rfl
set_option maxRecDepth 100000 in
set_option maxHeartbeats 16000000 in
theorem
    dist_any (
         w
          :
           World) (v : Value) (U : List (List Nat)) (hU : RowsY w v U) (hn : U.length ≤ 1048576) (hrw : ∀ (i : Nat) (r : List Nat), U[i]? = some r → r.length ≤ 1048576) (hin : ∀ (i : Nat) (r : List Nat), U[i]? = some r → ∀ x ∈ r, x < U.length) (tg : Nat) (hto : tg < U.length) :
  Calls Tryz.prog 70 #[v, .int .i64 (tg : Int)] w fun e w' => ∃ (tr : Nat) (d : List Int), e = .returned (.slice (some ⟨tr, 0, none⟩) U.length U.length) ∧ DsIn U tg (U.length + 1) 0 d ∧ DkI w tr U.length d w' := by
 obtain ⟨i1, ki, ky0, ky1, ky2⟩ := info_parts info_intN
 obtain ⟨n, hln⟩ : ∃ n, U.length = n := ⟨_, rfl⟩
 obtain ⟨pv, cv, rfl⟩ : ∃ p c, v = .slice p n c := by
  obtain ⟨vs, h1, h2, _⟩ := hU.sl
  rw [hln] at h2
  exact h2.len
 have HU := Lib.hid hU
 have HLN := Lib.hid hln
 have HRW := Lib.hid hrw
 have HIN := Lib.hid (show ∀ (i : Nat) (r : List Nat), U[i]? = some r → ∀ x ∈ r, x < n from fun i r h x hx => by have := hin i r h x hx; omega)
 have HST := Lib.hid (DsIn.start U tg)
 rw [hln] at hn hto HST ⊢
 have hnI : (n : Int) ≤ 1048576 := by omega
 have htI : (tg : Int) ≤ 1048576 := by omega
 have HNB := Lib.hid hn
 clear hU hin hln hn hrw hto
 go_enter Tryz.func70, Tryz.ntmps70
 go_wp2_with (first
  | (at_make; refine wpList_make_full w rfl _ _ _ rfl w.heap.size 3 i1 (.int .i64 0) 1 Tryz.underlying32 ki ky0 ky1 .i64 .i64 _ _ n rfl rfl rfl rfl (by rw [ky2]; have := HNB.out; omega) (by have := HNB.out; unfold maxLen; omega) (Nat.le_refl _) ?_; intro w1 hown1 hg1; have HOWN := Lib.hid hown1; have HG1 := Lib.hid hg1; clear hown1 hg1)
  | go_in)
 have HI0 := Lib.hid (show DkI w w.heap.size n (List.replicate n 0) w1 from by
  have ho := HOWN.out
  rw [made_rep _ rfl] at ho
  have e : farV (List.replicate n 0) = List.replicate n (.int .i64 0) := by unfold farV; rw [List.map_replicate]
  exact ⟨Gr.grown (Gr.refl _) HG1.out (fun k hk => by cases hk), by rw [e]; exact ho, by simp, Nat.le_refl _⟩)
 obtain ⟨tr, htr⟩ : ∃ q, w.heap.size = q := ⟨_, rfl⟩
 rw [htr] at HI0
 simp only [htr]
 clear htr HOWN HG1
 go_loopw [6] (fun ix wr => ∃ k : Nat, k ≤ n ∧ ix = .int .i64 (k : Int) ∧ Hid (DkI w tr n (List.replicate k (-1) ++ List.replicate (n - k) 0) wr)) (fun ix _ => n - (intOf ix).toNat)
 case atStart => exact ⟨0, Nat.zero_le _, rfl, by simpa using HI0⟩
 case round =>
  clear HI0
  obtain ⟨k, hk, rfl, HI⟩ := hrel
  rcases Nat.lt_or_ge k n with hkn | hkn
  ·
   have hkI : (k : Int) < (n : Int) := by omega
   have HKN := Lib.hid hkn
   have kt := owns_cell HI.out.row k _ (farV_at (by rw [HI.out.len]; exact hkn))
   have kn := owns_mark HI.out.row k
   have kl := (World.ownsRow.lt HI.out.row tr rfl).2
   clear hk hkn
   go_wp2_with fail
   go_roundw
   case rel => exact ⟨k + 1, HKN.out, by go_num, Lib.hid (by rw [← rep_set n k HKN.out]; exact HI.out.set k HKN.out (-1))⟩
   case measure => have := HKN.out; simp [intOf]; omega
  ·
   have hkI : ¬ (
          k
           :
            Int) < (n : Int) := by omega
   have HI1 := Lib.hid (show DkI w tr n (List.replicate n (-1)) wr by
    have := HI.out
    rw [show k = n by omega, Nat.sub_self] at this
    simpa using this)
   clear hk hkn HI
   go_wp2_with fail
   go_loopw [7] (fun nx wr => ∃ N : Nat, 1 ≤ N ∧ N ≤ n + 1 ∧ nx = .int .i64 (N : Int) ∧ ∃ d : List Int, Hid (DkI w tr n d wr) ∧ Hid (DsIn U tg N 0 d)) (fun nx _ => n + 1 - (intOf nx).toNat)
   case atStart => exact ⟨1, Nat.le_refl _, by omega, rfl, _, HI1, HST⟩
   case round =>
    clear HI1 HST
    obtain ⟨N, hN, hNn, rfl, d, HI, HD⟩ := hrel
    rcases Nat.lt_or_ge n N with hnN | hnN
    ·
     have hle : ¬ (N : Int) ≤ (n : Int) := by omega
     have HD2 := Lib.hid (show DsIn U tg (n + 1) 0 d by have := HD.out; rwa [show N = n + 1 by omega] at this)
     clear hN hNn hnN
     go_wp2_with fail
     go_ret
     first | exact ⟨tr, rfl, d, HD2.out, HI.out⟩ | exact ⟨tr, d, rfl, HD2.out, HI.out⟩
    ·
     have hle : (
           N
            : Int) ≤ (n : Int) := by omega
     have hN0 : 1 ≤ (N : Int) := by omega
     have HN1 := Lib.hid hN
     have HNN := Lib.hid hnN
     clear hN hNn hnN
     go_wp2_with fail
     go_loopw [8] (fun ix wr => ∃ k : Nat, k ≤ n ∧ ix = .int .i64 (k : Int) ∧ ∃ d : List Int, Hid (DkI w tr n d wr) ∧ Hid (DsIn U tg N k d)) (fun ix _ => n - (intOf ix).toNat)
     case atStart => exact ⟨0, Nat.zero_le _, rfl, d, HI, HD⟩
     case round =>
      clear HI HD
      obtain ⟨k, hk, rfl, d, HI, HD⟩ := hrel
      rcases Nat.lt_or_ge k n with hkn | hkn
      ·
       have hkI : (k : Int) < (n : Int) := by omega
       have HKN := Lib.hid hkn
       have kt := owns_cell HI.out.row k _ (farV_at (by rw [HI.out.len]; exact hkn))
       have kl := (World.ownsRow.lt HI.out.row tr rfl).2
       obtain ⟨x, hx⟩ : ∃ x, farAt d k = x := ⟨_, rfl⟩
       rw [hx] at kt
       have HX := Lib.hid hx
       clear hk hkn hx
       by_cases hx0 : x < 0
       ·
        have hxI : ¬ (x ≥ 0) := by omega
        have hxI2 : ¬ (0 ≤ x) := by omega
        have HX1 := Lib.hid (show farAt d k = -1 from (HD.out.old k (Nat.le_refl _) (by rw [HLN.out]; exact HKN.out)).low (by rw [HX.out]; exact hx0))
        obtain ⟨r, hr⟩ : ∃ r, U[k]? = some r := ⟨_, List.getElem?_eq_getElem (by rw [HLN.out]; exact HKN.out)⟩
        obtain ⟨b, off, u, hpv, hbl, hcu, hsu, _⟩ := HU.out.row hr
        subst hpv
        obtain ⟨pu, cu, rfl⟩ := hsu.len
        have HR := Lib.hid hr
        have HSU := Lib.hid hsu
        obtain ⟨m, hm⟩ : ∃ m, r.length = m := ⟨_, rfl⟩
        have HM := Lib.hid hm
        have HMB := Lib.hid (show m ≤ 1048576 by have := HRW.out k r hr; omega)
        have hmI : (m : Int) ≤ 1048576 := by have := HMB.out; omega
        have HCU := Lib.hid (show w.cell? ⟨b, off + k, none⟩ = some (.slice pu m cu) by rw [← hm]; exact hcu)
        have HBL := Lib.hid hbl
        try rw [hm]
        clear hx0 hr hsu hm hcu hbl
        go_wp2_with fail
        clear kt kl
        go_loopw [9] (fun ix wr => ∃ (j : Nat) (q : Bool), j ≤ m ∧ ix = .int .i64 (j : Int) ∧ Hid ((r.take j).any (hitB tg N d) = q) ∧ Hid (DkI w tr n (hitTo d k N q) wr)) (fun ix _ => m - (intOf ix).toNat)
        case atStart => exact ⟨0, false, Nat.zero_le _, rfl, Lib.hid rfl, HI⟩
        case round =>
         clear HI
         obtain ⟨j, q, hj, rfl, HQ, HI⟩ := hrel
         have ku := HI.out.gr.cell HCU.out
         have hbr := Nat.lt_of_lt_of_le HBL.out HI.out.gr.size
         rcases Nat.lt_or_ge j m with hjn | hjn
         ·
          have hjI : (j : Int) < (m : Int) := by omega
          have HJN := Lib.hid hjn
          obtain ⟨y, hy⟩ : ∃ y, r[j]? = some y := ⟨_, List.getElem?_eq_getElem (by rw [HM.out]; exact hjn)⟩
          have hyn := HIN.out k r HR.out y (List.mem_of_getElem? hy)
          have hyI : (y : Int) < (n : Int) := by omega
          have hsu2 := HSU.out
          rw [HM.out] at hsu2
          obtain ⟨b3, off3, hpu, hbl3, hc3⟩ := num_at (show Sl w (.slice pu r.length cu) 1 r.length (r.map natV) by rw [HM.out]; exact hsu2) hy
          subst hpu
          have ky := HI.out.gr.cell hc3
          have hby := Nat.lt_of_lt_of_le hbl3 HI.out.gr.size
          have kf := owns_cell HI.out.row y _ (farV_at (by rw [HI.out.len]; exact hyn))
          have kl := (World.ownsRow.lt HI.out.row tr rfl).2
          have kk := owns_cell HI.out.row k _ (farV_at (by rw [HI.out.len]; exact HKN.out))
          have kn := owns_mark HI.out.row k
          have HTA := Lib.hid (any_snoc (hitB tg N d) hy)
          have HHA := Lib.hid (fun h1 : 1 < N => hit_at (d := d) (i := k) (N := N) (by have := HI.out.len; rw [hitTo_len] at this; rw [this]; exact HKN.out) HX1.out h1 q y)
          obtain ⟨z, hz⟩ : ∃ z, farAt (hitTo d k N q) y = z := ⟨_, rfl⟩
          rw [hz] at kf HHA
          have HYES := Lib.hid (fun h : hitB tg N d y = true => (show (r.take (j + 1)).any (hitB tg N d) = true by rw [HTA.out, h, Bool.or_true]))
          have HNO := Lib.hid (fun h : hitB tg N d y = false => (show (r.take (j + 1)).any (hitB tg N d) = q by rw [HTA.out, h, Bool.or_false, HQ.out]))
          have HSET := Lib.hid (show DkI w tr n (hitTo d k N true) (wr.setCell ⟨tr, k, none⟩ (.int .i64 (N : Int))) by have := HI.out.set k HKN.out (N : Int); rwa [hitTo_set] at this)
          clear hj hjn hy hsu2 hc3 hbl3 hz hyn HTA
          by_cases hN1 : N = 1
          ·
           have e1 : ((N : Int) == 1) = true := by rw [hN1]; rfl
           have e2 : ¬ (1 : Int) < (N : Int) := by omega
           have e3 : ¬ ((N : Int) > 1) := by omega
           by_cases hyt : y = tg
           ·
            have e4 : ((y : Int) == (tg : Int)) = true := by rw [hyt]; simp
            have HQ2 := Lib.hid (HYES.out (by unfold hitB; rw [decide_eq_true hN1, decide_eq_true hyt]; rfl))
            clear hN1 hyt
            go_wp2_with fail
            go_roundw
            case rel => exact ⟨j + 1, true, HJN.out, by go_num, HQ2, HSET⟩
            case measure => have := HJN.out; simp [intOf]; omega
           ·
            have e4 : ((y : Int) == (tg : Int)) = false := by rw [beq_eq_false_iff_ne]; omega
            have HQ2 := Lib.hid (HNO.out (by unfold hitB; rw [decide_eq_false hyt, decide_eq_false (show ¬ 1 < N by omega)]; simp))
            clear hN1 hyt
            go_wp2_with fail
            go_roundw
            case rel => exact ⟨j + 1, q, HJN.out, by go_num, HQ2, HI⟩
            case measure => have := HJN.out; simp [intOf]; omega
          ·
           have e1 : ((N : Int) == 1) = false := by rw [beq_eq_false_iff_ne]; omega
           have e2 : (1 : Int) < (N : Int) := by have := HN1.out; omega
           have e3 : ((N : Int) > 1) := e2
           have hN2 : 1 < N := by omega
           by_cases hyt : z = (N : Int) - 1
           ·
            have e4 : (z == (N : Int) - 1) = true := by rw [hyt]; simp
            have HQ2 := Lib.hid (HYES.out (by unfold hitB; rw [decide_eq_true ((HHA.out hN2).1 hyt), decide_eq_true hN2]; simp))
            clear hN1 hyt hN2
            go_wp2_with fail
            go_roundw
            case rel => exact ⟨j + 1, true, HJN.out, by go_num, HQ2, HSET⟩
            case measure => have := HJN.out; simp [intOf]; omega
           ·
            have e4 : (z == (N : Int) - 1) = false := by rw [beq_eq_false_iff_ne]; exact hyt
            have HQ2 := Lib.hid (HNO.out (by unfold hitB; rw [decide_eq_false (fun h => hyt ((HHA.out hN2).2 h)), decide_eq_false hN1]; simp))
            clear hN1 hyt hN2
            go_wp2_with fail
            go_roundw
            case rel => exact ⟨j + 1, q, HJN.out, by go_num, HQ2, HI⟩
            case measure => have := HJN.out; simp [intOf]; omega
         ·
          have hjI : ¬ (j : Int) < (m : Int) := by omega
          have HD3 := Lib.hid (show DsIn U tg N (k + 1) (hitTo d k N q) by
           have h1 := HD.out.look HN1.out (by rw [HLN.out]; exact HKN.out) HR.out (fun x hx => by rw [HLN.out]; exact HIN.out k r HR.out x hx) HX1.out
           have h2 := HQ.out
           rw [List.take_of_length_le (by rw [HM.out]; exact hjn)] at h2
           rwa [h2] at h1)
          clear hj hjn
          go_wp2_with fail
          go_roundw
          case rel => exact ⟨k + 1, HKN.out, by go_num, _, HI, HD3⟩
          case measure => have := HKN.out; simp [intOf]; omega
       ·
        have hxI : (x ≥ 0) := by omega
        have hxI2 : (0 ≤ x) := by omega
        have HD3 := Lib.hid (HD.out.skip (by rw [HX.out]; exact hxI2))
        clear hx0
        go_wp2_with fail
        go_roundw
        case rel => exact ⟨k + 1, HKN.out, by go_num, _, HI, HD3⟩
        case measure => have := HKN.out; simp [intOf]; omega
      ·
       have hkI : ¬ (k : Int) < (n : Int) := by omega
       have HD3 := Lib.hid (HD.out.next (by rw [HLN.out]; exact hkn))
       clear hk hkn
       go_wp2_with fail
       go_roundw
       case rel => exact ⟨N + 1, by omega, by have := HNN.out; omega, by go_num, d, HI, HD3⟩
       case measure => have := HNN.out; simp [intOf]; omega
end Go.Proofs.YtkkopdmemjncdaaGreatDoor
