/- Texts of mine, put together: ExOwn, CopyE. No condition but what each says. -/
import Derived.Test.YtkkopdmemjncdaaGreatDoorPEx
import Derived.Test.YtkkopdmemjncdaaGreatDoorPGb
import Derived.Maps.AppendAt
import Derived.WalkSpells
import Derived.WalkLawsBesides
import Derived.Lib.Hide
namespace Go.Proofs.YtkkopdmemjncdaaGreatDoor
open Go Go.RowKit
inductive ExOwn (S : Nat → Prop) (w : World) : Ex → List Value → Prop
 | mk (op pos : Int) (s : BitVec 256) (text : ByteArray) (mn mx : Int) (v : Value) (l : List (Ex × List Value))
   (h1 : fit64 op) (h2 : fit64 pos) (h3 : fit64 mn) (h4 : fit64 mx) (h5 : text.size ≤ maxLen)
   (hlen : ∀ p ∈ l, p.2.length = 10) (hs : Sl w v 10 l.length (l.flatMap (·.2))) (hn : Nily v) (hb : l.length * 104 ≤ 140737488351232) (hS : ∀ a n c, v = .slice (some a) n c → S a.block)
   (hargs : ∀ p ∈ l, ExOwn S w p.1 p.2) : ExOwn S w (.mk op pos s text mn mx (l.map (·.1))) (exCells op pos s text mn mx v)
theorem ExOwn.exIn {S : Nat → Prop} {w : World} {e : Ex} {cs : List Value} (h : ExOwn S w e cs) : ExIn w e cs := by
 induction h with
 | mk op pos s text mn mx v l h1 h2 h3 h4 h5 hlen hs hn hb hS _ ih => exact .mk op pos s text mn mx v l h1 h2 h3 h4 h5 hlen hs hn hb ih
theorem ExOwn.len {S : Nat → Prop} {w : World} {e : Ex} {cs : List Value} (h : ExOwn S w e cs) : cs.length = 10 := by cases h; rfl
theorem Sl.keep {w w' : World} {v : Value} {k n : Nat} {cs : List Value} (h : Sl w v k n cs) (hb : ∀ a n c, v = .slice (some a) n c → w'.heap[a.block]? = w.heap[a.block]?) : Sl w' v k n cs := by
 obtain ⟨h1, h2, h3⟩ := h
 refine ⟨h1, h2, h3.imp id ?_⟩
 rintro ⟨b, off, cap, hv, hlt, hc⟩
 have hh := hb _ _ _ hv
 refine ⟨b, off, cap, hv, fun h0 => ?_, fun j u hj => ?_⟩
 ·
  have := hlt h0
  rcases Nat.lt_or_ge b w'.heap.size with h | h
  · exact h
  · rw [Array.getElem?_eq_none h, Array.getElem?_eq_getElem this] at hh; cases hh
 ·
  have := hc j u hj
  unfold World.cell? at this ⊢
  simp only at this ⊢
  rw [hh]; exact this
theorem ExOwn.keep {S S' : Nat → Prop} {w w' : World} {e : Ex} {cs : List Value} (h : ExOwn S w e cs) (hb : ∀ b, S b → w'.heap[b]? = w.heap[b]?) (hSS : ∀ b, S b → S' b) : ExOwn S' w' e cs := by
 induction h with
 | mk op pos s text mn mx v l h1 h2 h3 h4 h5 hlen hs hn hb' hS _ ih => exact .mk op pos s text mn mx v l h1 h2 h3 h4 h5 hlen (hs.keep (fun a n c e => hb _ (hS a n c e))) hn hb' (fun a n c e => hSS _ (hS a n c e)) ih
theorem setCell_far (w : World) (a : Addr) (v : Value) (b : Nat) (h : a.block ≠ b) : (w.setCell a v).heap[b]? = w.heap[b]? := by
 simp only [World.setCell, Array.getElem?_modify]
 rw [if_neg h]
theorem wp_append_own_at {P : Program} (w : World) {o : Oper} {a : Act} {K : Act → World → Prop} {Q : Exit → Act → World → Prop} (s x : Operand) (t : TypeId)
  (ho : o.op = .call { callee := .builtin .append, args := #[s, x], argTypes := #[t, t] })
  (base : Nat) (e : TypeId) (i : TypeInfo) (z : Value) (size bytes : Nat) (ht : P.underlying t = some (.slice e)) (hi : P.info? e = some i) (hz : i.zero = some z)
  (hsize : i.size = size) (hby : i.bytes = bytes) (hzs : z.cells.size = size) (hsz : 0 < size)
  (v : Value) (n : Nat) (xs : List Value) (hs : a.eval s = v) (hown : w.ownsRow base e size v n xs)
  (ad : Addr) (m c : Nat) (news : List Value) (hx : a.eval x = .slice (some ad) m c) (hl : news.length = m * size) (hnews : ∀ j u, news[j]? = some u → w.cell? (ad.add j) = some u) (h1 : ∀ u ∈ news, u.oneCell' = true)
  (h63 : n + m ≤ maxLen) (hbytes : (n + m) * bytes ≤ 140737488355328) (hbase : base ≤ w.heap.size)
  (h : ∀ v' w', w'.ownsRow base e size v' (n + m) (xs ++ news) → w.grownBy w' v.ownBlock → (v' = .slice none 0 0 ↔ v = .slice none 0 0 ∧ m = 0) → (v'.ownBlock = v.ownBlock ∨ v'.ownBlock = some w.heap.size) → K (a.put o.dst v') w') : o.wp P a w K Q := by
 obtain ⟨v', w', hr, h2, h3, h4, h5⟩ := run_append_own_at (P := P) w base t o.type e i z size bytes ht hi hz hsize hby hzs hsz v n xs hown ad m c news hl hnews h1 h63 hbytes hbase
 unfold Oper.wp execOp
 simp only [ho, resolve, invoke, builtin, Sem.run_bind, Sem.run_pure, Result.andThen_ok, List.map_toArray, List.map_cons, List.map_nil, hs, hx, hr]
 exact h v' w' h2 h3 h4 h5
theorem ExOwn.form {S : Nat → Prop} {w : World} {e : Ex} {cs : List Value} (h : ExOwn S w e cs) : ∃ op pos s text mn mx p n c, cs = exCells op pos s text mn mx (.slice p n c) := by
 cases h with
 |
  mk op pos s text mn mx v l _ _ _ _ _ _ hs =>
  obtain ⟨p, c, rfl⟩ := hs.len
  exact ⟨op, pos, s, text, mn, mx, p, _, c, rfl⟩
theorem ex_ones (op pos : Int) (s : BitVec 256) (text : ByteArray) (mn mx : Int) (p : Option Addr) (n c : Nat) : ∀ u ∈ ([.int .i64 op, .int .i64 pos, .int .u64 (wd s 0), .int .u64 (wd s 1), .int .u64 (wd s 2), .int .u64 (wd s 3), .string text, .int .i64 mn, .int .i64 mx, (.slice p n c)] : List Value), u.oneCell' = true := fun u hu => by
 simp only [List.mem_cons, List.not_mem_nil, or_false] at hu
 rcases hu with rfl | rfl | rfl | rfl | rfl | rfl | rfl | rfl | rfl | rfl <;> rfl
theorem put10_block (w : World) (b : Nat) (v0 v1 v2 v3 v4 v5 v6 v7 v8 v9 : Value) (c : Nat) (h : b ≠ c) : ((((((((((w.setCell ⟨b, 0, none⟩ v0).setCell ⟨b, 1, none⟩ v1).setCell ⟨b, 2, none⟩ v2).setCell ⟨b, 3, none⟩ v3).setCell ⟨b, 4, none⟩ v4).setCell ⟨b, 5, none⟩ v5).setCell ⟨b, 6, none⟩ v6).setCell ⟨b, 7, none⟩ v7).setCell ⟨b, 8, none⟩ v8).setCell ⟨b, 9, none⟩ v9).heap[c]? = w.heap[c]? := by
 repeat rw [setCell_far _ _ _ _ h]
theorem put10_size (w : World) (b : Nat) (v0 v1 v2 v3 v4 v5 v6 v7 v8 v9 : Value) : ((((((((((w.setCell ⟨b, 0, none⟩ v0).setCell ⟨b, 1, none⟩ v1).setCell ⟨b, 2, none⟩ v2).setCell ⟨b, 3, none⟩ v3).setCell ⟨b, 4, none⟩ v4).setCell ⟨b, 5, none⟩ v5).setCell ⟨b, 6, none⟩ v6).setCell ⟨b, 7, none⟩ v7).setCell ⟨b, 8, none⟩ v8).setCell ⟨b, 9, none⟩ v9).heap.size = w.heap.size := by
 simp only [World.setCell, Array.size_modify]
theorem put10 {B : Nat} {w w' : World} (h : Below B w' w) {b : Nat} (hb : B ≤ b) (v0 v1 v2 v3 v4 v5 v6 v7 v8 v9 : Value) : Below B w' ((((((((((w.setCell ⟨b, 0, none⟩ v0).setCell ⟨b, 1, none⟩ v1).setCell ⟨b, 2, none⟩ v2).setCell ⟨b, 3, none⟩ v3).setCell ⟨b, 4, none⟩ v4).setCell ⟨b, 5, none⟩ v5).setCell ⟨b, 6, none⟩ v6).setCell ⟨b, 7, none⟩ v7).setCell ⟨b, 8, none⟩ v8).setCell ⟨b, 9, none⟩ v9) :=
 Below.setCell (p := ⟨b, 9, none⟩) (Below.setCell (p := ⟨b, 8, none⟩) (Below.setCell (p := ⟨b, 7, none⟩) (Below.setCell (p := ⟨b, 6, none⟩) (Below.setCell (p := ⟨b, 5, none⟩) (Below.setCell (p := ⟨b, 4, none⟩) (Below.setCell (p := ⟨b, 3, none⟩) (Below.setCell (p := ⟨b, 2, none⟩) (Below.setCell (p := ⟨b, 1, none⟩) (Below.setCell (p := ⟨b, 0, none⟩) (h) hb v0) hb v1) hb v2) hb v3) hb v4) hb v5) hb v6) hb v7) hb v8) hb v9
def Free (B : Nat) (w : World) (v : Value) (b : Nat) : Prop := B ≤ b ∧ b < w.heap.size ∧ v.ownBlock ≠ some b
section
variable {α : Type} {Q : (Nat → Prop) → World → α → List Value → Prop}
def Grows (Q : (Nat → Prop) → World → α → List Value → Prop) (T k B : Nat) (w : World) (v : Value) (n : Nat) (ls : List (α × List Value)) : Prop :=
 ls.length = n ∧ w.ownsRow B T k v n (ls.flatMap (·.2)) ∧ ∀ p ∈ ls, p.2.length = k ∧ Q (Free B w v) w p.1 p.2
def Keeps (Q : (Nat → Prop) → World → α → List Value → Prop) : Prop := ∀ S S' w w' a cs, Q S w a cs → (∀ b, S b → w'.heap[b]? = w.heap[b]?) → (∀ b, S b → S' b) → Q S' w' a cs
theorem keeps_ex : Keeps ExOwn := fun _ _ _ _ _ _ h h1 h2 => h.keep h1 h2
theorem Grows.nil (T k B : Nat) (w : World) : Grows Q T k B w (.slice none 0 0) 0 [] := ⟨rfl, World.ownsRow_nil _ _ _ _, fun _ h => by cases h⟩
theorem Grows.later (hK : Keeps Q) {T k B n : Nat} {w w' : World} {v : Value} {ls : List (α × List Value)} (h : Grows Q T k B w v n ls) (hG : Gr w w') : Grows Q T k B w' v n ls := by
 obtain ⟨h1, h2, h3⟩ := h
 exact ⟨h1, owns_later h2 hG, fun p hp => ⟨(h3 p hp).1, hK _ _ _ _ _ _ (h3 p hp).2 (fun b hb => Below.block hG b hb.2.1) (fun b hb => ⟨hb.1, Nat.lt_of_lt_of_le hb.2.1 hG.size, hb.2.2⟩)⟩⟩
theorem Grows.far (hK : Keeps Q) {T k B n : Nat} {w : World} {v : Value} {ls : List (α × List Value)} (h : Grows Q T k B w v n ls) (a : Addr) (u : Value) (ha : a.block < B) : Grows Q T k B (w.setCell a u) v n ls := by
 obtain ⟨h1, h2, h3⟩ := h
 have hsz : (w.setCell a u).heap.size = w.heap.size := by simp [World.setCell]
 refine ⟨h1, owns_heap h2 (fun g hg => setCell_far _ _ _ _ (by have := (World.ownsRow.lt h2 g hg).1; omega)), fun p hp => ⟨(h3 p hp).1, hK _ _ _ _ _ _ (h3 p hp).2 (fun b hb => setCell_far _ _ _ _ (by have := hb.1; omega)) (fun b hb => ⟨hb.1, by rw [hsz]; exact hb.2.1, hb.2.2⟩)⟩⟩
theorem Grows.push (hK : Keeps Q) {T k B n : Nat} {w w7 w8 w9 : World} {v v' : Value} {ls : List (α × List Value)} (h : Grows Q T k B w v n ls) (hG : Gr w w7) (hB : B ≤ w.heap.size) {a : α} {ds : List Value} (hd : Q (fun b => w.heap.size ≤ b ∧ b < w7.heap.size) w7 a ds) (hk : ds.length = k)
  (hG8 : Gr w7 w8) (hown : w9.ownsRow B T k v' (n + 1) (ls.flatMap (·.2) ++ ds)) (hgr : w8.grownBy w9 v.ownBlock) (hat : v'.ownBlock = v.ownBlock ∨ v'.ownBlock = some w8.heap.size) : Grows Q T k B w9 v' (n + 1) (ls ++ [(a, ds)]) := by
 obtain ⟨h1, h2, h3⟩ := h
 have hs7 := hG.size
 have hs8 := hG8.size
 have hs9 := hgr.size
 have hv : ∀ b, v.ownBlock = some b → b < w.heap.size := fun b hb => (World.ownsRow.lt h2 b hb).2
 have hne : ∀ b, b < w8.heap.size → v.ownBlock ≠ some b → v'.ownBlock ≠ some b := by
  intro b hb hvb
  rcases hat with h | h
  · rw [h]; exact hvb
  · rw [h]; intro e; injection e with e; omega
 refine ⟨by rw [List.length_append, h1]; rfl, by rw [List.flatMap_append]; simpa using hown, fun p hp => ?_⟩
 rcases List.mem_append.1 hp with hp | hp
 ·
  refine ⟨(h3 p hp).1, hK _ _ _ _ _ _ (h3 p hp).2 (fun b hb => ?_) (fun b hb => ⟨hb.1, by have := hb.2.1; omega, hne b (by have := hb.2.1; omega) hb.2.2⟩)⟩
  rw [hgr.block b (by have := hb.2.1; omega) (fun e => hb.2.2 e.symm), Below.block hG8 b (by have := hb.2.1; omega), Below.block hG b hb.2.1]
 ·
  rw [List.mem_singleton.1 hp]
  refine ⟨hk, hK _ _ _ _ _ _ hd (fun b hb => ?_) (fun b hb => ⟨by omega, by omega, hne b (by omega) (fun e => by have := hv b e; omega)⟩)⟩
  rw [hgr.block b (by omega) (fun e => by have := hv b e.symm; omega), Below.block hG8 b hb.2]
end
end Go.Proofs.YtkkopdmemjncdaaGreatDoor
namespace Go.Proofs.YtkkopdmemjncdaaGreatDoor
open Go Go.RowKit
theorem info_ex : (Tryz.prog.info? 55).map (fun i => (i.zero, i.size, i.bytes)) = some (some (.agg #[.int .i64 0, .int .i64 0, .int .u64 (wd 0#256 0), .int .u64 (wd 0#256 1), .int .u64 (wd 0#256 2), .int .u64 (wd 0#256 3), .string ⟨#[]⟩, .int .i64 0, .int .i64 0, (.slice none 0 0)]), 10, 104) := by kernel_rfl
theorem size_put1' (w : World) (p : Addr) (v : Value) : (w.setCell p v).heap.size = w.heap.size := by simp [World.setCell]
theorem bx3e (w : World) (c0 c1 c2 : List Value) (e0 e1 e2 : TypeId) :
  boxAt (((w.alloc (.cells c0.toArray e0)).alloc (.cells c1.toArray e1)).alloc (.cells c2.toArray e2)) w.heap.size c0 ∧ boxAt (((w.alloc (.cells c0.toArray e0)).alloc (.cells c1.toArray e1)).alloc (.cells c2.toArray e2)) (w.heap.size + 1) c1 ∧ boxAt (((w.alloc (.cells c0.toArray e0)).alloc (.cells c1.toArray e1)).alloc (.cells c2.toArray e2)) (w.heap.size + 2) c2 ∧
  Gr w (((w.alloc (.cells c0.toArray e0)).alloc (.cells c1.toArray e1)).alloc (.cells c2.toArray e2)) ∧ (((w.alloc (.cells c0.toArray e0)).alloc (.cells c1.toArray e1)).alloc (.cells c2.toArray e2)).heap.size = w.heap.size + 3 := by
 refine ⟨((boxAt.new _ _ rfl).later (Gr.alloc _ _)).later (Gr.alloc _ _), boxAt.later ?_ (Gr.alloc _ _), ?_, ((Gr.alloc _ _).trans (Gr.alloc _ _)).trans (Gr.alloc _ _), by simp⟩
 ·
  have := boxAt.new (w := w.alloc (.cells c0.toArray e0)) c1 e1 rfl
  simpa using this
 ·
  have := boxAt.new (w := (w.alloc (.cells c0.toArray e0)).alloc (.cells c1.toArray e1)) c2 e2 rfl
  simpa using this
set_option maxRecDepth 100000 in
set_option maxHeartbeats 4000000 in
theorem
    copyExpr_any : ∀ k, ∀ (e : Ex), SizeOf.sizeOf e ≤ k → ∀ (cs : List Value) (w : World), ExIn w e cs →
  Calls Tryz.prog 32 #[.agg cs.toArray] w fun e' w' => ∃ ds, e' = .returned (.agg ds.toArray) ∧ ExOwn (fun b => w.heap.size ≤ b ∧ b < w'.heap.size) w' e ds ∧ Gr w w' := by
 intro k
 induction k with
 | zero => intro e h; cases e; simp only [Ex.mk.sizeOf_spec] at h; omega
 |
  succ k ih
       =>
  intro e hk cs w he
  cases he with
  |
   mk op
      pos s text mn mx v l h1 h2 h3 h4 h5 hlen hs hn hb hargs =>
   have HK := Lib.hid (fun p (hp : p ∈ l) => by
    have := Ex.size_arg (.mk op pos s text mn mx (l.map (·.1))) p.1 (List.mem_map.2 ⟨p, hp, rfl⟩)
    exact (show SizeOf.sizeOf p.1 ≤ k by omega))
   have HIH := Lib.hid ih
   have HS := Lib.hid hs
   have HA := Lib.hid hargs
   have HLEN := Lib.hid hlen
   have HB := Lib.hid hb
   have HF := Lib.hid (And.intro h1 (And.intro h2 (And.intro h3 (And.intro h4 h5))))
   obtain ⟨pv, cv, rfl⟩ := hs.len
   have hll : l.length ≤ 140737488351232 := by omega
   clear ih hk h1 h2 h3 h4 h5 hn hs hargs hlen hb
   unfold exCells
   go_enter Tryz.func32, Tryz.ntmps32
   go_wp2_with fail
   refine name_world (fun W hW => ?_)
   obtain ⟨xe, xr, xx, hgW, hsz⟩ : _ ∧ _ ∧ _ ∧ Gr w W ∧ W.heap.size = w.heap.size + 3 := by rw [hW]; exact bx3e w [.int .i64 op, .int .i64 pos, .int .u64 (wd s 0), .int .u64 (wd s 1), .int .u64 (wd s 2), .int .u64 (wd s 3), .string text, .int .i64 mn, .int .i64 mx, (.slice pv l.length cv)] [.int .i64 0, .int .i64 0, .int .u64 0, .int .u64 0, .int .u64 0, .int .u64 0, .string ⟨#[]⟩, .int .i64 0, .int .i64 0, .slice none 0 0] [.int .i64 op, .int .i64 pos, .int .u64 (wd s 0), .int .u64 (wd s 1), .int .u64 (wd s 2), .int .u64 (wd s 3), .string text, .int .i64 mn, .int .i64 mx, (.slice none 0 0)] 55 55 55
   rw [← hW] at xe xr xx
   clear hW
   have HSW := Lib.hid (HS.out.later hgW)
   have HGW := Lib.hid hgW
   have HW := Lib.hid hsz
   obtain ⟨i0, hi, hz0, hz1, hz2⟩ := info_parts info_ex
   clear hsz
   go_loopw [4] (fun i wr => ∃ (j : Nat) (v : Value) (ls : List (Ex × List Value)), j ≤ l.length ∧ i = .int .i64 (j : Int) ∧ Gr w wr ∧ Hid (W.heap.size ≤ wr.heap.size) ∧
    boxAt wr w.heap.size [.int .i64 op, .int .i64 pos, .int .u64 (wd s 0), .int .u64 (wd s 1), .int .u64 (wd s 2), .int .u64 (wd s 3), .string text, .int .i64 mn, .int .i64 mx, (.slice pv l.length cv)] ∧ boxAt wr (w.heap.size + 1) [.int .i64 0, .int .i64 0, .int .u64 0, .int .u64 0, .int .u64 0, .int .u64 0, .string ⟨#[]⟩, .int .i64 0, .int .i64 0, .slice none 0 0] ∧ boxAt wr (w.heap.size + 2) [.int .i64 op, .int .i64 pos, .int .u64 (wd s 0), .int .u64 (wd s 1), .int .u64 (wd s 2), .int .u64 (wd s 3), .string text, .int .i64 mn, .int .i64 mx, v] ∧
    (∃ p n c, v = .slice p n c) ∧ Hid (Grows ExOwn 55 10 W.heap.size wr v j ls ∧ ls.map (·.1) = (l.take j).map (·.1))) (fun i _ => l.length - (intOf i).toNat)
   case atStart => exact ⟨0, .slice none 0 0, [], by omega, rfl, hgW, Lib.hid (Nat.le_refl _), xe, xr, xx, ⟨_, _, _, rfl⟩, Lib.hid ⟨Grows.nil _ _ _ _, rfl⟩⟩
   case round =>
    obtain ⟨j, v, ls, hj, rfl, hg, HWR, ye, yr, yx, ⟨vp, vn, vc, rfl⟩, HL⟩ := hrel
    by_cases hlt : j < l.length
    ·
     obtain ⟨b, off, opa, posa, sa, texta, mna, mxa, pa, na, caa, a, rfl, hbW, ha, hin, hat⟩ := args_at HS.out HLEN.out HA.out j hlt
     have HSA := Lib.hid (HK.out _ (List.mem_of_getElem? ha))
     obtain ⟨hbr, hcell⟩ := hat w (Gr.refl _)
     unfold exCells at hcell
     have d0 := hcell 0 _ (by omega) rfl
     have d1 := hcell 1 _ (by omega) rfl
     have d2 := hcell 2 _ (by omega) rfl
     have d3 := hcell 3 _ (by omega) rfl
     have d4 := hcell 4 _ (by omega) rfl
     have d5 := hcell 5 _ (by omega) rfl
     have d6 := hcell 6 _ (by omega) rfl
     have d7 := hcell 7 _ (by omega) rfl
     have d8 := hcell 8 _ (by omega) rfl
     have d9 := hcell 9 _ (by omega) rfl
     simp only [Nat.add_zero] at d0
     have hjI : (j : Int) < (l.length : Int) := by omega
     have HTK := Lib.hid (show (l.take (j + 1)).map (·.1) = (l.take j).map (·.1) ++ [a] by
      obtain ⟨g1, g2⟩ := List.getElem?_eq_some_iff.1 ha
      rw [List.take_succ_eq_append_getElem g1, g2, List.map_append]; rfl)
     have HLT := Lib.hid hlt
     have HC := Lib.hid (fun (cur : World) (h : Gr w cur) => HIH.out a HSA.out _ cur (hin.later h))
     unfold exCells at HC
     clear hlt hcell hin hat ha hj hbW
     obtain ⟨c_e0, c_e1, c_e2, c_e3, c_e4, c_e5, c_e6, c_e7, c_e8, c_e9, m_e0, m_e1, m_e2, m_e3, m_e4, m_e5, m_e6, m_e7, m_e8, m_e9, l_e⟩ := unb10 ye
     go_wp2_with fail
     clear c_e0 c_e1 c_e2 c_e3 c_e4 c_e5 c_e6 c_e7 c_e8 c_e9 m_e0 m_e1 m_e2 m_e3 m_e4 m_e5 m_e6 m_e7 m_e8 m_e9 l_e
     refine wp_region_S (fun w' => Gr w w' ∧ boxAt w' w.heap.size [.int .i64 op, .int .i64 pos, .int .u64 (wd s 0), .int .u64 (wd s 1), .int .u64 (wd s 2), .int .u64 (wd s 3), .string text, .int .i64 mn, .int .i64 mx, (.slice (some ⟨b, off, none⟩) l.length cv)] ∧ boxAt w' (w.heap.size + 2) [.int .i64 op, .int .i64 pos, .int .u64 (wd s 0), .int .u64 (wd s 1), .int .u64 (wd s 2), .int .u64 (wd s 3), .string text, .int .i64 mn, .int .i64 mx, (.slice vp vn vc)]) (.take 0 (.take 1 (.take 2 (.take 3 (.take 4 (.take 5 (.take 6 (.run 7 false (.run 8 false (.run 9 false (.take 10 (.run 11 true .nil)))))))))))) ⟨hg.trans (Gr.drew _), ye.later (Gr.drew _), yx.later (Gr.drew _)⟩ (by kernel_rfl) (by kernel_rfl) ?_
     simp only [pickOps, nthOp]
     intro wr7 hN hG
     repeat (first | (refine wpG_skip_take ?_ ?_; (focus rfl); try simp only [Act.put, List.setIfInBounds_toArray, List.set_cons_zero, List.set_cons_succ]) | (refine wpG_skip_run ?_ ?_; (focus rfl); try simp only [Act.put, List.setIfInBounds_toArray, List.set_cons_zero, List.set_cons_succ]) | (refine wpG_take ?_ ?_; (focus rfl); apply Exists.intro; refine ⟨fun w' hw' => ?_, ?_⟩; (focus (have hc := Gr.cells hw'.1; have q1 := hw'.2.1.cell 9 _ rfl; have q3 := hw'.2.2.cell 9 _ rfl; go_simp; (try rfl); done)); try simp only [Act.put, List.setIfInBounds_toArray, List.set_cons_zero, List.set_cons_succ]))
     obtain ⟨hG, ye7, yx7⟩ := hG
     refine wpG_run ?_ (fun K hK => ?_); (focus rfl)
     go_simp
     go_at_call 32
     (with_reducible refine (HC.out _ hG).mono ?_); rintro e' w7 ⟨ds, rfl, ho, hb⟩
     obtain ⟨op3, pos3, s3, text3, mn3, mx3, p3, n3, c3, rfl⟩ := ho.form
     have HO := Lib.hid (ho.keep (S' := fun b => wr.heap.size ≤ b ∧ b < w7.heap.size) (fun b hb => rfl) (fun b hb => ⟨by have := hN.size; have := hb.1; omega, hb.2⟩))
     clear ho
     unfold exCells
     replace ye7 := ye7.later hb
     replace yx7 := yx7.later hb
     replace hG := hG.trans hb
     replace hN := hN.trans hb
     try dsimp only
     refine hK.out _ _ ⟨hG, ye7, yx7⟩ ?_
     clear hK K hb d0 d1 d2 d3 d4 d5 d6 d7 d8 d9 hbr
     try simp only [Act.put, List.setIfInBounds_toArray, List.set_cons_zero, List.set_cons_succ]
     refine wpG_run rfl (fun K hK => ?_)
     go_simp
     refine name_K (fun W8 hW8 => ?_)
     have h78 : Gr w7 W8 := by rw [hW8]; exact Gr.alloc _ _
     have hc8 : ∀ (j : Nat) (u : Value), [.int .i64 op3, .int .i64 pos3, .int .u64 (wd s3 0), .int .u64 (wd s3 1), .int .u64 (wd s3 2), .int .u64 (wd s3 3), .string text3, .int .i64 mn3, .int .i64 mx3, (.slice p3 n3 c3)][j]? = some u → W8.cell? ((⟨w7.heap.size, 0, none⟩ : Addr).add j) = some u := by rw [hW8]; exact new_cells _ _ _
     clear hW8
     replace ye7 := ye7.later h78
     replace yx7 := yx7.later h78
     refine hK.out _ _ ⟨hG.trans h78, ye7, yx7⟩ ?_
     clear hK K
     try simp only [Act.put, List.setIfInBounds_toArray, List.set_cons_zero, List.set_cons_succ]
     refine wpG_run rfl (fun K hK => ?_)
     refine wp_append_own_at _ (.tmp 15) (.tmp 22) 53 rfl W.heap.size 55 i0 _ 10 104 Tryz.underlying53 hi hz0 hz1 hz2 rfl (by decide) (.slice vp vn vc) j (ls.flatMap (·.2)) rfl (owns_later HL.out.1.2.1 (hN.trans h78)) ⟨w7.heap.size, 0, none⟩ 1 1 [.int .i64 op3, .int .i64 pos3, .int .u64 (wd s3 0), .int .u64 (wd s3 1), .int .u64 (wd s3 2), .int .u64 (wd s3 3), .string text3, .int .i64 mn3, .int .i64 mx3, (.slice p3 n3 c3)] rfl rfl hc8 ?c1 ?c2 ?c3 ?c4 ?_
     case c1 => exact ex_ones _ _ _ _ _ _ _ _ _
     case c2 => unfold maxLen; have := HLT.out; omega
     case c3 => have := HLT.out; have := HB.out; omega
     case c4 => have := HWR.out; have := hN.size; have := h78.size; omega
     intro v9 W9 hown9 hgrow9 _ hat9
     have hne : ∀ g, (Value.slice vp vn vc).ownBlock = some g → W.heap.size ≤ g := fun g hg => (World.ownsRow.lt HL.out.1.2.1 g hg).1
     have hwW := HW.out
     replace hG : Gr w W9 := Gr.grown (hG.trans h78) hgrow9 (fun g hg => by have := hne g hg; omega)
     replace ye7 := ye7.grown hgrow9 (by simp) (fun e => by have := hne _ e; omega)
     replace yx7 := yx7.grown hgrow9 (by simp) (fun e => by have := hne _ e; omega)
     have yr7 := ((yr.later hN).later h78).grown hgrow9 (by simp) (fun e => by have := hne _ e; omega)
     have HL9 := Lib.hid (Grows.push keeps_ex HL.out.1 hN HWR.out HO.out rfl h78 hown9 hgrow9 hat9)
     have HWR9 := Lib.hid (show W.heap.size ≤ W9.heap.size by have := HWR.out; have := hN.size; have := h78.size; have := hgrow9.size; omega)
     obtain ⟨gl, capl, rfl, _⟩ := owns_block hown9 (by omega)
     clear hne hown9 hgrow9 hat9 hc8 hN h78
     refine hK.out _ _ ⟨hG, ye7, yx7⟩ ?_
     clear hK K
     try simp only [Act.put, List.setIfInBounds_toArray, List.set_cons_zero, List.set_cons_succ]
     repeat (first | (refine wpG_skip_take ?_ ?_; (focus rfl); try simp only [Act.put, List.setIfInBounds_toArray, List.set_cons_zero, List.set_cons_succ]) | (refine wpG_skip_run ?_ ?_; (focus rfl); try simp only [Act.put, List.setIfInBounds_toArray, List.set_cons_zero, List.set_cons_succ]) | (refine wpG_take ?_ ?_; (focus rfl); apply Exists.intro; refine ⟨fun w' hw' => ?_, ?_⟩; (focus (skip; go_simp; (try rfl); done)); try simp only [Act.put, List.setIfInBounds_toArray, List.set_cons_zero, List.set_cons_succ]))
     obtain ⟨c_x0, c_x1, c_x2, c_x3, c_x4, c_x5, c_x6, c_x7, c_x8, c_x9, m_x0, m_x1, m_x2, m_x3, m_x4, m_x5, m_x6, m_x7, m_x8, m_x9, l_x⟩ := unb10 yx7
     refine wpG_last ?_ (fun K hK => ?_); (focus rfl)
     go_simp
     refine hK.out _ _ ?_
     try simp only [Act.put, List.setIfInBounds_toArray, List.set_cons_zero, List.set_cons_succ]
     clear hK K
     clear c_x0 c_x1 c_x2 c_x3 c_x4 c_x5 c_x6 c_x7 c_x8 c_x9 m_x0 m_x1 m_x2 m_x3 m_x4 m_x5 m_x6 m_x7 m_x8 m_x9 l_x
     refine wpG_done ?_
     go_wp2_with fail
     go_roundw
     case rel =>
      refine ⟨j + 1, .slice (some ⟨gl, 0, none⟩) (j + 1) capl, _, by have := HLT.out; omega, by go_num, Below.setCell (p := ⟨w.heap.size + 2, 9, none⟩) hG (by show w.heap.size ≤ w.heap.size + 2; omega) _, Lib.hid (by rw [size_put1']; exact HWR9.out), ye7.far _ _ (by show w.heap.size + 2 ≠ w.heap.size; omega), yr7.far _ _ (by show w.heap.size + 2 ≠ w.heap.size + 1; omega), yx7.put 9 _ (by simp), ⟨_, _, _, rfl⟩, Lib.hid ⟨HL9.out.far keeps_ex _ _ (by show w.heap.size + 2 < W.heap.size; omega), ?_⟩⟩
      rw [List.map_append, HL.out.2, HTK.out]; rfl
     case measure => have := HLT.out; simp [intOf]; omega
    ·
     have hjE : j = l.length := by omega
     clear hlt hj
     subst hjE
     have HWW := HW
     obtain ⟨c_e0, c_e1, c_e2, c_e3, c_e4, c_e5, c_e6, c_e7, c_e8, c_e9, m_e0, m_e1, m_e2, m_e3, m_e4, m_e5, m_e6, m_e7, m_e8, m_e9, l_e⟩ := unb10 ye
     obtain ⟨c_x0, c_x1, c_x2, c_x3, c_x4, c_x5, c_x6, c_x7, c_x8, c_x9, m_x0, m_x1, m_x2, m_x3, m_x4, m_x5, m_x6, m_x7, m_x8, m_x9, l_x⟩ := unb10 yx
     obtain ⟨c_r0, c_r1, c_r2, c_r3, c_r4, c_r5, c_r6, c_r7, c_r8, c_r9, m_r0, m_r1, m_r2, m_r3, m_r4, m_r5, m_r6, m_r7, m_r8, m_r9, l_r⟩ := unb10 yr
     go_wp2_with fail
     clear c_e0 c_e1 c_e2 c_e3 c_e4 c_e5 c_e6 c_e7 c_e8 c_e9 m_e0 m_e1 m_e2 m_e3 m_e4 m_e5 m_e6 m_e7 m_e8 m_e9 l_e
     clear c_x0 c_x1 c_x2 c_x3 c_x4 c_x5 c_x6 c_x7 c_x8 c_x9 m_x0 m_x1 m_x2 m_x3 m_x4 m_x5 m_x6 m_x7 m_x8 m_x9 l_x
     have hE : ExOwn (Free W.heap.size wr (.slice none 0 0)) wr (.mk op pos s text mn mx (l.map (·.1))) [.int .i64 op, .int .i64 pos, .int .u64 (wd s 0), .int .u64 (wd s 1), .int .u64 (wd s 2), .int .u64 (wd s 3), .string text, .int .i64 mn, .int .i64 mx, (.slice vp vn vc)] := by
      obtain ⟨⟨hl1, hown, hl3⟩, hl4⟩ := HL.out
      rw [List.take_length] at hl4
      rw [← hl4]
      obtain ⟨f1, f2, f3, f4, f5⟩ := HF.out
      have hs := Sl.of_owns hown
      obtain ⟨_, _, hvn⟩ := hs.len
      injection hvn with _ hvn _
      subst hvn
      replace hs : Sl wr (.slice vp l.length vc) 10 ls.length (ls.flatMap (·.2)) := by rw [hl1]; exact hs
      refine .mk op pos s text mn mx _ ls f1 f2 f3 f4 f5 (fun p hp => (hl3 p hp).1) hs ?_ (by rw [hl1]; exact HB.out) ?_ (fun p hp => keeps_ex _ _ _ _ _ _ (hl3 p hp).2 (fun _ _ => rfl) (fun b hb => ⟨hb.1, hb.2.1, by simp [Value.ownBlock]⟩))
      ·
       rcases hown.2 with ⟨hv, _⟩ | ⟨g, cap, cur, hv, _⟩
       · exact .inl hv
       · exact .inr ⟨_, _, _, hv⟩
      ·
       intro a n c hv
       have := World.ownsRow.lt hown a.block (by rw [hv]; rfl)
       exact ⟨this.1, this.2, by simp [Value.ownBlock]⟩
     exact bodyPost_ret (v := .agg #[.int .i64 op, .int .i64 pos, .int .u64 (wd s 0), .int .u64 (wd s 1), .int .u64 (wd s 2), .int .u64 (wd s 3), .string text, .int .i64 mn, .int .i64 mx, (.slice vp vn vc)]) (by simp [results, Tryz.results32, go_sem, c_r0, c_r1, c_r2, c_r3, c_r4, c_r5, c_r6, c_r7, c_r8, c_r9]) rfl ⟨_, rfl, hE.keep (fun b hb => put10_block _ _ _ _ _ _ _ _ _ _ _ _ _ (by have := hb.1; have := HWW.out; omega)) (fun b hb => ⟨by have := hb.1; have := HWW.out; omega, by rw [put10_size]; exact hb.2.1⟩), put10 hg (by omega) _ _ _ _ _ _ _ _ _ _⟩
end Go.Proofs.YtkkopdmemjncdaaGreatDoor
