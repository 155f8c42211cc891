/- Texts of mine, put together: ExOwn, CopyE, SpT, NmRen, NmRnP. No condition but what each says. -/
import Derived.Test.YtkkopdmemjncdaaGreatDoorPEx
import Derived.Test.YtkkopdmemjncdaaGreatDoorPGb
import Derived.Maps.AppendAt
import Derived.WalkSpells
import Derived.WalkLawsBesides
import Derived.Lib.Hide
import Derived.Test.YtkkopdmemjncdaaGreatDoorPSpIn
import Derived.Test.YtkkopdmemjncdaaGreatDoorPHl
import Derived.Test.YtkkopdmemjncdaaGreatDoorPHn

/- Expressions that lie in certain blocks alone. No condition. -/
namespace Go.Proofs.YtkkopdmemjncdaaGreatDoor
open Go Go.RowKit

/-- These cells are this expression in this world, and it lies in blocks of S. -/
inductive ExOwn (S : Nat → Prop) (w : World) : Ex → List Value → Prop
  | mk (op pos : Int) (s : BitVec 256) (text : ByteArray) (mn mx : Int) (v : Value) (l : List (Ex × List Value))
      (h1 : fit64 op) (h2 : fit64 pos) (h3 : fit64 mn) (h4 : fit64 mx) (h5 : text.size ≤ maxLen)
      (hlen : ∀ p ∈ l, p.2.length = 10) (hs : Sl w v 10 l.length (l.flatMap (·.2))) (hn : Nily v) (hb : l.length * 104 ≤ 140737488351232) (hS : ∀ a n c, v = .slice (some a) n c → S a.block)
      (hargs : ∀ p ∈ l, ExOwn S w p.1 p.2) : ExOwn S w (.mk op pos s text mn mx (l.map (·.1))) (exCells op pos s text mn mx v)

theorem ExOwn.exIn {S : Nat → Prop} {w : World} {e : Ex} {cs : List Value} (h : ExOwn S w e cs) : ExIn w e cs := by
  induction h with
  | mk op pos s text mn mx v l h1 h2 h3 h4 h5 hlen hs hn hb hS _ ih => exact .mk op pos s text mn mx v l h1 h2 h3 h4 h5 hlen hs hn hb ih
theorem ExOwn.len {S : Nat → Prop} {w : World} {e : Ex} {cs : List Value} (h : ExOwn S w e cs) : cs.length = 10 := by cases h; rfl
theorem Sl.keep {w w' : World} {v : Value} {k n : Nat} {cs : List Value} (h : Sl w v k n cs) (hb : ∀ a n c, v = .slice (some a) n c → w'.heap[a.block]? = w.heap[a.block]?) : Sl w' v k n cs := by
  obtain ⟨h1, h2, h3⟩ := h
  refine ⟨h1, h2, h3.imp id ?_⟩
  rintro ⟨b, off, cap, hv, hlt, hc⟩
  have hh := hb _ _ _ hv
  refine ⟨b, off, cap, hv, fun h0 => ?_, fun j u hj => ?_⟩
  · have := hlt h0
    rcases Nat.lt_or_ge b w'.heap.size with h | h
    · exact h
    · rw [Array.getElem?_eq_none h, Array.getElem?_eq_getElem this] at hh; cases hh
  · have := hc j u hj
    unfold World.cell? at this ⊢
    simp only at this ⊢
    rw [hh]; exact this
theorem ExOwn.keep {S S' : Nat → Prop} {w w' : World} {e : Ex} {cs : List Value} (h : ExOwn S w e cs) (hb : ∀ b, S b → w'.heap[b]? = w.heap[b]?) (hSS : ∀ b, S b → S' b) : ExOwn S' w' e cs := by
  induction h with
  | mk op pos s text mn mx v l h1 h2 h3 h4 h5 hlen hs hn hb' hS _ ih => exact .mk op pos s text mn mx v l h1 h2 h3 h4 h5 hlen (hs.keep (fun a n c e => hb _ (hS a n c e))) hn hb' (fun a n c e => hSS _ (hS a n c e)) ih

theorem setCell_far (w : World) (a : Addr) (v : Value) (b : Nat) (h : a.block ≠ b) : (w.setCell a v).heap[b]? = w.heap[b]? := by
  simp only [World.setCell, Array.getElem?_modify]
  rw [if_neg h]

/-- The operation of AppendAt, by itself. -/
theorem wp_append_own_at {P : Program} (w : World) {o : Oper} {a : Act} {K : Act → World → Prop} {Q : Exit → Act → World → Prop} (s x : Operand) (t : TypeId)
    (ho : o.op = .call { callee := .builtin .append, args := #[s, x], argTypes := #[t, t] })
    (base : Nat) (e : TypeId) (i : TypeInfo) (z : Value) (size bytes : Nat) (ht : P.underlying t = some (.slice e)) (hi : P.info? e = some i) (hz : i.zero = some z)
    (hsize : i.size = size) (hby : i.bytes = bytes) (hzs : z.cells.size = size) (hsz : 0 < size)
    (v : Value) (n : Nat) (xs : List Value) (hs : a.eval s = v) (hown : w.ownsRow base e size v n xs)
    (ad : Addr) (m c : Nat) (news : List Value) (hx : a.eval x = .slice (some ad) m c) (hl : news.length = m * size) (hnews : ∀ j u, news[j]? = some u → w.cell? (ad.add j) = some u) (h1 : ∀ u ∈ news, u.oneCell' = true)
    (h63 : n + m ≤ maxLen) (hbytes : (n + m) * bytes ≤ 140737488355328) (hbase : base ≤ w.heap.size)
    (h : ∀ v' w', w'.ownsRow base e size v' (n + m) (xs ++ news) → w.grownBy w' v.ownBlock → (v' = .slice none 0 0 ↔ v = .slice none 0 0 ∧ m = 0) → (v'.ownBlock = v.ownBlock ∨ v'.ownBlock = some w.heap.size) → K (a.put o.dst v') w') : o.wp P a w K Q := by
  obtain ⟨v', w', hr, h2, h3, h4, h5⟩ := run_append_own_at (P := P) w base t o.type e i z size bytes ht hi hz hsize hby hzs hsz v n xs hown ad m c news hl hnews h1 h63 hbytes hbase
  unfold Oper.wp execOp
  simp only [ho, resolve, invoke, builtin, Sem.run_bind, Sem.run_pure, Result.andThen_ok, List.map_toArray, List.map_cons, List.map_nil, hs, hx, hr]
  exact h v' w' h2 h3 h4 h5

theorem ExOwn.form {S : Nat → Prop} {w : World} {e : Ex} {cs : List Value} (h : ExOwn S w e cs) : ∃ op pos s text mn mx p n c, cs = exCells op pos s text mn mx (.slice p n c) := by
  cases h with
  | mk op pos s text mn mx v l _ _ _ _ _ _ hs =>
    obtain ⟨p, c, rfl⟩ := hs.len
    exact ⟨op, pos, s, text, mn, mx, p, _, c, rfl⟩

theorem ex_ones (op pos : Int) (s : BitVec 256) (text : ByteArray) (mn mx : Int) (p : Option Addr) (n c : Nat) : ∀ u ∈ ([.int .i64 op, .int .i64 pos, .int .u64 (wd s 0), .int .u64 (wd s 1), .int .u64 (wd s 2), .int .u64 (wd s 3), .string text, .int .i64 mn, .int .i64 mx, (.slice p n c)] : List Value), u.oneCell' = true := fun u hu => by
  simp only [List.mem_cons, List.not_mem_nil, or_false] at hu
  rcases hu with rfl | rfl | rfl | rfl | rfl | rfl | rfl | rfl | rfl | rfl <;> rfl

theorem put10_block (w : World) (b : Nat) (v0 v1 v2 v3 v4 v5 v6 v7 v8 v9 : Value) (c : Nat) (h : b ≠ c) : ((((((((((w.setCell ⟨b, 0, none⟩ v0).setCell ⟨b, 1, none⟩ v1).setCell ⟨b, 2, none⟩ v2).setCell ⟨b, 3, none⟩ v3).setCell ⟨b, 4, none⟩ v4).setCell ⟨b, 5, none⟩ v5).setCell ⟨b, 6, none⟩ v6).setCell ⟨b, 7, none⟩ v7).setCell ⟨b, 8, none⟩ v8).setCell ⟨b, 9, none⟩ v9).heap[c]? = w.heap[c]? := by
  repeat rw [setCell_far _ _ _ _ h]
theorem put10_size (w : World) (b : Nat) (v0 v1 v2 v3 v4 v5 v6 v7 v8 v9 : Value) : ((((((((((w.setCell ⟨b, 0, none⟩ v0).setCell ⟨b, 1, none⟩ v1).setCell ⟨b, 2, none⟩ v2).setCell ⟨b, 3, none⟩ v3).setCell ⟨b, 4, none⟩ v4).setCell ⟨b, 5, none⟩ v5).setCell ⟨b, 6, none⟩ v6).setCell ⟨b, 7, none⟩ v7).setCell ⟨b, 8, none⟩ v8).setCell ⟨b, 9, none⟩ v9).heap.size = w.heap.size := by
  simp only [World.setCell, Array.size_modify]
theorem put10 {B : Nat} {w w' : World} (h : Below B w' w) {b : Nat} (hb : B ≤ b) (v0 v1 v2 v3 v4 v5 v6 v7 v8 v9 : Value) : Below B w' ((((((((((w.setCell ⟨b, 0, none⟩ v0).setCell ⟨b, 1, none⟩ v1).setCell ⟨b, 2, none⟩ v2).setCell ⟨b, 3, none⟩ v3).setCell ⟨b, 4, none⟩ v4).setCell ⟨b, 5, none⟩ v5).setCell ⟨b, 6, none⟩ v6).setCell ⟨b, 7, none⟩ v7).setCell ⟨b, 8, none⟩ v8).setCell ⟨b, 9, none⟩ v9) :=
  Below.setCell (p := ⟨b, 9, none⟩) (Below.setCell (p := ⟨b, 8, none⟩) (Below.setCell (p := ⟨b, 7, none⟩) (Below.setCell (p := ⟨b, 6, none⟩) (Below.setCell (p := ⟨b, 5, none⟩) (Below.setCell (p := ⟨b, 4, none⟩) (Below.setCell (p := ⟨b, 3, none⟩) (Below.setCell (p := ⟨b, 2, none⟩) (Below.setCell (p := ⟨b, 1, none⟩) (Below.setCell (p := ⟨b, 0, none⟩) (h) hb v0) hb v1) hb v2) hb v3) hb v4) hb v5) hb v6) hb v7) hb v8) hb v9

/-- The blocks from B on but for v's own. -/
def Free (B : Nat) (w : World) (v : Value) (b : Nat) : Prop := B ≤ b ∧ b < w.heap.size ∧ v.ownBlock ≠ some b
theorem heap_out {w : World} {b : Nat} (h : w.heap.size ≤ b) : w.heap[b]? = none := Array.getElem?_eq_none h

section
variable {α : Type} {Q : (Nat → Prop) → World → α → List Value → Prop}
/-- A row under way: v has all of ls, each lies in blocks of its own. -/
def Grows (Q : (Nat → Prop) → World → α → List Value → Prop) (T k B : Nat) (w : World) (v : Value) (n : Nat) (ls : List (α × List Value)) : Prop :=
  ls.length = n ∧ w.ownsRow B T k v n (ls.flatMap (·.2)) ∧ ∀ p ∈ ls, p.2.length = k ∧ Q (Free B w v) w p.1 p.2
/-- Q speaks of its blocks alone. -/
def Keeps (Q : (Nat → Prop) → World → α → List Value → Prop) : Prop := ∀ S S' w w' a cs, Q S w a cs → (∀ b, S b → w'.heap[b]? = w.heap[b]?) → (∀ b, S b → S' b) → Q S' w' a cs
theorem keeps_ex : Keeps ExOwn := fun _ _ _ _ _ _ h h1 h2 => h.keep h1 h2

theorem Grows.nil (T k B : Nat) (w : World) : Grows Q T k B w (.slice none 0 0) 0 [] := ⟨rfl, World.ownsRow_nil _ _ _ _, fun _ h => by cases h⟩
theorem Grows.later (hK : Keeps Q) {T k B n : Nat} {w w' : World} {v : Value} {ls : List (α × List Value)} (h : Grows Q T k B w v n ls) (hG : Gr w w') : Grows Q T k B w' v n ls := by
  obtain ⟨h1, h2, h3⟩ := h
  exact ⟨h1, owns_later h2 hG, fun p hp => ⟨(h3 p hp).1, hK _ _ _ _ _ _ (h3 p hp).2 (fun b hb => Below.block hG b hb.2.1) (fun b hb => ⟨hb.1, Nat.lt_of_lt_of_le hb.2.1 hG.size, hb.2.2⟩)⟩⟩
theorem Grows.far (hK : Keeps Q) {T k B n : Nat} {w : World} {v : Value} {ls : List (α × List Value)} (h : Grows Q T k B w v n ls) (a : Addr) (u : Value) (ha : a.block < B) : Grows Q T k B (w.setCell a u) v n ls := by
  obtain ⟨h1, h2, h3⟩ := h
  have hsz : (w.setCell a u).heap.size = w.heap.size := by simp [World.setCell]
  refine ⟨h1, owns_heap h2 (fun g hg => setCell_far _ _ _ _ (by have := (World.ownsRow.lt h2 g hg).1; omega)), fun p hp => ⟨(h3 p hp).1, hK _ _ _ _ _ _ (h3 p hp).2 (fun b hb => setCell_far _ _ _ _ (by have := hb.1; omega)) (fun b hb => ⟨hb.1, by rw [hsz]; exact hb.2.1, hb.2.2⟩)⟩⟩
theorem Grows.push (hK : Keeps Q) {T k B n : Nat} {w w7 w8 w9 : World} {v v' : Value} {ls : List (α × List Value)} (h : Grows Q T k B w v n ls) (hG : Gr w w7) (hB : B ≤ w.heap.size) {a : α} {ds : List Value} (hd : Q (fun b => w.heap.size ≤ b ∧ b < w7.heap.size) w7 a ds) (hk : ds.length = k)
    (hG8 : Gr w7 w8) (hown : w9.ownsRow B T k v' (n + 1) (ls.flatMap (·.2) ++ ds)) (hgr : w8.grownBy w9 v.ownBlock) (hat : v'.ownBlock = v.ownBlock ∨ v'.ownBlock = some w8.heap.size) : Grows Q T k B w9 v' (n + 1) (ls ++ [(a, ds)]) := by
  obtain ⟨h1, h2, h3⟩ := h
  have hs7 := hG.size
  have hs8 := hG8.size
  have hs9 := hgr.size
  have hv : ∀ b, v.ownBlock = some b → b < w.heap.size := fun b hb => (World.ownsRow.lt h2 b hb).2
  have hne : ∀ b, b < w8.heap.size → v.ownBlock ≠ some b → v'.ownBlock ≠ some b := by
    intro b hb hvb
    rcases hat with h | h
    · rw [h]; exact hvb
    · rw [h]; intro e; injection e with e; omega
  refine ⟨by rw [List.length_append, h1]; rfl, by rw [List.flatMap_append]; simpa using hown, fun p hp => ?_⟩
  rcases List.mem_append.1 hp with hp | hp
  · refine ⟨(h3 p hp).1, hK _ _ _ _ _ _ (h3 p hp).2 (fun b hb => ?_) (fun b hb => ⟨hb.1, by have := hb.2.1; omega, hne b (by have := hb.2.1; omega) hb.2.2⟩)⟩
    rw [hgr.block b (by have := hb.2.1; omega) (fun e => hb.2.2 e.symm), Below.block hG8 b (by have := hb.2.1; omega), Below.block hG b hb.2.1]
  · rw [List.mem_singleton.1 hp]
    refine ⟨hk, hK _ _ _ _ _ _ hd (fun b hb => ?_) (fun b hb => ⟨by omega, by omega, hne b (by omega) (fun e => by have := hv b e; omega)⟩)⟩
    rw [hgr.block b (by omega) (fun e => by have := hv b e.symm; omega), Below.block hG8 b hb.2]
end

end Go.Proofs.YtkkopdmemjncdaaGreatDoor

/- CopyExpr of bolterref0. No condition. -/
namespace Go.Proofs.YtkkopdmemjncdaaGreatDoor
open Go Go.RowKit

theorem info_ex : (Tryz.prog.info? 55).map (fun i => (i.zero, i.size, i.bytes)) = some (some (.agg #[.int .i64 0, .int .i64 0, .int .u64 (wd 0#256 0), .int .u64 (wd 0#256 1), .int .u64 (wd 0#256 2), .int .u64 (wd 0#256 3), .string ⟨#[]⟩, .int .i64 0, .int .i64 0, (.slice none 0 0)]), 10, 104) := by kernel_rfl
theorem size_put1' (w : World) (p : Addr) (v : Value) : (w.setCell p v).heap.size = w.heap.size := by simp [World.setCell]
theorem bx3e (w : World) (c0 c1 c2 : List Value) (e0 e1 e2 : TypeId) :
    boxAt (((w.alloc (.cells c0.toArray e0)).alloc (.cells c1.toArray e1)).alloc (.cells c2.toArray e2)) w.heap.size c0 ∧ boxAt (((w.alloc (.cells c0.toArray e0)).alloc (.cells c1.toArray e1)).alloc (.cells c2.toArray e2)) (w.heap.size + 1) c1 ∧ boxAt (((w.alloc (.cells c0.toArray e0)).alloc (.cells c1.toArray e1)).alloc (.cells c2.toArray e2)) (w.heap.size + 2) c2 ∧
    Gr w (((w.alloc (.cells c0.toArray e0)).alloc (.cells c1.toArray e1)).alloc (.cells c2.toArray e2)) ∧ (((w.alloc (.cells c0.toArray e0)).alloc (.cells c1.toArray e1)).alloc (.cells c2.toArray e2)).heap.size = w.heap.size + 3 := by
  refine ⟨((boxAt.new _ _ rfl).later (Gr.alloc _ _)).later (Gr.alloc _ _), boxAt.later ?_ (Gr.alloc _ _), ?_, ((Gr.alloc _ _).trans (Gr.alloc _ _)).trans (Gr.alloc _ _), by simp⟩
  · have := boxAt.new (w := w.alloc (.cells c0.toArray e0)) c1 e1 rfl
    simpa using this
  · have := boxAt.new (w := (w.alloc (.cells c0.toArray e0)).alloc (.cells c1.toArray e1)) c2 e2 rfl
    simpa using this

set_option maxRecDepth 100000 in
set_option maxHeartbeats 4000000 in
theorem copyExpr_any : ∀ k, ∀ (e : Ex), SizeOf.sizeOf e ≤ k → ∀ (cs : List Value) (w : World), ExIn w e cs →
    Calls Tryz.prog 32 #[.agg cs.toArray] w fun e' w' => ∃ ds, e' = .returned (.agg ds.toArray) ∧ ExOwn (fun b => w.heap.size ≤ b ∧ b < w'.heap.size) w' e ds ∧ Gr w w' := by
  intro k
  induction k with
  | zero => intro e h; cases e; simp only [Ex.mk.sizeOf_spec] at h; omega
  | succ k ih =>
    intro e hk cs w he
    cases he with
    | mk op pos s text mn mx v l h1 h2 h3 h4 h5 hlen hs hn hb hargs =>
      have HK := Lib.hid (fun p (hp : p ∈ l) => by
        have := Ex.size_arg (.mk op pos s text mn mx (l.map (·.1))) p.1 (List.mem_map.2 ⟨p, hp, rfl⟩)
        exact (show SizeOf.sizeOf p.1 ≤ k by omega))
      have HIH := Lib.hid ih
      have HS := Lib.hid hs
      have HA := Lib.hid hargs
      have HLEN := Lib.hid hlen
      have HB := Lib.hid hb
      have HF := Lib.hid (And.intro h1 (And.intro h2 (And.intro h3 (And.intro h4 h5))))
      obtain ⟨pv, cv, rfl⟩ := hs.len
      have hll : l.length ≤ 140737488351232 := by omega
      clear ih hk h1 h2 h3 h4 h5 hn hs hargs hlen hb
      unfold exCells
      go_enter Tryz.func32, Tryz.ntmps32
      go_wp2_with fail
      refine name_world (fun W hW => ?_)
      obtain ⟨xe, xr, xx, hgW, hsz⟩ : _ ∧ _ ∧ _ ∧ Gr w W ∧ W.heap.size = w.heap.size + 3 := by rw [hW]; exact bx3e w [.int .i64 op, .int .i64 pos, .int .u64 (wd s 0), .int .u64 (wd s 1), .int .u64 (wd s 2), .int .u64 (wd s 3), .string text, .int .i64 mn, .int .i64 mx, (.slice pv l.length cv)] [.int .i64 0, .int .i64 0, .int .u64 0, .int .u64 0, .int .u64 0, .int .u64 0, .string ⟨#[]⟩, .int .i64 0, .int .i64 0, .slice none 0 0] [.int .i64 op, .int .i64 pos, .int .u64 (wd s 0), .int .u64 (wd s 1), .int .u64 (wd s 2), .int .u64 (wd s 3), .string text, .int .i64 mn, .int .i64 mx, (.slice none 0 0)] 55 55 55
      rw [← hW] at xe xr xx
      clear hW
      have HSW := Lib.hid (HS.out.later hgW)
      have HGW := Lib.hid hgW
      have HW := Lib.hid hsz
      obtain ⟨i0, hi, hz0, hz1, hz2⟩ := info_parts info_ex
      clear hsz
      go_loopw [4] (fun i wr => ∃ (j : Nat) (v : Value) (ls : List (Ex × List Value)), j ≤ l.length ∧ i = .int .i64 (j : Int) ∧ Gr w wr ∧ Hid (W.heap.size ≤ wr.heap.size) ∧
        boxAt wr w.heap.size [.int .i64 op, .int .i64 pos, .int .u64 (wd s 0), .int .u64 (wd s 1), .int .u64 (wd s 2), .int .u64 (wd s 3), .string text, .int .i64 mn, .int .i64 mx, (.slice pv l.length cv)] ∧ boxAt wr (w.heap.size + 1) [.int .i64 0, .int .i64 0, .int .u64 0, .int .u64 0, .int .u64 0, .int .u64 0, .string ⟨#[]⟩, .int .i64 0, .int .i64 0, .slice none 0 0] ∧ boxAt wr (w.heap.size + 2) [.int .i64 op, .int .i64 pos, .int .u64 (wd s 0), .int .u64 (wd s 1), .int .u64 (wd s 2), .int .u64 (wd s 3), .string text, .int .i64 mn, .int .i64 mx, v] ∧
        (∃ p n c, v = .slice p n c) ∧ Hid (Grows ExOwn 55 10 W.heap.size wr v j ls ∧ ls.map (·.1) = (l.take j).map (·.1))) (fun i _ => l.length - (intOf i).toNat)
      case atStart => exact ⟨0, .slice none 0 0, [], by omega, rfl, hgW, Lib.hid (Nat.le_refl _), xe, xr, xx, ⟨_, _, _, rfl⟩, Lib.hid ⟨Grows.nil _ _ _ _, rfl⟩⟩
      case round =>
        obtain ⟨j, v, ls, hj, rfl, hg, HWR, ye, yr, yx, ⟨vp, vn, vc, rfl⟩, HL⟩ := hrel
        by_cases hlt : j < l.length
        · obtain ⟨b, off, opa, posa, sa, texta, mna, mxa, pa, na, caa, a, rfl, hbW, ha, hin, hat⟩ := args_at HS.out HLEN.out HA.out j hlt
          have HSA := Lib.hid (HK.out _ (List.mem_of_getElem? ha))
          obtain ⟨hbr, hcell⟩ := hat w (Gr.refl _)
          unfold exCells at hcell
          have d0 := hcell 0 _ (by omega) rfl
          have d1 := hcell 1 _ (by omega) rfl
          have d2 := hcell 2 _ (by omega) rfl
          have d3 := hcell 3 _ (by omega) rfl
          have d4 := hcell 4 _ (by omega) rfl
          have d5 := hcell 5 _ (by omega) rfl
          have d6 := hcell 6 _ (by omega) rfl
          have d7 := hcell 7 _ (by omega) rfl
          have d8 := hcell 8 _ (by omega) rfl
          have d9 := hcell 9 _ (by omega) rfl
          simp only [Nat.add_zero] at d0
          have hjI : (j : Int) < (l.length : Int) := by omega
          have HTK := Lib.hid (show (l.take (j + 1)).map (·.1) = (l.take j).map (·.1) ++ [a] by
            obtain ⟨g1, g2⟩ := List.getElem?_eq_some_iff.1 ha
            rw [List.take_succ_eq_append_getElem g1, g2, List.map_append]; rfl)
          have HLT := Lib.hid hlt
          have HC := Lib.hid (fun (cur : World) (h : Gr w cur) => HIH.out a HSA.out _ cur (hin.later h))
          unfold exCells at HC
          clear hlt hcell hin hat ha hj hbW
          have c_e0 := ye.cell 0 _ rfl
          have c_e1 := ye.cell 1 _ rfl
          have c_e2 := ye.cell 2 _ rfl
          have c_e3 := ye.cell 3 _ rfl
          have c_e4 := ye.cell 4 _ rfl
          have c_e5 := ye.cell 5 _ rfl
          have c_e6 := ye.cell 6 _ rfl
          have c_e7 := ye.cell 7 _ rfl
          have c_e8 := ye.cell 8 _ rfl
          have c_e9 := ye.cell 9 _ rfl
          have m_e0 := ye.mark 0 _ rfl
          have m_e1 := ye.mark 1 _ rfl
          have m_e2 := ye.mark 2 _ rfl
          have m_e3 := ye.mark 3 _ rfl
          have m_e4 := ye.mark 4 _ rfl
          have m_e5 := ye.mark 5 _ rfl
          have m_e6 := ye.mark 6 _ rfl
          have m_e7 := ye.mark 7 _ rfl
          have m_e8 := ye.mark 8 _ rfl
          have m_e9 := ye.mark 9 _ rfl
          have l_e := ye.lt (Nat.succ_pos _)
          go_wp2_with fail
          clear c_e0 c_e1 c_e2 c_e3 c_e4 c_e5 c_e6 c_e7 c_e8 c_e9 m_e0 m_e1 m_e2 m_e3 m_e4 m_e5 m_e6 m_e7 m_e8 m_e9 l_e
          refine wp_region_S (fun w' => Gr w w' ∧ boxAt w' w.heap.size [.int .i64 op, .int .i64 pos, .int .u64 (wd s 0), .int .u64 (wd s 1), .int .u64 (wd s 2), .int .u64 (wd s 3), .string text, .int .i64 mn, .int .i64 mx, (.slice (some ⟨b, off, none⟩) l.length cv)] ∧ boxAt w' (w.heap.size + 2) [.int .i64 op, .int .i64 pos, .int .u64 (wd s 0), .int .u64 (wd s 1), .int .u64 (wd s 2), .int .u64 (wd s 3), .string text, .int .i64 mn, .int .i64 mx, (.slice vp vn vc)]) (.take 0 (.take 1 (.take 2 (.take 3 (.take 4 (.take 5 (.take 6 (.run 7 false (.run 8 false (.run 9 false (.take 10 (.run 11 true .nil)))))))))))) ⟨hg.trans (Gr.drew _), ye.later (Gr.drew _), yx.later (Gr.drew _)⟩ (by kernel_rfl) (by kernel_rfl) ?_
          simp only [pickOps, nthOp]
          intro wr7 hN hG
          repeat (first | (refine wpG_skip_take ?_ ?_; (focus rfl); try simp only [Act.put, List.setIfInBounds_toArray, List.set_cons_zero, List.set_cons_succ]) | (refine wpG_skip_run ?_ ?_; (focus rfl); try simp only [Act.put, List.setIfInBounds_toArray, List.set_cons_zero, List.set_cons_succ]) | (refine wpG_take ?_ ?_; (focus rfl); apply Exists.intro; refine ⟨fun w' hw' => ?_, ?_⟩; (focus (have hc := Gr.cells hw'.1; have q1 := hw'.2.1.cell 9 _ rfl; have q3 := hw'.2.2.cell 9 _ rfl; go_simp; (try rfl); done)); try simp only [Act.put, List.setIfInBounds_toArray, List.set_cons_zero, List.set_cons_succ]))
          obtain ⟨hG, ye7, yx7⟩ := hG
          refine wpG_run ?_ (fun K hK => ?_); (focus rfl)
          go_simp
          go_at_call 32
          (with_reducible refine (HC.out _ hG).mono ?_); rintro e' w7 ⟨ds, rfl, ho, hb⟩
          obtain ⟨op3, pos3, s3, text3, mn3, mx3, p3, n3, c3, rfl⟩ := ho.form
          have HO := Lib.hid (ho.keep (S' := fun b => wr.heap.size ≤ b ∧ b < w7.heap.size) (fun b hb => rfl) (fun b hb => ⟨by have := hN.size; have := hb.1; omega, hb.2⟩))
          clear ho
          unfold exCells
          replace ye7 := ye7.later hb
          replace yx7 := yx7.later hb
          replace hG := hG.trans hb
          replace hN := hN.trans hb
          try dsimp only
          refine hK.out _ _ ⟨hG, ye7, yx7⟩ ?_
          clear hK K hb d0 d1 d2 d3 d4 d5 d6 d7 d8 d9 hbr
          try simp only [Act.put, List.setIfInBounds_toArray, List.set_cons_zero, List.set_cons_succ]
          refine wpG_run rfl (fun K hK => ?_)
          go_simp
          refine name_K (fun W8 hW8 => ?_)
          have h78 : Gr w7 W8 := by rw [hW8]; exact Gr.alloc _ _
          have hc8 : ∀ (j : Nat) (u : Value), [.int .i64 op3, .int .i64 pos3, .int .u64 (wd s3 0), .int .u64 (wd s3 1), .int .u64 (wd s3 2), .int .u64 (wd s3 3), .string text3, .int .i64 mn3, .int .i64 mx3, (.slice p3 n3 c3)][j]? = some u → W8.cell? ((⟨w7.heap.size, 0, none⟩ : Addr).add j) = some u := by rw [hW8]; exact new_cells _ _ _
          clear hW8
          replace ye7 := ye7.later h78
          replace yx7 := yx7.later h78
          refine hK.out _ _ ⟨hG.trans h78, ye7, yx7⟩ ?_
          clear hK K
          try simp only [Act.put, List.setIfInBounds_toArray, List.set_cons_zero, List.set_cons_succ]
          refine wpG_run rfl (fun K hK => ?_)
          refine wp_append_own_at _ (.tmp 15) (.tmp 22) 53 rfl W.heap.size 55 i0 _ 10 104 Tryz.underlying53 hi hz0 hz1 hz2 rfl (by decide) (.slice vp vn vc) j (ls.flatMap (·.2)) rfl (owns_later HL.out.1.2.1 (hN.trans h78)) ⟨w7.heap.size, 0, none⟩ 1 1 [.int .i64 op3, .int .i64 pos3, .int .u64 (wd s3 0), .int .u64 (wd s3 1), .int .u64 (wd s3 2), .int .u64 (wd s3 3), .string text3, .int .i64 mn3, .int .i64 mx3, (.slice p3 n3 c3)] rfl rfl hc8 ?c1 ?c2 ?c3 ?c4 ?_
          case c1 => exact ex_ones _ _ _ _ _ _ _ _ _
          case c2 => unfold maxLen; have := HLT.out; omega
          case c3 => have := HLT.out; have := HB.out; omega
          case c4 => have := HWR.out; have := hN.size; have := h78.size; omega
          intro v9 W9 hown9 hgrow9 _ hat9
          have hne : ∀ g, (Value.slice vp vn vc).ownBlock = some g → W.heap.size ≤ g := fun g hg => (World.ownsRow.lt HL.out.1.2.1 g hg).1
          have hwW := HW.out
          replace hG : Gr w W9 := Gr.grown (hG.trans h78) hgrow9 (fun g hg => by have := hne g hg; omega)
          replace ye7 := ye7.grown hgrow9 (by simp) (fun e => by have := hne _ e; omega)
          replace yx7 := yx7.grown hgrow9 (by simp) (fun e => by have := hne _ e; omega)
          have yr7 := ((yr.later hN).later h78).grown hgrow9 (by simp) (fun e => by have := hne _ e; omega)
          have HL9 := Lib.hid (Grows.push keeps_ex HL.out.1 hN HWR.out HO.out rfl h78 hown9 hgrow9 hat9)
          have HWR9 := Lib.hid (show W.heap.size ≤ W9.heap.size by have := HWR.out; have := hN.size; have := h78.size; have := hgrow9.size; omega)
          obtain ⟨gl, capl, rfl, _⟩ := owns_block hown9 (by omega)
          clear hne hown9 hgrow9 hat9 hc8 hN h78
          refine hK.out _ _ ⟨hG, ye7, yx7⟩ ?_
          clear hK K
          try simp only [Act.put, List.setIfInBounds_toArray, List.set_cons_zero, List.set_cons_succ]
          repeat (first | (refine wpG_skip_take ?_ ?_; (focus rfl); try simp only [Act.put, List.setIfInBounds_toArray, List.set_cons_zero, List.set_cons_succ]) | (refine wpG_skip_run ?_ ?_; (focus rfl); try simp only [Act.put, List.setIfInBounds_toArray, List.set_cons_zero, List.set_cons_succ]) | (refine wpG_take ?_ ?_; (focus rfl); apply Exists.intro; refine ⟨fun w' hw' => ?_, ?_⟩; (focus (skip; go_simp; (try rfl); done)); try simp only [Act.put, List.setIfInBounds_toArray, List.set_cons_zero, List.set_cons_succ]))
          have c_x0 := yx7.cell 0 _ rfl
          have c_x1 := yx7.cell 1 _ rfl
          have c_x2 := yx7.cell 2 _ rfl
          have c_x3 := yx7.cell 3 _ rfl
          have c_x4 := yx7.cell 4 _ rfl
          have c_x5 := yx7.cell 5 _ rfl
          have c_x6 := yx7.cell 6 _ rfl
          have c_x7 := yx7.cell 7 _ rfl
          have c_x8 := yx7.cell 8 _ rfl
          have c_x9 := yx7.cell 9 _ rfl
          have m_x0 := yx7.mark 0 _ rfl
          have m_x1 := yx7.mark 1 _ rfl
          have m_x2 := yx7.mark 2 _ rfl
          have m_x3 := yx7.mark 3 _ rfl
          have m_x4 := yx7.mark 4 _ rfl
          have m_x5 := yx7.mark 5 _ rfl
          have m_x6 := yx7.mark 6 _ rfl
          have m_x7 := yx7.mark 7 _ rfl
          have m_x8 := yx7.mark 8 _ rfl
          have m_x9 := yx7.mark 9 _ rfl
          have l_x := yx7.lt (Nat.succ_pos _)
          refine wpG_last ?_ (fun K hK => ?_); (focus rfl)
          go_simp
          refine hK.out _ _ ?_
          try simp only [Act.put, List.setIfInBounds_toArray, List.set_cons_zero, List.set_cons_succ]
          clear hK K
          clear c_x0 c_x1 c_x2 c_x3 c_x4 c_x5 c_x6 c_x7 c_x8 c_x9 m_x0 m_x1 m_x2 m_x3 m_x4 m_x5 m_x6 m_x7 m_x8 m_x9 l_x
          refine wpG_done ?_
          go_wp2_with fail
          go_roundw
          case rel =>
            refine ⟨j + 1, .slice (some ⟨gl, 0, none⟩) (j + 1) capl, _, by have := HLT.out; omega, by go_num, Below.setCell (p := ⟨w.heap.size + 2, 9, none⟩) hG (by show w.heap.size ≤ w.heap.size + 2; omega) _, Lib.hid (by rw [size_put1']; exact HWR9.out), ye7.far _ _ (by show w.heap.size + 2 ≠ w.heap.size; omega), yr7.far _ _ (by show w.heap.size + 2 ≠ w.heap.size + 1; omega), yx7.put 9 _ (by simp), ⟨_, _, _, rfl⟩, Lib.hid ⟨HL9.out.far keeps_ex _ _ (by show w.heap.size + 2 < W.heap.size; omega), ?_⟩⟩
            rw [List.map_append, HL.out.2, HTK.out]; rfl
          case measure => have := HLT.out; simp [intOf]; omega
        · have hjE : j = l.length := by omega
          clear hlt hj
          subst hjE
          have HWW := HW
          have c_e0 := ye.cell 0 _ rfl
          have c_e1 := ye.cell 1 _ rfl
          have c_e2 := ye.cell 2 _ rfl
          have c_e3 := ye.cell 3 _ rfl
          have c_e4 := ye.cell 4 _ rfl
          have c_e5 := ye.cell 5 _ rfl
          have c_e6 := ye.cell 6 _ rfl
          have c_e7 := ye.cell 7 _ rfl
          have c_e8 := ye.cell 8 _ rfl
          have c_e9 := ye.cell 9 _ rfl
          have m_e0 := ye.mark 0 _ rfl
          have m_e1 := ye.mark 1 _ rfl
          have m_e2 := ye.mark 2 _ rfl
          have m_e3 := ye.mark 3 _ rfl
          have m_e4 := ye.mark 4 _ rfl
          have m_e5 := ye.mark 5 _ rfl
          have m_e6 := ye.mark 6 _ rfl
          have m_e7 := ye.mark 7 _ rfl
          have m_e8 := ye.mark 8 _ rfl
          have m_e9 := ye.mark 9 _ rfl
          have l_e := ye.lt (Nat.succ_pos _)
          have c_x0 := yx.cell 0 _ rfl
          have c_x1 := yx.cell 1 _ rfl
          have c_x2 := yx.cell 2 _ rfl
          have c_x3 := yx.cell 3 _ rfl
          have c_x4 := yx.cell 4 _ rfl
          have c_x5 := yx.cell 5 _ rfl
          have c_x6 := yx.cell 6 _ rfl
          have c_x7 := yx.cell 7 _ rfl
          have c_x8 := yx.cell 8 _ rfl
          have c_x9 := yx.cell 9 _ rfl
          have m_x0 := yx.mark 0 _ rfl
          have m_x1 := yx.mark 1 _ rfl
          have m_x2 := yx.mark 2 _ rfl
          have m_x3 := yx.mark 3 _ rfl
          have m_x4 := yx.mark 4 _ rfl
          have m_x5 := yx.mark 5 _ rfl
          have m_x6 := yx.mark 6 _ rfl
          have m_x7 := yx.mark 7 _ rfl
          have m_x8 := yx.mark 8 _ rfl
          have m_x9 := yx.mark 9 _ rfl
          have l_x := yx.lt (Nat.succ_pos _)
          have c_r0 := yr.cell 0 _ rfl
          have c_r1 := yr.cell 1 _ rfl
          have c_r2 := yr.cell 2 _ rfl
          have c_r3 := yr.cell 3 _ rfl
          have c_r4 := yr.cell 4 _ rfl
          have c_r5 := yr.cell 5 _ rfl
          have c_r6 := yr.cell 6 _ rfl
          have c_r7 := yr.cell 7 _ rfl
          have c_r8 := yr.cell 8 _ rfl
          have c_r9 := yr.cell 9 _ rfl
          have m_r0 := yr.mark 0 _ rfl
          have m_r1 := yr.mark 1 _ rfl
          have m_r2 := yr.mark 2 _ rfl
          have m_r3 := yr.mark 3 _ rfl
          have m_r4 := yr.mark 4 _ rfl
          have m_r5 := yr.mark 5 _ rfl
          have m_r6 := yr.mark 6 _ rfl
          have m_r7 := yr.mark 7 _ rfl
          have m_r8 := yr.mark 8 _ rfl
          have m_r9 := yr.mark 9 _ rfl
          have l_r := yr.lt (Nat.succ_pos _)
          go_wp2_with fail
          clear c_e0 c_e1 c_e2 c_e3 c_e4 c_e5 c_e6 c_e7 c_e8 c_e9 m_e0 m_e1 m_e2 m_e3 m_e4 m_e5 m_e6 m_e7 m_e8 m_e9 l_e
          clear c_x0 c_x1 c_x2 c_x3 c_x4 c_x5 c_x6 c_x7 c_x8 c_x9 m_x0 m_x1 m_x2 m_x3 m_x4 m_x5 m_x6 m_x7 m_x8 m_x9 l_x
          have hE : ExOwn (Free W.heap.size wr (.slice none 0 0)) wr (.mk op pos s text mn mx (l.map (·.1))) [.int .i64 op, .int .i64 pos, .int .u64 (wd s 0), .int .u64 (wd s 1), .int .u64 (wd s 2), .int .u64 (wd s 3), .string text, .int .i64 mn, .int .i64 mx, (.slice vp vn vc)] := by
            obtain ⟨⟨hl1, hown, hl3⟩, hl4⟩ := HL.out
            rw [List.take_length] at hl4
            rw [← hl4]
            obtain ⟨f1, f2, f3, f4, f5⟩ := HF.out
            have hs := Sl.of_owns hown
            obtain ⟨_, _, hvn⟩ := hs.len
            injection hvn with _ hvn _
            subst hvn
            replace hs : Sl wr (.slice vp l.length vc) 10 ls.length (ls.flatMap (·.2)) := by rw [hl1]; exact hs
            refine .mk op pos s text mn mx _ ls f1 f2 f3 f4 f5 (fun p hp => (hl3 p hp).1) hs ?_ (by rw [hl1]; exact HB.out) ?_ (fun p hp => keeps_ex _ _ _ _ _ _ (hl3 p hp).2 (fun _ _ => rfl) (fun b hb => ⟨hb.1, hb.2.1, by simp [Value.ownBlock]⟩))
            · rcases hown.2 with ⟨hv, _⟩ | ⟨g, cap, cur, hv, _⟩
              · exact .inl hv
              · exact .inr ⟨_, _, _, hv⟩
            · intro a n c hv
              have := World.ownsRow.lt hown a.block (by rw [hv]; rfl)
              exact ⟨this.1, this.2, by simp [Value.ownBlock]⟩
          exact bodyPost_ret (v := .agg #[.int .i64 op, .int .i64 pos, .int .u64 (wd s 0), .int .u64 (wd s 1), .int .u64 (wd s 2), .int .u64 (wd s 3), .string text, .int .i64 mn, .int .i64 mx, (.slice vp vn vc)]) (by simp [results, Tryz.results32, go_sem, c_r0, c_r1, c_r2, c_r3, c_r4, c_r5, c_r6, c_r7, c_r8, c_r9]) rfl ⟨_, rfl, hE.keep (fun b hb => put10_block _ _ _ _ _ _ _ _ _ _ _ _ _ (by have := hb.1; have := HWW.out; omega)) (fun b hb => ⟨by have := hb.1; have := HWW.out; omega, by rw [put10_size]; exact hb.2.1⟩), put10 hg (by omega) _ _ _ _ _ _ _ _ _ _⟩

end Go.Proofs.YtkkopdmemjncdaaGreatDoor

/- A rule file that is read, with the sizes of its expressions' texts. Printed by gen_spt.py. No condition. -/
namespace Go.Proofs.YtkkopdmemjncdaaGreatDoor
open Go Go.ChangeShapes Go.WideShapes Go.ChangeAt Go.RowKit

mutual
def wxE : Ex → Nat
  | .mk _ _ _ text _ _ args => 1 + text.size + wxL args
def wxL : List Ex → Nat
  | [] => 0
  | a :: r => wxE a + wxL r
end
theorem wxL_sum : ∀ l : List Ex, wxL l = (l.map wxE).sum
  | [] => by rw [wxL]; rfl
  | a :: r => by rw [wxL, wxL_sum r, List.map_cons, List.sum_cons]
def wxR (r : Rl) : Nat := r.modes.length + (wxE r.head + (wxE r.trail + r.acts.length))
def wxS (s : Sc) : Nat := s.modes.length + ((s.defs.map fun d => wxE d.ex).sum + (s.rules.map wxR).sum)
mutual
theorem wt_wxE : ∀ e : Ex, wtE e ≤ wxE e
  | .mk _ _ _ text _ _ args => by
    rw [wtE, wxE]
    have := wt_wxL args
    omega
theorem wt_wxL : ∀ l : List Ex, wtL l ≤ wxL l
  | [] => by rw [wtL, wxL]; exact Nat.le_refl _
  | a :: r => by
    rw [wtL, wxL]
    have h1 := wt_wxE a
    have h2 := wt_wxL r
    omega
end
theorem sum_le6 {α : Type} (f g : α → Nat) (h : ∀ a, f a ≤ g a) : ∀ l : List α, (l.map f).sum ≤ (l.map g).sum
  | [] => Nat.le_refl _
  | a :: l => by
    rw [List.map_cons, List.sum_cons, List.map_cons, List.sum_cons]
    have h1 := h a
    have h2 := sum_le6 f g h l
    omega
theorem wt_wxS (s : Sc) : wtS s ≤ wxS s := by
  unfold wtS wxS
  have h1 := sum_le6 (fun d : Df => wtE d.ex) (fun d => wxE d.ex) (fun d => wt_wxE d.ex) s.defs
  have h2 := sum_le6 wtR wxR (fun r => by
    unfold wtR wxR
    have h3 := wt_wxE r.head
    have h4 := wt_wxE r.trail
    omega) s.rules
  omega
section
variable {H : Type} {enc : TypeId × Value → H}
set_option maxRecDepth 100000 in
theorem ex_readX {w : World} {base : Nat} {spare : Nat → Bool} {held : Bool} : ∀ (fuel : Nat) (cs : List Value) (x : DataW H × List MemPlace), DataW.trod enc Tryz.prog w base spare held fuel 55 cs = some x → Reached Tryz.prog 55 x.1 →
    ∃ e : Ex, ExIn w e cs ∧ wxE e ≤ Rows.uptoBulk x.1 := by
  intro fuel
  induction fuel using Nat.strongRecOn with
  | ind fuel ih =>
    intro cs x h hw
    obtain ⟨xs, n, hfu, hx, hl, hlen, hf⟩ := DataW.trod_struct Tryz.underlying55 h
    obtain ⟨y0, y1, y2, y3, y4, y5, y6, rfl⟩ := list7 xs hlen
    have h0 : DataW.trod enc Tryz.prog w base spare held n 3 ((cs.drop 0).take (Tryz.prog.cellsOf 3)) = some y0 := hf 0 _ rfl
    have h1 : DataW.trod enc Tryz.prog w base spare held n 3 ((cs.drop 1).take (Tryz.prog.cellsOf 3)) = some y1 := hf 1 _ rfl
    have h2 : DataW.trod enc Tryz.prog w base spare held n 52 ((cs.drop 2).take (Tryz.prog.cellsOf 52)) = some y2 := hf 2 _ rfl
    have h3 : DataW.trod enc Tryz.prog w base spare held n 9 ((cs.drop 6).take (Tryz.prog.cellsOf 9)) = some y3 := hf 3 _ rfl
    have h4 : DataW.trod enc Tryz.prog w base spare held n 3 ((cs.drop 7).take (Tryz.prog.cellsOf 3)) = some y4 := hf 4 _ rfl
    have h5 : DataW.trod enc Tryz.prog w base spare held n 3 ((cs.drop 8).take (Tryz.prog.cellsOf 3)) = some y5 := hf 5 _ rfl
    have h6 : DataW.trod enc Tryz.prog w base spare held n 53 ((cs.drop 9).take (Tryz.prog.cellsOf 53)) = some y6 := hf 6 _ rfl
    have hbk : Rows.uptoBulk y3.1 + Rows.uptoBulk y6.1 ≤ Rows.uptoBulk x.1 := by
      rw [hx]
      simp only [List.map_cons, List.map_nil, bulk_agg, bulk_cons]; omega
    subst hx
    have hw6 : Reached Tryz.prog 53 y6.1 := fun m' hm' => hw m' (by unfold DataW.weights; rw [Tryz.underlying55]; simp only [List.map_cons, List.map_nil, DataW.weightsEach, List.append_nil]; exact List.mem_append_right _ (List.mem_append_right _ (List.mem_append_right _ (List.mem_append_right _ (List.mem_append_right _ (List.mem_append_right _ (hm')))))))
    clear hf h hw
    rw [cells_expr] at hl
    obtain ⟨c0, c1, c2, c3, c4, c5, c6, c7, c8, c9, rfl⟩ := list10 cs hl
    simp only [cells_int, cells_set, cells_str, cells_exprs, List.drop, List.take] at h0 h1 h2 h3 h4 h5 h6
    obtain ⟨op, e0, _, w0⟩ := DataW.trod_int Tryz.underlying3 h0
    obtain ⟨pos, e1, _, w1⟩ := DataW.trod_int Tryz.underlying3 h1
    obtain ⟨s, e2⟩ := trod_set h2
    obtain ⟨text, e3, z3, w3⟩ := DataW.trod_string Tryz.underlying9 h3
    have hst : Rows.uptoBulk y3.1 = text.size + 1 := by rw [z3]; simp [bulk_str]
    obtain ⟨mn, e4, _, w4⟩ := DataW.trod_int Tryz.underlying3 h4
    obtain ⟨mx, e5, _, w5⟩ := DataW.trod_int Tryz.underlying3 h5
    obtain ⟨v, l, e6, hs, hq, hb, hz, hwt⟩ := slice_readB (f := fun p : ExCells => p.1.2) (Q := fun p d => ExIn w p.1.1 p.1.2 ∧ wxE p.1.1 ≤ Rows.uptoBulk d) Tryz.underlying53 cells_expr (by omega) (fun p => p.2) (fun n' cs x hn' h hw => by
      obtain ⟨e, he, h2⟩ := ih n' (by omega) cs x h hw
      exact ⟨⟨(e, cs), he.len⟩, rfl, he, h2⟩) h6 hw6
    have hsum := hwt (fun p => wxE p.1.1) (fun a d hq => hq.2)
    simp only [List.cons.injEq, and_true] at e0 e1 e2 e3 e4 e5 e6
    obtain ⟨rfl, rfl, rfl, rfl⟩ := e2
    subst e0 e1 e3 e4 e5 e6
    rw [bytes_expr, reach_num] at hb
    refine ⟨_, .mk op pos s text mn mx _ (l.map (·.1)) (fit_of w0) (fit_of w1) (fit_of w4) (fit_of w5) w3 ?_ ?_ hz (by rw [List.length_map]; exact hb) ?_, ?_⟩
    · intro p hp
      obtain ⟨q, _, rfl⟩ := List.mem_map.1 hp
      exact q.2
    · rw [List.length_map, List.flatMap_map]; exact hs
    · intro p hp
      obtain ⟨q, hq', rfl⟩ := List.mem_map.1 hp
      obtain ⟨d, hd⟩ := hq q hq'
      exact hd.1
    · rw [wxE, wxL_sum]
      have e : ∀ l : List ExCells, ((l.map (fun p => p.1)).map (fun p : Ex × List Value => p.1)).map wxE = l.map fun p => wxE p.1.1 := fun l => by
        induction l with
        | nil => rfl
        | cons a l ih => rw [List.map_cons, List.map_cons, List.map_cons, List.map_cons, ih]
      have e2 := e l
      rw [show ((l.map (fun p => p.1)).map (fun p : Ex × List Value => p.1)).map wxE = _ from e2]
      omega
set_option maxRecDepth 100000 in
theorem def_readX {w : World} {base fuel : Nat} {spare : Nat → Bool} {held : Bool} {cs : List Value} {x : DataW H × List MemPlace} (h : DataW.trod enc Tryz.prog w base spare held fuel 57 cs = some x) (hw : Reached Tryz.prog 57 x.1) : ∃ d : Df, DfIn w d cs ∧ wxE d.ex ≤ Rows.uptoBulk x.1 := by
  obtain ⟨y0, y1, y2, n, hx, hl, h0, h1, h2⟩ := Go.Deep.trod_struct3 Tryz.underlying57 h
  rw [cells_def] at hl
  rw [hx] at hw
  have hw2 : Reached Tryz.prog 55 y2.1 := fun m' hm' => hw m' (by unfold DataW.weights; rw [Tryz.underlying57]; simp only [List.map_cons, List.map_nil, DataW.weightsEach, List.append_nil]; exact List.mem_append_right _ (List.mem_append_right _ (hm')))
  obtain ⟨c0, c1, c2, c3, c4, c5, c6, c7, c8, c9, c10, c11, rfl⟩ := list12N cs hl
  simp only [cells_str, cells_int, cells_expr, List.drop, List.take] at h0 h1 h2
  obtain ⟨a, e0, _, w0⟩ := DataW.trod_string Tryz.underlying9 h0
  obtain ⟨p, e1, _, w1⟩ := DataW.trod_int Tryz.underlying3 h1
  obtain ⟨e, he, hb⟩ := ex_readX _ _ _ h2 hw2
  simp only [List.cons.injEq, and_true] at e0 e1
  subst e0 e1
  exact ⟨⟨a, p, e⟩, .mk ⟨a, p, e⟩ _ he w0 (fit_of w1), by rw [hx]; simp only [bulk_agg, bulk_cons]; show wxE e ≤ _; omega⟩
set_option maxRecDepth 100000 in
set_option maxHeartbeats 2000000 in
theorem rule_readX {w : World} {base fuel : Nat} {spare : Nat → Bool} {held : Bool} {cs : List Value} {x : DataW H × List MemPlace} (h : DataW.trod enc Tryz.prog w base spare held fuel 71 cs = some x) (hw : Reached Tryz.prog 71 x.1) : ∃ r : Rl, RlIn w r cs ∧ wxR r ≤ Rows.uptoBulk x.1 := by
  obtain ⟨xs, n, hfu, hx, hl, hlen, hf⟩ := DataW.trod_struct Tryz.underlying71 h
  obtain ⟨y0, y1, y2, y3, y4, y5, y6, y7, rfl⟩ : ∃ y0 y1 y2 y3 y4 y5 y6 y7, xs = [y0, y1, y2, y3, y4, y5, y6, y7] := by
    match xs, hlen with
    | [y0, y1, y2, y3, y4, y5, y6, y7], _ => exact ⟨y0, y1, y2, y3, y4, y5, y6, y7, rfl⟩
  have h0 : DataW.trod enc Tryz.prog w base spare held n 3 ((cs.drop 0).take (Tryz.prog.cellsOf 3)) = some y0 := hf 0 _ rfl
  have h1 : DataW.trod enc Tryz.prog w base spare held n 4 ((cs.drop 1).take (Tryz.prog.cellsOf 4)) = some y1 := hf 1 _ rfl
  have h2 : DataW.trod enc Tryz.prog w base spare held n 68 ((cs.drop 2).take (Tryz.prog.cellsOf 68)) = some y2 := hf 2 _ rfl
  have h3 : DataW.trod enc Tryz.prog w base spare held n 55 ((cs.drop 3).take (Tryz.prog.cellsOf 55)) = some y3 := hf 3 _ rfl
  have h4 : DataW.trod enc Tryz.prog w base spare held n 4 ((cs.drop 13).take (Tryz.prog.cellsOf 4)) = some y4 := hf 4 _ rfl
  have h5 : DataW.trod enc Tryz.prog w base spare held n 55 ((cs.drop 14).take (Tryz.prog.cellsOf 55)) = some y5 := hf 5 _ rfl
  have h6 : DataW.trod enc Tryz.prog w base spare held n 9 ((cs.drop 24).take (Tryz.prog.cellsOf 9)) = some y6 := hf 6 _ rfl
  have h7 : DataW.trod enc Tryz.prog w base spare held n 69 ((cs.drop 25).take (Tryz.prog.cellsOf 69)) = some y7 := hf 7 _ rfl
  have hbk : Rows.uptoBulk y2.1 + (Rows.uptoBulk y3.1 + (Rows.uptoBulk y5.1 + Rows.uptoBulk y7.1)) ≤ Rows.uptoBulk x.1 := by
    rw [hx]; simp only [List.map_cons, List.map_nil, bulk_agg, bulk_cons]; omega
  subst hx
  have hw2 : Reached Tryz.prog 68 y2.1 := fun m' hm' => hw m' (by unfold DataW.weights; rw [Tryz.underlying71]; simp only [List.map_cons, List.map_nil, DataW.weightsEach, List.append_nil]; exact List.mem_append_right _ (List.mem_append_right _ (List.mem_append_left _ hm')))
  have hw3 : Reached Tryz.prog 55 y3.1 := fun m' hm' => hw m' (by unfold DataW.weights; rw [Tryz.underlying71]; simp only [List.map_cons, List.map_nil, DataW.weightsEach, List.append_nil]; exact List.mem_append_right _ (List.mem_append_right _ (List.mem_append_right _ (List.mem_append_left _ hm'))))
  have hw5 : Reached Tryz.prog 55 y5.1 := fun m' hm' => hw m' (by unfold DataW.weights; rw [Tryz.underlying71]; simp only [List.map_cons, List.map_nil, DataW.weightsEach, List.append_nil]; exact List.mem_append_right _ (List.mem_append_right _ (List.mem_append_right _ (List.mem_append_right _ (List.mem_append_right _ (List.mem_append_left _ hm'))))))
  have hw7 : Reached Tryz.prog 69 y7.1 := fun m' hm' => hw m' (by unfold DataW.weights; rw [Tryz.underlying71]; simp only [List.map_cons, List.map_nil, DataW.weightsEach, List.append_nil]; exact List.mem_append_right _ (List.mem_append_right _ (List.mem_append_right _ (List.mem_append_right _ (List.mem_append_right _ (List.mem_append_right _ (List.mem_append_right _ (hm'))))))))
  clear hf h hw
  rw [cells_rule] at hl
  obtain ⟨c0, c1, c2, c3, c4, c5, c6, c7, c8, c9, c10, c11, c12, c13, c14, c15, c16, c17, c18, c19, c20, c21, c22, c23, c24, c25, rfl⟩ := list26N cs hl
  simp only [cells_int, cells_bool', cells_uses, cells_expr, cells_str, cells_acts, List.drop, List.take] at h0 h1 h2 h3 h4 h5 h6 h7
  obtain ⟨p, e0, _, w0⟩ := DataW.trod_int Tryz.underlying3 h0
  obtain ⟨al, e1, _⟩ := DataW.trod_bool Tryz.underlying4 h1
  obtain ⟨vm, ml, e2, s2, q2, b2, z2, t2⟩ := slice_readB (f := usC) (Q := fun u _ => UsOk u) Tryz.underlying68 cells_use (by omega) usC_len (fun n cs x _ h _ => use_readN h) h2 hw2
  have t2' := t2 (fun _ => 1) (fun a d _ => bulk_one d)
  obtain ⟨e, he, b3⟩ := ex_readX _ _ _ h3 hw3
  obtain ⟨ht, e4, _⟩ := DataW.trod_bool Tryz.underlying4 h4
  obtain ⟨t, hte, b5⟩ := ex_readX _ _ _ h5 hw5
  obtain ⟨lb, e6, _, w6⟩ := DataW.trod_string Tryz.underlying9 h6
  obtain ⟨va, aL, e7, s7, q7, b7, z7, t7⟩ := slice_readB (f := acC) (Q := fun u _ => AcOk u) Tryz.underlying69 cells_act (by omega) acC_len (fun n cs x _ h _ => act_readN h) h7 hw7
  have t7' := t7 (fun _ => 1) (fun a d _ => bulk_one d)
  rw [len_sum] at t2' t7'
  rw [show Tryz.prog.bytesOf 78 = 24 by kernel_rfl, reach_num] at b2
  rw [show Tryz.prog.bytesOf 80 = 32 by kernel_rfl, reach_num] at b7
  simp only [List.cons.injEq, and_true] at e0 e1 e2 e4 e6 e7
  subst e0 e1 e2 e4 e6 e7
  exact ⟨⟨p, al, ml, e, ht, t, lb, aL⟩, .mk ⟨p, al, ml, e, ht, t, lb, aL⟩ _ _ _ _ he hte s2 z2 b2 (fun u hu => (q2 u hu).elim fun _ h => h) s7 z7 b7 (fun u hu => (q7 u hu).elim fun _ h => h) w6 (fit_of w0), by show ml.length + (wxE e + (wxE t + aL.length)) ≤ _; omega⟩
set_option maxRecDepth 100000 in
theorem spec_readX {w : World} {base fuel : Nat} {spare : Nat → Bool} {held : Bool} {cs : List Value} {x : DataW H × List MemPlace} (h : DataW.trod enc Tryz.prog w base spare held fuel 28 cs = some x) (hw : Reached Tryz.prog 28 x.1) :
    ∃ (s : Sc) (vm vd vr : Value), cs = [vm, vd, vr] ∧ Nonempty (ScIn w s vm vd vr) ∧ wxS s ≤ Rows.uptoBulk x.1 := by
  obtain ⟨y0, y1, y2, n, hx, hl, h0, h1, h2⟩ := Go.Deep.trod_struct3 Tryz.underlying28 h
  rw [show Tryz.prog.cellsOf 28 = 3 by kernel_rfl] at hl
  rw [hx] at hw
  have hw0 : Reached Tryz.prog 24 y0.1 := fun m' hm' => hw m' (by unfold DataW.weights; rw [Tryz.underlying28]; simp only [List.map_cons, List.map_nil, DataW.weightsEach, List.append_nil]; exact List.mem_append_left _ hm')
  have hw1 : Reached Tryz.prog 25 y1.1 := fun m' hm' => hw m' (by unfold DataW.weights; rw [Tryz.underlying28]; simp only [List.map_cons, List.map_nil, DataW.weightsEach, List.append_nil]; exact List.mem_append_right _ (List.mem_append_left _ hm'))
  have hw2 : Reached Tryz.prog 26 y2.1 := fun m' hm' => hw m' (by unfold DataW.weights; rw [Tryz.underlying28]; simp only [List.map_cons, List.map_nil, DataW.weightsEach, List.append_nil]; exact List.mem_append_right _ (List.mem_append_right _ (hm')))
  match cs, hl with
  | [c0, c1, c2], _ =>
    simp only [cells_modes, cells_defs, cells_rules, List.drop, List.take] at h0 h1 h2
    obtain ⟨vm, ml, e0, s0, q0, b0, z0, t0⟩ := slice_readB (f := mdC) (Q := fun m _ => MdOk m) Tryz.underlying24 cells_mode (by omega) mdC_len (fun n cs x _ h _ => mode_readN h) h0 hw0
    obtain ⟨vd, dl, e1, s1, q1, b1, z1, t1⟩ := slice_readB (f := fun p : DfCells => p.1.2) (Q := fun p d => DfIn w p.1.1 p.1.2 ∧ wxE p.1.1.ex ≤ Rows.uptoBulk d) Tryz.underlying25 cells_def (by omega) (fun p => p.2) (fun n cs x _ h hw => by
      obtain ⟨d, hd, hb⟩ := def_readX h hw
      exact ⟨⟨(d, cs), hd.len⟩, rfl, hd, hb⟩) h1 hw1
    obtain ⟨vr, rl, e2, s2, q2, b2, z2, t2⟩ := slice_readB (f := fun p : RlCells => p.1.2) (Q := fun p d => RlIn w p.1.1 p.1.2 ∧ wxR p.1.1 ≤ Rows.uptoBulk d) Tryz.underlying26 cells_rule (by omega) (fun p => p.2) (fun n cs x _ h hw => by
      obtain ⟨d, hd, hb⟩ := rule_readX h hw
      exact ⟨⟨(d, cs), hd.len⟩, rfl, hd, hb⟩) h2 hw2
    rw [show Tryz.prog.bytesOf 75 = 32 by kernel_rfl, reach_num] at b0
    rw [show Tryz.prog.bytesOf 57 = 128 by kernel_rfl, reach_num] at b1
    rw [show Tryz.prog.bytesOf 71 = 296 by kernel_rfl, reach_num] at b2
    have t0' := t0 (fun _ => 1) (fun a d _ => bulk_one d)
    have t1' := t1 (fun p => wxE p.1.1.ex) (fun a d h => h.2)
    have t2' := t2 (fun p => wxR p.1.1) (fun a d h => h.2)
    rw [len_sum] at t0'
    simp only [List.cons.injEq, and_true] at e0 e1 e2
    subst e0 e1 e2
    refine ⟨⟨ml, (dl.map (·.1)).map (·.1), (rl.map (·.1)).map (·.1)⟩, _, _, _, rfl, ⟨⟨dl.map (·.1), rl.map (·.1), rfl, rfl, s0, fun m hm => (q0 m hm).elim fun _ h => h, z0, b0, by rw [List.length_map, List.flatMap_map]; exact s1, fun p hp => ?_, z1, by rw [List.length_map]; exact b1, by rw [List.length_map, List.flatMap_map]; exact s2, fun p hp => ?_, z2, by rw [List.length_map]; exact b2⟩⟩, ?_⟩
    · obtain ⟨q, hq, rfl⟩ := List.mem_map.1 hp
      exact (q1 q hq).elim fun _ h => h.1
    · obtain ⟨q, hq, rfl⟩ := List.mem_map.1 hp
      exact (q2 q hq).elim fun _ h => h.1
    · rw [hx]
      simp only [bulk_agg, bulk_cons]
      unfold wxS
      have e1 : ∀ l : List DfCells, ((l.map (fun p => p.1)).map (fun p : Df × List Value => p.1)).map (fun d => wxE d.ex) = l.map fun p => wxE p.1.1.ex := fun l => by
        induction l with
        | nil => rfl
        | cons a l ih => rw [List.map_cons, List.map_cons, List.map_cons, List.map_cons, ih]
      have e2 : ∀ l : List RlCells, ((l.map (fun p => p.1)).map (fun p : Rl × List Value => p.1)).map wxR = l.map fun p => wxR p.1.1 := fun l => by
        induction l with
        | nil => rfl
        | cons a l ih => rw [List.map_cons, List.map_cons, List.map_cons, List.map_cons, ih]
      have e3 := e1 dl
      have e4 := e2 rl
      try dsimp only
      show ml.length + ((((dl.map (fun p => p.1)).map (fun p : Df × List Value => p.1)).map (fun d => wxE d.ex)).sum + ((((rl.map (fun p => p.1)).map (fun p : Rl × List Value => p.1)).map wxR).sum)) ≤ _
      rw [show _ = _ from e3, show _ = _ from e4]
      omega
end
set_option maxRecDepth 100000 in
theorem spec_formX {H : Type} {enc : TypeId × Value → H} {w : World} {r : Reach} {b0 base : Nat} {spare : Nat → Bool} {held : Bool} {v : Value} {d : DataW H} {p : List MemPlace}
    (hv : Value.okWide Tryz.prog w r b0 28 v) (h : DataW.Trod enc Tryz.prog w base spare held 28 v d p) (hw : Reached Tryz.prog 28 d) : ∃ (s : Sc) (vm vd vr : Value), v = scV vm vd vr ∧ Nonempty (ScIn w s vm vd vr) ∧ wxS s ≤ Rows.uptoBulk d := by
  obtain ⟨cs, rfl, hsz⟩ := okWide_struct Tryz.underlying28 hv
  obtain ⟨fuel, hf⟩ := h
  obtain ⟨l⟩ := cs
  simp only [Value.cells] at hf
  obtain ⟨s, vm, vd, vr, e, hS⟩ := spec_readX hf hw
  exact ⟨s, vm, vd, vr, by rw [show l = _ from e]; rfl, hS⟩


end Go.Proofs.YtkkopdmemjncdaaGreatDoor

/- bolterlaw6.renamed: an expression whose definitions' names have a letter more. Printed by gen_nmren.py. A bound of the texts' sizes. -/
namespace Go.Proofs.YtkkopdmemjncdaaGreatDoor
open Go Go.RowKit

def renT (op : Int) (t : ByteArray) : ByteArray := if op = 4 then t ++ ⟨#[95]⟩ else t
mutual
def renE : Ex → Ex
  | .mk op pos s text mn mx args => .mk op pos s (renT op text) mn mx (renL args)
def renL : List Ex → List Ex
  | [] => []
  | a :: r => renE a :: renL r
end
theorem renL_map : ∀ l : List Ex, renL l = l.map renE
  | [] => by rw [renL]; rfl
  | a :: r => by rw [renL, renL_map r]; rfl

set_option maxRecDepth 100000 in
set_option maxHeartbeats 4000000 in
theorem renamed_any : ∀ k, ∀ (e : Ex), SizeOf.sizeOf e ≤ k → ∀ (cs : List Value) (w : World), ExIn w e cs → wxE e ≤ 1048576 →
    Calls Tryz.prog 27 #[.agg cs.toArray] w fun e' w' => ∃ ds, e' = .returned (.agg ds.toArray) ∧ ExOwn (fun b => w.heap.size ≤ b ∧ b < w'.heap.size) w' (renE e) ds ∧ Gr w w' := by
  intro k
  induction k with
  | zero => intro e h; cases e; simp only [Ex.mk.sizeOf_spec] at h; omega
  | succ k ih =>
    intro e hk cs w he hwx
    cases he with
    | mk op pos s text mn mx v l h1 h2 h3 h4 h5 hlen hs hn hb hargs =>
      have HK := Lib.hid (fun p (hp : p ∈ l) => by
        have := Ex.size_arg (.mk op pos s text mn mx (l.map (·.1))) p.1 (List.mem_map.2 ⟨p, hp, rfl⟩)
        exact (show SizeOf.sizeOf p.1 ≤ k by omega))
      have HIH := Lib.hid ih
      have HS := Lib.hid hs
      have HA := Lib.hid hargs
      have HLEN := Lib.hid hlen
      have HB := Lib.hid hb
      have HF := Lib.hid (And.intro h1 (And.intro h2 (And.intro h3 (And.intro h4 h5))))
      obtain ⟨pv, cv, rfl⟩ := hs.len
      have hll : l.length ≤ 140737488351232 := by omega
      rw [wxE] at hwx
      have HWX := Lib.hid hwx
      have HRN := Lib.hid (show renE (.mk op pos s text mn mx (l.map (·.1))) = .mk op pos s (renT op text) mn mx ((l.map (·.1)).map renE) by rw [renE, renL_map])
      have htn : ¬ (9223372036854775807 < text.size + 1) := by omega
      have htz : text.size ≤ 1048576 := by omega
      obtain ⟨RE, hRE⟩ : ∃ e, renE (.mk op pos s text mn mx (l.map (·.1))) = e := ⟨_, rfl⟩
      rw [hRE] at HRN ⊢
      clear ih hk h1 h2 h3 h4 h5 hn hs hargs hlen hb hwx hRE
      unfold exCells
      go_enter Tryz.func27, Tryz.ntmps27
      by_cases h4 : op = 4
      · subst h4
        obtain ⟨tx2, htx⟩ : ∃ t : ByteArray, text ++ ⟨#[95]⟩ = t := ⟨_, rfl⟩
        have HTX := Lib.hid (show renT 4 text = tx2 by rw [← htx]; rfl)
        have HT5 := Lib.hid (show tx2.size ≤ maxLen by rw [← htx, ByteArray.size_append]; show text.size + 1 ≤ maxLen; unfold maxLen; omega)
        go_wp2_with fail
        try rw [htx]
        clear htx
        refine name_world (fun W hW => ?_)
        obtain ⟨xe, xr, xx, hgW, hsz⟩ : _ ∧ _ ∧ _ ∧ Gr w W ∧ W.heap.size = w.heap.size + 3 := by rw [hW]; exact bx3e w [.int .i64 4, .int .i64 pos, .int .u64 (wd s 0), .int .u64 (wd s 1), .int .u64 (wd s 2), .int .u64 (wd s 3), .string text, .int .i64 mn, .int .i64 mx, (.slice pv l.length cv)] [.int .i64 0, .int .i64 0, .int .u64 0, .int .u64 0, .int .u64 0, .int .u64 0, .string ⟨#[]⟩, .int .i64 0, .int .i64 0, .slice none 0 0] [.int .i64 4, .int .i64 pos, .int .u64 (wd s 0), .int .u64 (wd s 1), .int .u64 (wd s 2), .int .u64 (wd s 3), .string tx2, .int .i64 mn, .int .i64 mx, (.slice none 0 0)] 55 55 55
        rw [← hW] at xe xr xx
        clear hW
        have HSW := Lib.hid (HS.out.later hgW)
        have HGW := Lib.hid hgW
        have HW := Lib.hid hsz
        obtain ⟨i0, hi, hz0, hz1, hz2⟩ := info_parts info_ex
        clear hsz
        go_loopw [4] (fun i wr => ∃ (j : Nat) (v : Value) (ls : List (Ex × List Value)), j ≤ l.length ∧ i = .int .i64 (j : Int) ∧ Gr w wr ∧ Hid (W.heap.size ≤ wr.heap.size) ∧
          boxAt wr w.heap.size [.int .i64 4, .int .i64 pos, .int .u64 (wd s 0), .int .u64 (wd s 1), .int .u64 (wd s 2), .int .u64 (wd s 3), .string text, .int .i64 mn, .int .i64 mx, (.slice pv l.length cv)] ∧ boxAt wr (w.heap.size + 1) [.int .i64 0, .int .i64 0, .int .u64 0, .int .u64 0, .int .u64 0, .int .u64 0, .string ⟨#[]⟩, .int .i64 0, .int .i64 0, .slice none 0 0] ∧ boxAt wr (w.heap.size + 2) [.int .i64 4, .int .i64 pos, .int .u64 (wd s 0), .int .u64 (wd s 1), .int .u64 (wd s 2), .int .u64 (wd s 3), .string tx2, .int .i64 mn, .int .i64 mx, v] ∧
          (∃ p n c, v = .slice p n c) ∧ Hid (Grows ExOwn 55 10 W.heap.size wr v j ls ∧ ls.map (·.1) = ((l.take j).map (·.1)).map renE)) (fun i _ => l.length - (intOf i).toNat)
        case atStart => exact ⟨0, .slice none 0 0, [], by omega, rfl, hgW, Lib.hid (Nat.le_refl _), xe, xr, xx, ⟨_, _, _, rfl⟩, Lib.hid ⟨Grows.nil _ _ _ _, rfl⟩⟩
        case round =>
          obtain ⟨j, v, ls, hj, rfl, hg, HWR, ye, yr, yx, ⟨vp, vn, vc, rfl⟩, HL⟩ := hrel
          by_cases hlt : j < l.length
          · obtain ⟨b, off, opa, posa, sa, texta, mna, mxa, pa, na, caa, a, rfl, hbW, ha, hin, hat⟩ := args_at HS.out HLEN.out HA.out j hlt
            have HSA := Lib.hid (HK.out _ (List.mem_of_getElem? ha))
            obtain ⟨hbr, hcell⟩ := hat w (Gr.refl _)
            unfold exCells at hcell
            have d0 := hcell 0 _ (by omega) rfl
            have d1 := hcell 1 _ (by omega) rfl
            have d2 := hcell 2 _ (by omega) rfl
            have d3 := hcell 3 _ (by omega) rfl
            have d4 := hcell 4 _ (by omega) rfl
            have d5 := hcell 5 _ (by omega) rfl
            have d6 := hcell 6 _ (by omega) rfl
            have d7 := hcell 7 _ (by omega) rfl
            have d8 := hcell 8 _ (by omega) rfl
            have d9 := hcell 9 _ (by omega) rfl
            simp only [Nat.add_zero] at d0
            have hjI : (j : Int) < (l.length : Int) := by omega
            have HTK := Lib.hid (show ((l.take (j + 1)).map (·.1)).map renE = ((l.take j).map (·.1)).map renE ++ [renE a] by
              obtain ⟨g1, g2⟩ := List.getElem?_eq_some_iff.1 ha
              rw [List.take_succ_eq_append_getElem g1, g2, List.map_append, List.map_append]; rfl)
            have HLT := Lib.hid hlt
            have HC := Lib.hid (fun (cur : World) (h : Gr w cur) => HIH.out a HSA.out _ cur (hin.later h) (by
              have h1 := sum_mem wxE (l.map (·.1)) a (List.mem_map.2 ⟨_, List.mem_of_getElem? ha, rfl⟩)
              have h2 := HWX.out
              rw [wxL_sum] at h2
              omega))
            unfold exCells at HC
            clear hlt hcell hin hat ha hj hbW
            have c_e0 := ye.cell 0 _ rfl
            have c_e1 := ye.cell 1 _ rfl
            have c_e2 := ye.cell 2 _ rfl
            have c_e3 := ye.cell 3 _ rfl
            have c_e4 := ye.cell 4 _ rfl
            have c_e5 := ye.cell 5 _ rfl
            have c_e6 := ye.cell 6 _ rfl
            have c_e7 := ye.cell 7 _ rfl
            have c_e8 := ye.cell 8 _ rfl
            have c_e9 := ye.cell 9 _ rfl
            have m_e0 := ye.mark 0 _ rfl
            have m_e1 := ye.mark 1 _ rfl
            have m_e2 := ye.mark 2 _ rfl
            have m_e3 := ye.mark 3 _ rfl
            have m_e4 := ye.mark 4 _ rfl
            have m_e5 := ye.mark 5 _ rfl
            have m_e6 := ye.mark 6 _ rfl
            have m_e7 := ye.mark 7 _ rfl
            have m_e8 := ye.mark 8 _ rfl
            have m_e9 := ye.mark 9 _ rfl
            have l_e := ye.lt (Nat.succ_pos _)
            go_wp2_with fail
            clear c_e0 c_e1 c_e2 c_e3 c_e4 c_e5 c_e6 c_e7 c_e8 c_e9 m_e0 m_e1 m_e2 m_e3 m_e4 m_e5 m_e6 m_e7 m_e8 m_e9 l_e
            refine wp_region_S (fun w' => Gr w w' ∧ boxAt w' w.heap.size [.int .i64 4, .int .i64 pos, .int .u64 (wd s 0), .int .u64 (wd s 1), .int .u64 (wd s 2), .int .u64 (wd s 3), .string text, .int .i64 mn, .int .i64 mx, (.slice (some ⟨b, off, none⟩) l.length cv)] ∧ boxAt w' (w.heap.size + 2) [.int .i64 4, .int .i64 pos, .int .u64 (wd s 0), .int .u64 (wd s 1), .int .u64 (wd s 2), .int .u64 (wd s 3), .string tx2, .int .i64 mn, .int .i64 mx, (.slice vp vn vc)]) (.take 0 (.take 1 (.take 2 (.take 3 (.take 4 (.take 5 (.take 6 (.run 7 false (.run 8 false (.run 9 false (.take 10 (.run 11 true .nil)))))))))))) ⟨hg.trans (Gr.drew _), ye.later (Gr.drew _), yx.later (Gr.drew _)⟩ (by kernel_rfl) (by kernel_rfl) ?_
            simp only [pickOps, nthOp]
            intro wr7 hN hG
            repeat (first | (refine wpG_skip_take ?_ ?_; (focus rfl); try simp only [Act.put, List.setIfInBounds_toArray, List.set_cons_zero, List.set_cons_succ]) | (refine wpG_skip_run ?_ ?_; (focus rfl); try simp only [Act.put, List.setIfInBounds_toArray, List.set_cons_zero, List.set_cons_succ]) | (refine wpG_take ?_ ?_; (focus rfl); apply Exists.intro; refine ⟨fun w' hw' => ?_, ?_⟩; (focus (have hc := Gr.cells hw'.1; have q1 := hw'.2.1.cell 9 _ rfl; have q3 := hw'.2.2.cell 9 _ rfl; go_simp; (try rfl); done)); try simp only [Act.put, List.setIfInBounds_toArray, List.set_cons_zero, List.set_cons_succ]))
            obtain ⟨hG, ye7, yx7⟩ := hG
            refine wpG_run ?_ (fun K hK => ?_); (focus rfl)
            go_simp
            go_at_call 27
            (with_reducible refine (HC.out _ hG).mono ?_); rintro e' w7 ⟨ds, rfl, ho, hb⟩
            obtain ⟨op3, pos3, s3, text3, mn3, mx3, p3, n3, c3, rfl⟩ := ho.form
            have HO := Lib.hid (ho.keep (S' := fun b => wr.heap.size ≤ b ∧ b < w7.heap.size) (fun b hb => rfl) (fun b hb => ⟨by have := hN.size; have := hb.1; omega, hb.2⟩))
            clear ho
            unfold exCells
            replace ye7 := ye7.later hb
            replace yx7 := yx7.later hb
            replace hG := hG.trans hb
            replace hN := hN.trans hb
            try dsimp only
            refine hK.out _ _ ⟨hG, ye7, yx7⟩ ?_
            clear hK K hb d0 d1 d2 d3 d4 d5 d6 d7 d8 d9 hbr
            try simp only [Act.put, List.setIfInBounds_toArray, List.set_cons_zero, List.set_cons_succ]
            refine wpG_run rfl (fun K hK => ?_)
            go_simp
            refine name_K (fun W8 hW8 => ?_)
            have h78 : Gr w7 W8 := by rw [hW8]; exact Gr.alloc _ _
            have hc8 : ∀ (j : Nat) (u : Value), [.int .i64 op3, .int .i64 pos3, .int .u64 (wd s3 0), .int .u64 (wd s3 1), .int .u64 (wd s3 2), .int .u64 (wd s3 3), .string text3, .int .i64 mn3, .int .i64 mx3, (.slice p3 n3 c3)][j]? = some u → W8.cell? ((⟨w7.heap.size, 0, none⟩ : Addr).add j) = some u := by rw [hW8]; exact new_cells _ _ _
            clear hW8
            replace ye7 := ye7.later h78
            replace yx7 := yx7.later h78
            refine hK.out _ _ ⟨hG.trans h78, ye7, yx7⟩ ?_
            clear hK K
            try simp only [Act.put, List.setIfInBounds_toArray, List.set_cons_zero, List.set_cons_succ]
            refine wpG_run rfl (fun K hK => ?_)
            refine wp_append_own_at _ (.tmp 22) (.tmp 29) 53 rfl W.heap.size 55 i0 _ 10 104 Tryz.underlying53 hi hz0 hz1 hz2 rfl (by decide) (.slice vp vn vc) j (ls.flatMap (·.2)) rfl (owns_later HL.out.1.2.1 (hN.trans h78)) ⟨w7.heap.size, 0, none⟩ 1 1 [.int .i64 op3, .int .i64 pos3, .int .u64 (wd s3 0), .int .u64 (wd s3 1), .int .u64 (wd s3 2), .int .u64 (wd s3 3), .string text3, .int .i64 mn3, .int .i64 mx3, (.slice p3 n3 c3)] rfl rfl hc8 ?c1 ?c2 ?c3 ?c4 ?_
            case c1 => exact ex_ones _ _ _ _ _ _ _ _ _
            case c2 => unfold maxLen; have := HLT.out; omega
            case c3 => have := HLT.out; have := HB.out; omega
            case c4 => have := HWR.out; have := hN.size; have := h78.size; omega
            intro v9 W9 hown9 hgrow9 _ hat9
            have hne : ∀ g, (Value.slice vp vn vc).ownBlock = some g → W.heap.size ≤ g := fun g hg => (World.ownsRow.lt HL.out.1.2.1 g hg).1
            have hwW := HW.out
            replace hG : Gr w W9 := Gr.grown (hG.trans h78) hgrow9 (fun g hg => by have := hne g hg; omega)
            replace ye7 := ye7.grown hgrow9 (by simp) (fun e => by have := hne _ e; omega)
            replace yx7 := yx7.grown hgrow9 (by simp) (fun e => by have := hne _ e; omega)
            have yr7 := ((yr.later hN).later h78).grown hgrow9 (by simp) (fun e => by have := hne _ e; omega)
            have HL9 := Lib.hid (Grows.push keeps_ex HL.out.1 hN HWR.out HO.out rfl h78 hown9 hgrow9 hat9)
            have HWR9 := Lib.hid (show W.heap.size ≤ W9.heap.size by have := HWR.out; have := hN.size; have := h78.size; have := hgrow9.size; omega)
            obtain ⟨gl, capl, rfl, _⟩ := owns_block hown9 (by omega)
            clear hne hown9 hgrow9 hat9 hc8 hN h78
            refine hK.out _ _ ⟨hG, ye7, yx7⟩ ?_
            clear hK K
            try simp only [Act.put, List.setIfInBounds_toArray, List.set_cons_zero, List.set_cons_succ]
            repeat (first | (refine wpG_skip_take ?_ ?_; (focus rfl); try simp only [Act.put, List.setIfInBounds_toArray, List.set_cons_zero, List.set_cons_succ]) | (refine wpG_skip_run ?_ ?_; (focus rfl); try simp only [Act.put, List.setIfInBounds_toArray, List.set_cons_zero, List.set_cons_succ]) | (refine wpG_take ?_ ?_; (focus rfl); apply Exists.intro; refine ⟨fun w' hw' => ?_, ?_⟩; (focus (skip; go_simp; (try rfl); done)); try simp only [Act.put, List.setIfInBounds_toArray, List.set_cons_zero, List.set_cons_succ]))
            have c_x0 := yx7.cell 0 _ rfl
            have c_x1 := yx7.cell 1 _ rfl
            have c_x2 := yx7.cell 2 _ rfl
            have c_x3 := yx7.cell 3 _ rfl
            have c_x4 := yx7.cell 4 _ rfl
            have c_x5 := yx7.cell 5 _ rfl
            have c_x6 := yx7.cell 6 _ rfl
            have c_x7 := yx7.cell 7 _ rfl
            have c_x8 := yx7.cell 8 _ rfl
            have c_x9 := yx7.cell 9 _ rfl
            have m_x0 := yx7.mark 0 _ rfl
            have m_x1 := yx7.mark 1 _ rfl
            have m_x2 := yx7.mark 2 _ rfl
            have m_x3 := yx7.mark 3 _ rfl
            have m_x4 := yx7.mark 4 _ rfl
            have m_x5 := yx7.mark 5 _ rfl
            have m_x6 := yx7.mark 6 _ rfl
            have m_x7 := yx7.mark 7 _ rfl
            have m_x8 := yx7.mark 8 _ rfl
            have m_x9 := yx7.mark 9 _ rfl
            have l_x := yx7.lt (Nat.succ_pos _)
            refine wpG_last ?_ (fun K hK => ?_); (focus rfl)
            go_simp
            refine hK.out _ _ ?_
            try simp only [Act.put, List.setIfInBounds_toArray, List.set_cons_zero, List.set_cons_succ]
            clear hK K
            clear c_x0 c_x1 c_x2 c_x3 c_x4 c_x5 c_x6 c_x7 c_x8 c_x9 m_x0 m_x1 m_x2 m_x3 m_x4 m_x5 m_x6 m_x7 m_x8 m_x9 l_x
            refine wpG_done ?_
            go_wp2_with fail
            go_roundw
            case rel =>
              refine ⟨j + 1, .slice (some ⟨gl, 0, none⟩) (j + 1) capl, _, by have := HLT.out; omega, by go_num, Below.setCell (p := ⟨w.heap.size + 2, 9, none⟩) hG (by show w.heap.size ≤ w.heap.size + 2; omega) _, Lib.hid (by rw [size_put1']; exact HWR9.out), ye7.far _ _ (by show w.heap.size + 2 ≠ w.heap.size; omega), yr7.far _ _ (by show w.heap.size + 2 ≠ w.heap.size + 1; omega), yx7.put 9 _ (by simp), ⟨_, _, _, rfl⟩, Lib.hid ⟨HL9.out.far keeps_ex _ _ (by show w.heap.size + 2 < W.heap.size; omega), ?_⟩⟩
              rw [List.map_append, HL.out.2, HTK.out]; rfl
            case measure => have := HLT.out; simp [intOf]; omega
          · have hjE : j = l.length := by omega
            clear hlt hj
            subst hjE
            have HWW := HW
            have c_e0 := ye.cell 0 _ rfl
            have c_e1 := ye.cell 1 _ rfl
            have c_e2 := ye.cell 2 _ rfl
            have c_e3 := ye.cell 3 _ rfl
            have c_e4 := ye.cell 4 _ rfl
            have c_e5 := ye.cell 5 _ rfl
            have c_e6 := ye.cell 6 _ rfl
            have c_e7 := ye.cell 7 _ rfl
            have c_e8 := ye.cell 8 _ rfl
            have c_e9 := ye.cell 9 _ rfl
            have m_e0 := ye.mark 0 _ rfl
            have m_e1 := ye.mark 1 _ rfl
            have m_e2 := ye.mark 2 _ rfl
            have m_e3 := ye.mark 3 _ rfl
            have m_e4 := ye.mark 4 _ rfl
            have m_e5 := ye.mark 5 _ rfl
            have m_e6 := ye.mark 6 _ rfl
            have m_e7 := ye.mark 7 _ rfl
            have m_e8 := ye.mark 8 _ rfl
            have m_e9 := ye.mark 9 _ rfl
            have l_e := ye.lt (Nat.succ_pos _)
            have c_x0 := yx.cell 0 _ rfl
            have c_x1 := yx.cell 1 _ rfl
            have c_x2 := yx.cell 2 _ rfl
            have c_x3 := yx.cell 3 _ rfl
            have c_x4 := yx.cell 4 _ rfl
            have c_x5 := yx.cell 5 _ rfl
            have c_x6 := yx.cell 6 _ rfl
            have c_x7 := yx.cell 7 _ rfl
            have c_x8 := yx.cell 8 _ rfl
            have c_x9 := yx.cell 9 _ rfl
            have m_x0 := yx.mark 0 _ rfl
            have m_x1 := yx.mark 1 _ rfl
            have m_x2 := yx.mark 2 _ rfl
            have m_x3 := yx.mark 3 _ rfl
            have m_x4 := yx.mark 4 _ rfl
            have m_x5 := yx.mark 5 _ rfl
            have m_x6 := yx.mark 6 _ rfl
            have m_x7 := yx.mark 7 _ rfl
            have m_x8 := yx.mark 8 _ rfl
            have m_x9 := yx.mark 9 _ rfl
            have l_x := yx.lt (Nat.succ_pos _)
            have c_r0 := yr.cell 0 _ rfl
            have c_r1 := yr.cell 1 _ rfl
            have c_r2 := yr.cell 2 _ rfl
            have c_r3 := yr.cell 3 _ rfl
            have c_r4 := yr.cell 4 _ rfl
            have c_r5 := yr.cell 5 _ rfl
            have c_r6 := yr.cell 6 _ rfl
            have c_r7 := yr.cell 7 _ rfl
            have c_r8 := yr.cell 8 _ rfl
            have c_r9 := yr.cell 9 _ rfl
            have m_r0 := yr.mark 0 _ rfl
            have m_r1 := yr.mark 1 _ rfl
            have m_r2 := yr.mark 2 _ rfl
            have m_r3 := yr.mark 3 _ rfl
            have m_r4 := yr.mark 4 _ rfl
            have m_r5 := yr.mark 5 _ rfl
            have m_r6 := yr.mark 6 _ rfl
            have m_r7 := yr.mark 7 _ rfl
            have m_r8 := yr.mark 8 _ rfl
            have m_r9 := yr.mark 9 _ rfl
            have l_r := yr.lt (Nat.succ_pos _)
            go_wp2_with fail
            clear c_e0 c_e1 c_e2 c_e3 c_e4 c_e5 c_e6 c_e7 c_e8 c_e9 m_e0 m_e1 m_e2 m_e3 m_e4 m_e5 m_e6 m_e7 m_e8 m_e9 l_e
            clear c_x0 c_x1 c_x2 c_x3 c_x4 c_x5 c_x6 c_x7 c_x8 c_x9 m_x0 m_x1 m_x2 m_x3 m_x4 m_x5 m_x6 m_x7 m_x8 m_x9 l_x
            have hE : ExOwn (Free W.heap.size wr (.slice none 0 0)) wr RE [.int .i64 4, .int .i64 pos, .int .u64 (wd s 0), .int .u64 (wd s 1), .int .u64 (wd s 2), .int .u64 (wd s 3), .string tx2, .int .i64 mn, .int .i64 mx, (.slice vp vn vc)] := by
              obtain ⟨⟨hl1, hown, hl3⟩, hl4⟩ := HL.out
              rw [List.take_length] at hl4
              rw [HRN.out, HTX.out, ← hl4]
              obtain ⟨f1, f2, f3, f4, _⟩ := HF.out
              have f5 := HT5.out
              have hs := Sl.of_owns hown
              obtain ⟨_, _, hvn⟩ := hs.len
              injection hvn with _ hvn _
              subst hvn
              replace hs : Sl wr (.slice vp l.length vc) 10 ls.length (ls.flatMap (·.2)) := by rw [hl1]; exact hs
              refine .mk 4 pos s tx2 mn mx _ ls f1 f2 f3 f4 f5 (fun p hp => (hl3 p hp).1) hs ?_ (by rw [hl1]; exact HB.out) ?_ (fun p hp => keeps_ex _ _ _ _ _ _ (hl3 p hp).2 (fun _ _ => rfl) (fun b hb => ⟨hb.1, hb.2.1, by simp [Value.ownBlock]⟩))
              · rcases hown.2 with ⟨hv, _⟩ | ⟨g, cap, cur, hv, _⟩
                · exact .inl hv
                · exact .inr ⟨_, _, _, hv⟩
              · intro a n c hv
                have := World.ownsRow.lt hown a.block (by rw [hv]; rfl)
                exact ⟨this.1, this.2, by simp [Value.ownBlock]⟩
            exact bodyPost_ret (v := .agg #[.int .i64 4, .int .i64 pos, .int .u64 (wd s 0), .int .u64 (wd s 1), .int .u64 (wd s 2), .int .u64 (wd s 3), .string tx2, .int .i64 mn, .int .i64 mx, (.slice vp vn vc)]) (by simp [results, Tryz.results27, go_sem, c_r0, c_r1, c_r2, c_r3, c_r4, c_r5, c_r6, c_r7, c_r8, c_r9]) rfl ⟨_, rfl, hE.keep (fun b hb => put10_block _ _ _ _ _ _ _ _ _ _ _ _ _ (by have := hb.1; have := HWW.out; omega)) (fun b hb => ⟨by have := hb.1; have := HWW.out; omega, by rw [put10_size]; exact hb.2.1⟩), put10 hg (by omega) _ _ _ _ _ _ _ _ _ _⟩
      · have h4b : (op == 4) = false := by rw [beq_eq_false_iff_ne]; exact h4
        have HTX := Lib.hid (show renT op text = text by unfold renT; rw [if_neg h4])
        have HT5 := Lib.hid HF.out.2.2.2.2
        clear h4
        go_wp2_with fail
        refine name_world (fun W hW => ?_)
        obtain ⟨xe, xr, xx, hgW, hsz⟩ : _ ∧ _ ∧ _ ∧ Gr w W ∧ W.heap.size = w.heap.size + 3 := by rw [hW]; exact bx3e w [.int .i64 op, .int .i64 pos, .int .u64 (wd s 0), .int .u64 (wd s 1), .int .u64 (wd s 2), .int .u64 (wd s 3), .string text, .int .i64 mn, .int .i64 mx, (.slice pv l.length cv)] [.int .i64 0, .int .i64 0, .int .u64 0, .int .u64 0, .int .u64 0, .int .u64 0, .string ⟨#[]⟩, .int .i64 0, .int .i64 0, .slice none 0 0] [.int .i64 op, .int .i64 pos, .int .u64 (wd s 0), .int .u64 (wd s 1), .int .u64 (wd s 2), .int .u64 (wd s 3), .string text, .int .i64 mn, .int .i64 mx, (.slice none 0 0)] 55 55 55
        rw [← hW] at xe xr xx
        clear hW
        have HSW := Lib.hid (HS.out.later hgW)
        have HGW := Lib.hid hgW
        have HW := Lib.hid hsz
        obtain ⟨i0, hi, hz0, hz1, hz2⟩ := info_parts info_ex
        clear hsz
        go_loopw [4] (fun i wr => ∃ (j : Nat) (v : Value) (ls : List (Ex × List Value)), j ≤ l.length ∧ i = .int .i64 (j : Int) ∧ Gr w wr ∧ Hid (W.heap.size ≤ wr.heap.size) ∧
          boxAt wr w.heap.size [.int .i64 op, .int .i64 pos, .int .u64 (wd s 0), .int .u64 (wd s 1), .int .u64 (wd s 2), .int .u64 (wd s 3), .string text, .int .i64 mn, .int .i64 mx, (.slice pv l.length cv)] ∧ boxAt wr (w.heap.size + 1) [.int .i64 0, .int .i64 0, .int .u64 0, .int .u64 0, .int .u64 0, .int .u64 0, .string ⟨#[]⟩, .int .i64 0, .int .i64 0, .slice none 0 0] ∧ boxAt wr (w.heap.size + 2) [.int .i64 op, .int .i64 pos, .int .u64 (wd s 0), .int .u64 (wd s 1), .int .u64 (wd s 2), .int .u64 (wd s 3), .string text, .int .i64 mn, .int .i64 mx, v] ∧
          (∃ p n c, v = .slice p n c) ∧ Hid (Grows ExOwn 55 10 W.heap.size wr v j ls ∧ ls.map (·.1) = ((l.take j).map (·.1)).map renE)) (fun i _ => l.length - (intOf i).toNat)
        case atStart => exact ⟨0, .slice none 0 0, [], by omega, rfl, hgW, Lib.hid (Nat.le_refl _), xe, xr, xx, ⟨_, _, _, rfl⟩, Lib.hid ⟨Grows.nil _ _ _ _, rfl⟩⟩
        case round =>
          obtain ⟨j, v, ls, hj, rfl, hg, HWR, ye, yr, yx, ⟨vp, vn, vc, rfl⟩, HL⟩ := hrel
          by_cases hlt : j < l.length
          · obtain ⟨b, off, opa, posa, sa, texta, mna, mxa, pa, na, caa, a, rfl, hbW, ha, hin, hat⟩ := args_at HS.out HLEN.out HA.out j hlt
            have HSA := Lib.hid (HK.out _ (List.mem_of_getElem? ha))
            obtain ⟨hbr, hcell⟩ := hat w (Gr.refl _)
            unfold exCells at hcell
            have d0 := hcell 0 _ (by omega) rfl
            have d1 := hcell 1 _ (by omega) rfl
            have d2 := hcell 2 _ (by omega) rfl
            have d3 := hcell 3 _ (by omega) rfl
            have d4 := hcell 4 _ (by omega) rfl
            have d5 := hcell 5 _ (by omega) rfl
            have d6 := hcell 6 _ (by omega) rfl
            have d7 := hcell 7 _ (by omega) rfl
            have d8 := hcell 8 _ (by omega) rfl
            have d9 := hcell 9 _ (by omega) rfl
            simp only [Nat.add_zero] at d0
            have hjI : (j : Int) < (l.length : Int) := by omega
            have HTK := Lib.hid (show ((l.take (j + 1)).map (·.1)).map renE = ((l.take j).map (·.1)).map renE ++ [renE a] by
              obtain ⟨g1, g2⟩ := List.getElem?_eq_some_iff.1 ha
              rw [List.take_succ_eq_append_getElem g1, g2, List.map_append, List.map_append]; rfl)
            have HLT := Lib.hid hlt
            have HC := Lib.hid (fun (cur : World) (h : Gr w cur) => HIH.out a HSA.out _ cur (hin.later h) (by
              have h1 := sum_mem wxE (l.map (·.1)) a (List.mem_map.2 ⟨_, List.mem_of_getElem? ha, rfl⟩)
              have h2 := HWX.out
              rw [wxL_sum] at h2
              omega))
            unfold exCells at HC
            clear hlt hcell hin hat ha hj hbW
            have c_e0 := ye.cell 0 _ rfl
            have c_e1 := ye.cell 1 _ rfl
            have c_e2 := ye.cell 2 _ rfl
            have c_e3 := ye.cell 3 _ rfl
            have c_e4 := ye.cell 4 _ rfl
            have c_e5 := ye.cell 5 _ rfl
            have c_e6 := ye.cell 6 _ rfl
            have c_e7 := ye.cell 7 _ rfl
            have c_e8 := ye.cell 8 _ rfl
            have c_e9 := ye.cell 9 _ rfl
            have m_e0 := ye.mark 0 _ rfl
            have m_e1 := ye.mark 1 _ rfl
            have m_e2 := ye.mark 2 _ rfl
            have m_e3 := ye.mark 3 _ rfl
            have m_e4 := ye.mark 4 _ rfl
            have m_e5 := ye.mark 5 _ rfl
            have m_e6 := ye.mark 6 _ rfl
            have m_e7 := ye.mark 7 _ rfl
            have m_e8 := ye.mark 8 _ rfl
            have m_e9 := ye.mark 9 _ rfl
            have l_e := ye.lt (Nat.succ_pos _)
            go_wp2_with fail
            clear c_e0 c_e1 c_e2 c_e3 c_e4 c_e5 c_e6 c_e7 c_e8 c_e9 m_e0 m_e1 m_e2 m_e3 m_e4 m_e5 m_e6 m_e7 m_e8 m_e9 l_e
            refine wp_region_S (fun w' => Gr w w' ∧ boxAt w' w.heap.size [.int .i64 op, .int .i64 pos, .int .u64 (wd s 0), .int .u64 (wd s 1), .int .u64 (wd s 2), .int .u64 (wd s 3), .string text, .int .i64 mn, .int .i64 mx, (.slice (some ⟨b, off, none⟩) l.length cv)] ∧ boxAt w' (w.heap.size + 2) [.int .i64 op, .int .i64 pos, .int .u64 (wd s 0), .int .u64 (wd s 1), .int .u64 (wd s 2), .int .u64 (wd s 3), .string text, .int .i64 mn, .int .i64 mx, (.slice vp vn vc)]) (.take 0 (.take 1 (.take 2 (.take 3 (.take 4 (.take 5 (.take 6 (.run 7 false (.run 8 false (.run 9 false (.take 10 (.run 11 true .nil)))))))))))) ⟨hg.trans (Gr.drew _), ye.later (Gr.drew _), yx.later (Gr.drew _)⟩ (by kernel_rfl) (by kernel_rfl) ?_
            simp only [pickOps, nthOp]
            intro wr7 hN hG
            repeat (first | (refine wpG_skip_take ?_ ?_; (focus rfl); try simp only [Act.put, List.setIfInBounds_toArray, List.set_cons_zero, List.set_cons_succ]) | (refine wpG_skip_run ?_ ?_; (focus rfl); try simp only [Act.put, List.setIfInBounds_toArray, List.set_cons_zero, List.set_cons_succ]) | (refine wpG_take ?_ ?_; (focus rfl); apply Exists.intro; refine ⟨fun w' hw' => ?_, ?_⟩; (focus (have hc := Gr.cells hw'.1; have q1 := hw'.2.1.cell 9 _ rfl; have q3 := hw'.2.2.cell 9 _ rfl; go_simp; (try rfl); done)); try simp only [Act.put, List.setIfInBounds_toArray, List.set_cons_zero, List.set_cons_succ]))
            obtain ⟨hG, ye7, yx7⟩ := hG
            refine wpG_run ?_ (fun K hK => ?_); (focus rfl)
            go_simp
            go_at_call 27
            (with_reducible refine (HC.out _ hG).mono ?_); rintro e' w7 ⟨ds, rfl, ho, hb⟩
            obtain ⟨op3, pos3, s3, text3, mn3, mx3, p3, n3, c3, rfl⟩ := ho.form
            have HO := Lib.hid (ho.keep (S' := fun b => wr.heap.size ≤ b ∧ b < w7.heap.size) (fun b hb => rfl) (fun b hb => ⟨by have := hN.size; have := hb.1; omega, hb.2⟩))
            clear ho
            unfold exCells
            replace ye7 := ye7.later hb
            replace yx7 := yx7.later hb
            replace hG := hG.trans hb
            replace hN := hN.trans hb
            try dsimp only
            refine hK.out _ _ ⟨hG, ye7, yx7⟩ ?_
            clear hK K hb d0 d1 d2 d3 d4 d5 d6 d7 d8 d9 hbr
            try simp only [Act.put, List.setIfInBounds_toArray, List.set_cons_zero, List.set_cons_succ]
            refine wpG_run rfl (fun K hK => ?_)
            go_simp
            refine name_K (fun W8 hW8 => ?_)
            have h78 : Gr w7 W8 := by rw [hW8]; exact Gr.alloc _ _
            have hc8 : ∀ (j : Nat) (u : Value), [.int .i64 op3, .int .i64 pos3, .int .u64 (wd s3 0), .int .u64 (wd s3 1), .int .u64 (wd s3 2), .int .u64 (wd s3 3), .string text3, .int .i64 mn3, .int .i64 mx3, (.slice p3 n3 c3)][j]? = some u → W8.cell? ((⟨w7.heap.size, 0, none⟩ : Addr).add j) = some u := by rw [hW8]; exact new_cells _ _ _
            clear hW8
            replace ye7 := ye7.later h78
            replace yx7 := yx7.later h78
            refine hK.out _ _ ⟨hG.trans h78, ye7, yx7⟩ ?_
            clear hK K
            try simp only [Act.put, List.setIfInBounds_toArray, List.set_cons_zero, List.set_cons_succ]
            refine wpG_run rfl (fun K hK => ?_)
            refine wp_append_own_at _ (.tmp 22) (.tmp 29) 53 rfl W.heap.size 55 i0 _ 10 104 Tryz.underlying53 hi hz0 hz1 hz2 rfl (by decide) (.slice vp vn vc) j (ls.flatMap (·.2)) rfl (owns_later HL.out.1.2.1 (hN.trans h78)) ⟨w7.heap.size, 0, none⟩ 1 1 [.int .i64 op3, .int .i64 pos3, .int .u64 (wd s3 0), .int .u64 (wd s3 1), .int .u64 (wd s3 2), .int .u64 (wd s3 3), .string text3, .int .i64 mn3, .int .i64 mx3, (.slice p3 n3 c3)] rfl rfl hc8 ?c1 ?c2 ?c3 ?c4 ?_
            case c1 => exact ex_ones _ _ _ _ _ _ _ _ _
            case c2 => unfold maxLen; have := HLT.out; omega
            case c3 => have := HLT.out; have := HB.out; omega
            case c4 => have := HWR.out; have := hN.size; have := h78.size; omega
            intro v9 W9 hown9 hgrow9 _ hat9
            have hne : ∀ g, (Value.slice vp vn vc).ownBlock = some g → W.heap.size ≤ g := fun g hg => (World.ownsRow.lt HL.out.1.2.1 g hg).1
            have hwW := HW.out
            replace hG : Gr w W9 := Gr.grown (hG.trans h78) hgrow9 (fun g hg => by have := hne g hg; omega)
            replace ye7 := ye7.grown hgrow9 (by simp) (fun e => by have := hne _ e; omega)
            replace yx7 := yx7.grown hgrow9 (by simp) (fun e => by have := hne _ e; omega)
            have yr7 := ((yr.later hN).later h78).grown hgrow9 (by simp) (fun e => by have := hne _ e; omega)
            have HL9 := Lib.hid (Grows.push keeps_ex HL.out.1 hN HWR.out HO.out rfl h78 hown9 hgrow9 hat9)
            have HWR9 := Lib.hid (show W.heap.size ≤ W9.heap.size by have := HWR.out; have := hN.size; have := h78.size; have := hgrow9.size; omega)
            obtain ⟨gl, capl, rfl, _⟩ := owns_block hown9 (by omega)
            clear hne hown9 hgrow9 hat9 hc8 hN h78
            refine hK.out _ _ ⟨hG, ye7, yx7⟩ ?_
            clear hK K
            try simp only [Act.put, List.setIfInBounds_toArray, List.set_cons_zero, List.set_cons_succ]
            repeat (first | (refine wpG_skip_take ?_ ?_; (focus rfl); try simp only [Act.put, List.setIfInBounds_toArray, List.set_cons_zero, List.set_cons_succ]) | (refine wpG_skip_run ?_ ?_; (focus rfl); try simp only [Act.put, List.setIfInBounds_toArray, List.set_cons_zero, List.set_cons_succ]) | (refine wpG_take ?_ ?_; (focus rfl); apply Exists.intro; refine ⟨fun w' hw' => ?_, ?_⟩; (focus (skip; go_simp; (try rfl); done)); try simp only [Act.put, List.setIfInBounds_toArray, List.set_cons_zero, List.set_cons_succ]))
            have c_x0 := yx7.cell 0 _ rfl
            have c_x1 := yx7.cell 1 _ rfl
            have c_x2 := yx7.cell 2 _ rfl
            have c_x3 := yx7.cell 3 _ rfl
            have c_x4 := yx7.cell 4 _ rfl
            have c_x5 := yx7.cell 5 _ rfl
            have c_x6 := yx7.cell 6 _ rfl
            have c_x7 := yx7.cell 7 _ rfl
            have c_x8 := yx7.cell 8 _ rfl
            have c_x9 := yx7.cell 9 _ rfl
            have m_x0 := yx7.mark 0 _ rfl
            have m_x1 := yx7.mark 1 _ rfl
            have m_x2 := yx7.mark 2 _ rfl
            have m_x3 := yx7.mark 3 _ rfl
            have m_x4 := yx7.mark 4 _ rfl
            have m_x5 := yx7.mark 5 _ rfl
            have m_x6 := yx7.mark 6 _ rfl
            have m_x7 := yx7.mark 7 _ rfl
            have m_x8 := yx7.mark 8 _ rfl
            have m_x9 := yx7.mark 9 _ rfl
            have l_x := yx7.lt (Nat.succ_pos _)
            refine wpG_last ?_ (fun K hK => ?_); (focus rfl)
            go_simp
            refine hK.out _ _ ?_
            try simp only [Act.put, List.setIfInBounds_toArray, List.set_cons_zero, List.set_cons_succ]
            clear hK K
            clear c_x0 c_x1 c_x2 c_x3 c_x4 c_x5 c_x6 c_x7 c_x8 c_x9 m_x0 m_x1 m_x2 m_x3 m_x4 m_x5 m_x6 m_x7 m_x8 m_x9 l_x
            refine wpG_done ?_
            go_wp2_with fail
            go_roundw
            case rel =>
              refine ⟨j + 1, .slice (some ⟨gl, 0, none⟩) (j + 1) capl, _, by have := HLT.out; omega, by go_num, Below.setCell (p := ⟨w.heap.size + 2, 9, none⟩) hG (by show w.heap.size ≤ w.heap.size + 2; omega) _, Lib.hid (by rw [size_put1']; exact HWR9.out), ye7.far _ _ (by show w.heap.size + 2 ≠ w.heap.size; omega), yr7.far _ _ (by show w.heap.size + 2 ≠ w.heap.size + 1; omega), yx7.put 9 _ (by simp), ⟨_, _, _, rfl⟩, Lib.hid ⟨HL9.out.far keeps_ex _ _ (by show w.heap.size + 2 < W.heap.size; omega), ?_⟩⟩
              rw [List.map_append, HL.out.2, HTK.out]; rfl
            case measure => have := HLT.out; simp [intOf]; omega
          · have hjE : j = l.length := by omega
            clear hlt hj
            subst hjE
            have HWW := HW
            have c_e0 := ye.cell 0 _ rfl
            have c_e1 := ye.cell 1 _ rfl
            have c_e2 := ye.cell 2 _ rfl
            have c_e3 := ye.cell 3 _ rfl
            have c_e4 := ye.cell 4 _ rfl
            have c_e5 := ye.cell 5 _ rfl
            have c_e6 := ye.cell 6 _ rfl
            have c_e7 := ye.cell 7 _ rfl
            have c_e8 := ye.cell 8 _ rfl
            have c_e9 := ye.cell 9 _ rfl
            have m_e0 := ye.mark 0 _ rfl
            have m_e1 := ye.mark 1 _ rfl
            have m_e2 := ye.mark 2 _ rfl
            have m_e3 := ye.mark 3 _ rfl
            have m_e4 := ye.mark 4 _ rfl
            have m_e5 := ye.mark 5 _ rfl
            have m_e6 := ye.mark 6 _ rfl
            have m_e7 := ye.mark 7 _ rfl
            have m_e8 := ye.mark 8 _ rfl
            have m_e9 := ye.mark 9 _ rfl
            have l_e := ye.lt (Nat.succ_pos _)
            have c_x0 := yx.cell 0 _ rfl
            have c_x1 := yx.cell 1 _ rfl
            have c_x2 := yx.cell 2 _ rfl
            have c_x3 := yx.cell 3 _ rfl
            have c_x4 := yx.cell 4 _ rfl
            have c_x5 := yx.cell 5 _ rfl
            have c_x6 := yx.cell 6 _ rfl
            have c_x7 := yx.cell 7 _ rfl
            have c_x8 := yx.cell 8 _ rfl
            have c_x9 := yx.cell 9 _ rfl
            have m_x0 := yx.mark 0 _ rfl
            have m_x1 := yx.mark 1 _ rfl
            have m_x2 := yx.mark 2 _ rfl
            have m_x3 := yx.mark 3 _ rfl
            have m_x4 := yx.mark 4 _ rfl
            have m_x5 := yx.mark 5 _ rfl
            have m_x6 := yx.mark 6 _ rfl
            have m_x7 := yx.mark 7 _ rfl
            have m_x8 := yx.mark 8 _ rfl
            have m_x9 := yx.mark 9 _ rfl
            have l_x := yx.lt (Nat.succ_pos _)
            have c_r0 := yr.cell 0 _ rfl
            have c_r1 := yr.cell 1 _ rfl
            have c_r2 := yr.cell 2 _ rfl
            have c_r3 := yr.cell 3 _ rfl
            have c_r4 := yr.cell 4 _ rfl
            have c_r5 := yr.cell 5 _ rfl
            have c_r6 := yr.cell 6 _ rfl
            have c_r7 := yr.cell 7 _ rfl
            have c_r8 := yr.cell 8 _ rfl
            have c_r9 := yr.cell 9 _ rfl
            have m_r0 := yr.mark 0 _ rfl
            have m_r1 := yr.mark 1 _ rfl
            have m_r2 := yr.mark 2 _ rfl
            have m_r3 := yr.mark 3 _ rfl
            have m_r4 := yr.mark 4 _ rfl
            have m_r5 := yr.mark 5 _ rfl
            have m_r6 := yr.mark 6 _ rfl
            have m_r7 := yr.mark 7 _ rfl
            have m_r8 := yr.mark 8 _ rfl
            have m_r9 := yr.mark 9 _ rfl
            have l_r := yr.lt (Nat.succ_pos _)
            go_wp2_with fail
            clear c_e0 c_e1 c_e2 c_e3 c_e4 c_e5 c_e6 c_e7 c_e8 c_e9 m_e0 m_e1 m_e2 m_e3 m_e4 m_e5 m_e6 m_e7 m_e8 m_e9 l_e
            clear c_x0 c_x1 c_x2 c_x3 c_x4 c_x5 c_x6 c_x7 c_x8 c_x9 m_x0 m_x1 m_x2 m_x3 m_x4 m_x5 m_x6 m_x7 m_x8 m_x9 l_x
            have hE : ExOwn (Free W.heap.size wr (.slice none 0 0)) wr RE [.int .i64 op, .int .i64 pos, .int .u64 (wd s 0), .int .u64 (wd s 1), .int .u64 (wd s 2), .int .u64 (wd s 3), .string text, .int .i64 mn, .int .i64 mx, (.slice vp vn vc)] := by
              obtain ⟨⟨hl1, hown, hl3⟩, hl4⟩ := HL.out
              rw [List.take_length] at hl4
              rw [HRN.out, HTX.out, ← hl4]
              obtain ⟨f1, f2, f3, f4, _⟩ := HF.out
              have f5 := HT5.out
              have hs := Sl.of_owns hown
              obtain ⟨_, _, hvn⟩ := hs.len
              injection hvn with _ hvn _
              subst hvn
              replace hs : Sl wr (.slice vp l.length vc) 10 ls.length (ls.flatMap (·.2)) := by rw [hl1]; exact hs
              refine .mk op pos s text mn mx _ ls f1 f2 f3 f4 f5 (fun p hp => (hl3 p hp).1) hs ?_ (by rw [hl1]; exact HB.out) ?_ (fun p hp => keeps_ex _ _ _ _ _ _ (hl3 p hp).2 (fun _ _ => rfl) (fun b hb => ⟨hb.1, hb.2.1, by simp [Value.ownBlock]⟩))
              · rcases hown.2 with ⟨hv, _⟩ | ⟨g, cap, cur, hv, _⟩
                · exact .inl hv
                · exact .inr ⟨_, _, _, hv⟩
              · intro a n c hv
                have := World.ownsRow.lt hown a.block (by rw [hv]; rfl)
                exact ⟨this.1, this.2, by simp [Value.ownBlock]⟩
            exact bodyPost_ret (v := .agg #[.int .i64 op, .int .i64 pos, .int .u64 (wd s 0), .int .u64 (wd s 1), .int .u64 (wd s 2), .int .u64 (wd s 3), .string text, .int .i64 mn, .int .i64 mx, (.slice vp vn vc)]) (by simp [results, Tryz.results27, go_sem, c_r0, c_r1, c_r2, c_r3, c_r4, c_r5, c_r6, c_r7, c_r8, c_r9]) rfl ⟨_, rfl, hE.keep (fun b hb => put10_block _ _ _ _ _ _ _ _ _ _ _ _ _ (by have := hb.1; have := HWW.out; omega)) (fun b hb => ⟨by have := hb.1; have := HWW.out; omega, by rw [put10_size]; exact hb.2.1⟩), put10 hg (by omega) _ _ _ _ _ _ _ _ _ _⟩

end Go.Proofs.YtkkopdmemjncdaaGreatDoor

/- Renamed definitions, plain: what is told is alike. No condition. -/
namespace Go.Proofs.YtkkopdmemjncdaaGreatDoor
open Go Go.RowKit

def nmU (x : ByteArray) : ByteArray := x ++ ⟨#[95]⟩
theorem nmU_inj {a b : ByteArray} (h : nmU a = nmU b) : a = b := by
  unfold nmU at h
  have h2 := congrArg ByteArray.data h
  rw [ByteArray.data_append, ByteArray.data_append] at h2
  have h3 := congrArg Array.toList h2
  rw [Array.toList_append, Array.toList_append] at h3
  have h4 := List.append_cancel_right h3
  cases a; cases b
  simp only at h4
  rw [Array.toList_inj.1 h4]
def ren1 (x : Nt) : Nt := (nmU x.1, x.2)
mutual
theorem refs_ren : ∀ e : Ex, refsE (renE e) = (refsE e).map ren1
  | .mk op pos s text mn mx args => by
    rw [renE, refsE, refsE, List.map_append, refs_renL args]
    congr 1
    by_cases h : op = 4
    · rw [if_pos h, if_pos h]
      unfold renT
      rw [if_pos h]; rfl
    · rw [if_neg h, if_neg h]; rfl
theorem refs_renL : ∀ l : List Ex, refsL (renL l) = (refsL l).map ren1
  | [] => by rw [renL, refsL]; rfl
  | a :: r => by rw [renL, refsL, refsL, List.map_append, refs_ren a, refs_renL r]
end
theorem memN_map (l : List ByteArray) (x : ByteArray) : memN (l.map nmU) (nmU x) = memN l x := by
  rw [Bool.eq_iff_iff, memN_iff, memN_iff, List.mem_map]
  exact ⟨fun ⟨y, hy, e⟩ => nmU_inj e ▸ hy, fun h => ⟨x, h, rfl⟩⟩
theorem withN_map (l : List ByteArray) (x : ByteArray) : withN (l.map nmU) (nmU x) = (withN l x).map nmU := by
  unfold withN
  rw [memN_map]
  split
  · rfl
  · rw [List.map_append]; rfl
theorem fold_ren : ∀ (l : List Nt) (a : List ByteArray), (l.map ren1).foldl (fun l x => withN l x.1) (a.map nmU) = (l.foldl (fun l x => withN l x.1) a).map nmU
  | [], a => rfl
  | x :: l, a => by
    rw [List.map_cons, List.foldl_cons, List.foldl_cons, ← fold_ren l (withN a x.1), ← withN_map]; rfl
theorem uses_ren (e : Ex) : usesN (renE e) = (usesN e).map nmU := by
  unfold usesN
  rw [refs_ren]
  exact fold_ren (refsE e) []
theorem noOf_map (l : List ByteArray) (x : ByteArray) : noOf (l.map nmU) (nmU x) = noOf l x := by
  unfold noOf
  rw [List.findIdx_map]
  congr 1
  funext y
  exact decide_eq_decide.2 ⟨fun h => nmU_inj h, fun h => by rw [h]⟩
def renD (d : Df) : Df := ⟨nmU d.name, d.pos, renE d.ex⟩
def renR (r : Rl) : Rl := ⟨r.pos, r.all, r.modes, renE r.head, r.hasTrail, renE r.trail, r.label, r.acts⟩
def renS (s : Sc) : Sc := ⟨s.modes, s.defs.map renD, s.rules.map renR⟩
theorem defs_ren (s : Sc) : defsN (renS s) = (defsN s).map nmU := by
  unfold defsN renS
  rw [List.map_map, List.map_map]; rfl
theorem links_ren (s : Sc) : linksN (renS s) = linksN s := by
  unfold linksN
  rw [defs_ren]
  unfold renS
  rw [List.map_map]
  refine List.map_congr_left (fun d _ => ?_)
  show (usesN (renE d.ex)).map _ = _
  rw [uses_ren, List.map_map]
  exact List.map_congr_left (fun x _ => noOf_map (defsN s) x)
theorem linksS_ren (s : Sc) : linksS (renS s) = linksS s := by unfold linksS; rw [links_ren]
theorem len_ren (s : Sc) : (renS s).defs.length = s.defs.length := by unfold renS; exact List.length_map ..
theorem dups_ren : ∀ (l : List Nt) (seen : List ByteArray), dups (seen.map nmU) (l.map ren1) = (dups seen l).map ren1
  | [], _ => rfl
  | x :: l, seen => by
    rw [List.map_cons, dups, dups, List.map_append]
    congr 1
    · show (if memN (seen.map nmU) (nmU x.1) = true then _ else _) = _
      rw [memN_map]
      split <;> rfl
    · have h := dups_ren l (seen ++ [x.1])
      rw [List.map_append] at h
      exact h
theorem lost_ren (known : List ByteArray) (l : List Nt) : lost (known.map nmU) (l.map ren1) = (lost known l).map ren1 := by
  unfold lost
  rw [List.filter_map]
  congr 1
  refine List.filter_congr (fun x _ => ?_)
  show (!memN (known.map nmU) (nmU x.1)) = _
  rw [memN_map]
theorem snd_ren (l : List Nt) : (l.map ren1).map (·.2) = l.map (·.2) := by rw [List.map_map]; rfl
theorem flat_snd {α : Type} (f g : α → List Nt) (h : ∀ a, (f a).map (·.2) = (g a).map (·.2)) : ∀ l : List α, (l.flatMap f).map (·.2) = (l.flatMap g).map (·.2)
  | [] => rfl
  | a :: l => by rw [List.flatMap_cons, List.flatMap_cons, List.map_append, List.map_append, h a, flat_snd f g h l]
theorem notes_ren (s : Sc) : (notes (renS s)).map (·.2) = (notes s).map (·.2) := by
  have e1 : modeN (renS s) = modeN s := rfl
  have e2 : defN (renS s) = (defN s).map ren1 := by
    unfold defN renS
    rw [List.map_map, List.map_map]; rfl
  have e3 : modesN (renS s) = modesN s := rfl
  unfold notes
  rw [e1, e2, e3, defs_ren]
  simp only [List.map_append]
  congr 1
  congr 1
  · rw [show ([] : List ByteArray) = [].map nmU from rfl, dups_ren, snd_ren]; rfl
  congr 1
  · show ((s.defs.map renD).flatMap _).map _ = _
    rw [List.flatMap_map]
    refine flat_snd _ _ (fun d => ?_) s.defs
    show (lost ((defsN s).map nmU) (refsE (renE d.ex))).map _ = _
    rw [refs_ren, lost_ren, snd_ren]
  congr 1
  · show ((s.rules.map renR).flatMap _).map _ = _
    rw [List.flatMap_map]
    refine flat_snd _ _ (fun r => ?_) s.rules
    have et : trailsR (renR r) = (trailsR r).map renE := by
      unfold trailsR renR
      dsimp only
      split <;> rfl
    rw [et, List.flatMap_map]
    refine flat_snd _ _ (fun e => ?_) _
    rw [refs_ren, lost_ren, snd_ren]
  · show ((s.rules.map renR).flatMap _).map _ = _
    rw [List.flatMap_map]
    rfl
theorem note1_pos (b b' : Option Nt) (x x' : Nt) (h : b.map (·.2) = b'.map (·.2)) (hx : x.2 = x'.2) : (note1 b x).map (·.2) = (note1 b' x').map (·.2) := by
  cases b with
  | none =>
    cases b' with
    | none => show some x.2 = some x'.2; rw [hx]
    | some y => cases h
  | some y =>
    cases b' with
    | none => cases h
    | some y' =>
      injection h with h
      have h : y.2 = y'.2 := h
      unfold note1
      simp only [← h, ← hx]
      split
      · show some x.2 = some x'.2; rw [hx]
      · show some y.2 = some y'.2; rw [h]
theorem worst_fold : ∀ (l l' : List Nt) (b b' : Option Nt), l.map (·.2) = l'.map (·.2) → b.map (·.2) = b'.map (·.2) → (l.foldl note1 b).map (·.2) = (l'.foldl note1 b').map (·.2)
  | [], [], b, b', _, h => h
  | [], _ :: _, _, _, h, _ => by simp at h
  | _ :: _, [], _, _, h, _ => by simp at h
  | x :: l, x' :: l', b, b', h, hb => by
    rw [List.map_cons, List.map_cons] at h
    injection h with h1 h2
    rw [List.foldl_cons, List.foldl_cons]
    exact worst_fold l l' _ _ h2 (note1_pos b b' x x' hb h1)
theorem worst_ren (s : Sc) : (worst (notes (renS s))).map (·.2) = (worst (notes s)).map (·.2) := worst_fold _ _ _ _ (notes_ren s) rfl
theorem notes_nil_ren {s : Sc} : notes (renS s) = [] ↔ notes s = [] := by
  have h := congrArg List.length (notes_ren s)
  rw [List.length_map, List.length_map] at h
  rw [← List.length_eq_zero_iff, ← List.length_eq_zero_iff, h]
theorem acts_ren (s : Sc) : actsR (renS s) = actsR s := by
  unfold actsR renS
  rw [List.map_map]; rfl
theorem active_ren (s : Sc) : (namesN (renS s)).active = (namesN s).active := by
  unfold namesN
  dsimp only
  refine List.map_congr_left (fun m _ => ?_)
  show activeN (renS s) m (ownM s m) = _
  unfold activeN
  have hl : (renS s).rules.length = s.rules.length := by unfold renS; exact List.length_map ..
  rw [hl]
  refine List.filter_congr (fun i _ => ?_)
  have hr : (renS s).rules[i]? = (s.rules[i]?).map renR := by unfold renS; exact List.getElem?_map ..
  rw [hr]
  cases s.rules[i]? with
  | none => rfl
  | some r => rfl
theorem order_ren (s : Sc) : (namesN (renS s)).order = (namesN s).order := by
  unfold namesN
  dsimp only
  rw [links_ren, len_ren]
/-- The distances are what they are. -/
theorem far_le {U : List (List Nat)} {fr : Nat} {far far' : List Int} (h : FarOk U fr far) (h' : FarOk U fr far') (hU : ∀ (i k : Nat), k ∈ U[i]?.getD [] → k < U.length) : ∀ (n i : Nat), i < U.length → 0 ≤ farAt far' i → (farAt far' i).toNat = n → 0 ≤ farAt far i ∧ farAt far i ≤ farAt far' i := fun n => by
  induction n with
  | zero =>
    intro i hi h0 hn
    by_cases e : i = fr
    · subst e
      rw [h.zero]; omega
    · obtain ⟨k, _, h1, h2⟩ := h'.step i e h0
      omega
  | succ n ih =>
    intro i hi h0 hn
    by_cases e : i = fr
    · subst e
      rw [h.zero, h'.zero]; omega
    · obtain ⟨k, hk, hke⟩ := h'.next hi e h0
      obtain ⟨hm, hk0, _⟩ := near_some hk
      obtain ⟨h1, h2⟩ := ih k (hU i k hm) hk0 (by omega)
      cases hx : nearP far (U[i]?.getD []) with
      | none => have := near_none hx k hm; omega
      | some x =>
        obtain ⟨_, _, h4⟩ := near_some hx
        have h5 := h4 k hm h1
        obtain ⟨h6, h7⟩ := h.done i hi e x hx
        omega
theorem far_same {U : List (List Nat)} {fr : Nat} {far far' : List Int} (h : FarOk U fr far) (h' : FarOk U fr far') (hU : ∀ (i k : Nat), k ∈ U[i]?.getD [] → k < U.length) : far = far' := by
  have hat : ∀ i, i < U.length → farAt far i = farAt far' i := fun i hi => by
    have l1 := h.low i
    have l2 := h'.low i
    by_cases a : 0 ≤ farAt far i
    · obtain ⟨b1, b2⟩ := far_le h' h hU _ i hi a rfl
      obtain ⟨c1, c2⟩ := far_le h h' hU _ i hi b1 rfl
      omega
    · by_cases b : 0 ≤ farAt far' i
      · obtain ⟨c1, c2⟩ := far_le h h' hU _ i hi b rfl
        omega
      · omega
  refine List.ext_getElem (h.len.trans h'.len.symm) (fun i h1 h2 => ?_)
  have := hat i (by rw [← h.len]; exact h1)
  unfold farAt at this
  rw [List.getElem?_eq_getElem h1, List.getElem?_eq_getElem h2] at this
  exact this
/-- What has been told: code, place, how many names, what names stand for. -/
def KindR (s : Sc) (c m : Int) (nn : Nat) (M : List ByteArray) (A : List (List Nat)) (O : List Nat) (C : List (List (Int × Int))) : Prop :=
  c = 15 ∨ (c = 6 ∧ (∃ x, worst (notes s) = some x ∧ m = x.2) ∧ nn = 1 ∧ M = [] ∧ A = [] ∧ O = [] ∧ C = []) ∨
  (c = 7 ∧ notes s = [] ∧ m = 0 ∧ M = [] ∧ A = [] ∧ O = [] ∧ C = [] ∧ ∃ (fr : Nat) (far : List Int), fr < s.defs.length ∧ Cyc (linksS s) fr ∧ (∀ y, y < fr → ¬ Cyc (linksS s) y) ∧ FarOk (linksS s) fr far ∧ nn = (pathP (linksS s) far fr (s.defs.length + 1) fr).length) ∨
  (c = 0 ∧ notes s = [] ∧ m = 0 ∧ nn = 0 ∧ (∀ y, y < s.defs.length → ¬ Cyc (linksS s) y) ∧ M = modesN s ∧ A = (namesN s).active ∧ O = (namesN s).order ∧ C = actsR s)
theorem ren_kind {s : Sc} {c1 m1 c2 m2 : Int} {nn1 nn2 : Nat} {M1 M2 : List ByteArray} {A1 A2 : List (List Nat)} {O1 O2 : List Nat} {C1 C2 : List (List (Int × Int))} (h1 : KindR s c1 m1 nn1 M1 A1 O1 C1) (h2 : KindR (renS s) c2 m2 nn2 M2 A2 O2 C2) :
    c1 = 15 ∨ c2 = 15 ∨ (c1 ≠ 15 ∧ c2 ≠ 15 ∧ c1 = c2 ∧ m1 = m2 ∧ nn1 = nn2 ∧ M1 = M2 ∧ A1 = A2 ∧ O1 = O2 ∧ C1 = C2) := by
  have hw := worst_ren s
  rcases h1 with h | ⟨rfl, ⟨x, hx, rfl⟩, rfl, rfl, rfl, rfl, rfl⟩ | ⟨rfl, hn, rfl, rfl, rfl, rfl, rfl, fr, far, hfr, hcy, hlo, hf, rfl⟩ | ⟨rfl, hn, rfl, rfl, hno, rfl, rfl, rfl, rfl⟩
  · exact .inl h
  · rcases h2 with h | ⟨rfl, ⟨y, hy, rfl⟩, rfl, rfl, rfl, rfl, rfl⟩ | ⟨_, hn, _⟩ | ⟨_, hn, _⟩
    · exact .inr (.inl h)
    · rw [hx, hy] at hw
      injection hw with hw
      exact .inr (.inr ⟨by decide, by decide, rfl, hw.symm, rfl, rfl, rfl, rfl, rfl⟩)
    · rw [notes_nil_ren.1 hn] at hx; cases hx
    · rw [notes_nil_ren.1 hn] at hx; cases hx
  · rcases h2 with h | ⟨_, ⟨y, hy, _⟩, _⟩ | ⟨rfl, _, rfl, rfl, rfl, rfl, rfl, fr', far', hfr', hcy', hlo', hf', rfl⟩ | ⟨_, _, _, _, hno, _⟩
    · exact .inr (.inl h)
    · rw [notes_nil_ren.2 hn] at hy; cases hy
    · rw [linksS_ren] at hcy' hlo' hf' ⊢
      have hU := in_getD (fun (i : Nat) (r : List Nat) (h : (linksS s)[i]? = some r) => linksS_in (right_of hn) h)
      have e : fr = fr' := by
        have a1 : ¬ fr < fr' := fun h => hlo' fr h hcy
        have a2 : ¬ fr' < fr := fun h => hlo fr' h hcy'
        omega
      subst e
      have e2 := far_same hf hf' (fun i k hk => hU i k hk)
      subst e2
      rw [len_ren]
      exact .inr (.inr ⟨by decide, by decide, rfl, rfl, rfl, rfl, rfl, rfl, rfl⟩)
    · exfalso
      rw [linksS_ren, len_ren] at hno
      exact hno fr hfr hcy
  · rcases h2 with h | ⟨_, ⟨y, hy, _⟩, _⟩ | ⟨_, _, _, _, _, _, _, fr', far', hfr', hcy', _⟩ | ⟨rfl, _, rfl, rfl, _, rfl, rfl, rfl, rfl⟩
    · exact .inr (.inl h)
    · rw [notes_nil_ren.2 hn] at hy; cases hy
    · exfalso
      rw [linksS_ren] at hcy'
      rw [len_ren] at hfr'
      exact hno fr' hfr' hcy'
    · exact .inr (.inr ⟨by decide, by decide, rfl, rfl, rfl, rfl, (active_ren s).symm, (order_ren s).symm, (acts_ren s).symm⟩)

end Go.Proofs.YtkkopdmemjncdaaGreatDoor
