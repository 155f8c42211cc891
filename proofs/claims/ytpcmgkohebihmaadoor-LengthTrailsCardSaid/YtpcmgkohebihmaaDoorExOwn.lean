/- Expressions that lie in certain blocks alone. No condition. -/
import Derived.Test.YtpcmgkohebihmaaDoorEx
import Derived.Test.YtpcmgkohebihmaaDoorOwned
import Derived.Maps.AppendAt
namespace Go.Proofs.YtpcmgkohebihmaaDoor
open Go Go.RowKit

/-- These cells are this expression in this world, and it lies in blocks of S. -/
inductive ExOwn (S : Nat → Prop) (w : World) : Ex → List Value → Prop
  | mk (op pos : Int) (s : BitVec 256) (text : ByteArray) (mn mx : Int) (v : Value) (l : List (Ex × List Value))
      (h1 : fit64 op) (h2 : fit64 pos) (h3 : fit64 mn) (h4 : fit64 mx) (h5 : text.size ≤ maxLen)
      (hlen : ∀ p ∈ l, p.2.length = 10) (hs : Sl w v 10 l.length (l.flatMap (·.2))) (hn : Nily v) (hb : l.length * 104 ≤ 140737488351232) (hS : ∀ a n c, v = .slice (some a) n c → S a.block)
      (hargs : ∀ p ∈ l, ExOwn S w p.1 p.2) : ExOwn S w (.mk op pos s text mn mx (l.map (·.1))) (exCells op pos s text mn mx v)

theorem ExOwn.exIn {S : Nat → Prop} {w : World} {e : Ex} {cs : List Value} (h : ExOwn S w e cs) : ExIn w e cs := by
  induction h with
  | mk op pos s text mn mx v l h1 h2 h3 h4 h5 hlen hs hn hb hS _ ih => exact .mk op pos s text mn mx v l h1 h2 h3 h4 h5 hlen hs hn hb ih
theorem ExOwn.len {S : Nat → Prop} {w : World} {e : Ex} {cs : List Value} (h : ExOwn S w e cs) : cs.length = 10 := by cases h; rfl
theorem Sl.keep {w w' : World} {v : Value} {k n : Nat} {cs : List Value} (h : Sl w v k n cs) (hb : ∀ a n c, v = .slice (some a) n c → w'.heap[a.block]? = w.heap[a.block]?) : Sl w' v k n cs := by
  obtain ⟨h1, h2, h3⟩ := h
  refine ⟨h1, h2, h3.imp id ?_⟩
  rintro ⟨b, off, cap, hv, hlt, hc⟩
  have hh := hb _ _ _ hv
  refine ⟨b, off, cap, hv, fun h0 => ?_, fun j u hj => ?_⟩
  · have := hlt h0
    rcases Nat.lt_or_ge b w'.heap.size with h | h
    · exact h
    · rw [Array.getElem?_eq_none h, Array.getElem?_eq_getElem this] at hh; cases hh
  · have := hc j u hj
    unfold World.cell? at this ⊢
    simp only at this ⊢
    rw [hh]; exact this
theorem ExOwn.keep {S S' : Nat → Prop} {w w' : World} {e : Ex} {cs : List Value} (h : ExOwn S w e cs) (hb : ∀ b, S b → w'.heap[b]? = w.heap[b]?) (hSS : ∀ b, S b → S' b) : ExOwn S' w' e cs := by
  induction h with
  | mk op pos s text mn mx v l h1 h2 h3 h4 h5 hlen hs hn hb' hS _ ih => exact .mk op pos s text mn mx v l h1 h2 h3 h4 h5 hlen (hs.keep (fun a n c e => hb _ (hS a n c e))) hn hb' (fun a n c e => hSS _ (hS a n c e)) ih

theorem setCell_far (w : World) (a : Addr) (v : Value) (b : Nat) (h : a.block ≠ b) : (w.setCell a v).heap[b]? = w.heap[b]? := by
  simp only [World.setCell, Array.getElem?_modify]
  rw [if_neg h]

/-- The operation of AppendAt, by itself. -/
theorem wp_append_own_at {P : Program} (w : World) {o : Oper} {a : Act} {K : Act → World → Prop} {Q : Exit → Act → World → Prop} (s x : Operand) (t : TypeId)
    (ho : o.op = .call { callee := .builtin .append, args := #[s, x], argTypes := #[t, t] })
    (base : Nat) (e : TypeId) (i : TypeInfo) (z : Value) (size bytes : Nat) (ht : P.underlying t = some (.slice e)) (hi : P.info? e = some i) (hz : i.zero = some z)
    (hsize : i.size = size) (hby : i.bytes = bytes) (hzs : z.cells.size = size) (hsz : 0 < size)
    (v : Value) (n : Nat) (xs : List Value) (hs : a.eval s = v) (hown : w.ownsRow base e size v n xs)
    (ad : Addr) (m c : Nat) (news : List Value) (hx : a.eval x = .slice (some ad) m c) (hl : news.length = m * size) (hnews : ∀ j u, news[j]? = some u → w.cell? (ad.add j) = some u) (h1 : ∀ u ∈ news, u.oneCell' = true)
    (h63 : n + m ≤ maxLen) (hbytes : (n + m) * bytes ≤ 140737488355328) (hbase : base ≤ w.heap.size)
    (h : ∀ v' w', w'.ownsRow base e size v' (n + m) (xs ++ news) → w.grownBy w' v.ownBlock → (v' = .slice none 0 0 ↔ v = .slice none 0 0 ∧ m = 0) → (v'.ownBlock = v.ownBlock ∨ v'.ownBlock = some w.heap.size) → K (a.put o.dst v') w') : o.wp P a w K Q := by
  obtain ⟨v', w', hr, h2, h3, h4, h5⟩ := run_append_own_at (P := P) w base t o.type e i z size bytes ht hi hz hsize hby hzs hsz v n xs hown ad m c news hl hnews h1 h63 hbytes hbase
  unfold Oper.wp execOp
  simp only [ho, resolve, invoke, builtin, Sem.run_bind, Sem.run_pure, Result.andThen_ok, List.map_toArray, List.map_cons, List.map_nil, hs, hx, hr]
  exact h v' w' h2 h3 h4 h5

theorem ExOwn.form {S : Nat → Prop} {w : World} {e : Ex} {cs : List Value} (h : ExOwn S w e cs) : ∃ op pos s text mn mx p n c, cs = exCells op pos s text mn mx (.slice p n c) := by
  cases h with
  | mk op pos s text mn mx v l _ _ _ _ _ _ hs =>
    obtain ⟨p, c, rfl⟩ := hs.len
    exact ⟨op, pos, s, text, mn, mx, p, _, c, rfl⟩

theorem ex_ones (op pos : Int) (s : BitVec 256) (text : ByteArray) (mn mx : Int) (p : Option Addr) (n c : Nat) : ∀ u ∈ ([.int .i64 op, .int .i64 pos, .int .u64 (wd s 0), .int .u64 (wd s 1), .int .u64 (wd s 2), .int .u64 (wd s 3), .string text, .int .i64 mn, .int .i64 mx, (.slice p n c)] : List Value), u.oneCell' = true := fun u hu => by
  simp only [List.mem_cons, List.not_mem_nil, or_false] at hu
  rcases hu with rfl | rfl | rfl | rfl | rfl | rfl | rfl | rfl | rfl | rfl <;> rfl

theorem put10_block (w : World) (b : Nat) (v0 v1 v2 v3 v4 v5 v6 v7 v8 v9 : Value) (c : Nat) (h : b ≠ c) : ((((((((((w.setCell ⟨b, 0, none⟩ v0).setCell ⟨b, 1, none⟩ v1).setCell ⟨b, 2, none⟩ v2).setCell ⟨b, 3, none⟩ v3).setCell ⟨b, 4, none⟩ v4).setCell ⟨b, 5, none⟩ v5).setCell ⟨b, 6, none⟩ v6).setCell ⟨b, 7, none⟩ v7).setCell ⟨b, 8, none⟩ v8).setCell ⟨b, 9, none⟩ v9).heap[c]? = w.heap[c]? := by
  repeat rw [setCell_far _ _ _ _ h]
theorem put10_size (w : World) (b : Nat) (v0 v1 v2 v3 v4 v5 v6 v7 v8 v9 : Value) : ((((((((((w.setCell ⟨b, 0, none⟩ v0).setCell ⟨b, 1, none⟩ v1).setCell ⟨b, 2, none⟩ v2).setCell ⟨b, 3, none⟩ v3).setCell ⟨b, 4, none⟩ v4).setCell ⟨b, 5, none⟩ v5).setCell ⟨b, 6, none⟩ v6).setCell ⟨b, 7, none⟩ v7).setCell ⟨b, 8, none⟩ v8).setCell ⟨b, 9, none⟩ v9).heap.size = w.heap.size := by
  simp only [World.setCell, Array.size_modify]
theorem put10 {B : Nat} {w w' : World} (h : Below B w' w) {b : Nat} (hb : B ≤ b) (v0 v1 v2 v3 v4 v5 v6 v7 v8 v9 : Value) : Below B w' ((((((((((w.setCell ⟨b, 0, none⟩ v0).setCell ⟨b, 1, none⟩ v1).setCell ⟨b, 2, none⟩ v2).setCell ⟨b, 3, none⟩ v3).setCell ⟨b, 4, none⟩ v4).setCell ⟨b, 5, none⟩ v5).setCell ⟨b, 6, none⟩ v6).setCell ⟨b, 7, none⟩ v7).setCell ⟨b, 8, none⟩ v8).setCell ⟨b, 9, none⟩ v9) :=
  Below.setCell (p := ⟨b, 9, none⟩) (Below.setCell (p := ⟨b, 8, none⟩) (Below.setCell (p := ⟨b, 7, none⟩) (Below.setCell (p := ⟨b, 6, none⟩) (Below.setCell (p := ⟨b, 5, none⟩) (Below.setCell (p := ⟨b, 4, none⟩) (Below.setCell (p := ⟨b, 3, none⟩) (Below.setCell (p := ⟨b, 2, none⟩) (Below.setCell (p := ⟨b, 1, none⟩) (Below.setCell (p := ⟨b, 0, none⟩) (h) hb v0) hb v1) hb v2) hb v3) hb v4) hb v5) hb v6) hb v7) hb v8) hb v9

/-- The blocks from B on but for v's own. -/
def Free (B : Nat) (w : World) (v : Value) (b : Nat) : Prop := B ≤ b ∧ b < w.heap.size ∧ v.ownBlock ≠ some b
theorem heap_out {w : World} {b : Nat} (h : w.heap.size ≤ b) : w.heap[b]? = none := Array.getElem?_eq_none h

section
variable {α : Type} {Q : (Nat → Prop) → World → α → List Value → Prop}
/-- A row under way: v has all of ls, each lies in blocks of its own. -/
def Grows (Q : (Nat → Prop) → World → α → List Value → Prop) (T k B : Nat) (w : World) (v : Value) (n : Nat) (ls : List (α × List Value)) : Prop :=
  ls.length = n ∧ w.ownsRow B T k v n (ls.flatMap (·.2)) ∧ ∀ p ∈ ls, p.2.length = k ∧ Q (Free B w v) w p.1 p.2
/-- Q speaks of its blocks alone. -/
def Keeps (Q : (Nat → Prop) → World → α → List Value → Prop) : Prop := ∀ S S' w w' a cs, Q S w a cs → (∀ b, S b → w'.heap[b]? = w.heap[b]?) → (∀ b, S b → S' b) → Q S' w' a cs
theorem keeps_ex : Keeps ExOwn := fun _ _ _ _ _ _ h h1 h2 => h.keep h1 h2

theorem Grows.nil (T k B : Nat) (w : World) : Grows Q T k B w (.slice none 0 0) 0 [] := ⟨rfl, World.ownsRow_nil _ _ _ _, fun _ h => by cases h⟩
theorem Grows.later (hK : Keeps Q) {T k B n : Nat} {w w' : World} {v : Value} {ls : List (α × List Value)} (h : Grows Q T k B w v n ls) (hG : Gr w w') : Grows Q T k B w' v n ls := by
  obtain ⟨h1, h2, h3⟩ := h
  exact ⟨h1, owns_later h2 hG, fun p hp => ⟨(h3 p hp).1, hK _ _ _ _ _ _ (h3 p hp).2 (fun b hb => Below.block hG b hb.2.1) (fun b hb => ⟨hb.1, Nat.lt_of_lt_of_le hb.2.1 hG.size, hb.2.2⟩)⟩⟩
theorem Grows.far (hK : Keeps Q) {T k B n : Nat} {w : World} {v : Value} {ls : List (α × List Value)} (h : Grows Q T k B w v n ls) (a : Addr) (u : Value) (ha : a.block < B) : Grows Q T k B (w.setCell a u) v n ls := by
  obtain ⟨h1, h2, h3⟩ := h
  have hsz : (w.setCell a u).heap.size = w.heap.size := by simp [World.setCell]
  refine ⟨h1, owns_heap h2 (fun g hg => setCell_far _ _ _ _ (by have := (World.ownsRow.lt h2 g hg).1; omega)), fun p hp => ⟨(h3 p hp).1, hK _ _ _ _ _ _ (h3 p hp).2 (fun b hb => setCell_far _ _ _ _ (by have := hb.1; omega)) (fun b hb => ⟨hb.1, by rw [hsz]; exact hb.2.1, hb.2.2⟩)⟩⟩
theorem Grows.push (hK : Keeps Q) {T k B n : Nat} {w w7 w8 w9 : World} {v v' : Value} {ls : List (α × List Value)} (h : Grows Q T k B w v n ls) (hG : Gr w w7) (hB : B ≤ w.heap.size) {a : α} {ds : List Value} (hd : Q (fun b => w.heap.size ≤ b ∧ b < w7.heap.size) w7 a ds) (hk : ds.length = k)
    (hG8 : Gr w7 w8) (hown : w9.ownsRow B T k v' (n + 1) (ls.flatMap (·.2) ++ ds)) (hgr : w8.grownBy w9 v.ownBlock) (hat : v'.ownBlock = v.ownBlock ∨ v'.ownBlock = some w8.heap.size) : Grows Q T k B w9 v' (n + 1) (ls ++ [(a, ds)]) := by
  obtain ⟨h1, h2, h3⟩ := h
  have hs7 := hG.size
  have hs8 := hG8.size
  have hs9 := hgr.size
  have hv : ∀ b, v.ownBlock = some b → b < w.heap.size := fun b hb => (World.ownsRow.lt h2 b hb).2
  have hne : ∀ b, b < w8.heap.size → v.ownBlock ≠ some b → v'.ownBlock ≠ some b := by
    intro b hb hvb
    rcases hat with h | h
    · rw [h]; exact hvb
    · rw [h]; intro e; injection e with e; omega
  refine ⟨by rw [List.length_append, h1]; rfl, by rw [List.flatMap_append]; simpa using hown, fun p hp => ?_⟩
  rcases List.mem_append.1 hp with hp | hp
  · refine ⟨(h3 p hp).1, hK _ _ _ _ _ _ (h3 p hp).2 (fun b hb => ?_) (fun b hb => ⟨hb.1, by have := hb.2.1; omega, hne b (by have := hb.2.1; omega) hb.2.2⟩)⟩
    rw [hgr.block b (by have := hb.2.1; omega) (fun e => hb.2.2 e.symm), Below.block hG8 b (by have := hb.2.1; omega), Below.block hG b hb.2.1]
  · rw [List.mem_singleton.1 hp]
    refine ⟨hk, hK _ _ _ _ _ _ hd (fun b hb => ?_) (fun b hb => ⟨by omega, by omega, hne b (by omega) (fun e => by have := hv b e; omega)⟩)⟩
    rw [hgr.block b (by omega) (fun e => by have := hv b e.symm; omega), Below.block hG8 b hb.2]
end

end Go.Proofs.YtpcmgkohebihmaaDoor
