/- append of whatever slice that is there, nil or not, to a row of the call's own. No condition. -/
import Derived.Test.YtcbfmajojkcibaaDoorPGc
import Derived.Laws.OwnMore
import Derived.OwnWalk
namespace Go.Proofs.YtcbfmajojkcibaaDoor
open Go Go.RowKit

/-- A slice that is read, as a source. -/
theorem src_of {w : World} {v : Value} {k n : Nat} {cs : List Value} (h : Sl w v k n cs) (hz : Nily v) : ∃ ao c, v = .slice ao n c ∧ (ao = none → n = 0 ∧ c = 0) ∧ (∀ ad, ao = some ad → ∀ j u, cs[j]? = some u → w.cell? (ad.add j) = some u) := by
  obtain ⟨hl, _, ⟨⟨p, c, rfl⟩, rfl⟩ | ⟨b, off, cap, rfl, hb, hc⟩⟩ := h
  · refine ⟨p, c, rfl, fun hp => ?_, fun ad _ j u hj => ?_⟩
    · subst hp
      rcases hz with hz | ⟨a, n, c', hz⟩
      · injection hz with _ _ hz; exact ⟨rfl, hz⟩
      · cases hz
    · have h0 : cs = [] := List.eq_nil_of_length_eq_zero (by simpa using hl)
      rw [h0] at hj; simp at hj
  · refine ⟨some ⟨b, off, none⟩, cap, rfl, (fun h => by cases h), fun ad had j u hj => ?_⟩
    injection had with had; subst had
    rw [addr_add]; exact hc j u hj

theorem wpList_append_own_any {P : Program} {w : World} {ops : Array Oper} {rest : List Oper} {o : Oper} {a : Act} {Q : Exit → Act → World → Prop} (hgd : o.guard = none) (s x : Operand) (t : TypeId)
    (ho : o.op = .call { callee := .builtin .append, args := #[s, x], argTypes := #[t, t] })
    (base : Nat) (e : TypeId) (i : TypeInfo) (z : Value) (size bytes : Nat) (ht : P.underlying t = some (.slice e)) (hi : P.info? e = some i) (hz : i.zero = some z)
    (hsize : i.size = size) (hby : i.bytes = bytes) (hzs : z.cells.size = size) (hsz : 0 < size)
    (v : Value) (n : Nat) (xs : List Value) (hs : a.eval s = v) (hown : w.ownsRow base e size v n xs)
    (ao : Option Addr) (m c : Nat) (news : List Value) (hx : a.eval x = .slice ao m c) (hl : news.length = m * size) (hnone : ao = none → m = 0 ∧ c = 0) (hnews : ∀ ad, ao = some ad → ∀ j u, news[j]? = some u → w.cell? (ad.add j) = some u) (h1 : ∀ u ∈ news, u.oneCell' = true)
    (h63 : n + m ≤ maxLen) (hbytes : (n + m) * bytes ≤ 140737488355328) (hbase : base ≤ w.heap.size)
    (h : ∀ v' w', w'.ownsRow base e size v' (n + m) (xs ++ news) → w.grownBy w' v.ownBlock → (v' = .slice none 0 0 ↔ v = .slice none 0 0 ∧ m = 0) → wpList P ops Q rest (a.put o.dst v') w') : wpList P ops Q (o :: rest) a w := by
  cases ao with
  | some ad => exact wpList_append_own w hgd s x t ho base e i z size bytes ht hi hz hsize hby hzs hsz v n xs hs hown ad m c news hx hl (hnews ad rfl) h1 h63 hbytes hbase h
  | none =>
    obtain ⟨rfl, rfl⟩ := hnone rfl
    have hn : news = [] := List.eq_nil_of_length_eq_zero (by simpa using hl)
    subst hn
    refine wpList_plain hgd fun K hK => ?_
    have hr := run_append_owned_none (P := P) w base t o.type e i size ht hi v n xs hown
    unfold Oper.wp
    simp [execOp, ho, resolve, invoke, builtin, hs, hx, hr, Result.andThen]
    exact hK _ _ (h v w (by simpa using hown) (World.grownBy.refl _ _) (by simp))

end Go.Proofs.YtcbfmajojkcibaaDoor
