/- bolterref0.Eq. No condition. -/
import Derived.Test.YtihjmeoklbmnmaaDoorRows
import Derived.Test.YtihjmeoklbmnmaaDoorMem
import Derived.WalkSpells
import Derived.WalkLawsBesides
import Derived.Lib.Hide
namespace Go.Proofs.YtihjmeoklbmnmaaDoor
open Go Go.RowKit

theorem eqTake_step (l m : List UInt8) (k : Nat) (h1 : k < l.length) (h2 : k < m.length) (h : l.take k = m.take k) (e : l[k] = m[k]) : l.take (k + 1) = m.take (k + 1) := by
  rw [List.take_succ_eq_append_getElem h1, List.take_succ_eq_append_getElem h2, h, e]

end Go.Proofs.YtihjmeoklbmnmaaDoor
