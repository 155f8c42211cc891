/- Equality of two sets, as the code asks it. No condition. -/
import Derived.Test.YtihjmeoklbmnmaaDoorMinus
import Derived.Test.YtihjmeoklbmnmaaDoorSetEqB
