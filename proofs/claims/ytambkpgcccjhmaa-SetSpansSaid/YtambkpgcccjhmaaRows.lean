/-
  No cell of these rows narrows 'for every input' (looked for: loops, veiled, ifaces, maps, wideKeys, modest, calm, conditions, laid).
  DERIVED. THE GIVEN ROWS OF THIS SEAT. 3 by the template 'for every input the law returns true; each argument reads behind the call as it read before'; 0 by the template 'total and deterministic' (their statements: YtambkpgcccjhmaaTotals.lean).
  GIVEN WITH THE SEED: the statements are not yours to turn. If you find one false, say at which input.
  Laid BY PROGRAM, IN A SANDBOX (cutbox-rows.mjs): the forced cells as the released guide's own fill.sh prints them over the translation 11c254102dd10ead… (all of the seat's roots in one cut). By AI agents, Wed Nov 11 2026. No macro, syntax, notation, axiom, sorry.
-/
import Derived.Test.YtambkpgcccjhmaaChecked
import GoSem.Claim
import GoSem.ClaimJoined
import GoSem.ClaimMapViews
import Derived.JoinedTies
import Derived.KernelRfl
namespace Go.Proofs.Ytambkpgcccjhmaa
/- THE CELL 'sum', in the pinned program and in every row, IS THE sha256 OF THE DUMP (.gsa) THAT YtambkpgcccjhmaaProg.lean LOADS. Nothing in Lean hashes anything: it is a label: what it is worth is what the hold of that sum in a sandbox is worth. -/
noncomputable def Try.pinned : Pinned := { name := "ytambkpgcccjhmaa", sum := "11c254102dd10ead79c528b3feb547e6485e0a6ea5435dcb306cbb3ad3b6abe5", checked := Try.checked }
namespace Rows
def none {H : Type} : Left H := { results := [], args := [] }

/-- 'bolterlaw1.SetLaws': WHATEVER THE INPUT: true; the input reads as it did. -/
def setLawsSpec : ChangeSpec := { name := "setLaws", fn := fun _ => fun
  | [d] => { results := [.lit (.bool true)], args := [d] }
  | _ => none }
def setLawsRow : OpenClaim := { program := "ytambkpgcccjhmaa", sum := "11c254102dd10ead79c528b3feb547e6485e0a6ea5435dcb306cbb3ad3b6abe5", func := "bolter/bolterlaw1.SetLaws", spec := "setLaws", apart := false }
def SetLawsSaid : Prop := setLawsRow.holds Try.pinned (OpenSpec.ofChange setLawsSpec)

/-- ITS FALSE NEIGHBOUR: 'it returns false'. Refute it at one input. -/
def setLawsWrong : ChangeSpec := { name := "setLaws", fn := fun _ => fun
  | [d] => { results := [.lit (.bool false)], args := [d] }
  | _ => none }
def SetLawsWrongFalsely : Prop := setLawsRow.holds Try.pinned (OpenSpec.ofChange setLawsWrong)

/-- 'bolterlaw1.SetSpans': WHATEVER THE INPUT: true; the input reads as it did. -/
def setSpansSpec : ChangeSpec := { name := "setSpans", fn := fun _ => fun
  | [d] => { results := [.lit (.bool true)], args := [d] }
  | _ => none }
def setSpansRow : OpenClaim := { program := "ytambkpgcccjhmaa", sum := "11c254102dd10ead79c528b3feb547e6485e0a6ea5435dcb306cbb3ad3b6abe5", func := "bolter/bolterlaw1.SetSpans", spec := "setSpans", apart := false }
def SetSpansSaid : Prop := setSpansRow.holds Try.pinned (OpenSpec.ofChange setSpansSpec)

/-- ITS FALSE NEIGHBOUR: 'it returns false'. Refute it at one input. -/
def setSpansWrong : ChangeSpec := { name := "setSpans", fn := fun _ => fun
  | [d] => { results := [.lit (.bool false)], args := [d] }
  | _ => none }
def SetSpansWrongFalsely : Prop := setSpansRow.holds Try.pinned (OpenSpec.ofChange setSpansWrong)

/-- 'bolterlaw1.SetBytes': WHATEVER THE INPUT: true; the input reads as it did. -/
def setBytesSpec : ChangeSpec := { name := "setBytes", fn := fun _ => fun
  | [d] => { results := [.lit (.bool true)], args := [d] }
  | _ => none }
def setBytesRow : OpenClaim := { program := "ytambkpgcccjhmaa", sum := "11c254102dd10ead79c528b3feb547e6485e0a6ea5435dcb306cbb3ad3b6abe5", func := "bolter/bolterlaw1.SetBytes", spec := "setBytes", apart := false }
def SetBytesSaid : Prop := setBytesRow.holds Try.pinned (OpenSpec.ofChange setBytesSpec)

/-- ITS FALSE NEIGHBOUR: 'it returns false'. Refute it at one input. -/
def setBytesWrong : ChangeSpec := { name := "setBytes", fn := fun _ => fun
  | [d] => { results := [.lit (.bool false)], args := [d] }
  | _ => none }
def SetBytesWrongFalsely : Prop := setBytesRow.holds Try.pinned (OpenSpec.ofChange setBytesWrong)

/- THE SECOND FORM. 'bulk': how many values and letters a reading holds, each counted each time it is reached (what is shared counts as often as it is met; a slice's spare places count too). A statement '..UptoSaid' is the law's where the arguments, and the package variables that the reading takes, are together of bulk at most 1048576: NARROWER than '..Said'. Prove '..Said' where nothing that the law and all that it calls make is longer than what came in: it says more and counts as full. Else prove '..UptoSaid'. A law counts once. -/
mutual
def uptoBulk {H : Type} : DataW H → Nat
  | .lit (.string bytes) => bytes.length + 1
  | .lit _ => 1
  | .nil => 1
  | .ptr d => uptoBulk d + 1
  | .slice elems spare => uptoBulkAll elems + uptoBulkAll spare + 1
  | .agg parts => uptoBulkAll parts + 1
  | .iface _ d => uptoBulk d + 1
  | .map entries => uptoBulkEntries entries + 1
  | .held _ => 1
def uptoBulkAll {H : Type} : List (DataW H) → Nat
  | [] => 0
  | d :: r => uptoBulk d + uptoBulkAll r
def uptoBulkEntries {H : Type} : List (Lit × DataW H) → Nat
  | [] => 0
  | x :: r => uptoBulkEntry x + uptoBulkEntries r
def uptoBulkEntry {H : Type} : Lit × DataW H → Nat
  | (.string bytes, d) => bytes.length + uptoBulk d + 1
  | (_, d) => uptoBulk d + 1
 end
def uptoSmall : (H : Type) → List (DataW H) → Bool := fun _ ds => decide (uptoBulkAll ds ≤ 1048576)
def OpenSpec.upto (s : _root_.Go.ChangeSpec) : _root_.Go.OpenSpec := { _root_.Go.OpenSpec.ofChange s with cond := some uptoSmall }

/-- 'bolterlaw1.SetLaws', WHERE WHAT IT READS IS OF BULK AT MOST 1048576: true; the input reads as it did. -/
def setLawsUptoRow : OpenClaim := { program := "ytambkpgcccjhmaa", sum := "11c254102dd10ead79c528b3feb547e6485e0a6ea5435dcb306cbb3ad3b6abe5", func := "bolter/bolterlaw1.SetLaws", spec := "setLaws", apart := false, narrowed := true }
def SetLawsUptoSaid : Prop := setLawsUptoRow.holds Try.pinned (OpenSpec.upto setLawsSpec)

/-- 'bolterlaw1.SetSpans', WHERE WHAT IT READS IS OF BULK AT MOST 1048576: true; the input reads as it did. -/
def setSpansUptoRow : OpenClaim := { program := "ytambkpgcccjhmaa", sum := "11c254102dd10ead79c528b3feb547e6485e0a6ea5435dcb306cbb3ad3b6abe5", func := "bolter/bolterlaw1.SetSpans", spec := "setSpans", apart := false, narrowed := true }
def SetSpansUptoSaid : Prop := setSpansUptoRow.holds Try.pinned (OpenSpec.upto setSpansSpec)

/-- 'bolterlaw1.SetBytes', WHERE WHAT IT READS IS OF BULK AT MOST 1048576: true; the input reads as it did. -/
def setBytesUptoRow : OpenClaim := { program := "ytambkpgcccjhmaa", sum := "11c254102dd10ead79c528b3feb547e6485e0a6ea5435dcb306cbb3ad3b6abe5", func := "bolter/bolterlaw1.SetBytes", spec := "setBytes", apart := false, narrowed := true }
def SetBytesUptoSaid : Prop := setBytesUptoRow.holds Try.pinned (OpenSpec.upto setBytesSpec)

end Rows
end Go.Proofs.Ytambkpgcccjhmaa
