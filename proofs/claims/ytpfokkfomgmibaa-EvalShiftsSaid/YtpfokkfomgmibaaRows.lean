/-
  No cell of these rows narrows 'for every input' (looked for: loops, veiled, ifaces, maps, wideKeys, modest, calm, conditions, laid).
  DERIVED. THE GIVEN ROWS OF THIS SEAT. 8 by the template 'for every input the law returns true; each argument reads behind the call as it read before'; 0 by the template 'total and deterministic' (their statements: YtpfokkfomgmibaaTotals.lean).
  GIVEN WITH THE SEED: the statements are not yours to turn. If you find one false, say at which input.
  Laid BY PROGRAM, IN A SANDBOX (cutbox-rows.mjs): the forced cells as the released guide's own fill.sh prints them over the translation 34822a20f2b4a3ea… (all of the seat's roots in one cut). By AI agents, Wed Nov 11 2026. No macro, syntax, notation, axiom, sorry.
-/
import Derived.Test.YtpfokkfomgmibaaChecked
import GoSem.Claim
import GoSem.ClaimJoined
import GoSem.ClaimMapViews
import Derived.JoinedTies
import Derived.KernelRfl
namespace Go.Proofs.Ytpfokkfomgmibaa
/- THE CELL 'sum', in the pinned program and in every row, IS THE sha256 OF THE DUMP (.gsa) THAT YtpfokkfomgmibaaProg.lean LOADS. Nothing in Lean hashes anything: it is a label: what it is worth is what the hold of that sum in a sandbox is worth. -/
noncomputable def Try.pinned : Pinned := { name := "ytpfokkfomgmibaa", sum := "34822a20f2b4a3ea8d721486bc3952603bf725c0b39b188fd7d156f1340569b5", checked := Try.checked }
namespace Rows
def none {H : Type} : Left H := { results := [], args := [] }

/-- 'marlinelaw07.EvalRuns': WHATEVER THE INPUT: true; the input reads as it did. -/
def evalRunsSpec : ChangeSpec := { name := "evalRuns", fn := fun _ => fun
  | [d] => { results := [.lit (.bool true)], args := [d] }
  | _ => none }
def evalRunsRow : OpenClaim := { program := "ytpfokkfomgmibaa", sum := "34822a20f2b4a3ea8d721486bc3952603bf725c0b39b188fd7d156f1340569b5", func := "marline/marlinelaw07.EvalRuns", spec := "evalRuns", unfollowed := true, recurses := true, apart := false }
def EvalRunsSaid : Prop := evalRunsRow.holds Try.pinned (OpenSpec.ofChange evalRunsSpec)

/-- ITS FALSE NEIGHBOUR: 'it returns false'. Refute it at one input. -/
def evalRunsWrong : ChangeSpec := { name := "evalRuns", fn := fun _ => fun
  | [d] => { results := [.lit (.bool false)], args := [d] }
  | _ => none }
def EvalRunsWrongFalsely : Prop := evalRunsRow.holds Try.pinned (OpenSpec.ofChange evalRunsWrong)

/-- 'marlinelaw07.EvalReckons': WHATEVER THE INPUT: true; the input reads as it did. -/
def evalReckonsSpec : ChangeSpec := { name := "evalReckons", fn := fun _ => fun
  | [d1, d2, d3] => { results := [.lit (.bool true)], args := [d1, d2, d3] }
  | _ => none }
def evalReckonsRow : OpenClaim := { program := "ytpfokkfomgmibaa", sum := "34822a20f2b4a3ea8d721486bc3952603bf725c0b39b188fd7d156f1340569b5", func := "marline/marlinelaw07.EvalReckons", spec := "evalReckons", unfollowed := true, recurses := true, apart := false }
def EvalReckonsSaid : Prop := evalReckonsRow.holds Try.pinned (OpenSpec.ofChange evalReckonsSpec)

/-- ITS FALSE NEIGHBOUR: 'it returns false'. Refute it at one input. -/
def evalReckonsWrong : ChangeSpec := { name := "evalReckons", fn := fun _ => fun
  | [d1, d2, d3] => { results := [.lit (.bool false)], args := [d1, d2, d3] }
  | _ => none }
def EvalReckonsWrongFalsely : Prop := evalReckonsRow.holds Try.pinned (OpenSpec.ofChange evalReckonsWrong)

/-- 'marlinelaw07.EvalFuel': WHATEVER THE INPUT: true; the input reads as it did. -/
def evalFuelSpec : ChangeSpec := { name := "evalFuel", fn := fun _ => fun
  | [d] => { results := [.lit (.bool true)], args := [d] }
  | _ => none }
def evalFuelRow : OpenClaim := { program := "ytpfokkfomgmibaa", sum := "34822a20f2b4a3ea8d721486bc3952603bf725c0b39b188fd7d156f1340569b5", func := "marline/marlinelaw07.EvalFuel", spec := "evalFuel", unfollowed := true, recurses := true, apart := false }
def EvalFuelSaid : Prop := evalFuelRow.holds Try.pinned (OpenSpec.ofChange evalFuelSpec)

/-- ITS FALSE NEIGHBOUR: 'it returns false'. Refute it at one input. -/
def evalFuelWrong : ChangeSpec := { name := "evalFuel", fn := fun _ => fun
  | [d] => { results := [.lit (.bool false)], args := [d] }
  | _ => none }
def EvalFuelWrongFalsely : Prop := evalFuelRow.holds Try.pinned (OpenSpec.ofChange evalFuelWrong)

/-- 'marlinelaw07.EvalAhead': WHATEVER THE INPUT: true; the input reads as it did. -/
def evalAheadSpec : ChangeSpec := { name := "evalAhead", fn := fun _ => fun
  | [d] => { results := [.lit (.bool true)], args := [d] }
  | _ => none }
def evalAheadRow : OpenClaim := { program := "ytpfokkfomgmibaa", sum := "34822a20f2b4a3ea8d721486bc3952603bf725c0b39b188fd7d156f1340569b5", func := "marline/marlinelaw07.EvalAhead", spec := "evalAhead", unfollowed := true, recurses := true, apart := false }
def EvalAheadSaid : Prop := evalAheadRow.holds Try.pinned (OpenSpec.ofChange evalAheadSpec)

/-- ITS FALSE NEIGHBOUR: 'it returns false'. Refute it at one input. -/
def evalAheadWrong : ChangeSpec := { name := "evalAhead", fn := fun _ => fun
  | [d] => { results := [.lit (.bool false)], args := [d] }
  | _ => none }
def EvalAheadWrongFalsely : Prop := evalAheadRow.holds Try.pinned (OpenSpec.ofChange evalAheadWrong)

/-- 'marlinelaw07.EvalCounts': WHATEVER THE INPUT: true; the input reads as it did. -/
def evalCountsSpec : ChangeSpec := { name := "evalCounts", fn := fun _ => fun
  | [d] => { results := [.lit (.bool true)], args := [d] }
  | _ => none }
def evalCountsRow : OpenClaim := { program := "ytpfokkfomgmibaa", sum := "34822a20f2b4a3ea8d721486bc3952603bf725c0b39b188fd7d156f1340569b5", func := "marline/marlinelaw07.EvalCounts", spec := "evalCounts", unfollowed := true, recurses := true, apart := false }
def EvalCountsSaid : Prop := evalCountsRow.holds Try.pinned (OpenSpec.ofChange evalCountsSpec)

/-- ITS FALSE NEIGHBOUR: 'it returns false'. Refute it at one input. -/
def evalCountsWrong : ChangeSpec := { name := "evalCounts", fn := fun _ => fun
  | [d] => { results := [.lit (.bool false)], args := [d] }
  | _ => none }
def EvalCountsWrongFalsely : Prop := evalCountsRow.holds Try.pinned (OpenSpec.ofChange evalCountsWrong)

/-- 'marlinelaw07.EvalDeep': WHATEVER THE INPUT: true; the input reads as it did. -/
def evalDeepSpec : ChangeSpec := { name := "evalDeep", fn := fun _ => fun
  | [d] => { results := [.lit (.bool true)], args := [d] }
  | _ => none }
def evalDeepRow : OpenClaim := { program := "ytpfokkfomgmibaa", sum := "34822a20f2b4a3ea8d721486bc3952603bf725c0b39b188fd7d156f1340569b5", func := "marline/marlinelaw07.EvalDeep", spec := "evalDeep", unfollowed := true, recurses := true, apart := false }
def EvalDeepSaid : Prop := evalDeepRow.holds Try.pinned (OpenSpec.ofChange evalDeepSpec)

/-- ITS FALSE NEIGHBOUR: 'it returns false'. Refute it at one input. -/
def evalDeepWrong : ChangeSpec := { name := "evalDeep", fn := fun _ => fun
  | [d] => { results := [.lit (.bool false)], args := [d] }
  | _ => none }
def EvalDeepWrongFalsely : Prop := evalDeepRow.holds Try.pinned (OpenSpec.ofChange evalDeepWrong)

/-- 'marlinelaw07.EvalStraight': WHATEVER THE INPUT: true; the input reads as it did. -/
def evalStraightSpec : ChangeSpec := { name := "evalStraight", fn := fun _ => fun
  | [d1, d2] => { results := [.lit (.bool true)], args := [d1, d2] }
  | _ => none }
def evalStraightRow : OpenClaim := { program := "ytpfokkfomgmibaa", sum := "34822a20f2b4a3ea8d721486bc3952603bf725c0b39b188fd7d156f1340569b5", func := "marline/marlinelaw07.EvalStraight", spec := "evalStraight", unfollowed := true, recurses := true, apart := false }
def EvalStraightSaid : Prop := evalStraightRow.holds Try.pinned (OpenSpec.ofChange evalStraightSpec)

/-- ITS FALSE NEIGHBOUR: 'it returns false'. Refute it at one input. -/
def evalStraightWrong : ChangeSpec := { name := "evalStraight", fn := fun _ => fun
  | [d1, d2] => { results := [.lit (.bool false)], args := [d1, d2] }
  | _ => none }
def EvalStraightWrongFalsely : Prop := evalStraightRow.holds Try.pinned (OpenSpec.ofChange evalStraightWrong)

/-- 'marlinelaw07.EvalShifts': WHATEVER THE INPUT: true; the input reads as it did. -/
def evalShiftsSpec : ChangeSpec := { name := "evalShifts", fn := fun _ => fun
  | [d1, d2, d3] => { results := [.lit (.bool true)], args := [d1, d2, d3] }
  | _ => none }
def evalShiftsRow : OpenClaim := { program := "ytpfokkfomgmibaa", sum := "34822a20f2b4a3ea8d721486bc3952603bf725c0b39b188fd7d156f1340569b5", func := "marline/marlinelaw07.EvalShifts", spec := "evalShifts", unfollowed := true, recurses := true, apart := false }
def EvalShiftsSaid : Prop := evalShiftsRow.holds Try.pinned (OpenSpec.ofChange evalShiftsSpec)

/-- ITS FALSE NEIGHBOUR: 'it returns false'. Refute it at one input. -/
def evalShiftsWrong : ChangeSpec := { name := "evalShifts", fn := fun _ => fun
  | [d1, d2, d3] => { results := [.lit (.bool false)], args := [d1, d2, d3] }
  | _ => none }
def EvalShiftsWrongFalsely : Prop := evalShiftsRow.holds Try.pinned (OpenSpec.ofChange evalShiftsWrong)

/- THE SECOND FORM. 'bulk': how many values and letters a reading holds, each counted each time it is reached (what is shared counts as often as it is met; a slice's spare places count too). A statement '..UptoSaid' is the law's where the arguments, and the package variables that the reading takes, are together of bulk at most 1048576: NARROWER than '..Said'. Prove '..Said' where nothing that the law and all that it calls make is longer than what came in: it says more and counts as full. Else prove '..UptoSaid'. A law counts once. -/
mutual
def uptoBulk {H : Type} : DataW H → Nat
  | .lit (.string bytes) => bytes.length + 1
  | .lit _ => 1
  | .nil => 1
  | .ptr d => uptoBulk d + 1
  | .slice elems spare => uptoBulkAll elems + uptoBulkAll spare + 1
  | .agg parts => uptoBulkAll parts + 1
  | .iface _ d => uptoBulk d + 1
  | .map entries => uptoBulkEntries entries + 1
  | .held _ => 1
def uptoBulkAll {H : Type} : List (DataW H) → Nat
  | [] => 0
  | d :: r => uptoBulk d + uptoBulkAll r
def uptoBulkEntries {H : Type} : List (Lit × DataW H) → Nat
  | [] => 0
  | x :: r => uptoBulkEntry x + uptoBulkEntries r
def uptoBulkEntry {H : Type} : Lit × DataW H → Nat
  | (.string bytes, d) => bytes.length + uptoBulk d + 1
  | (_, d) => uptoBulk d + 1
 end
def uptoSmall : (H : Type) → List (DataW H) → Bool := fun _ ds => decide (uptoBulkAll ds ≤ 1048576)
def OpenSpec.upto (s : _root_.Go.ChangeSpec) : _root_.Go.OpenSpec := { _root_.Go.OpenSpec.ofChange s with cond := some uptoSmall }

/-- 'marlinelaw07.EvalRuns', WHERE WHAT IT READS IS OF BULK AT MOST 1048576: true; the input reads as it did. -/
def evalRunsUptoRow : OpenClaim := { program := "ytpfokkfomgmibaa", sum := "34822a20f2b4a3ea8d721486bc3952603bf725c0b39b188fd7d156f1340569b5", func := "marline/marlinelaw07.EvalRuns", spec := "evalRuns", unfollowed := true, recurses := true, apart := false, narrowed := true }
def EvalRunsUptoSaid : Prop := evalRunsUptoRow.holds Try.pinned (OpenSpec.upto evalRunsSpec)

/-- 'marlinelaw07.EvalReckons', WHERE WHAT IT READS IS OF BULK AT MOST 1048576: true; the input reads as it did. -/
def evalReckonsUptoRow : OpenClaim := { program := "ytpfokkfomgmibaa", sum := "34822a20f2b4a3ea8d721486bc3952603bf725c0b39b188fd7d156f1340569b5", func := "marline/marlinelaw07.EvalReckons", spec := "evalReckons", unfollowed := true, recurses := true, apart := false, narrowed := true }
def EvalReckonsUptoSaid : Prop := evalReckonsUptoRow.holds Try.pinned (OpenSpec.upto evalReckonsSpec)

/-- 'marlinelaw07.EvalFuel', WHERE WHAT IT READS IS OF BULK AT MOST 1048576: true; the input reads as it did. -/
def evalFuelUptoRow : OpenClaim := { program := "ytpfokkfomgmibaa", sum := "34822a20f2b4a3ea8d721486bc3952603bf725c0b39b188fd7d156f1340569b5", func := "marline/marlinelaw07.EvalFuel", spec := "evalFuel", unfollowed := true, recurses := true, apart := false, narrowed := true }
def EvalFuelUptoSaid : Prop := evalFuelUptoRow.holds Try.pinned (OpenSpec.upto evalFuelSpec)

/-- 'marlinelaw07.EvalAhead', WHERE WHAT IT READS IS OF BULK AT MOST 1048576: true; the input reads as it did. -/
def evalAheadUptoRow : OpenClaim := { program := "ytpfokkfomgmibaa", sum := "34822a20f2b4a3ea8d721486bc3952603bf725c0b39b188fd7d156f1340569b5", func := "marline/marlinelaw07.EvalAhead", spec := "evalAhead", unfollowed := true, recurses := true, apart := false, narrowed := true }
def EvalAheadUptoSaid : Prop := evalAheadUptoRow.holds Try.pinned (OpenSpec.upto evalAheadSpec)

/-- 'marlinelaw07.EvalCounts', WHERE WHAT IT READS IS OF BULK AT MOST 1048576: true; the input reads as it did. -/
def evalCountsUptoRow : OpenClaim := { program := "ytpfokkfomgmibaa", sum := "34822a20f2b4a3ea8d721486bc3952603bf725c0b39b188fd7d156f1340569b5", func := "marline/marlinelaw07.EvalCounts", spec := "evalCounts", unfollowed := true, recurses := true, apart := false, narrowed := true }
def EvalCountsUptoSaid : Prop := evalCountsUptoRow.holds Try.pinned (OpenSpec.upto evalCountsSpec)

/-- 'marlinelaw07.EvalDeep', WHERE WHAT IT READS IS OF BULK AT MOST 1048576: true; the input reads as it did. -/
def evalDeepUptoRow : OpenClaim := { program := "ytpfokkfomgmibaa", sum := "34822a20f2b4a3ea8d721486bc3952603bf725c0b39b188fd7d156f1340569b5", func := "marline/marlinelaw07.EvalDeep", spec := "evalDeep", unfollowed := true, recurses := true, apart := false, narrowed := true }
def EvalDeepUptoSaid : Prop := evalDeepUptoRow.holds Try.pinned (OpenSpec.upto evalDeepSpec)

/-- 'marlinelaw07.EvalStraight', WHERE WHAT IT READS IS OF BULK AT MOST 1048576: true; the input reads as it did. -/
def evalStraightUptoRow : OpenClaim := { program := "ytpfokkfomgmibaa", sum := "34822a20f2b4a3ea8d721486bc3952603bf725c0b39b188fd7d156f1340569b5", func := "marline/marlinelaw07.EvalStraight", spec := "evalStraight", unfollowed := true, recurses := true, apart := false, narrowed := true }
def EvalStraightUptoSaid : Prop := evalStraightUptoRow.holds Try.pinned (OpenSpec.upto evalStraightSpec)

/-- 'marlinelaw07.EvalShifts', WHERE WHAT IT READS IS OF BULK AT MOST 1048576: true; the input reads as it did. -/
def evalShiftsUptoRow : OpenClaim := { program := "ytpfokkfomgmibaa", sum := "34822a20f2b4a3ea8d721486bc3952603bf725c0b39b188fd7d156f1340569b5", func := "marline/marlinelaw07.EvalShifts", spec := "evalShifts", unfollowed := true, recurses := true, apart := false, narrowed := true }
def EvalShiftsUptoSaid : Prop := evalShiftsUptoRow.holds Try.pinned (OpenSpec.upto evalShiftsSpec)

end Rows
end Go.Proofs.Ytpfokkfomgmibaa
