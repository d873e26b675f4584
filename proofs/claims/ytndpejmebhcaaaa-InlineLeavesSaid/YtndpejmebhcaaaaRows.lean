/-
  No cell of these rows narrows 'for every input' (looked for: loops, veiled, ifaces, maps, wideKeys, modest, calm, conditions, laid).
  DERIVED. THE GIVEN ROWS OF THIS SEAT. 15 by the template 'for every input the law returns true; each argument reads behind the call as it read before'; 0 by the template 'total and deterministic' (their statements: YtndpejmebhcaaaaTotals.lean).
  GIVEN WITH THE SEED: the statements are not yours to turn. If you find one false, say at which input.
  Laid BY PROGRAM, IN A SANDBOX (cutbox-rows.mjs): the forced cells as the released guide's own fill.sh prints them over the translation a2d5320f76a5b044… (all of the seat's roots in one cut). By AI agents, Wed Nov 11 2026. No macro, syntax, notation, axiom, sorry.
-/
import Derived.Test.YtndpejmebhcaaaaChecked
import GoSem.Claim
import GoSem.ClaimJoined
import GoSem.ClaimMapViews
import Derived.JoinedTies
import Derived.KernelRfl
namespace Go.Proofs.Ytndpejmebhcaaaa
/- THE CELL 'sum', in the pinned program and in every row, IS THE sha256 OF THE DUMP (.gsa) THAT YtndpejmebhcaaaaProg.lean LOADS. Nothing in Lean hashes anything: it is a label: what it is worth is what the hold of that sum in a sandbox is worth. -/
noncomputable def Try.pinned : Pinned := { name := "ytndpejmebhcaaaa", sum := "a2d5320f76a5b044fe1a43a8d188d45452faa3cc5ee4e8c7eb8c53deda3d9cf0", checked := Try.checked }
namespace Rows
def none {H : Type} : Left H := { results := [], args := [] }

/-- 'marlinelaw14.InlineMakes': WHATEVER THE INPUT: true; the input reads as it did. -/
def inlineMakesSpec : ChangeSpec := { name := "inlineMakes", fn := fun _ => fun
  | [d1, d2] => { results := [.lit (.bool true)], args := [d1, d2] }
  | _ => none }
def inlineMakesRow : OpenClaim := { program := "ytndpejmebhcaaaa", sum := "a2d5320f76a5b044fe1a43a8d188d45452faa3cc5ee4e8c7eb8c53deda3d9cf0", func := "marline/marlinelaw14.InlineMakes", spec := "inlineMakes", unfollowed := true, recurses := true, apart := false }
def InlineMakesSaid : Prop := inlineMakesRow.holds Try.pinned (OpenSpec.ofChange inlineMakesSpec)

/-- ITS FALSE NEIGHBOUR: 'it returns false'. Refute it at one input. -/
def inlineMakesWrong : ChangeSpec := { name := "inlineMakes", fn := fun _ => fun
  | [d1, d2] => { results := [.lit (.bool false)], args := [d1, d2] }
  | _ => none }
def InlineMakesWrongFalsely : Prop := inlineMakesRow.holds Try.pinned (OpenSpec.ofChange inlineMakesWrong)

/-- 'marlinelaw14.InlineRight': WHATEVER THE INPUT: true; the input reads as it did. -/
def inlineRightSpec : ChangeSpec := { name := "inlineRight", fn := fun _ => fun
  | [d1, d2] => { results := [.lit (.bool true)], args := [d1, d2] }
  | _ => none }
def inlineRightRow : OpenClaim := { program := "ytndpejmebhcaaaa", sum := "a2d5320f76a5b044fe1a43a8d188d45452faa3cc5ee4e8c7eb8c53deda3d9cf0", func := "marline/marlinelaw14.InlineRight", spec := "inlineRight", unfollowed := true, recurses := true, apart := false }
def InlineRightSaid : Prop := inlineRightRow.holds Try.pinned (OpenSpec.ofChange inlineRightSpec)

/-- ITS FALSE NEIGHBOUR: 'it returns false'. Refute it at one input. -/
def inlineRightWrong : ChangeSpec := { name := "inlineRight", fn := fun _ => fun
  | [d1, d2] => { results := [.lit (.bool false)], args := [d1, d2] }
  | _ => none }
def InlineRightWrongFalsely : Prop := inlineRightRow.holds Try.pinned (OpenSpec.ofChange inlineRightWrong)

/-- 'marlinelaw14.InlineRuns': WHATEVER THE INPUT: true; the input reads as it did. -/
def inlineRunsSpec : ChangeSpec := { name := "inlineRuns", fn := fun _ => fun
  | [d] => { results := [.lit (.bool true)], args := [d] }
  | _ => none }
def inlineRunsRow : OpenClaim := { program := "ytndpejmebhcaaaa", sum := "a2d5320f76a5b044fe1a43a8d188d45452faa3cc5ee4e8c7eb8c53deda3d9cf0", func := "marline/marlinelaw14.InlineRuns", spec := "inlineRuns", unfollowed := true, recurses := true, apart := false }
def InlineRunsSaid : Prop := inlineRunsRow.holds Try.pinned (OpenSpec.ofChange inlineRunsSpec)

/-- ITS FALSE NEIGHBOUR: 'it returns false'. Refute it at one input. -/
def inlineRunsWrong : ChangeSpec := { name := "inlineRuns", fn := fun _ => fun
  | [d] => { results := [.lit (.bool false)], args := [d] }
  | _ => none }
def InlineRunsWrongFalsely : Prop := inlineRunsRow.holds Try.pinned (OpenSpec.ofChange inlineRunsWrong)

/-- 'marlinelaw14.InlineNone': WHATEVER THE INPUT: true; the input reads as it did. -/
def inlineNoneSpec : ChangeSpec := { name := "inlineNone", fn := fun _ => fun
  | [d1, d2] => { results := [.lit (.bool true)], args := [d1, d2] }
  | _ => none }
def inlineNoneRow : OpenClaim := { program := "ytndpejmebhcaaaa", sum := "a2d5320f76a5b044fe1a43a8d188d45452faa3cc5ee4e8c7eb8c53deda3d9cf0", func := "marline/marlinelaw14.InlineNone", spec := "inlineNone", unfollowed := true, recurses := true, apart := false }
def InlineNoneSaid : Prop := inlineNoneRow.holds Try.pinned (OpenSpec.ofChange inlineNoneSpec)

/-- ITS FALSE NEIGHBOUR: 'it returns false'. Refute it at one input. -/
def inlineNoneWrong : ChangeSpec := { name := "inlineNone", fn := fun _ => fun
  | [d1, d2] => { results := [.lit (.bool false)], args := [d1, d2] }
  | _ => none }
def InlineNoneWrongFalsely : Prop := inlineNoneRow.holds Try.pinned (OpenSpec.ofChange inlineNoneWrong)

/-- 'marlinelaw14.InlineLeaves': WHATEVER THE INPUT: true; the input reads as it did. -/
def inlineLeavesSpec : ChangeSpec := { name := "inlineLeaves", fn := fun _ => fun
  | [d1, d2] => { results := [.lit (.bool true)], args := [d1, d2] }
  | _ => none }
def inlineLeavesRow : OpenClaim := { program := "ytndpejmebhcaaaa", sum := "a2d5320f76a5b044fe1a43a8d188d45452faa3cc5ee4e8c7eb8c53deda3d9cf0", func := "marline/marlinelaw14.InlineLeaves", spec := "inlineLeaves", unfollowed := true, recurses := true, apart := false }
def InlineLeavesSaid : Prop := inlineLeavesRow.holds Try.pinned (OpenSpec.ofChange inlineLeavesSpec)

/-- ITS FALSE NEIGHBOUR: 'it returns false'. Refute it at one input. -/
def inlineLeavesWrong : ChangeSpec := { name := "inlineLeaves", fn := fun _ => fun
  | [d1, d2] => { results := [.lit (.bool false)], args := [d1, d2] }
  | _ => none }
def InlineLeavesWrongFalsely : Prop := inlineLeavesRow.holds Try.pinned (OpenSpec.ofChange inlineLeavesWrong)

/-- 'marlinelaw07.EvalRuns': WHATEVER THE INPUT: true; the input reads as it did. -/
def evalRunsSpec : ChangeSpec := { name := "evalRuns", fn := fun _ => fun
  | [d] => { results := [.lit (.bool true)], args := [d] }
  | _ => none }
def evalRunsRow : OpenClaim := { program := "ytndpejmebhcaaaa", sum := "a2d5320f76a5b044fe1a43a8d188d45452faa3cc5ee4e8c7eb8c53deda3d9cf0", func := "marline/marlinelaw07.EvalRuns", spec := "evalRuns", unfollowed := true, recurses := true, apart := false }
def EvalRunsSaid : Prop := evalRunsRow.holds Try.pinned (OpenSpec.ofChange evalRunsSpec)

/-- ITS FALSE NEIGHBOUR: 'it returns false'. Refute it at one input. -/
def evalRunsWrong : ChangeSpec := { name := "evalRuns", fn := fun _ => fun
  | [d] => { results := [.lit (.bool false)], args := [d] }
  | _ => none }
def EvalRunsWrongFalsely : Prop := evalRunsRow.holds Try.pinned (OpenSpec.ofChange evalRunsWrong)

/-- 'marlinelaw07.EvalReckons': WHATEVER THE INPUT: true; the input reads as it did. -/
def evalReckonsSpec : ChangeSpec := { name := "evalReckons", fn := fun _ => fun
  | [d1, d2, d3] => { results := [.lit (.bool true)], args := [d1, d2, d3] }
  | _ => none }
def evalReckonsRow : OpenClaim := { program := "ytndpejmebhcaaaa", sum := "a2d5320f76a5b044fe1a43a8d188d45452faa3cc5ee4e8c7eb8c53deda3d9cf0", func := "marline/marlinelaw07.EvalReckons", spec := "evalReckons", unfollowed := true, recurses := true, apart := false }
def EvalReckonsSaid : Prop := evalReckonsRow.holds Try.pinned (OpenSpec.ofChange evalReckonsSpec)

/-- ITS FALSE NEIGHBOUR: 'it returns false'. Refute it at one input. -/
def evalReckonsWrong : ChangeSpec := { name := "evalReckons", fn := fun _ => fun
  | [d1, d2, d3] => { results := [.lit (.bool false)], args := [d1, d2, d3] }
  | _ => none }
def EvalReckonsWrongFalsely : Prop := evalReckonsRow.holds Try.pinned (OpenSpec.ofChange evalReckonsWrong)

/-- 'marlinelaw07.EvalFuel': WHATEVER THE INPUT: true; the input reads as it did. -/
def evalFuelSpec : ChangeSpec := { name := "evalFuel", fn := fun _ => fun
  | [d] => { results := [.lit (.bool true)], args := [d] }
  | _ => none }
def evalFuelRow : OpenClaim := { program := "ytndpejmebhcaaaa", sum := "a2d5320f76a5b044fe1a43a8d188d45452faa3cc5ee4e8c7eb8c53deda3d9cf0", func := "marline/marlinelaw07.EvalFuel", spec := "evalFuel", unfollowed := true, recurses := true, apart := false }
def EvalFuelSaid : Prop := evalFuelRow.holds Try.pinned (OpenSpec.ofChange evalFuelSpec)

/-- ITS FALSE NEIGHBOUR: 'it returns false'. Refute it at one input. -/
def evalFuelWrong : ChangeSpec := { name := "evalFuel", fn := fun _ => fun
  | [d] => { results := [.lit (.bool false)], args := [d] }
  | _ => none }
def EvalFuelWrongFalsely : Prop := evalFuelRow.holds Try.pinned (OpenSpec.ofChange evalFuelWrong)

/-- 'marlinelaw07.EvalAhead': WHATEVER THE INPUT: true; the input reads as it did. -/
def evalAheadSpec : ChangeSpec := { name := "evalAhead", fn := fun _ => fun
  | [d] => { results := [.lit (.bool true)], args := [d] }
  | _ => none }
def evalAheadRow : OpenClaim := { program := "ytndpejmebhcaaaa", sum := "a2d5320f76a5b044fe1a43a8d188d45452faa3cc5ee4e8c7eb8c53deda3d9cf0", func := "marline/marlinelaw07.EvalAhead", spec := "evalAhead", unfollowed := true, recurses := true, apart := false }
def EvalAheadSaid : Prop := evalAheadRow.holds Try.pinned (OpenSpec.ofChange evalAheadSpec)

/-- ITS FALSE NEIGHBOUR: 'it returns false'. Refute it at one input. -/
def evalAheadWrong : ChangeSpec := { name := "evalAhead", fn := fun _ => fun
  | [d] => { results := [.lit (.bool false)], args := [d] }
  | _ => none }
def EvalAheadWrongFalsely : Prop := evalAheadRow.holds Try.pinned (OpenSpec.ofChange evalAheadWrong)

/-- 'marlinelaw07.EvalCounts': WHATEVER THE INPUT: true; the input reads as it did. -/
def evalCountsSpec : ChangeSpec := { name := "evalCounts", fn := fun _ => fun
  | [d] => { results := [.lit (.bool true)], args := [d] }
  | _ => none }
def evalCountsRow : OpenClaim := { program := "ytndpejmebhcaaaa", sum := "a2d5320f76a5b044fe1a43a8d188d45452faa3cc5ee4e8c7eb8c53deda3d9cf0", func := "marline/marlinelaw07.EvalCounts", spec := "evalCounts", unfollowed := true, recurses := true, apart := false }
def EvalCountsSaid : Prop := evalCountsRow.holds Try.pinned (OpenSpec.ofChange evalCountsSpec)

/-- ITS FALSE NEIGHBOUR: 'it returns false'. Refute it at one input. -/
def evalCountsWrong : ChangeSpec := { name := "evalCounts", fn := fun _ => fun
  | [d] => { results := [.lit (.bool false)], args := [d] }
  | _ => none }
def EvalCountsWrongFalsely : Prop := evalCountsRow.holds Try.pinned (OpenSpec.ofChange evalCountsWrong)

/-- 'marlinelaw07.EvalDeep': WHATEVER THE INPUT: true; the input reads as it did. -/
def evalDeepSpec : ChangeSpec := { name := "evalDeep", fn := fun _ => fun
  | [d] => { results := [.lit (.bool true)], args := [d] }
  | _ => none }
def evalDeepRow : OpenClaim := { program := "ytndpejmebhcaaaa", sum := "a2d5320f76a5b044fe1a43a8d188d45452faa3cc5ee4e8c7eb8c53deda3d9cf0", func := "marline/marlinelaw07.EvalDeep", spec := "evalDeep", unfollowed := true, recurses := true, apart := false }
def EvalDeepSaid : Prop := evalDeepRow.holds Try.pinned (OpenSpec.ofChange evalDeepSpec)

/-- ITS FALSE NEIGHBOUR: 'it returns false'. Refute it at one input. -/
def evalDeepWrong : ChangeSpec := { name := "evalDeep", fn := fun _ => fun
  | [d] => { results := [.lit (.bool false)], args := [d] }
  | _ => none }
def EvalDeepWrongFalsely : Prop := evalDeepRow.holds Try.pinned (OpenSpec.ofChange evalDeepWrong)

/-- 'marlinelaw07.EvalStraight': WHATEVER THE INPUT: true; the input reads as it did. -/
def evalStraightSpec : ChangeSpec := { name := "evalStraight", fn := fun _ => fun
  | [d1, d2] => { results := [.lit (.bool true)], args := [d1, d2] }
  | _ => none }
def evalStraightRow : OpenClaim := { program := "ytndpejmebhcaaaa", sum := "a2d5320f76a5b044fe1a43a8d188d45452faa3cc5ee4e8c7eb8c53deda3d9cf0", func := "marline/marlinelaw07.EvalStraight", spec := "evalStraight", unfollowed := true, recurses := true, apart := false }
def EvalStraightSaid : Prop := evalStraightRow.holds Try.pinned (OpenSpec.ofChange evalStraightSpec)

/-- ITS FALSE NEIGHBOUR: 'it returns false'. Refute it at one input. -/
def evalStraightWrong : ChangeSpec := { name := "evalStraight", fn := fun _ => fun
  | [d1, d2] => { results := [.lit (.bool false)], args := [d1, d2] }
  | _ => none }
def EvalStraightWrongFalsely : Prop := evalStraightRow.holds Try.pinned (OpenSpec.ofChange evalStraightWrong)

/-- 'marlinelaw07.EvalShifts': WHATEVER THE INPUT: true; the input reads as it did. -/
def evalShiftsSpec : ChangeSpec := { name := "evalShifts", fn := fun _ => fun
  | [d1, d2, d3] => { results := [.lit (.bool true)], args := [d1, d2, d3] }
  | _ => none }
def evalShiftsRow : OpenClaim := { program := "ytndpejmebhcaaaa", sum := "a2d5320f76a5b044fe1a43a8d188d45452faa3cc5ee4e8c7eb8c53deda3d9cf0", func := "marline/marlinelaw07.EvalShifts", spec := "evalShifts", unfollowed := true, recurses := true, apart := false }
def EvalShiftsSaid : Prop := evalShiftsRow.holds Try.pinned (OpenSpec.ofChange evalShiftsSpec)

/-- ITS FALSE NEIGHBOUR: 'it returns false'. Refute it at one input. -/
def evalShiftsWrong : ChangeSpec := { name := "evalShifts", fn := fun _ => fun
  | [d1, d2, d3] => { results := [.lit (.bool false)], args := [d1, d2, d3] }
  | _ => none }
def EvalShiftsWrongFalsely : Prop := evalShiftsRow.holds Try.pinned (OpenSpec.ofChange evalShiftsWrong)

/-- 'marlinelaw15.PassSmall': WHATEVER THE INPUT: true; the input reads as it did. -/
def passSmallSpec : ChangeSpec := { name := "passSmall", fn := fun _ => fun
  | [d1, d2] => { results := [.lit (.bool true)], args := [d1, d2] }
  | _ => none }
def passSmallRow : OpenClaim := { program := "ytndpejmebhcaaaa", sum := "a2d5320f76a5b044fe1a43a8d188d45452faa3cc5ee4e8c7eb8c53deda3d9cf0", func := "marline/marlinelaw15.PassSmall", spec := "passSmall", unfollowed := true, recurses := true, apart := false }
def PassSmallSaid : Prop := passSmallRow.holds Try.pinned (OpenSpec.ofChange passSmallSpec)

/-- ITS FALSE NEIGHBOUR: 'it returns false'. Refute it at one input. -/
def passSmallWrong : ChangeSpec := { name := "passSmall", fn := fun _ => fun
  | [d1, d2] => { results := [.lit (.bool false)], args := [d1, d2] }
  | _ => none }
def PassSmallWrongFalsely : Prop := passSmallRow.holds Try.pinned (OpenSpec.ofChange passSmallWrong)

/-- 'marlinelaw15.PassSteps': WHATEVER THE INPUT: true; the input reads as it did. -/
def passStepsSpec : ChangeSpec := { name := "passSteps", fn := fun _ => fun
  | [d] => { results := [.lit (.bool true)], args := [d] }
  | _ => none }
def passStepsRow : OpenClaim := { program := "ytndpejmebhcaaaa", sum := "a2d5320f76a5b044fe1a43a8d188d45452faa3cc5ee4e8c7eb8c53deda3d9cf0", func := "marline/marlinelaw15.PassSteps", spec := "passSteps", unfollowed := true, recurses := true, apart := false }
def PassStepsSaid : Prop := passStepsRow.holds Try.pinned (OpenSpec.ofChange passStepsSpec)

/-- ITS FALSE NEIGHBOUR: 'it returns false'. Refute it at one input. -/
def passStepsWrong : ChangeSpec := { name := "passSteps", fn := fun _ => fun
  | [d] => { results := [.lit (.bool false)], args := [d] }
  | _ => none }
def PassStepsWrongFalsely : Prop := passStepsRow.holds Try.pinned (OpenSpec.ofChange passStepsWrong)

/- THE SECOND FORM. 'bulk': how many values and letters a reading holds, each counted each time it is reached (what is shared counts as often as it is met; a slice's spare places count too). A statement '..UptoSaid' is the law's where the arguments, and the package variables that the reading takes, are together of bulk at most 1048576: NARROWER than '..Said'. Prove '..Said' where nothing that the law and all that it calls make is longer than what came in: it says more and counts as full. Else prove '..UptoSaid'. A law counts once. -/
mutual
def uptoBulk {H : Type} : DataW H → Nat
  | .lit (.string bytes) => bytes.length + 1
  | .lit _ => 1
  | .nil => 1
  | .ptr d => uptoBulk d + 1
  | .slice elems spare => uptoBulkAll elems + uptoBulkAll spare + 1
  | .agg parts => uptoBulkAll parts + 1
  | .iface _ d => uptoBulk d + 1
  | .map entries => uptoBulkEntries entries + 1
  | .held _ => 1
def uptoBulkAll {H : Type} : List (DataW H) → Nat
  | [] => 0
  | d :: r => uptoBulk d + uptoBulkAll r
def uptoBulkEntries {H : Type} : List (Lit × DataW H) → Nat
  | [] => 0
  | x :: r => uptoBulkEntry x + uptoBulkEntries r
def uptoBulkEntry {H : Type} : Lit × DataW H → Nat
  | (.string bytes, d) => bytes.length + uptoBulk d + 1
  | (_, d) => uptoBulk d + 1
 end
def uptoSmall : (H : Type) → List (DataW H) → Bool := fun _ ds => decide (uptoBulkAll ds ≤ 1048576)
def OpenSpec.upto (s : _root_.Go.ChangeSpec) : _root_.Go.OpenSpec := { _root_.Go.OpenSpec.ofChange s with cond := some uptoSmall }

/-- 'marlinelaw14.InlineMakes', WHERE WHAT IT READS IS OF BULK AT MOST 1048576: true; the input reads as it did. -/
def inlineMakesUptoRow : OpenClaim := { program := "ytndpejmebhcaaaa", sum := "a2d5320f76a5b044fe1a43a8d188d45452faa3cc5ee4e8c7eb8c53deda3d9cf0", func := "marline/marlinelaw14.InlineMakes", spec := "inlineMakes", unfollowed := true, recurses := true, apart := false, narrowed := true }
def InlineMakesUptoSaid : Prop := inlineMakesUptoRow.holds Try.pinned (OpenSpec.upto inlineMakesSpec)

/-- 'marlinelaw14.InlineRight', WHERE WHAT IT READS IS OF BULK AT MOST 1048576: true; the input reads as it did. -/
def inlineRightUptoRow : OpenClaim := { program := "ytndpejmebhcaaaa", sum := "a2d5320f76a5b044fe1a43a8d188d45452faa3cc5ee4e8c7eb8c53deda3d9cf0", func := "marline/marlinelaw14.InlineRight", spec := "inlineRight", unfollowed := true, recurses := true, apart := false, narrowed := true }
def InlineRightUptoSaid : Prop := inlineRightUptoRow.holds Try.pinned (OpenSpec.upto inlineRightSpec)

/-- 'marlinelaw14.InlineRuns', WHERE WHAT IT READS IS OF BULK AT MOST 1048576: true; the input reads as it did. -/
def inlineRunsUptoRow : OpenClaim := { program := "ytndpejmebhcaaaa", sum := "a2d5320f76a5b044fe1a43a8d188d45452faa3cc5ee4e8c7eb8c53deda3d9cf0", func := "marline/marlinelaw14.InlineRuns", spec := "inlineRuns", unfollowed := true, recurses := true, apart := false, narrowed := true }
def InlineRunsUptoSaid : Prop := inlineRunsUptoRow.holds Try.pinned (OpenSpec.upto inlineRunsSpec)

/-- 'marlinelaw14.InlineNone', WHERE WHAT IT READS IS OF BULK AT MOST 1048576: true; the input reads as it did. -/
def inlineNoneUptoRow : OpenClaim := { program := "ytndpejmebhcaaaa", sum := "a2d5320f76a5b044fe1a43a8d188d45452faa3cc5ee4e8c7eb8c53deda3d9cf0", func := "marline/marlinelaw14.InlineNone", spec := "inlineNone", unfollowed := true, recurses := true, apart := false, narrowed := true }
def InlineNoneUptoSaid : Prop := inlineNoneUptoRow.holds Try.pinned (OpenSpec.upto inlineNoneSpec)

/-- 'marlinelaw14.InlineLeaves', WHERE WHAT IT READS IS OF BULK AT MOST 1048576: true; the input reads as it did. -/
def inlineLeavesUptoRow : OpenClaim := { program := "ytndpejmebhcaaaa", sum := "a2d5320f76a5b044fe1a43a8d188d45452faa3cc5ee4e8c7eb8c53deda3d9cf0", func := "marline/marlinelaw14.InlineLeaves", spec := "inlineLeaves", unfollowed := true, recurses := true, apart := false, narrowed := true }
def InlineLeavesUptoSaid : Prop := inlineLeavesUptoRow.holds Try.pinned (OpenSpec.upto inlineLeavesSpec)

/-- 'marlinelaw07.EvalRuns', WHERE WHAT IT READS IS OF BULK AT MOST 1048576: true; the input reads as it did. -/
def evalRunsUptoRow : OpenClaim := { program := "ytndpejmebhcaaaa", sum := "a2d5320f76a5b044fe1a43a8d188d45452faa3cc5ee4e8c7eb8c53deda3d9cf0", func := "marline/marlinelaw07.EvalRuns", spec := "evalRuns", unfollowed := true, recurses := true, apart := false, narrowed := true }
def EvalRunsUptoSaid : Prop := evalRunsUptoRow.holds Try.pinned (OpenSpec.upto evalRunsSpec)

/-- 'marlinelaw07.EvalReckons', WHERE WHAT IT READS IS OF BULK AT MOST 1048576: true; the input reads as it did. -/
def evalReckonsUptoRow : OpenClaim := { program := "ytndpejmebhcaaaa", sum := "a2d5320f76a5b044fe1a43a8d188d45452faa3cc5ee4e8c7eb8c53deda3d9cf0", func := "marline/marlinelaw07.EvalReckons", spec := "evalReckons", unfollowed := true, recurses := true, apart := false, narrowed := true }
def EvalReckonsUptoSaid : Prop := evalReckonsUptoRow.holds Try.pinned (OpenSpec.upto evalReckonsSpec)

/-- 'marlinelaw07.EvalFuel', WHERE WHAT IT READS IS OF BULK AT MOST 1048576: true; the input reads as it did. -/
def evalFuelUptoRow : OpenClaim := { program := "ytndpejmebhcaaaa", sum := "a2d5320f76a5b044fe1a43a8d188d45452faa3cc5ee4e8c7eb8c53deda3d9cf0", func := "marline/marlinelaw07.EvalFuel", spec := "evalFuel", unfollowed := true, recurses := true, apart := false, narrowed := true }
def EvalFuelUptoSaid : Prop := evalFuelUptoRow.holds Try.pinned (OpenSpec.upto evalFuelSpec)

/-- 'marlinelaw07.EvalAhead', WHERE WHAT IT READS IS OF BULK AT MOST 1048576: true; the input reads as it did. -/
def evalAheadUptoRow : OpenClaim := { program := "ytndpejmebhcaaaa", sum := "a2d5320f76a5b044fe1a43a8d188d45452faa3cc5ee4e8c7eb8c53deda3d9cf0", func := "marline/marlinelaw07.EvalAhead", spec := "evalAhead", unfollowed := true, recurses := true, apart := false, narrowed := true }
def EvalAheadUptoSaid : Prop := evalAheadUptoRow.holds Try.pinned (OpenSpec.upto evalAheadSpec)

/-- 'marlinelaw07.EvalCounts', WHERE WHAT IT READS IS OF BULK AT MOST 1048576: true; the input reads as it did. -/
def evalCountsUptoRow : OpenClaim := { program := "ytndpejmebhcaaaa", sum := "a2d5320f76a5b044fe1a43a8d188d45452faa3cc5ee4e8c7eb8c53deda3d9cf0", func := "marline/marlinelaw07.EvalCounts", spec := "evalCounts", unfollowed := true, recurses := true, apart := false, narrowed := true }
def EvalCountsUptoSaid : Prop := evalCountsUptoRow.holds Try.pinned (OpenSpec.upto evalCountsSpec)

/-- 'marlinelaw07.EvalDeep', WHERE WHAT IT READS IS OF BULK AT MOST 1048576: true; the input reads as it did. -/
def evalDeepUptoRow : OpenClaim := { program := "ytndpejmebhcaaaa", sum := "a2d5320f76a5b044fe1a43a8d188d45452faa3cc5ee4e8c7eb8c53deda3d9cf0", func := "marline/marlinelaw07.EvalDeep", spec := "evalDeep", unfollowed := true, recurses := true, apart := false, narrowed := true }
def EvalDeepUptoSaid : Prop := evalDeepUptoRow.holds Try.pinned (OpenSpec.upto evalDeepSpec)

/-- 'marlinelaw07.EvalStraight', WHERE WHAT IT READS IS OF BULK AT MOST 1048576: true; the input reads as it did. -/
def evalStraightUptoRow : OpenClaim := { program := "ytndpejmebhcaaaa", sum := "a2d5320f76a5b044fe1a43a8d188d45452faa3cc5ee4e8c7eb8c53deda3d9cf0", func := "marline/marlinelaw07.EvalStraight", spec := "evalStraight", unfollowed := true, recurses := true, apart := false, narrowed := true }
def EvalStraightUptoSaid : Prop := evalStraightUptoRow.holds Try.pinned (OpenSpec.upto evalStraightSpec)

/-- 'marlinelaw07.EvalShifts', WHERE WHAT IT READS IS OF BULK AT MOST 1048576: true; the input reads as it did. -/
def evalShiftsUptoRow : OpenClaim := { program := "ytndpejmebhcaaaa", sum := "a2d5320f76a5b044fe1a43a8d188d45452faa3cc5ee4e8c7eb8c53deda3d9cf0", func := "marline/marlinelaw07.EvalShifts", spec := "evalShifts", unfollowed := true, recurses := true, apart := false, narrowed := true }
def EvalShiftsUptoSaid : Prop := evalShiftsUptoRow.holds Try.pinned (OpenSpec.upto evalShiftsSpec)

/-- 'marlinelaw15.PassSmall', WHERE WHAT IT READS IS OF BULK AT MOST 1048576: true; the input reads as it did. -/
def passSmallUptoRow : OpenClaim := { program := "ytndpejmebhcaaaa", sum := "a2d5320f76a5b044fe1a43a8d188d45452faa3cc5ee4e8c7eb8c53deda3d9cf0", func := "marline/marlinelaw15.PassSmall", spec := "passSmall", unfollowed := true, recurses := true, apart := false, narrowed := true }
def PassSmallUptoSaid : Prop := passSmallUptoRow.holds Try.pinned (OpenSpec.upto passSmallSpec)

/-- 'marlinelaw15.PassSteps', WHERE WHAT IT READS IS OF BULK AT MOST 1048576: true; the input reads as it did. -/
def passStepsUptoRow : OpenClaim := { program := "ytndpejmebhcaaaa", sum := "a2d5320f76a5b044fe1a43a8d188d45452faa3cc5ee4e8c7eb8c53deda3d9cf0", func := "marline/marlinelaw15.PassSteps", spec := "passSteps", unfollowed := true, recurses := true, apart := false, narrowed := true }
def PassStepsUptoSaid : Prop := passStepsUptoRow.holds Try.pinned (OpenSpec.upto passStepsSpec)

end Rows
end Go.Proofs.Ytndpejmebhcaaaa
