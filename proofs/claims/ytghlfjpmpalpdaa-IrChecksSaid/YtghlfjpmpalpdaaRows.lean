/-
  No cell of these rows narrows 'for every input' (looked for: loops, veiled, ifaces, maps, wideKeys, modest, calm, conditions, laid).
  DERIVED. THE GIVEN ROWS OF THIS SEAT. 11 by the template 'for every input the law returns true; each argument reads behind the call as it read before'; 0 by the template 'total and deterministic' (their statements: YtghlfjpmpalpdaaTotals.lean).
  GIVEN WITH THE SEED: the statements are not yours to turn. If you find one false, say at which input.
  Laid BY PROGRAM, IN A SANDBOX (cutbox-rows.mjs): the forced cells as the released guide's own fill.sh prints them over the translation 57681f7c5f6de24c… (all of the seat's roots in one cut). By AI agents, Wed Nov 11 2026. No macro, syntax, notation, axiom, sorry.
-/
import Derived.Test.YtghlfjpmpalpdaaChecked
import GoSem.Claim
import GoSem.ClaimJoined
import GoSem.ClaimMapViews
import Derived.JoinedTies
import Derived.KernelRfl
namespace Go.Proofs.Ytghlfjpmpalpdaa
/- THE CELL 'sum', in the pinned program and in every row, IS THE sha256 OF THE DUMP (.gsa) THAT YtghlfjpmpalpdaaProg.lean LOADS. Nothing in Lean hashes anything: it is a label: what it is worth is what the hold of that sum in a sandbox is worth. -/
noncomputable def Try.pinned : Pinned := { name := "ytghlfjpmpalpdaa", sum := "57681f7c5f6de24ca6b45c4f9a9ffc8a02c4b409b2bb6768b3e49f88ae8252dd", checked := Try.checked }
namespace Rows
def none {H : Type} : Left H := { results := [], args := [] }

/-- 'marlinelaw05.IrInsts': WHATEVER THE INPUT: true; the input reads as it did. -/
def irInstsSpec : ChangeSpec := { name := "irInsts", fn := fun _ => fun
  | [d1, d2, d3] => { results := [.lit (.bool true)], args := [d1, d2, d3] }
  | _ => none }
def irInstsRow : OpenClaim := { program := "ytghlfjpmpalpdaa", sum := "57681f7c5f6de24ca6b45c4f9a9ffc8a02c4b409b2bb6768b3e49f88ae8252dd", func := "marline/marlinelaw05.IrInsts", spec := "irInsts", unfollowed := true, recurses := true, apart := false }
def IrInstsSaid : Prop := irInstsRow.holds Try.pinned (OpenSpec.ofChange irInstsSpec)

/-- ITS FALSE NEIGHBOUR: 'it returns false'. Refute it at one input. -/
def irInstsWrong : ChangeSpec := { name := "irInsts", fn := fun _ => fun
  | [d1, d2, d3] => { results := [.lit (.bool false)], args := [d1, d2, d3] }
  | _ => none }
def IrInstsWrongFalsely : Prop := irInstsRow.holds Try.pinned (OpenSpec.ofChange irInstsWrong)

/-- 'marlinelaw05.IrAhead': WHATEVER THE INPUT: true; the input reads as it did. -/
def irAheadSpec : ChangeSpec := { name := "irAhead", fn := fun _ => fun
  | [d] => { results := [.lit (.bool true)], args := [d] }
  | _ => none }
def irAheadRow : OpenClaim := { program := "ytghlfjpmpalpdaa", sum := "57681f7c5f6de24ca6b45c4f9a9ffc8a02c4b409b2bb6768b3e49f88ae8252dd", func := "marline/marlinelaw05.IrAhead", spec := "irAhead", unfollowed := true, recurses := true, apart := false }
def IrAheadSaid : Prop := irAheadRow.holds Try.pinned (OpenSpec.ofChange irAheadSpec)

/-- ITS FALSE NEIGHBOUR: 'it returns false'. Refute it at one input. -/
def irAheadWrong : ChangeSpec := { name := "irAhead", fn := fun _ => fun
  | [d] => { results := [.lit (.bool false)], args := [d] }
  | _ => none }
def IrAheadWrongFalsely : Prop := irAheadRow.holds Try.pinned (OpenSpec.ofChange irAheadWrong)

/-- 'marlinelaw05.IrJumps': WHATEVER THE INPUT: true; the input reads as it did. -/
def irJumpsSpec : ChangeSpec := { name := "irJumps", fn := fun _ => fun
  | [d] => { results := [.lit (.bool true)], args := [d] }
  | _ => none }
def irJumpsRow : OpenClaim := { program := "ytghlfjpmpalpdaa", sum := "57681f7c5f6de24ca6b45c4f9a9ffc8a02c4b409b2bb6768b3e49f88ae8252dd", func := "marline/marlinelaw05.IrJumps", spec := "irJumps", unfollowed := true, recurses := true, apart := false }
def IrJumpsSaid : Prop := irJumpsRow.holds Try.pinned (OpenSpec.ofChange irJumpsSpec)

/-- ITS FALSE NEIGHBOUR: 'it returns false'. Refute it at one input. -/
def irJumpsWrong : ChangeSpec := { name := "irJumps", fn := fun _ => fun
  | [d] => { results := [.lit (.bool false)], args := [d] }
  | _ => none }
def IrJumpsWrongFalsely : Prop := irJumpsRow.holds Try.pinned (OpenSpec.ofChange irJumpsWrong)

/-- 'marlinelaw05.IrMore': WHATEVER THE INPUT: true; the input reads as it did. -/
def irMoreSpec : ChangeSpec := { name := "irMore", fn := fun _ => fun
  | [d1, d2] => { results := [.lit (.bool true)], args := [d1, d2] }
  | _ => none }
def irMoreRow : OpenClaim := { program := "ytghlfjpmpalpdaa", sum := "57681f7c5f6de24ca6b45c4f9a9ffc8a02c4b409b2bb6768b3e49f88ae8252dd", func := "marline/marlinelaw05.IrMore", spec := "irMore", unfollowed := true, recurses := true, apart := false }
def IrMoreSaid : Prop := irMoreRow.holds Try.pinned (OpenSpec.ofChange irMoreSpec)

/-- ITS FALSE NEIGHBOUR: 'it returns false'. Refute it at one input. -/
def irMoreWrong : ChangeSpec := { name := "irMore", fn := fun _ => fun
  | [d1, d2] => { results := [.lit (.bool false)], args := [d1, d2] }
  | _ => none }
def IrMoreWrongFalsely : Prop := irMoreRow.holds Try.pinned (OpenSpec.ofChange irMoreWrong)

/-- 'marlinelaw05.IrFuncs': WHATEVER THE INPUT: true; the input reads as it did. -/
def irFuncsSpec : ChangeSpec := { name := "irFuncs", fn := fun _ => fun
  | [d] => { results := [.lit (.bool true)], args := [d] }
  | _ => none }
def irFuncsRow : OpenClaim := { program := "ytghlfjpmpalpdaa", sum := "57681f7c5f6de24ca6b45c4f9a9ffc8a02c4b409b2bb6768b3e49f88ae8252dd", func := "marline/marlinelaw05.IrFuncs", spec := "irFuncs", unfollowed := true, recurses := true, apart := false }
def IrFuncsSaid : Prop := irFuncsRow.holds Try.pinned (OpenSpec.ofChange irFuncsSpec)

/-- ITS FALSE NEIGHBOUR: 'it returns false'. Refute it at one input. -/
def irFuncsWrong : ChangeSpec := { name := "irFuncs", fn := fun _ => fun
  | [d] => { results := [.lit (.bool false)], args := [d] }
  | _ => none }
def IrFuncsWrongFalsely : Prop := irFuncsRow.holds Try.pinned (OpenSpec.ofChange irFuncsWrong)

/-- 'marlinelaw05.IrLess': WHATEVER THE INPUT: true; the input reads as it did. -/
def irLessSpec : ChangeSpec := { name := "irLess", fn := fun _ => fun
  | [d1, d2] => { results := [.lit (.bool true)], args := [d1, d2] }
  | _ => none }
def irLessRow : OpenClaim := { program := "ytghlfjpmpalpdaa", sum := "57681f7c5f6de24ca6b45c4f9a9ffc8a02c4b409b2bb6768b3e49f88ae8252dd", func := "marline/marlinelaw05.IrLess", spec := "irLess", unfollowed := true, recurses := true, apart := false }
def IrLessSaid : Prop := irLessRow.holds Try.pinned (OpenSpec.ofChange irLessSpec)

/-- ITS FALSE NEIGHBOUR: 'it returns false'. Refute it at one input. -/
def irLessWrong : ChangeSpec := { name := "irLess", fn := fun _ => fun
  | [d1, d2] => { results := [.lit (.bool false)], args := [d1, d2] }
  | _ => none }
def IrLessWrongFalsely : Prop := irLessRow.holds Try.pinned (OpenSpec.ofChange irLessWrong)

/-- 'marlinelaw05.IrNames': WHATEVER THE INPUT: true; the input reads as it did. -/
def irNamesSpec : ChangeSpec := { name := "irNames", fn := fun _ => fun
  | [d] => { results := [.lit (.bool true)], args := [d] }
  | _ => none }
def irNamesRow : OpenClaim := { program := "ytghlfjpmpalpdaa", sum := "57681f7c5f6de24ca6b45c4f9a9ffc8a02c4b409b2bb6768b3e49f88ae8252dd", func := "marline/marlinelaw05.IrNames", spec := "irNames", unfollowed := true, recurses := true, apart := false }
def IrNamesSaid : Prop := irNamesRow.holds Try.pinned (OpenSpec.ofChange irNamesSpec)

/-- ITS FALSE NEIGHBOUR: 'it returns false'. Refute it at one input. -/
def irNamesWrong : ChangeSpec := { name := "irNames", fn := fun _ => fun
  | [d] => { results := [.lit (.bool false)], args := [d] }
  | _ => none }
def IrNamesWrongFalsely : Prop := irNamesRow.holds Try.pinned (OpenSpec.ofChange irNamesWrong)

/-- 'marlinelaw05.IrCounts': WHATEVER THE INPUT: true; the input reads as it did. -/
def irCountsSpec : ChangeSpec := { name := "irCounts", fn := fun _ => fun
  | [d] => { results := [.lit (.bool true)], args := [d] }
  | _ => none }
def irCountsRow : OpenClaim := { program := "ytghlfjpmpalpdaa", sum := "57681f7c5f6de24ca6b45c4f9a9ffc8a02c4b409b2bb6768b3e49f88ae8252dd", func := "marline/marlinelaw05.IrCounts", spec := "irCounts", unfollowed := true, recurses := true, apart := false }
def IrCountsSaid : Prop := irCountsRow.holds Try.pinned (OpenSpec.ofChange irCountsSpec)

/-- ITS FALSE NEIGHBOUR: 'it returns false'. Refute it at one input. -/
def irCountsWrong : ChangeSpec := { name := "irCounts", fn := fun _ => fun
  | [d] => { results := [.lit (.bool false)], args := [d] }
  | _ => none }
def IrCountsWrongFalsely : Prop := irCountsRow.holds Try.pinned (OpenSpec.ofChange irCountsWrong)

/-- 'marlinelaw05.IrChecks': WHATEVER THE INPUT: true; the input reads as it did. -/
def irChecksSpec : ChangeSpec := { name := "irChecks", fn := fun _ => fun
  | [d1, d2] => { results := [.lit (.bool true)], args := [d1, d2] }
  | _ => none }
def irChecksRow : OpenClaim := { program := "ytghlfjpmpalpdaa", sum := "57681f7c5f6de24ca6b45c4f9a9ffc8a02c4b409b2bb6768b3e49f88ae8252dd", func := "marline/marlinelaw05.IrChecks", spec := "irChecks", unfollowed := true, recurses := true, apart := false }
def IrChecksSaid : Prop := irChecksRow.holds Try.pinned (OpenSpec.ofChange irChecksSpec)

/-- ITS FALSE NEIGHBOUR: 'it returns false'. Refute it at one input. -/
def irChecksWrong : ChangeSpec := { name := "irChecks", fn := fun _ => fun
  | [d1, d2] => { results := [.lit (.bool false)], args := [d1, d2] }
  | _ => none }
def IrChecksWrongFalsely : Prop := irChecksRow.holds Try.pinned (OpenSpec.ofChange irChecksWrong)

/-- 'marlinelaw14.InlinePuts': WHATEVER THE INPUT: true; the input reads as it did. -/
def inlinePutsSpec : ChangeSpec := { name := "inlinePuts", fn := fun _ => fun
  | [d] => { results := [.lit (.bool true)], args := [d] }
  | _ => none }
def inlinePutsRow : OpenClaim := { program := "ytghlfjpmpalpdaa", sum := "57681f7c5f6de24ca6b45c4f9a9ffc8a02c4b409b2bb6768b3e49f88ae8252dd", func := "marline/marlinelaw14.InlinePuts", spec := "inlinePuts", unfollowed := true, recurses := true, apart := false }
def InlinePutsSaid : Prop := inlinePutsRow.holds Try.pinned (OpenSpec.ofChange inlinePutsSpec)

/-- ITS FALSE NEIGHBOUR: 'it returns false'. Refute it at one input. -/
def inlinePutsWrong : ChangeSpec := { name := "inlinePuts", fn := fun _ => fun
  | [d] => { results := [.lit (.bool false)], args := [d] }
  | _ => none }
def InlinePutsWrongFalsely : Prop := inlinePutsRow.holds Try.pinned (OpenSpec.ofChange inlinePutsWrong)

/-- 'marlinelaw14.InlineGone': WHATEVER THE INPUT: true; the input reads as it did. -/
def inlineGoneSpec : ChangeSpec := { name := "inlineGone", fn := fun _ => fun
  | [d] => { results := [.lit (.bool true)], args := [d] }
  | _ => none }
def inlineGoneRow : OpenClaim := { program := "ytghlfjpmpalpdaa", sum := "57681f7c5f6de24ca6b45c4f9a9ffc8a02c4b409b2bb6768b3e49f88ae8252dd", func := "marline/marlinelaw14.InlineGone", spec := "inlineGone", unfollowed := true, recurses := true, apart := false }
def InlineGoneSaid : Prop := inlineGoneRow.holds Try.pinned (OpenSpec.ofChange inlineGoneSpec)

/-- ITS FALSE NEIGHBOUR: 'it returns false'. Refute it at one input. -/
def inlineGoneWrong : ChangeSpec := { name := "inlineGone", fn := fun _ => fun
  | [d] => { results := [.lit (.bool false)], args := [d] }
  | _ => none }
def InlineGoneWrongFalsely : Prop := inlineGoneRow.holds Try.pinned (OpenSpec.ofChange inlineGoneWrong)

/- THE SECOND FORM. 'bulk': how many values and letters a reading holds, each counted each time it is reached (what is shared counts as often as it is met; a slice's spare places count too). A statement '..UptoSaid' is the law's where the arguments, and the package variables that the reading takes, are together of bulk at most 1048576: NARROWER than '..Said'. Prove '..Said' where nothing that the law and all that it calls make is longer than what came in: it says more and counts as full. Else prove '..UptoSaid'. A law counts once. -/
mutual
def uptoBulk {H : Type} : DataW H → Nat
  | .lit (.string bytes) => bytes.length + 1
  | .lit _ => 1
  | .nil => 1
  | .ptr d => uptoBulk d + 1
  | .slice elems spare => uptoBulkAll elems + uptoBulkAll spare + 1
  | .agg parts => uptoBulkAll parts + 1
  | .iface _ d => uptoBulk d + 1
  | .map entries => uptoBulkEntries entries + 1
  | .held _ => 1
def uptoBulkAll {H : Type} : List (DataW H) → Nat
  | [] => 0
  | d :: r => uptoBulk d + uptoBulkAll r
def uptoBulkEntries {H : Type} : List (Lit × DataW H) → Nat
  | [] => 0
  | x :: r => uptoBulkEntry x + uptoBulkEntries r
def uptoBulkEntry {H : Type} : Lit × DataW H → Nat
  | (.string bytes, d) => bytes.length + uptoBulk d + 1
  | (_, d) => uptoBulk d + 1
 end
def uptoSmall : (H : Type) → List (DataW H) → Bool := fun _ ds => decide (uptoBulkAll ds ≤ 1048576)
def OpenSpec.upto (s : _root_.Go.ChangeSpec) : _root_.Go.OpenSpec := { _root_.Go.OpenSpec.ofChange s with cond := some uptoSmall }

/-- 'marlinelaw05.IrInsts', WHERE WHAT IT READS IS OF BULK AT MOST 1048576: true; the input reads as it did. -/
def irInstsUptoRow : OpenClaim := { program := "ytghlfjpmpalpdaa", sum := "57681f7c5f6de24ca6b45c4f9a9ffc8a02c4b409b2bb6768b3e49f88ae8252dd", func := "marline/marlinelaw05.IrInsts", spec := "irInsts", unfollowed := true, recurses := true, apart := false, narrowed := true }
def IrInstsUptoSaid : Prop := irInstsUptoRow.holds Try.pinned (OpenSpec.upto irInstsSpec)

/-- 'marlinelaw05.IrAhead', WHERE WHAT IT READS IS OF BULK AT MOST 1048576: true; the input reads as it did. -/
def irAheadUptoRow : OpenClaim := { program := "ytghlfjpmpalpdaa", sum := "57681f7c5f6de24ca6b45c4f9a9ffc8a02c4b409b2bb6768b3e49f88ae8252dd", func := "marline/marlinelaw05.IrAhead", spec := "irAhead", unfollowed := true, recurses := true, apart := false, narrowed := true }
def IrAheadUptoSaid : Prop := irAheadUptoRow.holds Try.pinned (OpenSpec.upto irAheadSpec)

/-- 'marlinelaw05.IrJumps', WHERE WHAT IT READS IS OF BULK AT MOST 1048576: true; the input reads as it did. -/
def irJumpsUptoRow : OpenClaim := { program := "ytghlfjpmpalpdaa", sum := "57681f7c5f6de24ca6b45c4f9a9ffc8a02c4b409b2bb6768b3e49f88ae8252dd", func := "marline/marlinelaw05.IrJumps", spec := "irJumps", unfollowed := true, recurses := true, apart := false, narrowed := true }
def IrJumpsUptoSaid : Prop := irJumpsUptoRow.holds Try.pinned (OpenSpec.upto irJumpsSpec)

/-- 'marlinelaw05.IrMore', WHERE WHAT IT READS IS OF BULK AT MOST 1048576: true; the input reads as it did. -/
def irMoreUptoRow : OpenClaim := { program := "ytghlfjpmpalpdaa", sum := "57681f7c5f6de24ca6b45c4f9a9ffc8a02c4b409b2bb6768b3e49f88ae8252dd", func := "marline/marlinelaw05.IrMore", spec := "irMore", unfollowed := true, recurses := true, apart := false, narrowed := true }
def IrMoreUptoSaid : Prop := irMoreUptoRow.holds Try.pinned (OpenSpec.upto irMoreSpec)

/-- 'marlinelaw05.IrFuncs', WHERE WHAT IT READS IS OF BULK AT MOST 1048576: true; the input reads as it did. -/
def irFuncsUptoRow : OpenClaim := { program := "ytghlfjpmpalpdaa", sum := "57681f7c5f6de24ca6b45c4f9a9ffc8a02c4b409b2bb6768b3e49f88ae8252dd", func := "marline/marlinelaw05.IrFuncs", spec := "irFuncs", unfollowed := true, recurses := true, apart := false, narrowed := true }
def IrFuncsUptoSaid : Prop := irFuncsUptoRow.holds Try.pinned (OpenSpec.upto irFuncsSpec)

/-- 'marlinelaw05.IrLess', WHERE WHAT IT READS IS OF BULK AT MOST 1048576: true; the input reads as it did. -/
def irLessUptoRow : OpenClaim := { program := "ytghlfjpmpalpdaa", sum := "57681f7c5f6de24ca6b45c4f9a9ffc8a02c4b409b2bb6768b3e49f88ae8252dd", func := "marline/marlinelaw05.IrLess", spec := "irLess", unfollowed := true, recurses := true, apart := false, narrowed := true }
def IrLessUptoSaid : Prop := irLessUptoRow.holds Try.pinned (OpenSpec.upto irLessSpec)

/-- 'marlinelaw05.IrNames', WHERE WHAT IT READS IS OF BULK AT MOST 1048576: true; the input reads as it did. -/
def irNamesUptoRow : OpenClaim := { program := "ytghlfjpmpalpdaa", sum := "57681f7c5f6de24ca6b45c4f9a9ffc8a02c4b409b2bb6768b3e49f88ae8252dd", func := "marline/marlinelaw05.IrNames", spec := "irNames", unfollowed := true, recurses := true, apart := false, narrowed := true }
def IrNamesUptoSaid : Prop := irNamesUptoRow.holds Try.pinned (OpenSpec.upto irNamesSpec)

/-- 'marlinelaw05.IrCounts', WHERE WHAT IT READS IS OF BULK AT MOST 1048576: true; the input reads as it did. -/
def irCountsUptoRow : OpenClaim := { program := "ytghlfjpmpalpdaa", sum := "57681f7c5f6de24ca6b45c4f9a9ffc8a02c4b409b2bb6768b3e49f88ae8252dd", func := "marline/marlinelaw05.IrCounts", spec := "irCounts", unfollowed := true, recurses := true, apart := false, narrowed := true }
def IrCountsUptoSaid : Prop := irCountsUptoRow.holds Try.pinned (OpenSpec.upto irCountsSpec)

/-- 'marlinelaw05.IrChecks', WHERE WHAT IT READS IS OF BULK AT MOST 1048576: true; the input reads as it did. -/
def irChecksUptoRow : OpenClaim := { program := "ytghlfjpmpalpdaa", sum := "57681f7c5f6de24ca6b45c4f9a9ffc8a02c4b409b2bb6768b3e49f88ae8252dd", func := "marline/marlinelaw05.IrChecks", spec := "irChecks", unfollowed := true, recurses := true, apart := false, narrowed := true }
def IrChecksUptoSaid : Prop := irChecksUptoRow.holds Try.pinned (OpenSpec.upto irChecksSpec)

/-- 'marlinelaw14.InlinePuts', WHERE WHAT IT READS IS OF BULK AT MOST 1048576: true; the input reads as it did. -/
def inlinePutsUptoRow : OpenClaim := { program := "ytghlfjpmpalpdaa", sum := "57681f7c5f6de24ca6b45c4f9a9ffc8a02c4b409b2bb6768b3e49f88ae8252dd", func := "marline/marlinelaw14.InlinePuts", spec := "inlinePuts", unfollowed := true, recurses := true, apart := false, narrowed := true }
def InlinePutsUptoSaid : Prop := inlinePutsUptoRow.holds Try.pinned (OpenSpec.upto inlinePutsSpec)

/-- 'marlinelaw14.InlineGone', WHERE WHAT IT READS IS OF BULK AT MOST 1048576: true; the input reads as it did. -/
def inlineGoneUptoRow : OpenClaim := { program := "ytghlfjpmpalpdaa", sum := "57681f7c5f6de24ca6b45c4f9a9ffc8a02c4b409b2bb6768b3e49f88ae8252dd", func := "marline/marlinelaw14.InlineGone", spec := "inlineGone", unfollowed := true, recurses := true, apart := false, narrowed := true }
def InlineGoneUptoSaid : Prop := inlineGoneUptoRow.holds Try.pinned (OpenSpec.upto inlineGoneSpec)

end Rows
end Go.Proofs.Ytghlfjpmpalpdaa
