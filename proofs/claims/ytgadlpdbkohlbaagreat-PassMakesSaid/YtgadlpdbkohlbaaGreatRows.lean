/-
  No cell of these rows narrows 'for every input' (looked for: loops, veiled, ifaces, maps, wideKeys, modest, calm, conditions, laid).
  DERIVED. THE GIVEN ROWS OF THIS SEAT. 4 by the template 'for every input the law returns true; each argument reads behind the call as it read before'; 0 by the template 'total and deterministic' (their statements: YtgadlpdbkohlbaaGreatTotals.lean).
  GIVEN WITH THE SEED: the statements are not yours to turn. If you find one false, say at which input.
  Laid BY PROGRAM, IN A SANDBOX (cutbox-rows.mjs): the forced cells as the released guide's own fill.sh prints them over the translation ae520eba472859df… (all of the seat's roots in one cut). By AI agents, Wed Nov 11 2026. No macro, syntax, notation, axiom, sorry.
-/
import Derived.Test.YtgadlpdbkohlbaaGreatChecked
import GoSem.Claim
import GoSem.ClaimJoined
import GoSem.ClaimMapViews
import Derived.JoinedTies
import Derived.KernelRfl
namespace Go.Proofs.YtgadlpdbkohlbaaGreat
/- THE CELL 'sum', in the pinned program and in every row, IS THE sha256 OF THE DUMP (.gsa) THAT YtgadlpdbkohlbaaGreatProg.lean LOADS. Nothing in Lean hashes anything: it is a label: what it is worth is what the hold of that sum in a sandbox is worth. -/
noncomputable def Tryz.pinned : Pinned := { name := "ytgadlpdbkohlbaagreat", sum := "ae520eba472859df5f5f152225a47f1e3b27747da09b4b7b9414794e89d66f60", checked := Tryz.checked }
namespace Rows
def none {H : Type} : Left H := { results := [], args := [] }

/-- 'marlinelaw15.PassMakes': WHATEVER THE INPUT: true; the input reads as it did. -/
def passMakesSpec : ChangeSpec := { name := "passMakes", fn := fun _ => fun
  | [d] => { results := [.lit (.bool true)], args := [d] }
  | _ => none }
def passMakesRow : OpenClaim := { program := "ytgadlpdbkohlbaagreat", sum := "ae520eba472859df5f5f152225a47f1e3b27747da09b4b7b9414794e89d66f60", func := "marline/marlinelaw15.PassMakes", spec := "passMakes", unfollowed := true, recurses := true, apart := false }
def PassMakesSaid : Prop := passMakesRow.holds Tryz.pinned (OpenSpec.ofChange passMakesSpec)

/-- ITS FALSE NEIGHBOUR: 'it returns false'. Refute it at one input. -/
def passMakesWrong : ChangeSpec := { name := "passMakes", fn := fun _ => fun
  | [d] => { results := [.lit (.bool false)], args := [d] }
  | _ => none }
def PassMakesWrongFalsely : Prop := passMakesRow.holds Tryz.pinned (OpenSpec.ofChange passMakesWrong)

/-- 'marlinelaw15.PassWhole': WHATEVER THE INPUT: true; the input reads as it did. -/
def passWholeSpec : ChangeSpec := { name := "passWhole", fn := fun _ => fun
  | [d1, d2, d3] => { results := [.lit (.bool true)], args := [d1, d2, d3] }
  | _ => none }
def passWholeRow : OpenClaim := { program := "ytgadlpdbkohlbaagreat", sum := "ae520eba472859df5f5f152225a47f1e3b27747da09b4b7b9414794e89d66f60", func := "marline/marlinelaw15.PassWhole", spec := "passWhole", unfollowed := true, recurses := true, apart := false }
def PassWholeSaid : Prop := passWholeRow.holds Tryz.pinned (OpenSpec.ofChange passWholeSpec)

/-- ITS FALSE NEIGHBOUR: 'it returns false'. Refute it at one input. -/
def passWholeWrong : ChangeSpec := { name := "passWhole", fn := fun _ => fun
  | [d1, d2, d3] => { results := [.lit (.bool false)], args := [d1, d2, d3] }
  | _ => none }
def PassWholeWrongFalsely : Prop := passWholeRow.holds Tryz.pinned (OpenSpec.ofChange passWholeWrong)

/-- 'marlinelaw15.PassRuns': WHATEVER THE INPUT: true; the input reads as it did. -/
def passRunsSpec : ChangeSpec := { name := "passRuns", fn := fun _ => fun
  | [d] => { results := [.lit (.bool true)], args := [d] }
  | _ => none }
def passRunsRow : OpenClaim := { program := "ytgadlpdbkohlbaagreat", sum := "ae520eba472859df5f5f152225a47f1e3b27747da09b4b7b9414794e89d66f60", func := "marline/marlinelaw15.PassRuns", spec := "passRuns", unfollowed := true, recurses := true, apart := false }
def PassRunsSaid : Prop := passRunsRow.holds Tryz.pinned (OpenSpec.ofChange passRunsSpec)

/-- ITS FALSE NEIGHBOUR: 'it returns false'. Refute it at one input. -/
def passRunsWrong : ChangeSpec := { name := "passRuns", fn := fun _ => fun
  | [d] => { results := [.lit (.bool false)], args := [d] }
  | _ => none }
def PassRunsWrongFalsely : Prop := passRunsRow.holds Tryz.pinned (OpenSpec.ofChange passRunsWrong)

/-- 'marlinelaw15.PassLists': WHATEVER THE INPUT: true; the input reads as it did. -/
def passListsSpec : ChangeSpec := { name := "passLists", fn := fun _ => fun
  | [d] => { results := [.lit (.bool true)], args := [d] }
  | _ => none }
def passListsRow : OpenClaim := { program := "ytgadlpdbkohlbaagreat", sum := "ae520eba472859df5f5f152225a47f1e3b27747da09b4b7b9414794e89d66f60", func := "marline/marlinelaw15.PassLists", spec := "passLists", unfollowed := true, recurses := true, apart := false }
def PassListsSaid : Prop := passListsRow.holds Tryz.pinned (OpenSpec.ofChange passListsSpec)

/-- ITS FALSE NEIGHBOUR: 'it returns false'. Refute it at one input. -/
def passListsWrong : ChangeSpec := { name := "passLists", fn := fun _ => fun
  | [d] => { results := [.lit (.bool false)], args := [d] }
  | _ => none }
def PassListsWrongFalsely : Prop := passListsRow.holds Tryz.pinned (OpenSpec.ofChange passListsWrong)

/- THE SECOND FORM. 'bulk': how many values and letters a reading holds, each counted each time it is reached (what is shared counts as often as it is met; a slice's spare places count too). A statement '..UptoSaid' is the law's where the arguments, and the package variables that the reading takes, are together of bulk at most 1048576: NARROWER than '..Said'. Prove '..Said' where nothing that the law and all that it calls make is longer than what came in: it says more and counts as full. Else prove '..UptoSaid'. A law counts once. -/
mutual
def uptoBulk {H : Type} : DataW H → Nat
  | .lit (.string bytes) => bytes.length + 1
  | .lit _ => 1
  | .nil => 1
  | .ptr d => uptoBulk d + 1
  | .slice elems spare => uptoBulkAll elems + uptoBulkAll spare + 1
  | .agg parts => uptoBulkAll parts + 1
  | .iface _ d => uptoBulk d + 1
  | .map entries => uptoBulkEntries entries + 1
  | .held _ => 1
def uptoBulkAll {H : Type} : List (DataW H) → Nat
  | [] => 0
  | d :: r => uptoBulk d + uptoBulkAll r
def uptoBulkEntries {H : Type} : List (Lit × DataW H) → Nat
  | [] => 0
  | x :: r => uptoBulkEntry x + uptoBulkEntries r
def uptoBulkEntry {H : Type} : Lit × DataW H → Nat
  | (.string bytes, d) => bytes.length + uptoBulk d + 1
  | (_, d) => uptoBulk d + 1
 end
def uptoSmall : (H : Type) → List (DataW H) → Bool := fun _ ds => decide (uptoBulkAll ds ≤ 1048576)
def OpenSpec.upto (s : _root_.Go.ChangeSpec) : _root_.Go.OpenSpec := { _root_.Go.OpenSpec.ofChange s with cond := some uptoSmall }

/-- 'marlinelaw15.PassMakes', WHERE WHAT IT READS IS OF BULK AT MOST 1048576: true; the input reads as it did. -/
def passMakesUptoRow : OpenClaim := { program := "ytgadlpdbkohlbaagreat", sum := "ae520eba472859df5f5f152225a47f1e3b27747da09b4b7b9414794e89d66f60", func := "marline/marlinelaw15.PassMakes", spec := "passMakes", unfollowed := true, recurses := true, apart := false, narrowed := true }
def PassMakesUptoSaid : Prop := passMakesUptoRow.holds Tryz.pinned (OpenSpec.upto passMakesSpec)

/-- 'marlinelaw15.PassWhole', WHERE WHAT IT READS IS OF BULK AT MOST 1048576: true; the input reads as it did. -/
def passWholeUptoRow : OpenClaim := { program := "ytgadlpdbkohlbaagreat", sum := "ae520eba472859df5f5f152225a47f1e3b27747da09b4b7b9414794e89d66f60", func := "marline/marlinelaw15.PassWhole", spec := "passWhole", unfollowed := true, recurses := true, apart := false, narrowed := true }
def PassWholeUptoSaid : Prop := passWholeUptoRow.holds Tryz.pinned (OpenSpec.upto passWholeSpec)

/-- 'marlinelaw15.PassRuns', WHERE WHAT IT READS IS OF BULK AT MOST 1048576: true; the input reads as it did. -/
def passRunsUptoRow : OpenClaim := { program := "ytgadlpdbkohlbaagreat", sum := "ae520eba472859df5f5f152225a47f1e3b27747da09b4b7b9414794e89d66f60", func := "marline/marlinelaw15.PassRuns", spec := "passRuns", unfollowed := true, recurses := true, apart := false, narrowed := true }
def PassRunsUptoSaid : Prop := passRunsUptoRow.holds Tryz.pinned (OpenSpec.upto passRunsSpec)

/-- 'marlinelaw15.PassLists', WHERE WHAT IT READS IS OF BULK AT MOST 1048576: true; the input reads as it did. -/
def passListsUptoRow : OpenClaim := { program := "ytgadlpdbkohlbaagreat", sum := "ae520eba472859df5f5f152225a47f1e3b27747da09b4b7b9414794e89d66f60", func := "marline/marlinelaw15.PassLists", spec := "passLists", unfollowed := true, recurses := true, apart := false, narrowed := true }
def PassListsUptoSaid : Prop := passListsUptoRow.holds Tryz.pinned (OpenSpec.upto passListsSpec)

end Rows
end Go.Proofs.YtgadlpdbkohlbaaGreat
