/- Plain laws of layer 7: whole modules, what a run comes to. -/
import Derived.Test.YtciihchbiifgkaaLD
namespace Go.Proofs.Ytciihchbiifgkaa
open Go.RowKit

/-- Of a module: nothing in it is beyond what may be held. -/
structure Small (m : Module) : Prop where
  len : m.funcs.length + m.globs.length ≤ 1048576
  ins : ∀ f ∈ m.funcs, (allIns f).length ≤ 1048576
  blks : ∀ f ∈ m.funcs, f.blocks.length ≤ 1048576
  args : ∀ f ∈ m.funcs, ∀ b ∈ f.blocks, ∀ i ∈ b.ins, i.args.length ≤ 17592186044416
/-- What a run has done. -/
structure Wd where
  ended : Bool
  code : Int
  out : ByteArray
  read : Nat
  steps : Nat
  deep : Nat
  globs : List Int
  bad : Int
def valAt (l : List Int) (i : Int) : Int := l[i.toNat]?.getD 0
def pickI (vals l : List Int) : List Int := l.map (valAt vals)
def stepW (fuel : Nat) (w : Wd) : Wd := if w.steps = fuel then { w with bad := 12 } else { w with steps := w.steps + 1 }
def enterW (n : Nat) (w : Wd) : Wd := if w.deep < n then { w with deep := n } else w
/-- What holds of a run that is not over. -/
structure Good (m : Module) (fuel : Nat) (w : Wd) : Prop where
  bad : w.bad = 0
  steps : w.steps ≤ fuel
  out : w.out.size ≤ w.steps
  globs : w.globs.length = m.globs.length
  pos : ∀ v ∈ w.globs, 0 ≤ v
  read : w.read ≤ w.steps
  ended : w.ended = false
  code : w.code = 0
@[simp] theorem pickI_length (l k : List Int) : (pickI l k).length = k.length := by simp [pickI]
theorem stepW_go {fuel : Nat} {w : Wd} (h : ¬ w.steps = fuel) : stepW fuel w = { w with steps := w.steps + 1 } := by
  unfold stepW
  rw [if_neg h]
theorem Good.step {m : Module} {fuel : Nat} {w : Wd} (h : Good m fuel w) (hs : ¬ w.steps = fuel) : Good m fuel (stepW fuel w) := by
  rw [stepW_go hs]
  have := h.steps
  have := h.out
  have := h.read
  exact ⟨h.bad, by simp only []; omega, by simp only []; omega, h.globs, h.pos, by simp only []; omega, h.ended, h.code⟩
theorem Good.enter {m : Module} {fuel : Nat} {w : Wd} (h : Good m fuel w) (n : Nat) : Good m fuel (enterW n w) := by
  unfold enterW
  split
  · exact ⟨h.bad, h.steps, h.out, h.globs, h.pos, h.read, h.ended, h.code⟩
  · exact h
@[simp] theorem enterW_steps (n : Nat) (w : Wd) : (enterW n w).steps = w.steps := by unfold enterW; split <;> rfl
section
variable {m : Module} {inp : ByteArray} {fuel deep : Nat} {w : Wd} {f : Func} {at' i : Nat} {vals : List Int} {n : Nat}

end

end Go.Proofs.Ytciihchbiifgkaa
