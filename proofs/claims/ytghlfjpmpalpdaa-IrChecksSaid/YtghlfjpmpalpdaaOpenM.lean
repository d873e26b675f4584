/- What arguments of this program's own types read as: globals, modules. -/
import Derived.Test.YtghlfjpmpalpdaaOpenD
namespace Go.Proofs.Ytghlfjpmpalpdaa
open Go.RowKit

def bModule (m : Module) : Prop := (∀ f ∈ m.funcs, bFunc f) ∧ m.funcs.length ≤ 2600000000000 ∧ m.globs.length ≤ 3600000000000

def szModule (m : Module) : Nat := (m.funcs.map szFunc).sum + (m.globs.map szGlob).sum + 2

section
variable {H : Type} {enc : TypeId × Value → H} {W : World}

set_option maxRecDepth 100000 in
theorem rdGlob : RdT enc Try.prog W 74 4 globC (fun _ => True) szGlob := by
  have h := rd_struct (enc := enc) (W := W) (n := 4) Try.underlying74 rfl (by kernel_rfl) (rd_cons (n := 1) (m := 3) rfl rdStr (rd_cons (n := 1) (m := 2) rfl rdInt (rd_cons (n := 1) (m := 1) rfl rdBool (rd_cons (n := 1) (m := 0) rfl rdU64 (rd_nil 4)))))
  exact h.map (fun p => ⟨p.1, p.2.1, p.2.2.1, p.2.2.2.1⟩) (fun _ => rfl) (fun _ _ => trivial) (fun p => by simp only [szGlob]; omega)

theorem rdGlobs : RdT enc Try.prog W 42 1 (fun xs : List Glob => [globsD xs]) (fun xs => xs.length ≤ 3600000000000) (fun xs => (xs.map szGlob).sum + 1) :=
  (rd_slice (C := globC) (n := 4) (b := 40) (by kernel_rfl) Try.underlying42 (by decide) (by kernel_rfl) (fun _ => rfl) rdGlob).map id (fun _ => rfl) (fun xs h => by
    have := h.2
    unfold reachBytes at this
    simp only [id]
    omega) (fun _ => Nat.le_refl _)

theorem rdFuncs : RdT enc Try.prog W 41 1 (fun xs : List Func => [funcsD xs]) (fun xs => (∀ x ∈ xs, bFunc x) ∧ xs.length ≤ 2600000000000) (fun xs => (xs.map szFunc).sum + 1) :=
  (rd_slice (C := funcC) (n := 4) (b := 56) (by kernel_rfl) Try.underlying41 (by decide) (by kernel_rfl) (fun _ => rfl) rdFunc).map id (fun _ => rfl) (fun xs h => ⟨h.1, by
    have := h.2
    unfold reachBytes at this
    simp only [id]
    omega⟩) (fun _ => Nat.le_refl _)

set_option maxRecDepth 100000 in
theorem rdModule : RdT enc Try.prog W 44 2 moduleC bModule szModule := by
  have h := rd_struct (enc := enc) (W := W) (n := 2) Try.underlying44 rfl (by kernel_rfl) (rd_cons (n := 1) (m := 1) rfl rdFuncs (rd_cons (n := 1) (m := 0) rfl rdGlobs (rd_nil 2)))
  exact h.map (fun p => ⟨p.1, p.2.1⟩) (fun _ => rfl) (fun p h => ⟨h.1.1, h.1.2, h.2.1⟩) (fun p => by simp only [szModule]; omega)

end

end Go.Proofs.Ytghlfjpmpalpdaa
