/- What arguments of this program's own types read as: rows of modules, files. -/
import Derived.Test.YtkpjokhiobclbaaOP
import Derived.Test.YtkpjokhiobclbaaPA
namespace Go.Proofs.Ytkpjokhiobclbaa
open Go.RowKit

def bFile (f : File) : Prop := (∀ m ∈ f.mods, bModule m) ∧ f.mods.length ≤ 2932031007317
def szFile (f : File) : Nat := (f.mods.map szModule).sum + 2
def bFiles (l : List File) : Prop := (∀ f ∈ l, bFile f) ∧ l.length ≤ 4398046510976

section
variable {H : Type} {enc : TypeId × Value → H} {W : World}

theorem rdMods : RdT enc Try.prog W 28 1 (fun xs : List Module => [modsD xs]) (fun xs => (∀ x ∈ xs, bModule x) ∧ xs.length ≤ 2932031007317) (fun xs => (xs.map szModule).sum + 1) :=
  (rd_slice (C := moduleC) (n := 2) (b := 48) (by kernel_rfl) Try.underlying28 (by decide) (by kernel_rfl) (fun _ => rfl) rdModule).map id (fun _ => rfl) (fun xs h => ⟨h.1, by
    have := h.2
    unfold reachBytes at this
    simp only [id]
    omega⟩) (fun _ => Nat.le_refl _)

set_option maxRecDepth 100000 in
theorem rdFile : RdT enc Try.prog W 42 2 fileC bFile szFile := by
  have h := rd_struct (enc := enc) (W := W) (n := 2) Try.underlying42 rfl (by kernel_rfl) (rd_cons (n := 1) (m := 1) rfl rdBool (rd_cons (n := 1) (m := 0) rfl rdMods (rd_nil 2)))
  exact h.map (fun p => ⟨p.1, p.2.1⟩) (fun p => by simp [fileC]) (fun p h => h.2.1) (fun p => by simp only [szFile]; omega)

theorem rdFiles : RdT enc Try.prog W 26 1 (fun xs : List File => [filesD xs]) bFiles (fun xs => (xs.map szFile).sum + 1) :=
  (rd_slice (C := fileC) (n := 2) (b := 32) (by kernel_rfl) Try.underlying26 (by decide) (by kernel_rfl) (fun _ => rfl) rdFile).map id (fun _ => rfl) (fun xs h => ⟨h.1, by
    have := h.2
    unfold reachBytes at this
    simp only [id]
    omega⟩) (fun _ => Nat.le_refl _)

end

theorem modFit_of {m : Module} (h : bModule m) : ModFit m where
  len := by have := h.2.1; have := h.2.2; omega
  args := fun f hf b hb i hi => (((h.1 f hf).1 b hb).1 i hi)
theorem filesOk_of {l : List File} (h : bFiles l) : FilesOk l := fun f hf => ⟨by have := (h.1 f hf).2; omega, fun m hm => modFit_of ((h.1 f hf).1 m hm)⟩
theorem files_len {l : List File} : l.length ≤ (l.map szFile).sum + 1 := by
  induction l with
  | nil => simp
  | cons x l ih => simp only [List.map_cons, List.sum_cons, List.length_cons]; have h2 : 2 ≤ szFile x := (by unfold szFile; omega); omega

end Go.Proofs.Ytkpjokhiobclbaa
