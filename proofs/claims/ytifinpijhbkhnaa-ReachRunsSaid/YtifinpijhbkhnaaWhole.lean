/- Plain laws of layer 7: whole modules; without what isn't reached. -/
import Derived.Test.YtifinpijhbkhnaaReach2
namespace Go.Proofs.Ytifinpijhbkhnaa
open Go.RowKit

def mainS : ByteArray := ⟨#[109, 97, 105, 110]⟩
def findG (m : Module) (s : ByteArray) : Option Glob := m.globs.find? fun g => decide (g.name = s)
/-- Is what a name tells there? -/
def thereB (m : Module) (s : ByteArray) : Bool := match findF m s with
  | some f => decide (f.blocks.length ≠ 0)
  | none => match findG m s with
    | some g => g.here
    | none => false
def mainB (m : Module) : Bool := match findF m mainS with
  | some f => decide (f.blocks.length ≠ 0) && decide (f.params = 0)
  | none => false
def wholeE (m : Module) : Int := if checkE m ≠ 0 then checkE m else if mainB m = true then (if (refsA m.funcs).all (thereB m) = true then 0 else 8) else 11

theorem wholeE_zero {m : Module} : wholeE m = 0 ↔ ModOk m ∧ mainB m = true ∧ ∀ s ∈ refsA m.funcs, thereB m s = true := by
  unfold wholeE
  split
  · rename_i h
    exact ⟨fun h' => absurd h' h, fun h' => absurd (checkE_zero.2 h'.1) h⟩
  · rename_i h
    have hok := checkE_zero.1 (Classical.not_not.1 h)
    split
    · rename_i hm
      split
      · rename_i ha
        exact ⟨fun _ => ⟨hok, hm, List.all_eq_true.1 ha⟩, fun _ => rfl⟩
      · rename_i ha
        exact ⟨fun h' => (by cases h'), fun h' => absurd (List.all_eq_true.2 h'.2.2) ha⟩
    · rename_i hm
      exact ⟨fun h' => (by cases h'), fun h' => absurd h'.2.1 hm⟩

theorem findG_drop {m : Module} {s : ByteArray} (h : Rch m (rootsL m) s) : findG (dropM m) s = findG m s := by
  unfold findG dropM
  refine find?_filter _ _ _ fun f hf hs => ?_
  obtain rfl : f.name = s := by simpa using hs
  exact mem_hasN.2 (fromL_mem.2 ⟨gname_mem hf, h⟩)
theorem thereB_drop {m : Module} {s : ByteArray} (h : Rch m (rootsL m) s) : thereB (dropM m) s = thereB m s := by
  unfold thereB
  rw [findF_drop h, findG_drop h]

theorem main_root {m : Module} (h : mainB m = true) : mainS ∈ rootsL m := by
  unfold mainB at h
  cases hf : findF m mainS with
  | none => rw [hf] at h; cases h
  | some f =>
    have h1 := List.mem_of_find?_eq_some hf
    have h2 : f.name = mainS := by simpa using List.find?_some hf
    exact rootsL_mem.2 (.inl ⟨f, h1, by unfold rootF; rw [h2]; simp [mainS], h2⟩)

/-- A whole module is whole without what isn't reached. -/
theorem whole_drop {m : Module} (h : wholeE m = 0) : wholeE (dropM m) = 0 := by
  obtain ⟨h1, h2, h3⟩ := wholeE_zero.1 h
  refine wholeE_zero.2 ⟨drop_ok h1, ?_, fun s hs => ?_⟩
  · have hr : Rch m (rootsL m) mainS := .root (main_root h2)
    unfold mainB at h2 ⊢
    rw [findF_drop hr]
    exact h2
  · rw [thereB_drop (named_stays h1 hs)]
    refine h3 s ?_
    obtain ⟨f, hf, hsf⟩ := List.mem_flatMap.1 hs
    exact List.mem_flatMap.2 ⟨f, (mem_dropF.1 hf).1, hsf⟩

end Go.Proofs.Ytifinpijhbkhnaa
