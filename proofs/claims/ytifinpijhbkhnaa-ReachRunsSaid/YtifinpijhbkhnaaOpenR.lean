/- What rows of strings read as; a module's bounds by its size. -/
import Derived.Test.YtifinpijhbkhnaaOP
import Derived.Test.YtifinpijhbkhnaaF3
namespace Go.Proofs.Ytifinpijhbkhnaa
open Go.ChangeShapes Go.WideShapes Go.ChangeAt Go.RowKit

theorem mem_sum {α : Type} (f : α → Nat) {l : List α} {x : α} (h : x ∈ l) : f x ≤ (l.map f).sum := by
  induction l with
  | nil => cases h
  | cons y l ih =>
    simp only [List.map_cons, List.sum_cons]
    rcases List.mem_cons.1 h with rfl | h
    · omega
    · have := ih h; omega
theorem sumR_le {α : Type} (f g : α → Nat) (h : ∀ x, f x ≤ g x) : ∀ l : List α, (l.map f).sum ≤ (l.map g).sum
  | [] => Nat.le_refl _
  | x :: l => by
    have h1 := h x
    have h2 := sumR_le f g h l
    simp only [List.map_cons, List.sum_cons]
    omega
theorem szBlockR_ins (b : Block) : b.ins.length ≤ szBlock b := by
  have h := sumR_le (fun _ => 1) szInst (fun i => by unfold szInst; omega) b.ins
  rw [sum_ones] at h
  unfold szBlock
  omega
theorem szFuncR_ins (f : Func) : (allIns f).length ≤ szFunc f := by
  have h := sumR_le (fun b => b.ins.length) szBlock szBlockR_ins f.blocks
  have e : (allIns f).length = (f.blocks.map fun b => b.ins.length).sum := by
    unfold allIns
    rw [List.length_flatMap]
  rw [← e] at h
  unfold szFunc
  omega
theorem szBlock_one (b : Block) : 1 ≤ szBlock b := by unfold szBlock; omega
theorem szFunc_blks (f : Func) : f.blocks.length ≤ szFunc f := by
  have h := sumR_le (fun _ => 1) szBlock szBlock_one f.blocks
  rw [sum_ones] at h
  unfold szFunc
  omega
theorem small_of {m : Module} (hb : bModule m) (hs : szModule m ≤ 1048576) : Small m where
  len := by
    have h1 := sumR_le (fun _ => 1) szFunc (fun f => by unfold szFunc; omega) m.funcs
    have h2 := sumR_le (fun _ => 1) szGlob (fun f => by unfold szGlob; omega) m.globs
    rw [sum_ones] at h1 h2
    unfold szModule at hs
    omega
  ins := fun f hf => by
    have h1 := mem_sum szFunc hf
    have h2 := szFuncR_ins f
    unfold szModule at hs
    omega
  blks := fun f hf => by
    have h1 := mem_sum szFunc hf
    have h2 := szFunc_blks f
    unfold szModule at hs
    omega
  args := fun f hf b hbf i hi => ((hb.1 f hf).1 b hbf).1 i hi

theorem rdStrs {H : Type} {enc : TypeId × Value → H} {W : World} : RdT enc Try.prog W 38 1 (fun xs : List ByteArray => [strsD xs]) (fun xs => xs.length ≤ 8796093022208) (fun xs => xs.length + 1) :=
  (rd_slice (C := strC) (n := 1) (b := 16) (by kernel_rfl) Try.underlying38 (by decide) (by kernel_rfl) (fun _ => rfl) rdStr).map id (fun _ => rfl) (fun xs h => by
    have := h.2
    unfold reachBytes at this
    simp only [id]
    omega) (fun xs => by
    have h := sumR_le (fun _ => 1) (fun s : ByteArray => s.size + 1) (fun s => by omega) xs
    rw [sum_ones] at h
    simp only [id]
    omega)

end Go.Proofs.Ytifinpijhbkhnaa
