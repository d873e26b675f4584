/- What arguments of this program's own types read as: instructions, blocks, functions, modules. -/
import Derived.Test.YtghlfjpmpalpdaaOpen
import Derived.Test.YtghlfjpmpalpdaaRows
namespace Go.Proofs.Ytghlfjpmpalpdaa
open Go.RowKit

/-- How much an argument weighs: values and letters, each time that they are reached. -/
def szInst (i : Inst) : Nat := i.name.size + i.args.length + 6
def szBlock (b : Block) : Nat := (b.ins.map szInst).sum + b.args.length + b.elses.length + 8
def szFunc (f : Func) : Nat := f.name.size + (f.blocks.map szBlock).sum + 4
def szGlob (g : Glob) : Nat := g.name.size + 4
theorem sum_ones {α : Type} (l : List α) : (l.map fun _ => 1).sum = l.length := by
  induction l with
  | nil => rfl
  | cons x l ih => simp only [List.map_cons, List.sum_cons, List.length_cons, ih]; omega

def bInst (i : Inst) : Prop := i.args.length ≤ 17592186044416
def bBlock (b : Block) : Prop := (∀ i ∈ b.ins, bInst i) ∧ b.args.length ≤ 17592186044416 ∧ b.elses.length ≤ 17592186044416 ∧ b.ins.length ≤ 1954687338268
def bFunc (f : Func) : Prop := (∀ b ∈ f.blocks, bBlock b) ∧ f.blocks.length ≤ 2000000000000

section
variable {H : Type} {enc : TypeId × Value → H} {W : World}

theorem rdInt : RdT enc Try.prog W 3 1 (fun n : Int => [.int n]) (fun n => -9223372036854775808 ≤ n ∧ n ≤ 9223372036854775807) (fun _ => 1) := rd_int (by kernel_rfl) Try.underlying3
theorem rdU64 : RdT enc Try.prog W 22 1 (fun n : Nat => [.lit (.int .u64 n)]) (fun n => n < 18446744073709551616) (fun _ => 1) := rd_u64 (by kernel_rfl) Try.underlying22
theorem rdBool : RdT enc Try.prog W 4 1 (fun b : Bool => [.bool b]) (fun _ => True) (fun _ => 1) := rd_bool (by kernel_rfl) Try.underlying4
theorem rdStr : RdT enc Try.prog W 9 1 (fun s : ByteArray => [.str s]) (fun s => s.size ≤ reachBytes) (fun s => s.size + 1) := rd_string (by kernel_rfl) Try.underlying9

theorem rdInts : RdT enc Try.prog W 23 1 (fun xs : List Int => [intsD xs]) (fun xs => xs.length ≤ 17592186044416) (fun xs => xs.length + 1) :=
  (rd_slice (C := intC) (n := 1) (b := 8) (by kernel_rfl) Try.underlying23 (by decide) (by kernel_rfl) (fun _ => rfl) rdInt).map id (fun _ => rfl) (fun xs h => by
    have := h.2
    unfold reachBytes at this
    simp only [id]
    omega) (fun xs => by rw [sum_ones]; exact Nat.le_refl _)

set_option maxRecDepth 100000 in
theorem rdInst : RdT enc Try.prog W 25 6 instC bInst szInst := by
  have h := rd_struct (enc := enc) (W := W) (n := 6) Try.underlying25 rfl (by kernel_rfl) (rd_cons (n := 1) (m := 5) rfl rdInt (rd_cons (n := 1) (m := 4) rfl rdInt (rd_cons (n := 1) (m := 3) rfl rdInt (rd_cons (n := 1) (m := 2) rfl rdU64 (rd_cons (n := 1) (m := 1) rfl rdStr (rd_cons (n := 1) (m := 0) rfl rdInts (rd_nil 6)))))))
  exact h.map (fun p => ⟨p.1, p.2.1, p.2.2.1, p.2.2.2.1, p.2.2.2.2.1, p.2.2.2.2.2.1⟩) (fun _ => rfl) (fun p h => h.2.2.2.2.2.1) (fun p => by simp only [szInst]; omega)

theorem rdIns : RdT enc Try.prog W 26 1 (fun xs : List Inst => [insD xs]) (fun xs => (∀ x ∈ xs, bInst x) ∧ xs.length ≤ 1954687338268) (fun xs => (xs.map szInst).sum + 1) :=
  (rd_slice (C := instC) (n := 6) (b := 72) (by kernel_rfl) Try.underlying26 (by decide) (by kernel_rfl) (fun _ => rfl) rdInst).map id (fun _ => rfl) (fun xs h => ⟨h.1, by
    have := h.2
    unfold reachBytes at this
    simp only [id]
    omega⟩) (fun _ => Nat.le_refl _)

set_option maxRecDepth 100000 in
theorem rdTerm : RdT enc Try.prog W 28 6 termC (fun b => b.args.length ≤ 17592186044416 ∧ b.elses.length ≤ 17592186044416) (fun b => b.args.length + b.elses.length + 6) := by
  have h := rd_struct (enc := enc) (W := W) (n := 6) Try.underlying28 rfl (by kernel_rfl) (rd_cons (n := 1) (m := 5) rfl rdInt (rd_cons (n := 1) (m := 4) rfl rdInt (rd_cons (n := 1) (m := 3) rfl rdInt (rd_cons (n := 1) (m := 2) rfl rdInts (rd_cons (n := 1) (m := 1) rfl rdInt (rd_cons (n := 1) (m := 0) rfl rdInts (rd_nil 6)))))))
  exact h.map (fun p => ⟨0, [], p.1, p.2.1, p.2.2.1, p.2.2.2.1, p.2.2.2.2.1, p.2.2.2.2.2.1⟩) (fun _ => rfl) (fun p h => ⟨h.2.2.2.1, h.2.2.2.2.2.1⟩) (fun p => by simp only []; omega)

set_option maxRecDepth 100000 in
theorem rdBlock : RdT enc Try.prog W 30 8 blockC bBlock szBlock := by
  have h := rd_struct (enc := enc) (W := W) (n := 8) Try.underlying30 rfl (by kernel_rfl) (rd_cons (n := 1) (m := 7) rfl rdInt (rd_cons (n := 1) (m := 6) rfl rdIns (rd_cons (n := 6) (m := 0) rfl rdTerm (rd_nil 8))))
  exact h.map (fun p => ⟨p.1, p.2.1, p.2.2.1.kind, p.2.2.1.ta, p.2.2.1.to, p.2.2.1.args, p.2.2.1.els, p.2.2.1.elses⟩) (fun _ => rfl) (fun p h => ⟨h.2.1.1, h.2.2.1.1, h.2.2.1.2, h.2.1.2⟩) (fun p => by simp only [szBlock]; omega)

theorem rdBlocks : RdT enc Try.prog W 37 1 (fun xs : List Block => [blocksD xs]) (fun xs => (∀ x ∈ xs, bBlock x) ∧ xs.length ≤ 2000000000000) (fun xs => (xs.map szBlock).sum + 1) :=
  (rd_slice (C := blockC) (n := 8) (b := 112) (by kernel_rfl) Try.underlying37 (by decide) (by kernel_rfl) (fun _ => rfl) rdBlock).map id (fun _ => rfl) (fun xs h => ⟨h.1, by
    have := h.2
    unfold reachBytes at this
    simp only [id]
    omega⟩) (fun _ => Nat.le_refl _)

set_option maxRecDepth 100000 in
theorem rdFunc : RdT enc Try.prog W 39 4 funcC bFunc szFunc := by
  have h := rd_struct (enc := enc) (W := W) (n := 4) Try.underlying39 rfl (by kernel_rfl) (rd_cons (n := 1) (m := 3) rfl rdStr (rd_cons (n := 1) (m := 2) rfl rdInt (rd_cons (n := 1) (m := 1) rfl rdInt (rd_cons (n := 1) (m := 0) rfl rdBlocks (rd_nil 4)))))
  exact h.map (fun p => ⟨p.1, p.2.1, p.2.2.1, p.2.2.2.1⟩) (fun _ => rfl) (fun p h => h.2.2.2.1) (fun p => by simp only [szFunc]; omega)

end

end Go.Proofs.Ytghlfjpmpalpdaa
