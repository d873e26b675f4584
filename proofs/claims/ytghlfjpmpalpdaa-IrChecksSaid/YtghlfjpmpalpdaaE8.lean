/- Contracts by the evaluator: the example at the head of layer 5's statements. -/
import Derived.Test.YtghlfjpmpalpdaaB8
import Derived.Test.YtghlfjpmpalpdaaE7
namespace Go.Proofs.Ytghlfjpmpalpdaa
open Go.RowKit

/-- The document's example. -/
def exF : Func := ⟨⟨#[109, 97, 105, 110]⟩, 2, 0, [⟨0, [⟨1, 0, 0, 7, ⟨#[]⟩, []⟩], 3, 0, 0, [], 0, []⟩]⟩
def exM : Module := ⟨[exF], []⟩

theorem at0 {n : Nat} (h : n < 1) : n = 0 := by omega

set_option maxRecDepth 10000 in
theorem shown5_pure : APure Try.prog 14 [] (.bool true) := by
  refine apureG _ _ Try.func14 (by kernel_rfl) t_marlinelaw05_shown u_marlinelaw05_shown rfl rfl (fun _ => ?_)
  simp [c_marlinelaw05_shown, r_marlinelaw05_shown]
  have hb : ∀ b ∈ exF.blocks, ∀ i ∈ b.ins, i.args.length ≤ 17592186044416 := by
    intro b hb i hi
    simp [exF] at hb
    subst hb
    simp at hi
    subst hi
    simp
  have hf := func_pure exF hb
  rw [show funcOk exF = true by decide] at hf
  have hc := check_pure exM (fun f hf => by simp [exM] at hf; subst hf; exact hb)
  rw [show checkE exM = 0 by decide] at hc
  have hblk : ∀ i (hi : i < exF.blocks.length), DLes (List.take 8 (List.drop (i * 8) [DV.int 0, .sl 6 1 fun i => List.take 6 (List.drop (i * 6) [DV.int 1, DV.int 0, DV.int 0, DV.lit (.int .u64 7), .str ⟨#[]⟩, .lit (.slice none 0 0)]), DV.int 3, DV.int 0, DV.int 0, .lit (.slice none 0 0), DV.int 0, .lit (.slice none 0 0)])) (blockC exF.blocks[i]) := by
    intro i hi
    obtain rfl := at0 hi
    refine ⟨DLe.refl _, insD_cells rfl fun k hk => ?_, DLe.refl _, DLe.refl _, DLe.refl _, intsD_nil, DLe.refl _, intsD_nil, trivial⟩
    obtain rfl := at0 hk
    exact ⟨DLe.refl _, DLe.refl _, DLe.refl _, DLe.refl _, DLe.refl _, intsD_nil, trivial⟩
  refine call_arg (ds := ?ds1) hf (by simp) (by simp) ?hd1 ?hle1 ?h1
  case hd1 => intro _; simp; rfl
  case hle1 => intro _; exact ⟨DLe_agg ⟨DLe.refl _, DLe.refl _, DLe.refl _, blocksD_cells rfl hblk, trivial⟩, trivial⟩
  simp
  refine call_arg (ds := ?ds2) hc (by simp) (by simp) ?hd2 ?hle2 ?h2
  case hd2 => intro _; simp; rfl
  case hle2 =>
    intro _
    refine ⟨DLe_agg ⟨funcsD_cells rfl fun k hk => ?_, globsD_nil, trivial⟩, trivial⟩
    obtain rfl := at0 hk
    exact ⟨DLe.refl _, DLe.refl _, DLe.refl _, blocksD_cells rfl hblk, trivial⟩
  simp

end Go.Proofs.Ytghlfjpmpalpdaa
