/- Contracts by the evaluator: layer 7's example; the statements EvalRuns and EvalReckons. -/
import Derived.Test.YtpfokkfomgmibaaS9
import Derived.Test.YtpfokkfomgmibaaSE
namespace Go.Proofs.Ytpfokkfomgmibaa
open Go.RowKit

/-- The document's example. -/
def exF7 : Func := ⟨⟨#[109, 97, 105, 110]⟩, 2, 0, [⟨0, [⟨1, 0, 0, 7, ⟨#[]⟩, []⟩], 3, 0, 0, [], 0, []⟩]⟩
def exM7 : Module := ⟨[exF7], []⟩
theorem exM7_run : runA exM7 ⟨#[]⟩ 100 1 = ⟨true, 7, ⟨#[]⟩, 0, 2, 1, [], 0⟩ := by kernel_rfl
theorem exF7_ins : ∀ b ∈ exF7.blocks, ∀ i ∈ b.ins, i.args.length ≤ 17592186044416 ∧ i.k < 18446744073709551616 := by
  intro b hb i hi
  simp [exF7] at hb
  subst hb
  simp at hi
  subst hi
  simp
theorem exM7_args : ArgsOk exM7 := fun f hf b hb i hi => by
  simp [exM7] at hf
  subst hf
  exact (exF7_ins b hb i hi).1
theorem exM7_k : KOk exM7 := ⟨fun f hf b hb i hi => by
  simp [exM7] at hf
  subst hf
  exact (exF7_ins b hb i hi).2, fun g hg => by cases hg⟩

theorem at07 {n : Nat} (h : n < 1) : n = 0 := by omega

set_option maxRecDepth 10000 in
theorem shown07_pure : APure Try.prog 11 [] (.bool true) := by
  refine apureG _ _ Try.func11 (by kernel_rfl) t_marlinelaw07_shown u_marlinelaw07_shown rfl rfl (fun _ => ?_)
  simp [c_marlinelaw07_shown, r_marlinelaw07_shown]
  have hc := erun_pure exM7 exM7_args exM7_k ⟨#[]⟩ 100 1
  rw [exM7_run] at hc
  have hblk : ∀ i (hi : i < exF7.blocks.length), DLes (List.take 8 (List.drop (i * 8) [DV.int 0, .sl 6 1 fun i => List.take 6 (List.drop (i * 6) [DV.int 1, DV.int 0, DV.int 0, DV.lit (.int .u64 7), .str ⟨#[]⟩, .lit (.slice none 0 0)]), DV.int 3, DV.int 0, DV.int 0, .lit (.slice none 0 0), DV.int 0, .lit (.slice none 0 0)])) (blockC exF7.blocks[i]) := by
    intro i hi
    obtain rfl := at07 hi
    refine ⟨DLe.refl _, insD_cells rfl fun k hk => ?_, DLe.refl _, DLe.refl _, DLe.refl _, intsD_nil, DLe.refl _, intsD_nil, trivial⟩
    obtain rfl := at07 hk
    exact ⟨DLe.refl _, DLe.refl _, DLe.refl _, DLe.refl _, DLe.refl _, intsD_nil, trivial⟩
  refine call_arg (ds := ?ds2) hc (by simp) (by simp) ?hd2 ?hle2 ?h2
  case hd2 => intro _; simp; rfl
  case hle2 =>
    intro _
    refine ⟨DLe_agg ⟨funcsD_cells rfl fun k hk => ?_, globsD_nil, trivial⟩, DLe.refl _, DLe.refl _, DLe.refl _, trivial⟩
    obtain rfl := at07 hk
    exact ⟨DLe.refl _, DLe.refl _, DLe.refl _, blocksD_cells rfl hblk, trivial⟩
  simp [traceC]

def mostI (n : Int) : Int := if 2000 < n ∧ n ≤ 100000 then 2000 else n
theorem most_pure (n : Int) : APure Try.prog 13 [.int n] (.int (mostI n)) := by
  refine apureG _ _ Try.func13 (by kernel_rfl) t_marlinelaw07_most u_marlinelaw07_most rfl rfl (fun _ => ?_)
  simp [c_marlinelaw07_most, r_marlinelaw07_most]
  unfold mostI
  refine ⟨fun h1 h2 => DLe.of_eq ?_, fun h => DLe.of_eq ?_⟩
  · rw [if_pos ⟨h1, h2⟩]
  · rw [if_neg (fun h' => by have := h h'.1; omega)]

set_option maxRecDepth 10000 in
theorem evalRuns_pure (m : Module) (hm : ArgsOk m) (hk : KOk m) (inp : ByteArray) (fuel deep : Int) : APure Try.prog 3 [.agg (moduleC m ++ [.str inp, .int fuel, .int deep])] (.bool true) := by
  refine apureG _ _ Try.func3 (by kernel_rfl) t_marlinelaw07_EvalRuns u_marlinelaw07_EvalRuns rfl rfl (fun _ => ?_)
  simp [c_marlinelaw07_EvalRuns, r_marlinelaw07_EvalRuns]
  refine call_plain (ds := []) _ (by simp) (by simp) (fun _ => rfl) (fun _ => shown07_pure) ?_
  simp
  refine call_plain (ds := [.int fuel]) _ (by simp) (by simp) (fun _ => by simp) (fun _ => most_pure fuel) ?_
  simp
  refine call_plain (ds := [.agg (moduleC m), .str inp, .int (mostI fuel), .int deep]) _ (by simp) (by simp) (fun _ => by simp; rfl) (fun _ => erun_pure m hm hk inp (mostI fuel) deep) ?_
  simp
  refine call_plain (ds := [.int fuel]) _ (by simp) (by simp) (fun _ => by simp) (fun _ => most_pure fuel) ?_
  simp
  refine call_plain (ds := [.agg (moduleC m), .str inp, .int (mostI fuel), .int deep]) _ (by simp) (by simp) (fun _ => by simp; rfl) (fun _ => run_pure m hm inp (mostI fuel) deep) ?_
  simp
  refine call_plain (ds := [.agg (moduleC m)]) _ (by simp) (by simp) (fun _ => by simp; rfl) (fun _ => ewhole_pure m hm) ?_
  simp
  refine call_plain (ds := [.agg (moduleC m)]) _ (by simp) (by simp) (fun _ => by simp; rfl) (fun _ => whole_any m hm) ?_
  simp

theorem evalReckons_pure (op a b : Int) (ha : 0 ≤ a ∧ a < 18446744073709551616) (hb : 0 ≤ b) : APure Try.prog 4 [.int op, .u64 a, .u64 b] (.bool true) := by
  refine apureG _ _ Try.func4 (by kernel_rfl) t_marlinelaw07_EvalReckons u_marlinelaw07_EvalReckons rfl rfl (fun _ => ?_)
  simp [c_marlinelaw07_EvalReckons, r_marlinelaw07_EvalReckons]
  refine call_plain (ds := []) _ (by simp) (by simp) (fun _ => rfl) (fun _ => shown07_pure) ?_
  simp
  refine call_plain (ds := [.int op, .u64 a, .u64 b]) _ (by simp) (by simp) (fun _ => by simp) (fun _ => ereckon_pure op a b ha hb) ?_
  simp
  refine call_plain (ds := [.int op, .u64 a, .u64 b]) _ (by simp) (by simp) (fun _ => by simp) (fun _ => reckon_pure op a b ha.1 hb) ?_
  simp

end Go.Proofs.Ytpfokkfomgmibaa
