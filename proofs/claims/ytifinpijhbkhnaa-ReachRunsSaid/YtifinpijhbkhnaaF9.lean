/- Contracts by the evaluator: layer 11's example. -/
import Derived.Test.YtifinpijhbkhnaaF8
import Derived.Test.YtifinpijhbkhnaaFun
import Derived.Test.YtifinpijhbkhnaaRB
namespace Go.Proofs.Ytifinpijhbkhnaa
open Go.RowKit

def exM : Module := ⟨[exF ⟨#[109, 97, 105, 110]⟩ 2 ⟨#[102]⟩, exF ⟨#[102]⟩ 1 ⟨#[]⟩, exF ⟨#[103]⟩ 1 ⟨#[]⟩], []⟩

theorem exM_drop : dropM exM = ⟨[exF ⟨#[109, 97, 105, 110]⟩ 2 ⟨#[102]⟩, exF ⟨#[102]⟩ 1 ⟨#[]⟩], []⟩ := by kernel_rfl
theorem exM_deep : deepL exM = [⟨#[102]⟩, ⟨#[109, 97, 105, 110]⟩, ⟨#[103]⟩] := by kernel_rfl
theorem exM_small : Small exM where
  len := by decide
  ins := by decide
  blks := by decide
  args := by decide +kernel

theorem row3 (f g h : Func) : DLes [.agg [.sl 4 3 fun i => List.take 4 (List.drop (i * 4) [.str f.name, .int f.bind, .int f.params, blocksD f.blocks, .str g.name, .int g.bind, .int g.params, blocksD g.blocks, .str h.name, .int h.bind, .int h.params, blocksD h.blocks]), .lit (.slice none 0 0)]] [.agg (moduleC ⟨[f, g, h], []⟩)] := by
  refine ⟨DLe.agg rfl fun i h1 h2 => ?_, trivial⟩
  rcases i with _ | _ | i
  · refine funcsD_le (xs := [f, g, h]) rfl fun i hi => ?_
    have hi : i < 3 := hi
    rcases i with _ | _ | _ | i
    · rfl
    · rfl
    · rfl
    · omega
  · exact globsD_nil
  · simp at h1; omega

set_option maxRecDepth 10000 in
theorem shown11_pure : APure Try.prog 17 [] (.bool true) := by
  refine apureG _ _ Try.func17 (by kernel_rfl) t_marlinelaw11_shown u_marlinelaw11_shown rfl rfl (fun _ => ?_)
  simp [c_marlinelaw11_shown, r_marlinelaw11_shown]
  refine call_plain (ds := [.str ⟨#[109, 97, 105, 110]⟩, .int 2, .str ⟨#[102]⟩]) _ (by simp) (by simp) (fun _ => rfl) (fun _ => fun_pure _ _ _) ?_
  simp
  refine call_plain (ds := [.str ⟨#[102]⟩, .int 1, .str ⟨#[]⟩]) _ (by simp) (by simp) (fun _ => rfl) (fun _ => fun_pure _ _ _) ?_
  simp
  refine call_plain (ds := [.str ⟨#[103]⟩, .int 1, .str ⟨#[]⟩]) _ (by simp) (by simp) (fun _ => rfl) (fun _ => fun_pure _ _ _) ?_
  simp
  refine call_arg (ds' := [.agg (moduleC exM)]) (drop_pure exM exM_small) (by simp) (by simp) (fun _ => rfl) (fun _ => ?_) ?_
  · exact row3 _ _ _
  rw [exM_drop]
  simp
  refine call_arg (ds' := [.agg (moduleC exM)]) (deepest_pure exM exM_small) (by simp) (by simp) (fun _ => rfl) (fun _ => ?_) ?_
  · exact row3 _ _ _
  rw [exM_deep]
  simp
  exact DLe_bool (by decide)

end Go.Proofs.Ytifinpijhbkhnaa
