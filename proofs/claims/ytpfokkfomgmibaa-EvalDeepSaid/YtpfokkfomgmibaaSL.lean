/- Contracts by the evaluator: layer 7's statements EvalFuel, EvalCounts, EvalDeep. -/
import Derived.Test.YtpfokkfomgmibaaSH
import Derived.Test.YtpfokkfomgmibaaSK
namespace Go.Proofs.Ytpfokkfomgmibaa
open Go.RowKit

set_option maxRecDepth 10000 in
theorem evalFuel_pure (m : Module) (hm : ArgsOk m) (hk : KOk m) (inp : ByteArray) (a b deep : Int) : APure Try.prog 5 [.agg (moduleC m ++ [.str inp, .int a, .int b, .int deep])] (.bool true) := by
  refine apureG _ _ Try.func5 (by kernel_rfl) t_marlinelaw07_EvalFuel u_marlinelaw07_EvalFuel rfl rfl (fun _ => ?_)
  simp [c_marlinelaw07_EvalFuel, r_marlinelaw07_EvalFuel]
  refine call_plain (ds := []) _ (by simp) (by simp) (fun _ => rfl) (fun _ => shown07_pure) ?_
  simp
  intro h0 h1 h2
  refine call_plain (ds := [.agg (moduleC m), .str inp, .int a, .int deep]) _ (by simp) (by simp) (fun _ => by simp; rfl) (fun _ => erun_pure m hm hk inp a deep) ?_
  simp
  refine call_plain (ds := [.agg (moduleC m), .str inp, .int b, .int deep]) _ (by simp) (by simp) (fun _ => by simp; rfl) (fun _ => erun_pure m hm hk inp b deep) ?_
  simp
  rcases runA_fuel m inp deep h0 h1 (by omega : b ≤ 100000) with ⟨e1, e2⟩ | ⟨e1, e2, e3, e4⟩
  · rw [e2]
    exact ⟨fun _ => DLe_bool (by simp), fun h => absurd h e1⟩
  · obtain ⟨⟨s, hs⟩, r1, r2, r3⟩ := e4
    refine ⟨fun h => absurd e1 h, fun _ => DLe_bool ?_⟩
    simp only [e3, hs, ByteArray.size_append, ByteArray.extract_append_eq_left rfl]
    simp [e2, r1, r2, r3]

set_option maxRecDepth 10000 in
theorem evalCounts_pure (m : Module) (hm : ArgsOk m) (hk : KOk m) (inp : ByteArray) (fuel deep : Int) : APure Try.prog 7 [.agg (moduleC m ++ [.str inp, .int fuel, .int deep])] (.bool true) := by
  refine apureG _ _ Try.func7 (by kernel_rfl) t_marlinelaw07_EvalCounts u_marlinelaw07_EvalCounts rfl rfl (fun _ => ?_)
  simp [c_marlinelaw07_EvalCounts, r_marlinelaw07_EvalCounts]
  refine call_plain (ds := []) _ (by simp) (by simp) (fun _ => rfl) (fun _ => shown07_pure) ?_
  simp
  refine call_plain (ds := [.int fuel]) _ (by simp) (by simp) (fun _ => by simp) (fun _ => most_pure fuel) ?_
  simp
  refine call_plain (ds := [.agg (moduleC m), .str inp, .int (mostI fuel), .int deep]) _ (by simp) (by simp) (fun _ => by simp; rfl) (fun _ => erun_pure m hm hk inp (mostI fuel) deep) ?_
  simp
  rcases runA_kept m inp (mostI fuel) deep with ⟨⟨b1, b2, b3⟩, e⟩ | ⟨e1, e2, e3, e4, e5, e6, e7, e8⟩
  · refine ⟨fun _ _ _ => DLe_bool ?_, fun h => absurd (h b1 b2) b3⟩
    simp [traceC, errW] at e
    simp [e]
  · refine ⟨fun b1 b2 b3 => by omega, fun _ => ?_⟩
    have hmo : mostI fuel ≤ fuel := by unfold mostI; split <;> omega
    have e3' : ((runA m inp (mostI fuel) deep).steps : Int) ≤ fuel := by omega
    have e4' : (1 : Int) ≤ (runA m inp (mostI fuel) deep).deep := by omega
    generalize runA m inp (mostI fuel) deep = t at *
    simp only [e2, e3', e4', e5, e6, ← e7]
    rcases e8 with e8 | e8
    · simp [e8]
    · simp [e8]

set_option maxRecDepth 10000 in
theorem evalDeep_pure (m : Module) (hm : ArgsOk m) (hk : KOk m) (inp : ByteArray) (fuel a b : Int) : APure Try.prog 8 [.agg (moduleC m ++ [.str inp, .int fuel, .int a, .int b])] (.bool true) := by
  refine apureG _ _ Try.func8 (by kernel_rfl) t_marlinelaw07_EvalDeep u_marlinelaw07_EvalDeep rfl rfl (fun _ => ?_)
  simp [c_marlinelaw07_EvalDeep, r_marlinelaw07_EvalDeep]
  refine call_plain (ds := []) _ (by simp) (by simp) (fun _ => rfl) (fun _ => shown07_pure) ?_
  simp
  intro h0 h1 h2
  refine call_plain (ds := [.int fuel]) _ (by simp) (by simp) (fun _ => by simp) (fun _ => most_pure fuel) ?_
  simp
  refine call_plain (ds := [.agg (moduleC m), .str inp, .int (mostI fuel), .int a]) _ (by simp) (by simp) (fun _ => by simp; rfl) (fun _ => erun_pure m hm hk inp (mostI fuel) a) ?_
  simp
  refine call_plain (ds := [.int fuel]) _ (by simp) (by simp) (fun _ => by simp) (fun _ => most_pure fuel) ?_
  simp
  refine call_plain (ds := [.agg (moduleC m), .str inp, .int (mostI fuel), .int b]) _ (by simp) (by simp) (fun _ => by simp; rfl) (fun _ => erun_pure m hm hk inp (mostI fuel) b) ?_
  simp
  rcases runA_deep m inp (mostI fuel) h0 h1 h2 with ⟨e1, e2⟩ | ⟨e1, s, hs⟩
  · rw [e2]
    exact ⟨fun h => absurd h e1, fun _ => DLe_bool (by simp)⟩
  · refine ⟨fun _ => DLe_bool ?_, fun h => absurd e1 h⟩
    rw [hs, ByteArray.extract_append_eq_left rfl]
    simp

end Go.Proofs.Ytpfokkfomgmibaa
