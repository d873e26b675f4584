/- Contracts by the evaluator: layer 11's statements ReachTwice, ReachGrows, ReachChain. -/
import Derived.Test.YtifinpijhbkhnaaF9
import Derived.Test.YtifinpijhbkhnaaE19
import Derived.Test.YtifinpijhbkhnaaReach2
namespace Go.Proofs.Ytifinpijhbkhnaa
open Go.RowKit

set_option maxRecDepth 10000 in
theorem reachTwice_pure (m : Module) (hm : Small m) : APure Try.prog 6 [.agg (moduleC m)] (.bool true) := by
  refine apureG _ _ Try.func6 (by kernel_rfl) t_marlinelaw11_ReachTwice u_marlinelaw11_ReachTwice rfl rfl (fun _ => ?_)
  simp [c_marlinelaw11_ReachTwice, r_marlinelaw11_ReachTwice]
  refine call_plain (ds := []) _ (by simp) (by simp) (fun _ => rfl) (fun _ => shown11_pure) ?_
  simp
  refine call_plain (ds := [.agg (moduleC m)]) _ (by simp) (by simp) (fun _ => rfl) (fun _ => few_pure m hm.len) ?_
  simp
  intro hfew
  refine call_plain (ds := [.agg (moduleC m)]) _ (by simp) (by simp) (fun _ => rfl) (fun _ => drop_pure m hm) ?_
  simp
  refine call_plain (ds := [.agg (moduleC (dropM m))]) _ (by simp) (by simp) (fun _ => rfl) (fun _ => drop_pure (dropM m) hm.drop) ?_
  rw [drop_drop]
  simp
  refine call_plain (ds := [.agg (moduleC (dropM m)), .agg (moduleC (dropM m))]) _ (by simp) (by simp) (fun _ => rfl) (fun _ => refSame_pure (dropM m) (dropM m)) ?_
  rw [(sameMod_iff _ _).2 rfl]
  simp
  exact DLe_bool (by simp [drop_funcs_le, drop_globs_le])

set_option maxRecDepth 10000 in
theorem reachGrows_pure (m : Module) (hm : Small m) (roots : List ByteArray) (more : ByteArray) : APure Try.prog 8 [.agg (moduleC m), strsD roots, .str more] (.bool true) := by
  refine apureG _ _ Try.func8 (by kernel_rfl) t_marlinelaw11_ReachGrows u_marlinelaw11_ReachGrows rfl rfl (fun _ => ?_)
  simp [c_marlinelaw11_ReachGrows, r_marlinelaw11_ReachGrows]
  refine call_plain (ds := []) _ (by simp) (by simp) (fun _ => rfl) (fun _ => shown11_pure) ?_
  simp
  refine call_plain (ds := [.agg (moduleC m)]) _ (by simp) (by simp) (fun _ => rfl) (fun _ => few_pure m hm.len) ?_
  simp
  intro hfew hroots
  have hr : roots.length ≤ 40 := by omega
  refine call_plain (ds := [.agg (moduleC m), strsD roots]) _ (by simp) (by simp) (fun _ => rfl) (fun _ => from_pure m hm roots (by omega)) ?_
  simp
  refine ⟨by omega, by omega, ?_⟩
  refine call_arg (ds := ?ds1) (from_pure m hm (roots ++ [more]) (by simp; omega)) (by simp) (by simp) ?hd1 ?hle1 ?h1
  case hd1 => intro _; simp; rfl
  case hle1 =>
    intro _
    refine ⟨DLe.refl _, strsD_le (by simp) fun i hi => ?_, trivial⟩
    have h1 := appRow_str (l := roots) (x := more) (i := i) (by simpa using hi)
    rw [List.getElem?_eq_getElem hi] at h1
    exact h1
  simp
  have hfl := fromL_length m roots
  refine loop_s (κ := Nat) (fun k => k ≤ (fromL m roots).length) (fun k => (fromL m roots).length - k) (fun k => [(sl 11, .int k)]) (fun _ => []) 0 0 (srcs []) (by simp) (by simp) ?_
  rintro k hk
  simp
  refine ⟨fun hlt => ⟨hlt, ?_⟩, fun hge => ?_⟩
  · have hmem : (fromL m roots)[k] ∈ fromL m roots := List.getElem_mem hlt
    obtain ⟨a, ha⟩ : ∃ a, (fromL m roots)[k] = a := ⟨_, rfl⟩
    rw [ha] at hmem
    refine call_plain (ds := [strsD (fromL m (roots ++ [more])), .str a]) _ (by simp) (by simp) (fun _ => by simp [hlt, ha]) (fun _ => has_pure _ a) ?_
    rw [mem_hasN.2 (fromL_more hmem)]
    simp
    refine ⟨hlt, ?_⟩
    refine call_arg (ds := ?ds2) (from_pure m hm [a] (by simp)) (by simp) (by simp) ?hd2 ?hle2 ?h2
    case hd2 => intro _; simp; rfl
    case hle2 =>
      intro _
      refine ⟨DLe.refl _, strsD_le (by simp) fun i hi => ?_, trivial⟩
      obtain rfl : i = 0 := by simpa using hi
      simp [hlt, ha, strC]
    simp
    refine ⟨hlt, ?_⟩
    refine call_plain (ds := [strsD (fromL m [a]), .str a]) _ (by simp) (by simp) (fun _ => by simp [hlt, ha]) (fun _ => has_pure _ a) ?_
    rw [mem_hasN.2 (fromL_own hmem)]
    simp
    refine ⟨k + 1, by omega, by omega, srcs [], ?_⟩
    simp [SLeK]
    exact DLe_int (wrap_succ (by omega))
  · have := fromL_length m (roots ++ [more])
    refine DLe_bool ?_
    rw [wrap_in (by omega)]
    simp
    omega

set_option maxRecDepth 10000 in
theorem reachChain_pure (m : Module) (hm : Small m) (root : ByteArray) (i : Int) : APure Try.prog 9 [.agg (moduleC m), .str root, .int i] (.bool true) := by
  refine apureG _ _ Try.func9 (by kernel_rfl) t_marlinelaw11_ReachChain u_marlinelaw11_ReachChain rfl rfl (fun _ => ?_)
  simp [c_marlinelaw11_ReachChain, r_marlinelaw11_ReachChain]
  refine call_plain (ds := []) _ (by simp) (by simp) (fun _ => rfl) (fun _ => shown11_pure) ?_
  simp
  refine call_plain (ds := [.agg (moduleC m)]) _ (by simp) (by simp) (fun _ => rfl) (fun _ => few_pure m hm.len) ?_
  simp
  refine call_arg (ds := ?ds1) (from_pure m hm [root] (by simp)) (by simp) (by simp) ?hd1 ?hle1 ?h1
  case hd1 => intro _; simp; rfl
  case hle1 =>
    intro _
    refine ⟨DLe.refl _, strsD_le (by simp) fun i hi => ?_, trivial⟩
    obtain rfl : i = 0 := by simpa using hi
    rfl
  simp
  intro hfew h0 hi
  refine ⟨⟨h0, hi⟩, ?_⟩
  obtain ⟨n, rfl⟩ := Int.eq_ofNat_of_zero_le h0
  have hn : n < (fromL m [root]).length := by omega
  have hmem : (fromL m [root])[n] ∈ fromL m [root] := List.getElem_mem hn
  obtain ⟨a, ha⟩ : ∃ a, (fromL m [root])[n] = a := ⟨_, rfl⟩
  rw [ha] at hmem
  refine call_arg (ds := ?ds2) (from_pure m hm [a] (by simp)) (by simp) (by simp) ?hd2 ?hle2 ?h2
  case hd2 => intro _; simp; rfl
  case hle2 =>
    intro _
    refine ⟨DLe.refl _, strsD_le (by simp) fun i hi => ?_, trivial⟩
    obtain rfl : i = 0 := by simpa using hi
    simp [hn, ha, strC]
  simp
  have hfl := fromL_length m [a]
  refine loop_s (κ := Nat) (fun k => k ≤ (fromL m [a]).length) (fun k => (fromL m [a]).length - k) (fun k => [(sl 11, .int k)]) (fun _ => []) 0 0 (srcs []) (by simp) (by simp) ?_
  rintro k hk
  simp
  refine ⟨fun hlt => ⟨hlt, ?_⟩, fun hge => ?_⟩
  · have hmem2 : (fromL m [a])[k] ∈ fromL m [a] := List.getElem_mem hlt
    obtain ⟨b, hb⟩ : ∃ b, (fromL m [a])[k] = b := ⟨_, rfl⟩
    rw [hb] at hmem2
    refine call_plain (ds := [strsD (fromL m [root]), .str b]) _ (by simp) (by simp) (fun _ => by simp [hlt, hb]) (fun _ => has_pure _ b) ?_
    rw [mem_hasN.2 (fromL_chain hmem hmem2)]
    simp
    refine ⟨k + 1, by omega, by omega, srcs [], ?_⟩
    simp [SLeK]
    exact DLe_int (wrap_succ (by omega))
  · have := List.length_pos_of_mem (fromL_own hmem)
    refine DLe_bool ?_
    simp
    omega

end Go.Proofs.Ytifinpijhbkhnaa
