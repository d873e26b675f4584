/- Contracts by the evaluator: layer 8's statements PickTakes, PickDone, PickWanted. -/
import Derived.Test.YtkpjokhiobclbaaQ9
import Derived.Test.YtkpjokhiobclbaaPU
namespace Go.Proofs.Ytkpjokhiobclbaa
open Go.RowKit

theorem sameMods_refl : ∀ l : List Module, sameMods l l = true
  | [] => rfl
  | x :: l => by simp [sameMods, sameMods_refl l, (sameMod_iff x x).2 rfl]
theorem takeR_le (l : List File) : takeR l = .tup [if checkFiles l = 0 then modsD (takeL l) else .lit (.slice none 0 0), .int (checkFiles l)] := rfl
theorem take_fit {l : List File} (hl : FilesOk l) (hobj : ∀ f ∈ l, badObj f = false) : ∀ m ∈ takeL l, ModFit m := by
  refine takeT_inv (fun s => ∀ m ∈ s.1, ModFit m) (startT_fit hl hobj _) fun s p hp ih m hm => ?_
  obtain ⟨i, hi, k, hk, rfl⟩ := nextP_pos hp
  simp only [addP, List.mem_append, List.mem_singleton] at hm
  rcases hm with hm | rfl
  · exact ih m hm
  · exact (hl _ (List.getElem_mem hi)).2 _ (List.getElem_mem hk)
/-- What is taken, as a row. -/
def gotL (l : List File) : List Module := if checkFiles l = 0 then takeL l else []
theorem takeP_pure (l : List File) (hl : FilesOk l) : APure Try.prog 11 [filesD l] (.tup [modsD (gotL l), .int (checkFiles l)]) := by
  refine (take_pure l hl).le (DLe_tup ⟨?_, DLe.refl _, trivial⟩)
  unfold gotL
  by_cases h : checkFiles l = 0
  · rw [if_pos h, if_pos h]; exact DLe.refl _
  · rw [if_neg h, if_neg h]; exact modsD_nil
theorem refTakeP_pure (l : List File) (hl : FilesOk l) : APure Try.prog 12 [filesD l] (.tup [modsD (gotL l), .int (checkFiles l)]) := by
  refine (refTake_pure l hl).le (DLe_tup ⟨?_, DLe.refl _, trivial⟩)
  unfold gotL
  by_cases h : checkFiles l = 0
  · rw [if_pos h, if_pos h]; exact DLe.refl _
  · rw [if_neg h, if_neg h]; exact modsD_nil

set_option maxRecDepth 10000 in
theorem pickTakes_pure (m : Module) (l : List File) (hm : ModFit m) (hl : FilesOk l) : APure Try.prog 3 [.agg (moduleC m), filesD l] (.bool true) := by
  refine apureG _ _ Try.func3 (by kernel_rfl) t_marlinelaw08_PickTakes u_marlinelaw08_PickTakes rfl rfl (fun hx => ?_)
  clear hx
  simp [c_marlinelaw08_PickTakes, r_marlinelaw08_PickTakes]
  refine call_plain (ds := []) _ (by simp) (by simp) (fun _ => rfl) (fun _ => shown08_pure) ?_
  simp
  refine call_plain (ds := [filesD l]) _ (by simp) (by simp) (fun _ => by simp) (fun _ => takeP_pure l hl) ?_
  simp
  refine call_plain (ds := [filesD l]) _ (by simp) (by simp) (fun _ => by simp) (fun _ => refTakeP_pure l hl) ?_
  simp
  refine call_plain (ds := [modsD (gotL l), modsD (gotL l)]) _ (by simp) (by simp) (fun _ => by simp) (fun _ => mods_pure _ _) ?_
  rw [sameMods_refl]
  simp
  refine call_plain (ds := [.agg (moduleC m)]) _ (by simp) (by simp) (fun _ => by simp; rfl) (fun _ => defines_pure m hm.len) ?_
  simp
  refine call_plain (ds := [.agg (moduleC m)]) _ (by simp) (by simp) (fun _ => by simp; rfl) (fun _ => refDefines_pure m hm.len) ?_
  simp
  refine call_plain (ds := [strsD (definesM m), strsD (definesM m)]) _ (by simp) (by simp) (fun _ => by simp) (fun _ => strings_pure _ _) ?_
  simp
  refine call_plain (ds := [.agg (moduleC m)]) _ (by simp) (by simp) (fun _ => by simp; rfl) (fun _ => wants_pure m hm.len) ?_
  simp
  refine call_plain (ds := [.agg (moduleC m)]) _ (by simp) (by simp) (fun _ => by simp; rfl) (fun _ => refWants_pure m hm.len) ?_
  simp
  refine call_plain (ds := [strsD (wantsM m), strsD (wantsM m)]) _ (by simp) (by simp) (fun _ => by simp) (fun _ => strings_pure _ _) ?_
  simp
  refine call_plain (ds := [filesD l]) _ (by simp) (by simp) (fun _ => by simp) (fun _ => pickCheck_pure l hl) ?_
  simp
  refine call_plain (ds := [filesD l]) _ (by simp) (by simp) (fun _ => by simp) (fun _ => ref8Check_pure l hl) ?_
  simp

set_option maxRecDepth 10000 in
theorem pickDone_pure (l : List File) (hl : FilesOk l) : APure Try.prog 5 [filesD l] (.bool true) := by
  refine apureG _ _ Try.func5 (by kernel_rfl) t_marlinelaw08_PickDone u_marlinelaw08_PickDone rfl rfl (fun hx => len1 hx fun hlen => ?_)
  clear hx
  simp [c_marlinelaw08_PickDone, r_marlinelaw08_PickDone]
  refine call_plain (ds := []) _ (by simp) (by simp) (fun _ => rfl) (fun _ => shown08_pure) ?_
  simp
  refine call_plain (ds := [filesD l]) _ (by simp) (by simp) (fun _ => by simp) (fun _ => takeP_pure l hl) ?_
  simp
  intro h
  have hg : gotL l = takeL l := by unfold gotL; rw [if_pos h]
  rw [hg]
  obtain ⟨h8, h16, hobj, _⟩ := checked h
  refine loop_s (κ := Nat) (fun k => k ≤ l.length) (fun k => l.length - k) (fun k => [(sl 6, .int k)]) (fun _ => []) 13 0 (srcs []) (by simp) (by simp) ?_
  rintro k hk
  simp
  intro hlt
  have hf := hl _ (List.getElem_mem hlt)
  have hms := mods_le_sum hlt
  refine loop_s (κ := Nat) (fun j => j ≤ l[k].mods.length) (fun j => l[k].mods.length - j) (fun j => [(sl 7, .int j)]) (fun _ => []) 18 0 (srcs []) (by simp) (by simp) ?_
  rintro j hj
  simp
  rw [getD_some hlt]
  refine ⟨hlt, fun h => ⟨h, hlt⟩, fun hjlt ha => ⟨hlt, hjlt, ?_⟩, fun hge => ?_⟩
  · rw [getD_some hjlt]
    have hmf := hf.2 _ (List.getElem_mem hjlt)
    refine call_plain (ds := [modsD (takeL l), .agg (moduleC l[k].mods[j])]) _ (by simp) (by simp) (fun _ => by simp) (fun _ => open_pure _ (take_fit hl hobj) _ hmf) ?_
    rw [take_done l hlt hjlt]
    simp
    refine ⟨j + 1, by omega, by omega, srcs [], ?_⟩
    simp [SLeK]
    exact DLe_int (wrap_succ (by omega))
  · refine ⟨k + 1, by omega, by omega, srcs [], ?_⟩
    simp [SLeK]
    exact DLe_int (wrap_succ (by omega))

set_option maxRecDepth 10000 in
theorem pickWanted_pure (l : List File) (hl : FilesOk l) : APure Try.prog 6 [filesD l] (.bool true) := by
  refine apureG _ _ Try.func6 (by kernel_rfl) t_marlinelaw08_PickWanted u_marlinelaw08_PickWanted rfl rfl (fun hx => len1 hx fun hlen => ?_)
  clear hx
  simp [c_marlinelaw08_PickWanted, r_marlinelaw08_PickWanted]
  refine call_plain (ds := []) _ (by simp) (by simp) (fun _ => rfl) (fun _ => shown08_pure) ?_
  simp
  refine call_plain (ds := [filesD l]) _ (by simp) (by simp) (fun _ => by simp) (fun _ => takeP_pure l hl) ?_
  simp
  intro h
  have hg : gotL l = takeL l := by unfold gotL; rw [if_pos h]
  rw [hg]
  obtain ⟨h8, h16, hobj, _⟩ := checked h
  refine loop_s (κ := Nat) (fun k => k ≤ l.length) (fun k => l.length - k) (fun k => [(sl 7, .int k), (sl 6, .int (objs l k))]) (fun _ => []) 14 0 (srcs []) (by simp) (by simp) ?_
  rintro k hk
  simp
  refine ⟨fun hlt => ⟨hlt, ?_⟩, fun hge => ?_⟩
  · rw [getD_some hlt]
    have hs := objs_succ hlt
    have ho := objs_le l k
    refine ⟨fun ha => ⟨k + 1, by omega, by omega, srcs [], ?_⟩, fun ha => ⟨k + 1, by omega, by omega, srcs [], ?_⟩⟩
    · rw [if_neg (by simp [ha])] at hs
      simp [SLeK, hs]
      exact ⟨DLe_int (wrap_succ (by omega)), DLe_int (wrap_succ (by omega))⟩
    · rw [if_pos ha] at hs
      simp [SLeK, hs]
      exact DLe_int (wrap_succ (by omega))
  · obtain rfl : k = l.length := by omega
    obtain ⟨hw1, hw2⟩ := take_wanted l
    have htl := take_length hobj
    have ho := objs_le l l.length
    refine loop_s (κ := Nat) (fun j => objs l l.length ≤ j ∧ j ≤ (takeL l).length) (fun j => (takeL l).length - j) (fun j => [(sl 8, .int j)]) (fun _ => []) 20 (objs l l.length) (srcs []) ⟨by simp, hw1⟩ (by simp) ?_
    rintro j ⟨hj0, hj⟩
    simp
    refine ⟨fun hjlt => ?_, fun hge => ?_⟩
    · refine ⟨by omega, hjlt, ?_⟩
      rw [getD_some hjlt]
      have hfit := take_fit hl hobj
      refine call_arg (ds := [.sl 2 j fun i => moduleC ((takeL l)[i]?.getD default), .agg (moduleC (takeL l)[j])]) (ds' := [modsD ((takeL l).take j), .agg (moduleC (takeL l)[j])]) (open_pure _ (fun m hm => hfit m (List.mem_of_mem_take hm)) _ (hfit _ (List.getElem_mem hjlt))) (by simp) (by simp) (fun _ => by simp) (fun _ => ⟨?_, ?_, trivial⟩) ?_
      · refine modsD_le (by simp; omega) fun i hi => ?_
        have hi' : i < (takeL l).length := by simp at hi; omega
        simp [List.getElem?_eq_getElem hi']
      · exact DLe.refl _
      rw [hw2 j hjlt hj0]
      simp
      refine ⟨j + 1, by omega, by omega, srcs [], ?_⟩
      simp [SLeK]
      exact DLe_int (wrap_succ (by omega))
    · exact DLe_bool (by simp [hw1])

end Go.Proofs.Ytkpjokhiobclbaa
