/- Contracts by the evaluator: layer 8's statements PickAll, PickNames, PickObjects. -/
import Derived.Test.YtkpjokhiobclbaaQA
namespace Go.Proofs.Ytkpjokhiobclbaa
open Go.RowKit

set_option maxRecDepth 10000 in
theorem pickAll_pure (l : List File) (hl : FilesOk l) : APure Try.prog 4 [filesD l] (.bool true) := by
  refine apureG _ _ Try.func4 (by kernel_rfl) t_marlinelaw08_PickAll u_marlinelaw08_PickAll rfl rfl (fun hx => len1 hx fun hlen => ?_)
  clear hx
  simp [c_marlinelaw08_PickAll, r_marlinelaw08_PickAll]
  refine call_plain (ds := []) _ (by simp) (by simp) (fun _ => rfl) (fun _ => shown08_pure) ?_
  simp
  refine call_plain (ds := [filesD l]) _ (by simp) (by simp) (fun _ => by simp) (fun _ => takeP_pure l hl) ?_
  simp
  refine ⟨fun h => ?_, fun h => ?_⟩
  · have hg : gotL l = [] := by unfold gotL; rw [if_neg h]
    rw [hg]
    exact DLe_bool (by simp)
  have hg : gotL l = takeL l := by unfold gotL; rw [if_pos h]
  rw [hg]
  obtain ⟨h8, h16, hobj, _⟩ := checked h
  have htl := take_length hobj
  refine loop_s (κ := Nat) (fun k => k ≤ l.length) (fun k => l.length - k) (fun k => [(sl 8, .int k), (sl 6, .int (objs l k)), (sl 7, .int (sumM (l.take k)))]) (fun _ => []) 15 0 (srcs []) (by simp) (by simp) ?_
  rintro k hk
  simp
  refine ⟨fun hlt => ⟨hlt, ?_⟩, fun hge => ?_⟩
  · rw [getD_some hlt]
    have hs := objs_succ hlt
    have hss := sumM_succ hlt
    have ho := objs_le l k
    have hsl := mods_le_sum hlt
    have hst : sumM (l.take k) ≤ 8796093022207 * 8 := by
      have h1 := sumM_le (l := l.take k) fun f hf => hl f (List.mem_of_mem_take hf)
      rw [List.length_take] at h1
      have : min k l.length ≤ 8 := by omega
      have := Nat.mul_le_mul_right 8796093022207 this
      omega
    refine ⟨fun ha => ⟨k + 1, by omega, by omega, srcs [], ?_⟩, fun ha => ?_⟩
    · rw [if_pos ha] at hs
      simp [SLeK, hs, hss]
      exact ⟨DLe_int (wrap_succ (by omega)), DLe_int (wrap_in (by omega))⟩
    · rw [if_neg (by simp [ha])] at hs
      obtain ⟨h1, h2⟩ := take_object l hlt ha
      have hb := hobj _ (List.getElem_mem hlt)
      simp [badObj, ha] at hb
      have h3 : l[k].mods.headD default = l[k].mods[0]?.getD default := by
        rw [List.headD_eq_head?_getD, List.head?_eq_getElem?]
      refine ⟨fun _ => ⟨h1, hlt⟩, fun _ => ⟨h1, by omega⟩, ?_⟩
      rw [getD_some h1, h2, h3]
      refine call_plain (ds := [.agg (moduleC (l[k].mods[0]?.getD default)), .agg (moduleC (l[k].mods[0]?.getD default))]) _ (by simp) (by simp) (fun _ => by simp) (fun _ => refSame_pure _ _) ?_
      rw [(sameMod_iff _ _).2 rfl]
      simp
      refine ⟨fun h => absurd h1 (by omega), fun _ => ⟨k + 1, by omega, by omega, srcs [], ?_⟩⟩
      simp [SLeK, hs, hss]
      exact ⟨⟨DLe_int (wrap_succ (by omega)), DLe_int (wrap_succ (by omega))⟩, DLe_int (wrap_in (by omega))⟩
  · rw [List.take_of_length_le hge]
    exact DLe_bool (by simp [htl])

theorem names_size {m : Module} (h : ModOk m) : ∀ s ∈ namesM m, 1 ≤ s.size := by
  intro s hs
  have key : nameOk s = true := by
    unfold namesM fnames gnames at hs
    rcases List.mem_append.1 hs with hs | hs
    · obtain ⟨f, hf, rfl⟩ := List.mem_map.1 hs
      have := h.funcs f hf
      cases hn : nameOk f.name with
      | true => rfl
      | false => rw [funcOk_name hn] at this; cases this
    · obtain ⟨g, hg, rfl⟩ := List.mem_map.1 hs
      have := h.globs g hg
      simp only [globOk, Bool.and_eq_true] at this
      exact this.1.1.1
  simp only [nameOk, Bool.and_eq_true, decide_eq_true_eq] at key
  exact key.1

set_option maxRecDepth 10000 in
theorem pickNames_pure (m : Module) (hm : ModFit m) : APure Try.prog 8 [.agg (moduleC m)] (.bool true) := by
  refine apureG _ _ Try.func8 (by kernel_rfl) t_marlinelaw08_PickNames u_marlinelaw08_PickNames rfl rfl (fun hx => ?_)
  clear hx
  simp [c_marlinelaw08_PickNames, r_marlinelaw08_PickNames]
  refine call_plain (ds := []) _ (by simp) (by simp) (fun _ => rfl) (fun _ => shown08_pure) ?_
  simp
  refine call_plain (ds := [.agg (moduleC m)]) _ (by simp) (by simp) (fun _ => by simp; rfl) (fun _ => defines_pure m hm.len) ?_
  simp
  refine call_plain (ds := [.agg (moduleC m)]) _ (by simp) (by simp) (fun _ => by simp; rfl) (fun _ => wants_pure m hm.len) ?_
  simp
  refine call_arg (ds := [.sl 2 1 fun i => List.take 2 (List.drop (i * 2) [.bool false, .sl 2 1 fun i => List.take 2 (List.drop (i * 2) [funcsD m.funcs, globsD m.globs])])]) (ds' := [filesD [⟨false, [m]⟩]]) (ref8Check_pure [⟨false, [m]⟩] ?_) (by simp) (by simp) (fun _ => by simp) (fun _ => ⟨one_le ⟨DLe.refl _, one_le ⟨DLe.refl _, DLe.refl _, trivial⟩, trivial⟩, trivial⟩) ?_
  · intro f hf
    obtain rfl : f = ⟨false, [m]⟩ := by simpa using hf
    exact ⟨by simp, fun m' hm' => by
      obtain rfl : m' = m := by simpa using hm'
      exact hm⟩
  have hc : checkFiles [⟨false, [m]⟩] = checkE m := by
    simp [checkFiles, badObj, allMods, sumM, firstE]
    by_cases h : checkE m = 0
    · simp [h]
    · simp [h]
  rw [hc]
  simp
  intro h
  have hok := checkE_zero.1 h
  have hnc := names_count m
  have hlen := hm.len
  refine loop_s (κ := Nat) (fun k => k ≤ (definesM m).length) (fun k => (definesM m).length - k) (fun k => [(sl 7, .int k)]) (fun _ => []) 17 0 (srcs []) (by simp) (by simp) ?_
  rintro k hk
  simp
  refine ⟨fun hlt => ⟨hlt, ?_⟩, fun hge => ?_⟩
  · rw [getD_some hlt]
    have hmem := List.getElem_mem hlt
    have hw : hasN (wantsM m) (definesM m)[k] = false := by
      rw [← Bool.not_eq_true]
      intro h1
      exact defines_not_wants hok.names _ hmem (by unfold hasN at h1; simpa using h1)
    have hsz := names_size hok _ (defines_names m _ hmem)
    refine call_plain (ds := [strsD (wantsM m), .str (definesM m)[k]]) _ (by simp) (by simp) (fun _ => by simp) (fun _ => has_pure _ _) ?_
    rw [hw]
    simp
    rw [getD_some hlt]
    refine ⟨hlt, fun h1 => ?_, fun _ => ⟨k + 1, by omega, by omega, srcs [], ?_⟩⟩
    · rw [h1] at hsz
      simp at hsz
    · simp [SLeK]
      exact DLe_int (wrap_succ (by omega))
  · refine DLe_bool ?_
    rw [wrap_in (by omega), wrap_in (by omega)]
    simp
    omega

set_option maxRecDepth 10000 in
theorem pickObjects_pure (l : List File) (hl : FilesOk l) (hsm : l.length ≤ 1048576) : APure Try.prog 9 [filesD l] (.bool true) := by
  refine apureG _ _ Try.func9 (by kernel_rfl) t_marlinelaw08_PickObjects u_marlinelaw08_PickObjects rfl rfl (fun hx => len1 hx fun hlen => ?_)
  clear hx
  simp [c_marlinelaw08_PickObjects, r_marlinelaw08_PickObjects]
  refine call_plain (ds := []) _ (by simp) (by simp) (fun _ => rfl) (fun _ => shown08_pure) ?_
  simp
  refine loop_s (κ := Nat) (fun k => k ≤ l.length ∧ ∀ i (h : i < l.length), i < k → l[i].archive = false ∧ l[i].mods.length = 1) (fun k => l.length - k) (fun k => [(sl 5, .int k), (sl 4, .own 8 k)]) (fun k => [(8, .row 25 2 k fun i => moduleC ((objMods (l.take k))[i]?.getD default))]) 9 0 (srcs [(8, .nil)]) (by simp) (by simp) ?_
  rintro k ⟨hk, hb⟩
  simp
  refine ⟨fun hlt => ⟨hlt, ?_⟩, fun hge => ?_⟩
  · rw [getD_some hlt]
    refine ⟨fun h => ⟨h, hlt⟩, fun ha => ?_⟩
    intro h1
    have hlen1 : l[k].mods.length = 1 := by omega
    have e1 : objMods (l.take (k + 1)) = objMods (l.take k) ++ [l[k].mods[0]?.getD default] := by
      unfold objMods
      rw [List.take_succ_eq_append_getElem hlt, List.map_append]
      simp [List.headD_eq_head?_getD, List.head?_eq_getElem?]
    have e2 : (objMods (l.take k)).length = k := by simp [objMods]; omega
    refine ⟨hlt, by omega, by omega, k + 1, ⟨by omega, fun i hi h2 => ?_⟩, by omega, srcs [(8, .id 36)], ?_⟩
    · rcases Nat.lt_or_ge i k with h3 | h3
      · exact hb i hi h3
      · obtain rfl : i = k := by omega
        exact ⟨ha, hlen1⟩
    · simp [SLeK, e1]
      refine ⟨DLe_int (wrap_succ (by omega)), fun i hi => ?_⟩
      have := appRow_mod (l := objMods (l.take k)) (x := l[k].mods[0]?.getD default) (i := i) (by omega)
      rw [e2] at this
      exact this
  · obtain rfl : k = l.length := by omega
    refine call_plain (ds := [filesD l]) _ (by simp) (by simp) (fun _ => by simp) (fun _ => takeP_pure l hl) ?_
    simp
    have hlm : (objMods l).length = l.length := by simp [objMods]
    have hsame : checkFiles l = 0 → sameMods (gotL l) (objMods l) = true := by
      intro h
      obtain ⟨_, _, hobj, _⟩ := checked h
      unfold gotL
      rw [if_pos h, take_objects (fun f hf => ?_) hobj]
      · exact sameMods_refl _
      · obtain ⟨i, hi, rfl⟩ := List.mem_iff_getElem.1 hf
        exact (hb i hi hi).1
    refine call_arg (ds := [modsD (gotL l), .sl 2 l.length fun i => moduleC ((objMods l)[i]?.getD default)]) (ds' := [modsD (gotL l), modsD (objMods l)]) (mods_pure _ _) (by simp) (by simp) (fun _ => by simp) (fun _ => ⟨DLe.refl _, ?_, trivial⟩) ?_
    · refine modsD_le hlm.symm fun i hi => ?_
      rw [getD_some hi]
    simp
    refine DLe_bool ?_
    by_cases h : checkFiles l = 0
    · simp [h, hsame h]
    · simp [h]

end Go.Proofs.Ytkpjokhiobclbaa
