/- Contracts by the evaluator: layer 8, may files be linked. -/
import Derived.Test.YtkpjokhiobclbaaQ2
namespace Go.Proofs.Ytkpjokhiobclbaa
open Go.RowKit

theorem check1_pure (f : File) : APure Try.prog 36 [.agg (fileC f)] (.bool (badObj f)) := by
  refine apureG _ _ Try.func36 (by kernel_rfl) t_pick_Check_1 u_pick_Check_1 rfl rfl (fun _ => ?_)
  simp [c_pick_Check_1, r_pick_Check_1, badObj]
  refine DLe_bool ?_
  congr 2
  rw [decide_eq_decide]
  omega

theorem indexFile_pure (xs : List File) (F : FuncId) (caps : List DV) (p : File → Bool) (hF : ∀ v ∈ xs, APure Try.prog F (.agg (fileC v) :: caps) (.bool (p v))) : APure Try.prog 42 [filesD xs, .fn F caps] (.int (findI p xs)) := by
  refine apureG _ _ Try.func42 (by kernel_rfl) t_slices_IndexFunc___api_File_api_File_ u_slices_IndexFunc___api_File_api_File_ rfl rfl (fun hx => len1 hx fun hl => ?_)
  clear hx
  simp [c_slices_IndexFunc___api_File_api_File_, r_slices_IndexFunc___api_File_api_File_]
  refine loop_s (κ := Nat) (fun k => k ≤ xs.length ∧ ∀ i (h : i < xs.length), i < k → p xs[i] = false) (fun k => xs.length - k) (fun k => [(sl 8, .int k)]) (fun _ => []) 0 0 (srcs []) (by simp) (by simp) ?_
  rintro k ⟨hk, hb⟩
  simp
  refine ⟨fun hlt => ⟨hlt, ?_⟩, fun hge => ?_⟩
  · rw [getD_some hlt]
    refine call_plain _ (by simp) (by simp) (fun _ => by simp) (fun _ => hF _ (List.getElem_mem hlt)) ?_
    simp
    refine ⟨fun h => DLe_int (findI_hit hlt hb h).symm, fun h => ?_⟩
    refine ⟨k + 1, ⟨by omega, fun i hi h1 => ?_⟩, by omega, srcs [], ?_⟩
    · rcases Nat.lt_or_ge i k with h2 | h2
      · exact hb i hi h2
      · obtain rfl : i = k := by omega
        exact h
    · simp [SLeK]
      exact DLe_int (wrap_succ (by omega))
  · exact DLe_int (findI_miss fun i hi => hb i hi (by omega)).symm

theorem containsFile_pure (xs : List File) (F : FuncId) (caps : List DV) (p : File → Bool) (hF : ∀ v ∈ xs, APure Try.prog F (.agg (fileC v) :: caps) (.bool (p v))) : APure Try.prog 35 [filesD xs, .fn F caps] (.bool (xs.any p)) := by
  refine apureG _ _ Try.func35 (by kernel_rfl) t_slices_ContainsFunc___api_File_api_File_ u_slices_ContainsFunc___api_File_api_File_ rfl rfl (fun _ => ?_)
  simp [c_slices_ContainsFunc___api_File_api_File_, r_slices_ContainsFunc___api_File_api_File_]
  refine call_plain (ds := [filesD xs, .fn F caps]) _ (by simp) (by simp) (fun _ => by simp) (fun _ => indexFile_pure xs F caps p hF) ?_
  simp
  exact DLe_bool (findI_ge p xs)

set_option maxRecDepth 10000 in
theorem pickCheck_pure (l : List File) (hl : FilesOk l) : APure Try.prog 19 [filesD l] (.int (checkFiles l)) := by
  refine apureG _ _ Try.func19 (by kernel_rfl) t_pick_Check u_pick_Check rfl rfl (fun hx => len1 hx fun hlen => ?_)
  clear hx
  simp [c_pick_Check, r_pick_Check]
  refine loop_s (κ := Nat) (fun k => k ≤ l.length) (fun k => l.length - k) (fun k => [(sl 13, .int k), (sl 3, .int (IntKind.i64.wrap (sumM (l.take k))))]) (fun _ => []) 0 0 (srcs []) (by simp) (by simp; exact DLe_int (by decide)) ?_
  rintro k hk
  simp
  refine ⟨fun hlt => ⟨hlt, ?_⟩, fun hge => ?_⟩
  · rw [getD_some hlt]
    have hs := sumM_succ hlt
    refine ⟨k + 1, by omega, by omega, srcs [], ?_⟩
    simp [SLeK, hs, wrap_sum]
    exact DLe_int (wrap_succ (by omega))
  rw [List.take_of_length_le hge]
  have hsum := sumM_le hl
  have hwrap : l.length ≤ 8 → IntKind.i64.wrap ↑(sumM l) = sumM l := fun h => wrap_nat (by omega)
  refine ⟨fun h => DLe_int ?_, fun h1 h2 => ?_⟩
  · unfold checkFiles
    by_cases h8 : 8 < l.length
    · rw [if_pos (.inl h8)]
    · rw [hwrap (by omega)] at h
      rw [if_pos (.inr (by omega))]
  rw [hwrap (by omega)] at h2
  have h0 : checkFiles l = if l.any badObj = true then 1 else firstE (allMods l) := by
    unfold checkFiles
    rw [if_neg (by omega)]
  refine call_plain (ds := [filesD l, .fn 36 []]) _ (by simp) (by simp) (fun _ => by simp) (fun _ => containsFile_pure l _ _ _ fun f _ => check1_pure f) ?_
  simp [-List.any_eq_true, -List.any_eq_false]
  refine ⟨fun h => DLe_int ?_, fun h => ?_⟩
  · rw [h0]; simp [h]
  rw [h] at h0
  simp at h0
  refine loop_s (κ := Nat) (fun k => k ≤ l.length ∧ ∀ m ∈ allMods (l.take k), checkE m = 0) (fun k => l.length - k) (fun k => [(sl 36, .int k)]) (fun _ => []) 0 0 (srcs []) (by simp [allMods]) (by simp) ?_
  rintro k ⟨hk, hb⟩
  simp
  refine ⟨fun hlt => ⟨hlt, ?_⟩, fun hge => ?_⟩
  · rw [getD_some hlt]
    have hf := hl _ (List.getElem_mem hlt)
    have hall : allMods l = allMods (l.take k) ++ (l[k].mods ++ allMods (l.drop (k + 1))) := by
      unfold allMods
      rw [← List.flatMap_cons (x := l[k]), ← List.flatMap_append, ← List.drop_eq_getElem_cons hlt, List.take_append_drop]
    refine loop_s (κ := Nat) (fun j => j ≤ l[k].mods.length ∧ ∀ m ∈ l[k].mods.take j, checkE m = 0) (fun j => l[k].mods.length - j) (fun j => [(sl 43, .int j)]) (fun _ => []) 0 0 (srcs []) (by simp) (by simp) ?_
    rintro j ⟨hj, hbj⟩
    simp
    refine ⟨fun hjlt => ⟨hjlt, ?_⟩, fun hjge => ?_⟩
    · rw [getD_some hjlt]
      refine call_plain (ds := [.agg (moduleC l[k].mods[j])]) _ (by simp) (by simp) (fun _ => by simp; rfl) (fun _ => check_pure _ (hf.2 _ (List.getElem_mem hjlt)).args) ?_
      simp
      refine ⟨fun h => ?_, fun h => ?_⟩
      · refine DLe_int ?_
        rw [h0, hall]
        have e : allMods (l.take k) ++ (l[k].mods ++ allMods (l.drop (k + 1))) = (allMods (l.take k) ++ l[k].mods.take j) ++ l[k].mods[j] :: (l[k].mods.drop (j + 1) ++ allMods (l.drop (k + 1))) := by
          rw [List.append_assoc, ← List.cons_append, ← List.drop_eq_getElem_cons hjlt, ← List.append_assoc (l[k].mods.take j), List.take_append_drop]
        rw [e]
        symm
        refine firstE_at (fun x hx => ?_) h
        rcases List.mem_append.1 hx with hx | hx
        · exact hb x hx
        · exact hbj x hx
      · refine ⟨j + 1, ⟨by omega, ?_⟩, by omega, srcs [], ?_⟩
        · intro m hm
          rw [List.take_succ_eq_append_getElem hjlt] at hm
          rcases List.mem_append.1 hm with hm | hm
          · exact hbj m hm
          · simp at hm; rw [hm]; exact h
        · simp [SLeK]
          exact DLe_int (wrap_succ (by omega))
    · refine ⟨k + 1, ⟨by omega, ?_⟩, by omega, srcs [], ?_⟩
      · intro m hm
        rw [List.take_succ_eq_append_getElem hlt] at hm
        unfold allMods at hm hb
        rw [List.flatMap_append] at hm
        rcases List.mem_append.1 hm with hm | hm
        · exact hb m hm
        · simp at hm
          exact hbj m (by rw [List.take_of_length_le hjge]; exact hm)
      · simp [SLeK]
        exact DLe_int (wrap_succ (by omega))
  · rw [List.take_of_length_le hge] at hb
    refine DLe_int ?_
    rw [h0, firstE_none hb]

set_option maxRecDepth 10000 in
theorem ref8Check_pure (l : List File) (hl : FilesOk l) : APure Try.prog 20 [filesD l] (.int (checkFiles l)) := by
  refine apureG _ _ Try.func20 (by kernel_rfl) t_marlineref08_Check u_marlineref08_Check rfl rfl (fun hx => len1 hx fun hlen => ?_)
  clear hx
  simp [c_marlineref08_Check, r_marlineref08_Check]
  refine loop_s (κ := Nat) (fun k => k ≤ l.length) (fun k => l.length - k) (fun k => [(sl 4, .int k), (sl 3, .int (IntKind.i64.wrap (sumM (l.take k))))]) (fun _ => []) 0 0 (srcs []) (by simp) (by simp; exact DLe_int (by decide)) ?_
  rintro k hk
  simp
  refine ⟨fun hlt => ⟨hlt, ?_⟩, fun hge => ?_⟩
  · rw [getD_some hlt]
    have hs := sumM_succ hlt
    refine ⟨k + 1, by omega, by omega, srcs [], ?_⟩
    simp [SLeK, hs, wrap_sum]
    exact DLe_int (wrap_succ (by omega))
  rw [List.take_of_length_le hge]
  have hsum := sumM_le hl
  have hwrap : l.length ≤ 8 → IntKind.i64.wrap ↑(sumM l) = sumM l := fun h => wrap_nat (by omega)
  refine ⟨fun h => DLe_int ?_, fun h1 h2 => ?_⟩
  · unfold checkFiles
    by_cases h8 : 8 < l.length
    · rw [if_pos (.inl h8)]
    · rw [hwrap (by omega)] at h
      rw [if_pos (.inr (by omega))]
  rw [hwrap (by omega)] at h2
  have h0 : checkFiles l = if l.any badObj = true then 1 else firstE (allMods l) := by
    unfold checkFiles
    rw [if_neg (by omega)]
  refine loop_s (κ := Nat) (fun k => k ≤ l.length ∧ ∀ x ∈ l.take k, badObj x = false) (fun k => l.length - k) (fun k => [(sl 5, .int k)]) (fun _ => []) 0 0 (srcs []) (by simp) (by simp) ?_
  rintro k ⟨hk, hb⟩
  simp
  refine ⟨fun hlt => ?_, fun hge => ?_⟩
  · have hat : l[k]?.getD default = l[k] := getD_some hlt
    simp only [hat]
    refine ⟨hlt, fun h => ⟨h, hlt⟩, fun h h' => DLe_int ?_, fun h => ?_⟩
    · rw [h0, if_pos]
      refine List.any_eq_true.2 ⟨l[k], List.getElem_mem hlt, ?_⟩
      simp [badObj, h]
      omega
    · refine ⟨k + 1, ⟨by omega, ?_⟩, by omega, srcs [], ?_⟩
      · intro x hx
        rw [List.take_succ_eq_append_getElem hlt] at hx
        rcases List.mem_append.1 hx with hx | hx
        · exact hb x hx
        · simp at hx
          subst hx
          cases ha : l[k].archive with
          | true => simp [badObj, ha]
          | false =>
            have := h ha
            simp [badObj, ha]
            omega
      · simp [SLeK]
        exact DLe_int (wrap_succ (by omega))
  rw [List.take_of_length_le hge] at hb
  rw [if_neg (by simpa using hb)] at h0
  refine loop_s (κ := Nat) (fun k => k ≤ l.length ∧ ∀ m ∈ allMods (l.take k), checkE m = 0) (fun k => l.length - k) (fun k => [(sl 6, .int k)]) (fun _ => []) 0 0 (srcs []) (by simp [allMods]) (by simp) ?_
  rintro k ⟨hk, hb⟩
  simp
  refine ⟨fun hlt => ?_, fun hge => ?_⟩
  · have hf := hl _ (List.getElem_mem hlt)
    have hall : allMods l = allMods (l.take k) ++ (l[k].mods ++ allMods (l.drop (k + 1))) := by
      unfold allMods
      rw [← List.flatMap_cons (x := l[k]), ← List.flatMap_append, ← List.drop_eq_getElem_cons hlt, List.take_append_drop]
    refine loop_s (κ := Nat) (fun j => j ≤ l[k].mods.length ∧ ∀ m ∈ l[k].mods.take j, checkE m = 0) (fun j => l[k].mods.length - j) (fun j => [(sl 7, .int j)]) (fun _ => []) 0 0 (srcs []) (by simp) (by simp) ?_
    rintro j ⟨hj, hbj⟩
    simp
    have hat : l[k]?.getD default = l[k] := getD_some hlt
    simp only [hat]
    refine ⟨hlt, fun hjlt => ⟨hlt, hjlt, ?_⟩, fun hjge => ?_⟩
    · rw [getD_some hjlt]
      refine call_plain (ds := [.agg (moduleC l[k].mods[j])]) _ (by simp) (by simp) (fun _ => by simp) (fun _ => refCheck_pure _ (hf.2 _ (List.getElem_mem hjlt)).args) ?_
      simp
      refine ⟨fun h => ?_, fun h => ?_⟩
      · refine DLe_int ?_
        rw [h0, hall]
        have e : allMods (l.take k) ++ (l[k].mods ++ allMods (l.drop (k + 1))) = (allMods (l.take k) ++ l[k].mods.take j) ++ l[k].mods[j] :: (l[k].mods.drop (j + 1) ++ allMods (l.drop (k + 1))) := by
          rw [List.append_assoc, ← List.cons_append, ← List.drop_eq_getElem_cons hjlt, ← List.append_assoc (l[k].mods.take j), List.take_append_drop]
        rw [e]
        symm
        refine firstE_at (fun x hx => ?_) h
        rcases List.mem_append.1 hx with hx | hx
        · exact hb x hx
        · exact hbj x hx
      · refine ⟨j + 1, ⟨by omega, ?_⟩, by omega, srcs [], ?_⟩
        · intro m hm
          rw [List.take_succ_eq_append_getElem hjlt] at hm
          rcases List.mem_append.1 hm with hm | hm
          · exact hbj m hm
          · simp at hm; rw [hm]; exact h
        · simp [SLeK]
          exact DLe_int (wrap_succ (by omega))
    · refine ⟨k + 1, ⟨by omega, ?_⟩, by omega, srcs [], ?_⟩
      · intro m hm
        rw [List.take_succ_eq_append_getElem hlt] at hm
        unfold allMods at hm hb
        rw [List.flatMap_append] at hm
        rcases List.mem_append.1 hm with hm | hm
        · exact hb m hm
        · simp at hm
          exact hbj m (by rw [List.take_of_length_le hjge]; exact hm)
      · simp [SLeK]
        exact DLe_int (wrap_succ (by omega))
  · rw [List.take_of_length_le hge] at hb
    refine DLe_int ?_
    rw [h0, firstE_none hb]

end Go.Proofs.Ytkpjokhiobclbaa
