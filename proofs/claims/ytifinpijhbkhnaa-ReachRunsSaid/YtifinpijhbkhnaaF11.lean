/- Contracts by the evaluator: layer 11's statement ReachNamed. -/
import Derived.Test.YtifinpijhbkhnaaF9
import Derived.Test.YtifinpijhbkhnaaReach2
namespace Go.Proofs.Ytifinpijhbkhnaa
open Go.RowKit

theorem refsA_append (l l' : List Func) : refsA (l ++ l') = refsA l ++ refsA l' := by simp [refsA]
theorem refsA_length {l : List Func} (h : ∀ f ∈ l, funcOk f = true) : (refsA l).length ≤ 512 * l.length := by
  induction l with
  | nil => simp [refsA]
  | cons f l ih =>
    have h1 := allIns_le (h f (by simp))
    have h2 := namesOf_length (allIns f)
    have h3 := ih fun g hg => h g (by simp [hg])
    have e : refsA (f :: l) = namesOf (allIns f) ++ refsA l := rfl
    rw [e, List.length_append, List.length_cons]
    omega

theorem appRow_strs {l l' : List ByteArray} {i : Nat} (h : i < l.length + l'.length) : appRow l.length (fun i => strC (l[i]?.getD ⟨#[]⟩)) (fun i => strC (l'[i]?.getD ⟨#[]⟩)) i = strC ((l ++ l')[i]?.getD ⟨#[]⟩) := by
  unfold appRow
  by_cases hi : i < l.length
  · rw [if_pos hi, List.getElem?_append_left hi]
  · rw [if_neg hi, List.getElem?_append_right (by omega)]

theorem findI_has {α : Type} {nm : α → ByteArray} (l : List α) (s : ByteArray) : (0 ≤ findI (fun f => decide (nm f = s)) l) ↔ ∃ f ∈ l, nm f = s := by
  have h := findI_ge (fun f => decide (nm f = s)) l
  rw [← decide_eq_true_iff (p := 0 ≤ findI (fun f => decide (nm f = s)) l)]
  rw [h, List.any_eq_true]
  simp

set_option maxRecDepth 10000 in
theorem reachNamed_pure (m : Module) (hm : Small m) : APure Try.prog 5 [.agg (moduleC m)] (.bool true) := by
  refine apureG _ _ Try.func5 (by kernel_rfl) t_marlinelaw11_ReachNamed u_marlinelaw11_ReachNamed rfl rfl (fun _ => ?_)
  have hlm := hm.len
  simp [c_marlinelaw11_ReachNamed, r_marlinelaw11_ReachNamed]
  refine call_plain (ds := []) _ (by simp) (by simp) (fun _ => rfl) (fun _ => shown11_pure) ?_
  simp
  refine call_plain (ds := [.agg (moduleC m)]) _ (by simp) (by simp) (fun _ => rfl) (fun _ => few_pure m hm.len) ?_
  simp
  refine call_plain (ds := [.agg (moduleC m)]) _ (by simp) (by simp) (fun _ => rfl) (fun _ => drop_pure m hm) ?_
  simp
  refine call_plain (ds := [.agg (moduleC m)]) _ (by simp) (by simp) (fun _ => rfl) (fun _ => roots_pure m hm.len) ?_
  simp
  refine call_plain (ds := [.agg (moduleC m)]) _ (by simp) (by simp) (fun _ => rfl) (fun _ => refCheck_pure m hm.args) ?_
  simp
  intro hfew hz
  have hok := checkE_zero.1 hz
  have hokd := drop_ok hok
  have hkf := hokd.nf
  obtain ⟨k, hk⟩ : ∃ k, dropM m = k := ⟨_, rfl⟩
  simp only [hk]
  rw [hk] at hokd hkf
  have hrl := refsA_length (l := k.funcs) hokd.funcs
  have hpre : ∀ i, (refsA (k.funcs.take i)).length ≤ 8192 := fun i => by
    have := refsA_length (l := k.funcs.take i) fun f hf => hokd.funcs f (List.mem_of_mem_take hf)
    have h2 : (k.funcs.take i).length ≤ 16 := by simp; omega
    omega
  refine loop_s (κ := Nat) (fun i => i ≤ k.funcs.length) (fun i => k.funcs.length - i) (fun i => [(sl 8, .int i), (sl 7, .own 0 (refsA (k.funcs.take i)).length)])
    (fun i => [(0, .row 9 1 (refsA (k.funcs.take i)).length fun j => strC ((refsA (k.funcs.take i))[j]?.getD ⟨#[]⟩))]) 1 0 (srcs [(0, .nil)]) (by simp) (by simp [refsA]) ?_
  rintro i hi
  simp
  refine ⟨fun hlt => ⟨hlt, ?_⟩, fun hge => ?_⟩
  · rw [getD_some hlt]
    have hfl := allIns_le (hokd.funcs _ (List.getElem_mem hlt))
    refine call_plain (ds := [.agg (funcC k.funcs[i])]) _ (by simp) (by simp) (fun _ => rfl) (fun _ => refRefs_pure k.funcs[i] (by omega)) ?_
    simp
    have h1 := hpre i
    have h2 := namesOf_length (allIns k.funcs[i])
    have hsucc : refsA (k.funcs.take (i + 1)) = refsA (k.funcs.take i) ++ namesOf (allIns k.funcs[i]) := by
      rw [List.take_succ_eq_append_getElem hlt, refsA_append]
      simp [refsA]
    refine ⟨by omega, i + 1, by omega, by omega, srcs [(0, .id 13)], ?_⟩
    simp [SLeK, hsucc]
    exact ⟨DLe_int (wrap_succ (by omega)), fun j hj => appRow_strs hj⟩
  rw [List.take_of_length_le hge]
  obtain ⟨R, hR⟩ : ∃ R, refsA k.funcs = R := ⟨_, rfl⟩
  rw [hR] at hrl
  simp only [hR]
  refine loop_s (κ := Nat) (fun i => i ≤ m.funcs.length) (fun i => m.funcs.length - i) (fun i => [(sl 9, .int i), (sl 7, .own 0 R.length)]) (fun i => [(0, .row 9 1 R.length fun j => strC (R[j]?.getD ⟨#[]⟩))]) 1 0 (srcs [(0, .id 0)]) (by simp) (by simp) ?_
  rintro i hi
  simp
  refine ⟨fun hlt => ⟨hlt, ?_⟩, fun hge => ?_⟩
  · rw [getD_some hlt]
    refine call_plain (ds := [.agg (moduleC k), .str m.funcs[i].name]) _ (by simp) (by simp) (fun _ => rfl) (fun _ => findFunc_pure k m.funcs[i].name) ?_
    simp
    refine ⟨hlt, ?_⟩
    rw [getD_some hlt]
    refine call_plain (ds := [strsD R, .str m.funcs[i].name]) _ (by simp) (by simp) (fun _ => by simp; rfl) (fun _ => has_pure R m.funcs[i].name) ?_
    simp
    refine ⟨hlt, ?_⟩
    rw [getD_some hlt]
    refine call_plain (ds := [strsD (rootsL m), .str m.funcs[i].name]) _ (by simp) (by simp) (fun _ => by simp; rfl) (fun _ => has_pure (rootsL m) m.funcs[i].name) ?_
    simp
    obtain ⟨s, hs⟩ : ∃ s, m.funcs[i].name = s := ⟨_, rfl⟩
    have hsm : s ∈ namesM m := by rw [← hs]; exact fname_mem (List.getElem_mem hlt)
    simp only [hs]
    have hst : 0 ≤ findI (fun f => decide (f.name = s)) k.funcs ↔ Rch m (rootsL m) s := by
      rw [findI_has]
      constructor
      · rintro ⟨f, hf, rfl⟩
        rw [← hk] at hf
        exact (mem_dropF.1 hf).2
      · intro h
        exact ⟨m.funcs[i], by rw [← hk]; exact mem_dropF.2 ⟨List.getElem_mem hlt, by rw [hs]; exact h⟩, hs⟩
    have hA : hasN R s = true → 0 ≤ findI (fun f => decide (f.name = s)) k.funcs := fun h => hst.2 (named_stays hok (by rw [hk, hR]; exact mem_hasN.1 h))
    have hB : 0 ≤ findI (fun f => decide (f.name = s)) k.funcs → hasN R s = true ∨ hasN (rootsL m) s = true := fun h => by
      rcases stays_named (hst.1 h) with h | h
      · exact .inr (mem_hasN.2 h)
      · rw [hk, hR] at h
        exact .inl (mem_hasN.2 h)
    clear hst
    generalize findI (fun f => decide (f.name = s)) k.funcs = n at hA hB ⊢
    generalize hasN R s = a at hA hB ⊢
    generalize hasN (rootsL m) s = b at hA hB ⊢
    have hno : ¬ (n < 0 ∧ a = true ∨ (0 ≤ n ∧ a = false) ∧ b = false) := by
      rintro (⟨h1, h2⟩ | ⟨⟨h1, h2⟩, h3⟩)
      · have := hA h2; omega
      · rcases hB h1 with h | h
        · rw [h] at h2; cases h2
        · rw [h] at h3; cases h3
    refine ⟨fun h => ⟨h, fun h2 => ⟨h, h2⟩⟩, fun h => ⟨h, fun h2 h3 => ⟨h, h2, h3⟩⟩, fun h => ?_, fun h => absurd h hno, fun _ _ => ?_⟩
    · by_cases hn : 0 ≤ n
      · exact .inl hn
      · exact .inr (h (by omega))
    · refine ⟨i + 1, by omega, by omega, srcs [(0, .id 0)], ?_⟩
      simp [SLeK]
      exact DLe_int (wrap_succ (by omega))
  refine loop_s (κ := Nat) (fun i => i ≤ m.globs.length) (fun i => m.globs.length - i) (fun i => [(sl 13, .int i), (sl 7, .own 0 R.length)]) (fun i => [(0, .row 9 1 R.length fun j => strC (R[j]?.getD ⟨#[]⟩))]) 1 0 (srcs [(0, .id 0)]) (by simp) (by simp) ?_
  rintro i hi
  simp
  · intro hlt
    refine ⟨hlt, ?_⟩
    rw [getD_some hlt]
    refine call_plain (ds := [.agg (moduleC k), .str m.globs[i].name]) _ (by simp) (by simp) (fun _ => rfl) (fun _ => findGlob_pure k m.globs[i].name) ?_
    simp
    refine ⟨hlt, ?_⟩
    rw [getD_some hlt]
    refine call_plain (ds := [strsD R, .str m.globs[i].name]) _ (by simp) (by simp) (fun _ => by simp; rfl) (fun _ => has_pure R m.globs[i].name) ?_
    simp
    refine ⟨hlt, ?_⟩
    rw [getD_some hlt]
    refine call_plain (ds := [strsD (rootsL m), .str m.globs[i].name]) _ (by simp) (by simp) (fun _ => by simp; rfl) (fun _ => has_pure (rootsL m) m.globs[i].name) ?_
    simp
    obtain ⟨s, hs⟩ : ∃ s, m.globs[i].name = s := ⟨_, rfl⟩
    have hsm : s ∈ namesM m := by rw [← hs]; exact gname_mem (List.getElem_mem hlt)
    simp only [hs]
    have hst : 0 ≤ findI (fun f : Glob => decide (f.name = s)) k.globs ↔ Rch m (rootsL m) s := by
      rw [findI_has]
      constructor
      · rintro ⟨f, hf, rfl⟩
        rw [← hk] at hf
        exact (mem_dropG.1 hf).2
      · intro h
        exact ⟨m.globs[i], by rw [← hk]; exact mem_dropG.2 ⟨List.getElem_mem hlt, by rw [hs]; exact h⟩, hs⟩
    have hA : hasN R s = true → 0 ≤ findI (fun f : Glob => decide (f.name = s)) k.globs := fun h => hst.2 (named_stays hok (by rw [hk, hR]; exact mem_hasN.1 h))
    have hB : 0 ≤ findI (fun f : Glob => decide (f.name = s)) k.globs → hasN R s = true ∨ hasN (rootsL m) s = true := fun h => by
      rcases stays_named (hst.1 h) with h | h
      · exact .inr (mem_hasN.2 h)
      · rw [hk, hR] at h
        exact .inl (mem_hasN.2 h)
    clear hst
    generalize findI (fun f : Glob => decide (f.name = s)) k.globs = n at hA hB ⊢
    generalize hasN R s = a at hA hB ⊢
    generalize hasN (rootsL m) s = b at hA hB ⊢
    have hno : ¬ (n < 0 ∧ a = true ∨ (0 ≤ n ∧ a = false) ∧ b = false) := by
      rintro (⟨h1, h2⟩ | ⟨⟨h1, h2⟩, h3⟩)
      · have := hA h2; omega
      · rcases hB h1 with h | h
        · rw [h] at h2; cases h2
        · rw [h] at h3; cases h3
    refine ⟨fun h => ⟨h, fun h2 => ⟨h, h2⟩⟩, fun h => ⟨h, fun h2 h3 => ⟨h, h2, h3⟩⟩, fun h => ?_, fun h => absurd h hno, fun _ _ => ?_⟩
    · by_cases hn : 0 ≤ n
      · exact .inl hn
      · exact .inr (h (by omega))
    · refine ⟨i + 1, by omega, by omega, srcs [(0, .id 0)], ?_⟩
      simp [SLeK]
      exact DLe_int (wrap_succ (by omega))

end Go.Proofs.Ytifinpijhbkhnaa
