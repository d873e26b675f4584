/- Contracts by the evaluator: the document's layer 7: whole modules. -/
import Derived.Test.YtpfokkfomgmibaaP0
import Derived.Test.YtpfokkfomgmibaaRC
namespace Go.Proofs.Ytpfokkfomgmibaa
open Go.RowKit

set_option maxRecDepth 10000 in
theorem whole_pure (m : Module) (hm : Small m) : APure Try.prog 16 [.agg (moduleC m)] (.int (wholeE m)) := by
  refine apureG _ _ Try.func16 (by kernel_rfl) t_marlineref07_Whole u_marlineref07_Whole rfl rfl (fun _ => ?_)
  have hlm := hm.len
  simp [c_marlineref07_Whole, r_marlineref07_Whole]
  refine call_plain (ds := [.agg (moduleC m)]) _ (by simp) (by simp) (fun _ => rfl) (fun _ => refCheck_pure m hm.args) ?_
  simp
  refine ⟨fun hz => ?_, fun hz => ?_⟩
  · unfold wholeE; rw [if_pos hz]; exact DLe.refl _
  have hok := checkE_zero.1 hz
  refine call_plain (ds := [.agg (moduleC m), .str mainS]) _ (by simp) (by simp) (fun _ => rfl) (fun _ => findFunc_pure m mainS) ?_
  simp
  have hw0 : wholeE m = if mainB m = true then (if (refsA m.funcs).all (thereB m) = true then 0 else 8) else 11 := by
    unfold wholeE
    rw [if_neg (by rw [hz]; simp)]
  rcases leads_eq m mainS with ⟨km, hkm, h1, h2⟩ | ⟨h1, h2⟩
  rotate_left
  · have hb : mainB m = false := by unfold mainB; rw [h2]
    rw [h1, hw0, hb]
    refine ⟨fun h => by omega, fun h => by omega, fun _ => DLe.refl _, fun h => by omega⟩
  have hb : mainB m = (decide (m.funcs[km].blocks.length ≠ 0) && decide (m.funcs[km].params = 0)) := by unfold mainB; rw [h2]
  rw [h1]
  simp only [Int.toNat_natCast, getD_some hkm]
  refine ⟨fun _ => ⟨by omega, by omega⟩, fun _ h => ⟨⟨by omega, h⟩, by omega, by omega⟩, fun h => ?_, fun _ hbl hpa => ?_⟩
  · have : mainB m = false := by
      rw [hb]
      rcases h with (h | h) | h
      · omega
      · simp [h]
      · simp [h]
    rw [hw0, this]
    exact DLe.refl _
  have hmb : mainB m = true := by
    rw [hb]
    simp [hbl, hpa]
  rw [hmb] at hw0
  have hr : ∀ q, wholeE m = q ↔ (if (refsA m.funcs).all (thereB m) = true then (0 : Int) else 8) = q := fun q => by rw [hw0]; simp
  refine loop_s (κ := Nat) (fun i => i ≤ m.funcs.length ∧ ∀ x ∈ refsA (m.funcs.take i), thereB m x = true) (fun i => m.funcs.length - i) (fun i => [(sl 5, .int i)]) (fun _ => []) 0 0 (srcs []) (by simp [refsA]) (by simp) ?_
  rintro i ⟨hi, hall⟩
  simp
  refine ⟨fun hlt => ?_, fun hge => ?_⟩
  · refine ⟨hlt, ?_⟩
    rw [getD_some hlt]
    obtain ⟨f, hf⟩ : ∃ f, m.funcs[i] = f := ⟨_, rfl⟩
    have hfm : f ∈ m.funcs := by rw [← hf]; exact List.getElem_mem hlt
    have hfi := hm.ins f hfm
    simp only [hf]
    refine call_plain (ds := [.agg (funcC f)]) _ (by simp) (by simp) (fun _ => rfl) (fun _ => refRefs_pure f (by omega)) ?_
    simp
    obtain ⟨L, hL⟩ : ∃ L, namesOf (allIns f) = L := ⟨_, rfl⟩
    have hLl : L.length ≤ 1048576 := by rw [← hL]; exact Nat.le_trans (namesOf_length _) hfi
    simp only [hL]
    refine loop_s (κ := Nat) (fun n => n ≤ L.length ∧ ∀ x ∈ L.take n, thereB m x = true) (fun n => L.length - n) (fun n => [(sl 7, .int n)]) (fun _ => []) 0 0 (srcs []) (by simp) (by simp) ?_
    rintro n ⟨hn, hall2⟩
    simp
    refine ⟨fun hnl => ⟨hnl, ?_⟩, fun hge => ?_⟩
    · rw [getD_some hnl]
      obtain ⟨s, hs⟩ : ∃ s, L[n] = s := ⟨_, rfl⟩
      have hsL : s ∈ namesOf (allIns f) := by rw [hL, ← hs]; exact List.getElem_mem _
      simp only [hs]
      refine call_plain (ds := [.agg (moduleC m), .str s]) _ (by simp) (by simp) (fun _ => rfl) (fun _ => findFunc_pure m s) ?_
      simp
      refine ⟨hnl, ?_⟩
      rw [getD_some hnl]
      simp only [hs]
      refine call_plain (ds := [.agg (moduleC m), .str s]) _ (by simp) (by simp) (fun _ => rfl) (fun _ => findGlob_pure m s) ?_
      simp
      have hmem : s ∈ refsA m.funcs := List.mem_flatMap.2 ⟨f, hfm, hsL⟩
      have hbad : thereB m s = false → wholeE m = 8 := fun h => (hr 8).2 (by
        rw [if_neg]
        intro h'
        rw [List.all_eq_true.1 h' s hmem] at h
        cases h)
      have hgo : thereB m s = true → ∀ x ∈ L.take (n + 1), thereB m x = true := fun h x hx => by
        rw [List.take_succ_eq_append_getElem hnl, hs] at hx
        rcases List.mem_append.1 hx with hx | hx
        · exact hall2 x hx
        · rw [List.mem_singleton.1 hx]; exact h
      rcases leads_eq m s with ⟨k, hk, e1, e2⟩ | ⟨e1, e2⟩
      · have ht : thereB m s = decide (m.funcs[k].blocks.length ≠ 0) := by unfold thereB; rw [e2]
        rw [e1]
        simp only [Int.toNat_natCast, getD_some hk]
        refine ⟨fun _ => ⟨by omega, by omega⟩, fun _ h => by omega, fun h => ⟨h, fun h => by omega⟩, fun h => .inr (h (by omega)), fun h => ?_, fun h _ => ?_⟩
        · rw [hbad (by rw [ht]; rcases h with ⟨_, h⟩ | ⟨h, _⟩ <;> first | omega | simp [h])]
          exact DLe.refl _
        · refine ⟨n + 1, ⟨by omega, hgo ?_⟩, by omega, srcs [], ?_⟩
          · rw [ht]
            have := h (by omega)
            simp [this]
          · simp [SLeK]
            exact DLe_int (wrap_succ (by omega))
      · rcases leadsG_eq m s with ⟨k, hk, e3, e4⟩ | ⟨e3, e4⟩
        rotate_left
        · exfalso
          obtain ⟨x, hx, rfl⟩ := List.mem_map.1 hsL
          obtain ⟨h4, h5⟩ := List.mem_filter.1 hx
          rcases isNamed_iff.1 h5 with h6 | h6 | h6
          · obtain ⟨g, hg, hnm⟩ := hasG_iff.1 ((missI_false (hok.miss x (mem_insM hfm h4))).2 (.inl h6))
            have := List.find?_eq_none.1 e4 g hg
            simp [hnm] at this
          · obtain ⟨g, hg, hnm⟩ := hasG_iff.1 ((missI_false (hok.miss x (mem_insM hfm h4))).2 (.inr h6))
            have := List.find?_eq_none.1 e4 g hg
            simp [hnm] at this
          · obtain ⟨g, hg, hnm, _⟩ := hok.call (mem_insM hfm h4) h6
            have := List.find?_eq_none.1 e2 g hg
            simp [hnm] at this
        have ht : thereB m s = m.globs[k].here := by unfold thereB; rw [e2]; simp only [e4]
        rw [e1, e3]
        simp only [Int.toNat_natCast, getD_some hk]
        refine ⟨fun h => by omega, fun _ _ => ⟨⟨.inl (by omega), by omega⟩, by omega, by omega⟩, fun _ => ⟨.inl (by omega), fun _ => ⟨.inl (by omega), by omega⟩⟩, fun _ => .inl (by omega), fun h => ?_, fun _ h => ?_⟩
        · rw [hbad (by rw [ht]; rcases h with ⟨h, _⟩ | ⟨_, h⟩ <;> first | exact h | omega)]
          exact DLe.refl _
        · refine ⟨n + 1, ⟨by omega, hgo ?_⟩, by omega, srcs [], ?_⟩
          · rw [ht]
            exact h (by omega)
          · simp [SLeK]
            exact DLe_int (wrap_succ (by omega))
    · rw [List.take_of_length_le hge] at hall2
      refine ⟨i + 1, ⟨by omega, ?_⟩, by omega, srcs [], ?_⟩
      · have : refsA [f] = L := by rw [← hL]; simp [refsA]
        intro x hx
        rw [List.take_succ_eq_append_getElem hlt, refsA_append, hf, this] at hx
        rcases List.mem_append.1 hx with hx | hx
        · exact hall x hx
        · exact hall2 x hx
      · simp [SLeK]
        exact DLe_int (wrap_succ (by omega))
  · rw [List.take_of_length_le hge] at hall
    rw [(hr 0).2 (by rw [if_pos (List.all_eq_true.2 hall)])]
    exact DLe.refl _
set_option maxRecDepth 10000 in
/-- Is a module whole: whatever size it has. -/
theorem whole_any (m : Module) (hm : ArgsOk m) : APure Try.prog 16 [.agg (moduleC m)] (.int (wholeE m)) := by
  by_cases hz : checkE m = 0
  · exact whole_pure m (small_ok (checkE_zero.1 hz))
  · refine apureG _ _ Try.func16 (by kernel_rfl) t_marlineref07_Whole u_marlineref07_Whole rfl rfl (fun _ => ?_)
    simp [c_marlineref07_Whole, r_marlineref07_Whole]
    refine call_plain (ds := [.agg (moduleC m)]) _ (by simp) (by simp) (fun _ => rfl) (fun _ => refCheck_pure m hm) ?_
    simp
    refine ⟨fun _ => ?_, fun h => absurd h hz⟩
    unfold wholeE; rw [if_pos hz]; exact DLe.refl _

end Go.Proofs.Ytpfokkfomgmibaa
