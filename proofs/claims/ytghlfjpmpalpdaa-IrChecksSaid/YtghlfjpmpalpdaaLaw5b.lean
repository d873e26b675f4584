/- Plain laws of layer 5: a right module with one function more, or less. -/
import Derived.Test.YtghlfjpmpalpdaaLaw5
namespace Go.Proofs.Ytghlfjpmpalpdaa
open Go.RowKit

theorem name_uniq {fs : List Func} (hn : (fs.map (·.name)).Nodup) {f g : Func} (hf : f ∈ fs) (hg : g ∈ fs) (h : f.name = g.name) : f = g := by
  obtain ⟨i, hi, rfl⟩ := List.getElem_of_mem hf
  obtain ⟨j, hj, rfl⟩ := List.getElem_of_mem hg
  have h1 := findI_nodup hn hi
  have h2 := findI_nodup hn hj
  rw [h] at h1
  have : i = j := by omega
  subst this
  rfl
theorem lookP_uniq {fs : List Func} (hn : (fs.map (·.name)).Nodup) {f : Func} (hf : f ∈ fs) : lookP fs f.name = some f.params := by
  obtain ⟨p, hp⟩ := lookP_some hf rfl
  obtain ⟨g, hg, h1, h2⟩ := lookP_mem hp
  rw [hp, ← h2, name_uniq hn hg hf h1]

theorem ModOk.call {m : Module} (h : ModOk m) {i : Inst} (hi : i ∈ insM m) (h14 : i.op = 14) : ∃ g ∈ m.funcs, g.name = i.name ∧ g.params = i.args.length := by
  obtain ⟨p, hp⟩ := (missI_false (h.miss i hi)).1 h14
  have ho := h.odd i hi
  obtain ⟨g, hg, h1, h2⟩ := lookP_mem hp
  refine ⟨g, hg, h1, ?_⟩
  unfold oddI at ho
  rw [hp, h14] at ho
  simp at ho
  omega

/-- What is asked of each instruction, function by function. -/
theorem ModOk.mk' {m : Module} (nf : m.funcs.length ≤ 16) (ng : m.globs.length ≤ 16) (funcs : ∀ f ∈ m.funcs, funcOk f = true) (globs : ∀ g ∈ m.globs, globOk g = true) (names : (namesM m).Nodup)
    (hc : ∀ f ∈ m.funcs, ∀ i ∈ allIns f, i.op = 14 → ∃ g ∈ m.funcs, g.name = i.name ∧ g.params = i.args.length) (hg : ∀ f ∈ m.funcs, ∀ i ∈ allIns f, i.op = 12 ∨ i.op = 13 → ∃ g ∈ m.globs, g.name = i.name) : ModOk m := by
  have hn : (m.funcs.map (·.name)).Nodup := (List.nodup_append.1 names).1
  have hcall : ∀ i ∈ insM m, i.op = 14 → lookP m.funcs i.name = some (i.args.length : Int) := by
    intro i hi h14
    obtain ⟨f, hf, hi⟩ := List.mem_flatMap.1 hi
    obtain ⟨g, hg1, hg2, hg3⟩ := hc f hf i hi h14
    rw [← hg2, lookP_uniq hn hg1, hg3]
  refine ⟨nf, ng, funcs, globs, names, fun i hi => missI_mk (fun h => ⟨_, hcall i hi h⟩) (fun h => ?_), fun i hi => ?_⟩
  · obtain ⟨f, hf, hi⟩ := List.mem_flatMap.1 hi
    exact hasG_iff.2 (hg f hf i hi h)
  · unfold oddI
    by_cases h14 : i.op = 14
    · rw [hcall i hi h14]
      simp
    · simp [h14]

/-- A function that names nothing. -/
def newF (s : ByteArray) : Func := ⟨s, 1, 0, [⟨0, [⟨15, 0, 0, 0, ⟨#[]⟩, []⟩], 3, 0, 0, [], 0, []⟩]⟩
theorem newF_ok {s : ByteArray} (h1 : 1 ≤ s.size) (h16 : s.size ≤ 16) : funcOk (newF s) = true := by
  have hn : nameOk s = true := by simp [nameOk, h1, h16]
  have hl : 0 < (newF s).blocks.length := by simp [newF]
  rw [funcOk_cons (f := newF s) hn (by simp [newF]) (by simp [newF]) (by simp [newF]) (by simp [newF]) (by simp [newF]) hl]
  have hb : blockOk (newF s) ⟨0, [⟨15, 0, 0, 0, ⟨#[]⟩, []⟩], 3, 0, 0, [], 0, []⟩ = true := by
    have hi : instOk ⟨15, 0, 0, 0, ⟨#[]⟩, []⟩ 0 = true := by decide
    simp [blockOk, insFrom, hi, endB]
  simp only [newF, List.all_cons, List.all_nil, Bool.and_true, Bool.and_eq_true, List.getElem_cons_zero]
  exact ⟨by simp, hb⟩

theorem more_ok {m : Module} (h : ModOk m) (hl : m.funcs.length ≤ 15) {s : ByteArray} (h1 : 1 ≤ s.size) (h16 : s.size ≤ 16) (hf : ∀ f ∈ m.funcs, f.name ≠ s) (hg : ∀ g ∈ m.globs, g.name ≠ s) : ModOk ⟨m.funcs ++ [newF s], m.globs⟩ := by
  have hnew : ∀ i ∈ allIns (newF s), i.op = 15 := by
    intro i hi
    simp [allIns, newF] at hi
    rw [hi]
  refine .mk' (by simp; omega) h.ng (fun f hfm => ?_) h.globs ?_ (fun f hfm i hi h14 => ?_) (fun f hfm i hi h12 => ?_)
  · rcases List.mem_append.1 hfm with h' | h'
    · exact h.funcs f h'
    · rw [List.mem_singleton.1 h']; exact newF_ok h1 h16
  · have e : namesM ⟨m.funcs ++ [newF s], m.globs⟩ = (fnames m ++ [s]) ++ gnames m := by simp [namesM, fnames, gnames, newF]
    rw [e]
    refine List.nodup_append.2 ⟨List.nodup_append.2 ⟨h.fnodup, by simp, fun a ha b hb => ?_⟩, h.gnodup, fun a ha b hb => ?_⟩
    · obtain ⟨f, hfm, rfl⟩ := List.mem_map.1 ha
      rw [List.mem_singleton.1 hb]
      exact hf f hfm
    · obtain ⟨g, hgm, rfl⟩ := List.mem_map.1 hb
      rcases List.mem_append.1 ha with h' | h'
      · obtain ⟨f, hfm, rfl⟩ := List.mem_map.1 h'
        exact h.apart hfm hgm
      · rw [List.mem_singleton.1 h']
        exact Ne.symm (hg g hgm)
  · rcases List.mem_append.1 hfm with h' | h'
    · obtain ⟨g, hg1, hg2⟩ := h.call (mem_insM h' hi) h14
      exact ⟨g, List.mem_append_left _ hg1, hg2⟩
    · rw [List.mem_singleton.1 h'] at hi
      have := hnew i hi
      omega
  · rcases List.mem_append.1 hfm with h' | h'
    · exact hasG_iff.1 ((missI_false (h.miss i (mem_insM h' hi))).2 h12)
    · rw [List.mem_singleton.1 h'] at hi
      have := hnew i hi
      omega

theorem less_ok {m : Module} (h : ModOk m) {n : Nat} (hn : n < m.funcs.length) (hr : ∀ j (hj : j < m.funcs.length), j ≠ n → ∀ s ∈ namesOf (allIns m.funcs[j]), s ≠ m.funcs[n].name) : ModOk ⟨m.funcs.eraseIdx n, m.globs⟩ := by
  have hsub : (m.funcs.eraseIdx n).Sublist m.funcs := List.eraseIdx_sublist _ _
  have hmem : ∀ f ∈ m.funcs.eraseIdx n, f ∈ m.funcs := fun f hf => hsub.subset hf
  have hne : ∀ f ∈ m.funcs.eraseIdx n, ∀ s ∈ namesOf (allIns f), s ≠ m.funcs[n].name := by
    intro f hf
    obtain ⟨j, hjn, hj⟩ := List.mem_eraseIdx_iff_getElem?.1 hf
    obtain ⟨hj1, rfl⟩ := List.getElem?_eq_some_iff.1 hj
    exact hr j hj1 hjn
  have hin : ∀ g ∈ m.funcs, g.name ≠ m.funcs[n].name → g ∈ m.funcs.eraseIdx n := by
    intro g hg hgn
    obtain ⟨j, hj, rfl⟩ := List.getElem_of_mem hg
    refine List.mem_eraseIdx_iff_getElem?.2 ⟨j, fun e => ?_, List.getElem?_eq_getElem hj⟩
    subst e
    exact hgn rfl
  refine .mk' (Nat.le_trans hsub.length_le h.nf) h.ng (fun f hf => h.funcs f (hmem f hf)) h.globs ?_ (fun f hf i hi h14 => ?_) (fun f hf i hi h12 => ?_)
  · have : (namesM ⟨m.funcs.eraseIdx n, m.globs⟩).Sublist (namesM m) := List.Sublist.append (hsub.map _) (List.Sublist.refl _)
    exact h.names.sublist this
  · obtain ⟨g, hg1, hg2, hg3⟩ := h.call (mem_insM (hmem f hf) hi) h14
    refine ⟨g, hin g hg1 ?_, hg2, hg3⟩
    rw [hg2]
    refine hne f hf _ (List.mem_map.2 ⟨i, List.mem_filter.2 ⟨hi, ?_⟩, rfl⟩)
    simp [isNamed_iff.2 (.inr (.inr h14))]
  · exact hasG_iff.1 ((missI_false (h.miss i (mem_insM (hmem f hf) hi))).2 h12)

end Go.Proofs.Ytghlfjpmpalpdaa
