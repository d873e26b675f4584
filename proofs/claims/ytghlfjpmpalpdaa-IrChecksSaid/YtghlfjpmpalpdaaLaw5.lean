/- Plain laws of layer 5: what it means that a module is right. -/
import Derived.Test.YtghlfjpmpalpdaaE7
namespace Go.Proofs.Ytghlfjpmpalpdaa
open Go.RowKit

theorem hasN_iff (l : List ByteArray) (s : ByteArray) : hasN l s = true ↔ s ∈ l := by
  unfold hasN
  rw [List.any_eq_true]
  constructor
  · rintro ⟨x, hx, h⟩
    simp only [decide_eq_true_eq] at h
    exact h ▸ hx
  · intro h
    exact ⟨s, h, by simp⟩
theorem dcount_le : ∀ l : List ByteArray, dcount l ≤ l.length
  | [] => Nat.le_refl _
  | x :: l => by
    have := dcount_le l
    simp only [dcount, List.length_cons]
    split <;> omega
theorem dcount_iff : ∀ l : List ByteArray, dcount l = l.length ↔ l.Nodup
  | [] => by simp [dcount]
  | x :: l => by
    have h1 := dcount_le l
    have h2 := dcount_iff l
    simp only [dcount, List.length_cons, List.nodup_cons, ← hasN_iff]
    by_cases hx : hasN l x = true
    · rw [if_pos hx]
      constructor
      · intro h; omega
      · intro h; exact absurd hx h.1
    · rw [if_neg hx]
      constructor
      · intro h; exact ⟨hx, h2.1 (by omega)⟩
      · intro h; have := h2.2 h.2; omega
theorem nodup_rev (l : List ByteArray) : l.reverse.Nodup ↔ l.Nodup := by
  unfold List.Nodup
  rw [List.pairwise_reverse]
  exact List.Pairwise.iff fun {_ _} => ⟨fun h => Ne.symm h, fun h => Ne.symm h⟩
theorem dcountR_iff (l : List ByteArray) : dcountR l < l.length ↔ ¬ l.Nodup := by
  unfold dcountR
  have h1 := dcount_le l.reverse
  have h2 := dcount_iff l.reverse
  rw [List.length_reverse] at h1 h2
  rw [← nodup_rev, ← h2]
  omega

theorem lookP_none {fs : List Func} {s : ByteArray} : lookP fs s = none ↔ ∀ f ∈ fs, f.name ≠ s := by
  unfold lookP
  simp
theorem lookP_mem {fs : List Func} {s : ByteArray} {p : Int} (h : lookP fs s = some p) : ∃ f ∈ fs, f.name = s ∧ f.params = p := by
  unfold lookP at h
  simp only [Option.map_eq_some_iff] at h
  obtain ⟨f, h1, h2⟩ := h
  have h3 := List.find?_some h1
  have h4 := List.mem_of_find?_eq_some h1
  exact ⟨f, by simpa using h4, by simpa using h3, h2⟩
theorem lookP_some {fs : List Func} {s : ByteArray} {f : Func} (hf : f ∈ fs) (hs : f.name = s) : ∃ p, lookP fs s = some p := by
  cases h : lookP fs s with
  | some p => exact ⟨p, rfl⟩
  | none => exact absurd hs (lookP_none.1 h f hf)
theorem hasG_iff {gs : List Glob} {s : ByteArray} : hasG gs s = true ↔ ∃ g ∈ gs, g.name = s := by simp [hasG]

/-- In a right module .. -/
structure ModOk (m : Module) : Prop where
  nf : m.funcs.length ≤ 16
  ng : m.globs.length ≤ 16
  funcs : ∀ f ∈ m.funcs, funcOk f = true
  globs : ∀ g ∈ m.globs, globOk g = true
  names : (namesM m).Nodup
  miss : ∀ i ∈ insM m, missI m i = false
  odd : ∀ i ∈ insM m, oddI m i = false

theorem refsE_zero {m : Module} : refsE m = 0 ↔ (∀ i ∈ insM m, missI m i = false) ∧ ∀ i ∈ insM m, oddI m i = false := by
  unfold refsE
  by_cases h1 : (insM m).any (missI m) = true
  · rw [if_pos h1]
    constructor
    · intro h; omega
    · rintro ⟨h, _⟩
      obtain ⟨i, hi, hm⟩ := List.any_eq_true.1 h1
      rw [h i hi] at hm; cases hm
  · rw [if_neg h1]
    have h1' : ∀ i ∈ insM m, missI m i = false := fun i hi => by
      cases hm : missI m i with
      | false => rfl
      | true => exact absurd (List.any_eq_true.2 ⟨i, hi, hm⟩) h1
    by_cases h2 : (insM m).any (oddI m) = true
    · rw [if_pos h2]
      constructor
      · intro h; omega
      · rintro ⟨_, h⟩
        obtain ⟨i, hi, hm⟩ := List.any_eq_true.1 h2
        rw [h i hi] at hm; cases hm
    · rw [if_neg h2]
      exact ⟨fun _ => ⟨h1', fun i hi => by
        cases hm : oddI m i with
        | false => rfl
        | true => exact absurd (List.any_eq_true.2 ⟨i, hi, hm⟩) h2⟩, fun _ => rfl⟩
theorem namesM_length (m : Module) : (namesM m).length = m.funcs.length + m.globs.length := by simp [namesM, fnames, gnames]
theorem checkE_zero {m : Module} : checkE m = 0 ↔ ModOk m := by
  unfold checkE
  by_cases h1 : 16 < m.funcs.length ∨ 16 < m.globs.length
  · rw [if_pos h1]
    exact ⟨fun h => by omega, fun h => by have := h.nf; have := h.ng; omega⟩
  rw [if_neg h1]
  by_cases h2 : (m.funcs.all funcOk && m.globs.all globOk) = false
  · rw [if_pos h2]
    refine ⟨fun h => by omega, fun h => ?_⟩
    rw [List.all_eq_true.2 h.funcs, List.all_eq_true.2 h.globs] at h2
    cases h2
  rw [if_neg h2]
  have h2' : m.funcs.all funcOk = true ∧ m.globs.all globOk = true := by simpa using h2
  by_cases h3 : dcountR (namesM m) < m.funcs.length + m.globs.length
  · rw [if_pos h3]
    refine ⟨fun h => by omega, fun h => ?_⟩
    rw [← namesM_length] at h3
    exact absurd h.names ((dcountR_iff _).1 h3)
  rw [if_neg h3, refsE_zero]
  have h3' : (namesM m).Nodup := by
    rw [← namesM_length] at h3
    exact Classical.not_not.1 fun hn => h3 ((dcountR_iff _).2 hn)
  exact ⟨fun h => ⟨by omega, by omega, List.all_eq_true.1 h2'.1, List.all_eq_true.1 h2'.2, h3', h.1, h.2⟩, fun h => ⟨h.miss, h.odd⟩⟩

theorem ModOk.fnodup {m : Module} (h : ModOk m) : (fnames m).Nodup := (List.nodup_append.1 h.names).1
theorem ModOk.gnodup {m : Module} (h : ModOk m) : (gnames m).Nodup := (List.nodup_append.1 h.names).2.1
theorem ModOk.apart {m : Module} (h : ModOk m) {f : Func} {g : Glob} (hf : f ∈ m.funcs) (hg : g ∈ m.globs) : f.name ≠ g.name :=
  (List.nodup_append.1 h.names).2.2 _ (List.mem_map.2 ⟨f, hf, rfl⟩) _ (List.mem_map.2 ⟨g, hg, rfl⟩)
theorem missI_false {m : Module} {i : Inst} (h : missI m i = false) : (i.op = 14 → ∃ p, lookP m.funcs i.name = some p) ∧ (i.op = 12 ∨ i.op = 13 → hasG m.globs i.name = true) := by
  unfold missI at h
  rw [Bool.or_eq_false_iff] at h
  obtain ⟨h1, h2⟩ := h
  constructor
  · intro h14
    cases hl : lookP m.funcs i.name with
    | some p => exact ⟨p, rfl⟩
    | none => rw [hl, h14] at h1; simp at h1
  · intro h'
    cases hg : hasG m.globs i.name with
    | true => rfl
    | false =>
      rw [hg] at h2
      rcases h' with h' | h' <;> rw [h'] at h2 <;> simp at h2
theorem missI_mk {m : Module} {i : Inst} (h1 : i.op = 14 → ∃ p, lookP m.funcs i.name = some p) (h2 : i.op = 12 ∨ i.op = 13 → hasG m.globs i.name = true) : missI m i = false := by
  unfold missI
  rw [Bool.or_eq_false_iff]
  constructor
  · by_cases h14 : i.op = 14
    · obtain ⟨p, hp⟩ := h1 h14
      simp [hp]
    · simp [h14]
  · by_cases h12 : i.op = 12 ∨ i.op = 13
    · simp [h2 h12]
    · simp only [not_or] at h12
      simp [h12.1, h12.2]
theorem mem_insM {m : Module} {f : Func} {i : Inst} (hf : f ∈ m.funcs) (hi : i ∈ allIns f) : i ∈ insM m := List.mem_flatMap.2 ⟨f, hf, hi⟩
theorem mem_namesOf {l : List Inst} {s : ByteArray} (h : s ∈ namesOf l) : ∃ i ∈ l, isNamed i.op = true ∧ i.name = s := by
  unfold namesOf at h
  obtain ⟨i, h1, h2⟩ := List.mem_map.1 h
  obtain ⟨h3, h4⟩ := List.mem_filter.1 h1
  exact ⟨i, h3, by simpa using h4, h2⟩
theorem isNamed_iff {op : Int} : isNamed op = true ↔ op = 12 ∨ op = 13 ∨ op = 14 := by
  unfold isNamed
  simp
  omega

/-- A name that an instruction of a right module has is there. -/
theorem ModOk.there {m : Module} (h : ModOk m) {f : Func} (hf : f ∈ m.funcs) {s : ByteArray} (hs : s ∈ namesOf (allIns f)) : (∃ g ∈ m.funcs, g.name = s) ∨ ∃ g ∈ m.globs, g.name = s := by
  obtain ⟨i, hi, hn, rfl⟩ := mem_namesOf hs
  obtain ⟨h1, h2⟩ := missI_false (h.miss i (mem_insM hf hi))
  rcases isNamed_iff.1 hn with h' | h' | h'
  · exact .inr (hasG_iff.1 (h2 (.inl h')))
  · exact .inr (hasG_iff.1 (h2 (.inr h')))
  · obtain ⟨p, hp⟩ := h1 h'
    obtain ⟨g, hg, hgn, _⟩ := lookP_mem hp
    exact .inl ⟨g, hg, hgn⟩

theorem findI_neg {α : Type} {p : α → Bool} {xs : List α} : findI p xs < 0 ↔ ∀ x ∈ xs, p x = false := by
  have h := findI_ge p xs
  constructor
  · intro hn x hx
    cases hp : p x with
    | false => rfl
    | true =>
      have : xs.any p = true := List.any_eq_true.2 ⟨x, hx, hp⟩
      rw [this] at h
      simp at h
      omega
  · intro hall
    have : xs.any p = false := by
      rw [List.any_eq_false]
      intro x hx
      rw [hall x hx]; simp
    rw [this] at h
    simp at h
    omega
theorem findI_nodup {xs : List Func} (h : (xs.map (·.name)).Nodup) {k : Nat} (hk : k < xs.length) : findI (fun f => decide (f.name = xs[k].name)) xs = k := by
  refine findI_hit hk (fun i hi hik => ?_) (by simp)
  simp only [decide_eq_false_iff_not]
  intro e
  have := List.pairwise_iff_getElem.1 h i k (by simpa using hi) (by simpa using hk) hik
  simp only [List.getElem_map] at this
  exact this e

end Go.Proofs.Ytghlfjpmpalpdaa
