/- Plain layer 8: what is taken, as the statements say. -/
import Derived.Test.YtkpjokhiobclbaaQ8
namespace Go.Proofs.Ytkpjokhiobclbaa
open Go.RowKit

theorem rounds_done {l : List File} : ∀ (n : Nat) (s : TS), leftP l s < n → nextP l (rounds l n s) = none
  | n + 1, s, h => by
    cases hp : nextP l s with
    | none => rw [rounds_none hp]; exact hp
    | some p =>
      have hlp := leftP_lt (List.mem_of_find?_eq_some hp) (List.find?_some hp)
      have ih := rounds_done (l := l) n (addP s p) (by omega)
      simpa [rounds, hp] using ih
theorem rounds_inv {l : List File} (I : TS → Prop) (hI : ∀ s p, nextP l s = some p → I s → I (addP s p)) : ∀ (n : Nat) (s : TS), I s → I (rounds l n s)
  | 0, _, h => h
  | n + 1, s, h => by
    cases hp : nextP l s with
    | none => rw [rounds_none hp]; exact h
    | some p =>
      have := rounds_inv I hI n (addP s p) (hI s p hp h)
      simpa [rounds, hp] using this
theorem takeT_done (l : List File) : nextP l (takeT l) = none := rounds_done _ _ (Nat.lt_succ_self _)
theorem takeT_inv {l : List File} (I : TS → Prop) (h0 : I (startT l l.length)) (hI : ∀ s p, nextP l s = some p → I s → I (addP s p)) : I (takeT l) := rounds_inv I hI _ _ h0
theorem nextP_pos {l : List File} {s : TS} {p : Nat × Nat × Module} (h : nextP l s = some p) : ∃ i, ∃ hi : i < l.length, ∃ k, ∃ hk : k < l[i].mods.length, p = (i, k, l[i].mods[k]) := by
  obtain ⟨i, hi, hp⟩ := mem_posL.1 (List.mem_of_find?_eq_some h)
  obtain ⟨k, hk, e⟩ := mem_posF.1 hp
  exact ⟨i, hi, k, hk, e⟩
theorem startT_ge {l : List File} {k : Nat} (hk : ¬ k < l.length) : startT l (k + 1) = startT l k := by
  unfold startT
  rw [List.take_of_length_le (by omega), List.take_of_length_le (by omega)]

theorem headD_at {ms : List Module} (h : 0 < ms.length) : ms[0] = ms.headD default := by
  cases ms with
  | nil => simp at h
  | cons x r => rfl
/-- What was taken from a place is there. -/
def gotIn (l : List File) (s : TS) : Prop := ∀ i (hi : i < l.length) k (hk : k < l[i].mods.length), hadP s.2 i k = true → l[i].mods[k] ∈ s.1
theorem gotIn_start (l : List File) : ∀ k, gotIn l (startT l k)
  | 0 => fun i hi k hk h => by simp [hadP] at h
  | k + 1 => by
    have ih := gotIn_start l k
    by_cases hk : k < l.length
    · rw [startT_succ hk]
      split
      · exact ih
      · intro i hi j hj h
        simp only [addP, hadP, List.any_append, Bool.or_eq_true] at h
        simp only [addP, List.mem_append, List.mem_singleton]
        rcases h with h | h
        · exact .inl (ih i hi j hj h)
        · simp at h
          obtain ⟨rfl, rfl⟩ := h
          right
          exact headD_at hj
    · rw [startT_ge hk]; exact ih
theorem gotIn_take (l : List File) : gotIn l (takeT l) := by
  refine takeT_inv _ (gotIn_start l _) fun s p hp ih => ?_
  obtain ⟨i, hi, k, hk, rfl⟩ := nextP_pos hp
  intro i' hi' k' hk' h
  simp only [addP, hadP, List.any_append, Bool.or_eq_true] at h
  simp only [addP, List.mem_append, List.mem_singleton]
  rcases h with h | h
  · exact .inl (ih i' hi' k' hk' h)
  · simp at h
    obtain ⟨rfl, rfl⟩ := h
    exact .inr rfl
theorem openL_mem {a : List Module} {m : Module} (h : m ∈ a) : openL a m = false := by
  unfold openL
  rw [← Bool.not_eq_true]
  intro h1
  obtain ⟨s, hs, h2⟩ := List.any_eq_true.1 h1
  have : definedL a s = true := List.any_eq_true.2 ⟨m, h, by unfold hasN; simpa using hs⟩
  simp [this] at h2
/-- PickDone. -/
theorem take_done (l : List File) {i : Nat} (hi : i < l.length) {k : Nat} (hk : k < l[i].mods.length) : openL (takeL l) l[i].mods[k] = false := by
  cases hh : hadP (takeT l).2 i k with
  | true => exact openL_mem (gotIn_take l i hi k hk hh)
  | false =>
    have hn := takeT_done l
    unfold nextP at hn
    have := List.find?_eq_none.1 hn (i, k, l[i].mods[k]) (mem_posL.2 ⟨i, hi, mem_posF.2 ⟨k, hk, rfl⟩⟩)
    show openL (takeT l).1 _ = false
    simpa [goodP, hh] using this

/-- The objects. -/
def objs (l : List File) (k : Nat) : Nat := (startT l k).1.length
theorem objs_succ {l : List File} {k : Nat} (hk : k < l.length) : objs l (k + 1) = if l[k].archive = true then objs l k else objs l k + 1 := by
  unfold objs
  rw [startT_succ hk]
  split
  · rfl
  · simp [addP]
@[simp] theorem objs_zero (l : List File) : objs l 0 = 0 := rfl
theorem objs_le (l : List File) (k : Nat) : objs l k ≤ k := startT_len l k
/-- PickWanted. -/
theorem take_wanted (l : List File) : objs l l.length ≤ (takeL l).length ∧ ∀ i (h : i < (takeL l).length), objs l l.length ≤ i → openL ((takeL l).take i) (takeL l)[i] = true := by
  refine takeT_inv (fun s => objs l l.length ≤ s.1.length ∧ ∀ i (h : i < s.1.length), objs l l.length ≤ i → openL (s.1.take i) s.1[i] = true) ⟨Nat.le_refl _, fun i h h1 => ?_⟩ fun s p hp ih => ?_
  · unfold objs at h1; omega
  · have hg := List.find?_some hp
    simp only [goodP, Bool.and_eq_true] at hg
    refine ⟨by simp [addP]; omega, fun i h h1 => ?_⟩
    simp only [addP, List.length_append, List.length_singleton] at h
    rcases Nat.lt_or_ge i s.1.length with h2 | h2
    · have := ih.2 i h2 h1
      simp only [addP]
      rw [List.take_append_of_le_length (by omega), List.getElem_append_left h2]
      exact this
    · obtain rfl : i = s.1.length := by omega
      simp only [addP]
      rw [List.take_left, List.getElem_append_right (Nat.le_refl _)]
      simpa using hg.2

/-- PickAll. -/
theorem startT_pre (l : List File) : ∀ k j, k ≤ j → (startT l k).1 <+: (startT l j).1
  | k, 0, h => by obtain rfl : k = 0 := by omega
                  exact List.prefix_refl _
  | k, j + 1, h => by
    rcases Nat.lt_or_ge k (j + 1) with h1 | h1
    · have ih := startT_pre l k j (by omega)
      by_cases hj : j < l.length
      · rw [startT_succ hj]
        split
        · exact ih
        · exact ih.trans (List.prefix_append _ _)
      · rw [startT_ge hj]; exact ih
    · obtain rfl : k = j + 1 := by omega
      exact List.prefix_refl _
theorem take_pre (l : List File) : (startT l l.length).1 <+: takeL l := by
  refine takeT_inv (fun s => (startT l l.length).1 <+: s.1) (List.prefix_refl _) fun s p _ ih => ?_
  exact ih.trans (List.prefix_append _ _)
theorem take_object (l : List File) {i : Nat} (hi : i < l.length) (ha : l[i].archive = false) : ∃ h : objs l i < (takeL l).length, (takeL l)[objs l i] = l[i].mods.headD default := by
  have h1 : (startT l (i + 1)).1 <+: takeL l := (startT_pre l (i + 1) l.length (by omega)).trans (take_pre l)
  rw [startT_succ hi, if_neg (by simp [ha])] at h1
  simp only [addP] at h1
  obtain ⟨r, hr⟩ := h1
  have hlen : objs l i < (takeL l).length := by
    rw [← hr]; simp [objs]
  refine ⟨hlen, ?_⟩
  simp only [← hr]
  simp [objs]
theorem startT_places (l : List File) : ∀ k, ∀ p ∈ (startT l k).2, p.1 < k
  | 0, p, h => by simp at h
  | k + 1, p, h => by
    by_cases hk : k < l.length
    · rw [startT_succ hk] at h
      split at h
      · have := startT_places l k p h; omega
      · simp only [addP, List.mem_append, List.mem_singleton] at h
        rcases h with h | h
        · have := startT_places l k p h; omega
        · rw [h]; exact Nat.lt_succ_self _
    · rw [startT_ge hk] at h
      have := startT_places l k p h; omega
theorem startT_left {l : List File} (hobj : ∀ f ∈ l, badObj f = false) : ∀ k, leftP l (startT l k) + (startT l k).1.length ≤ sumM l
  | 0 => by simpa using leftP_le l _
  | k + 1 => by
    have ih := startT_left hobj k
    by_cases hk : k < l.length
    · rw [startT_succ hk]
      split
      · exact ih
      · rename_i ha
        have hb := hobj _ (List.getElem_mem hk)
        simp [badObj, ha] at hb
        have h0 : hadP (startT l k).2 k 0 = false := by
          rw [← Bool.not_eq_true]
          intro h
          obtain ⟨p, hp, h2⟩ := List.any_eq_true.1 h
          have := startT_places l k p hp
          simp at h2
          rw [h2] at this
          simp at this
        have hlt : leftP l (addP (startT l k) (k, 0, l[k].mods.headD default)) < leftP l (startT l k) := by
          refine filter_lt (p := (k, 0, l[k].mods[0])) (fun q hq => ?_) (by simp [addP, hadP]) (by simp [h0]) _ (mem_posL.2 ⟨k, hk, mem_posF.2 ⟨0, by omega, rfl⟩⟩)
          simp only [addP, hadP, List.any_append, Bool.not_eq_true', Bool.or_eq_false_iff] at hq ⊢
          exact hq.1
        simp only [addP, List.length_append, List.length_singleton] at hlt ⊢
        omega
    · rw [startT_ge hk]; exact ih
theorem take_length {l : List File} (hobj : ∀ f ∈ l, badObj f = false) : (takeL l).length ≤ sumM l := by
  have : leftP l (takeT l) + (takeT l).1.length ≤ sumM l := by
    refine takeT_inv (fun s => leftP l s + s.1.length ≤ sumM l) (startT_left hobj _) fun s p hp ih => ?_
    have := leftP_lt (List.mem_of_find?_eq_some hp) (List.find?_some hp)
    simp only [addP, List.length_append, List.length_singleton] at this ⊢
    omega
  have e : takeL l = (takeT l).1 := rfl
  rw [e]
  omega

/-- PickObjects. -/
def objMods (l : List File) : List Module := l.map fun f => f.mods.headD default
theorem startT_mods {l : List File} (ha : ∀ f ∈ l, f.archive = false) : ∀ k, k ≤ l.length → (startT l k).1 = objMods (l.take k)
  | 0, _ => rfl
  | k + 1, h => by
    have hk : k < l.length := by omega
    have ih := startT_mods ha k (by omega)
    rw [startT_succ hk, if_neg (by simp [ha _ (List.getElem_mem hk)])]
    simp only [addP, ih]
    unfold objMods
    rw [List.take_succ_eq_append_getElem hk, List.map_append]
    rfl
theorem take_objects {l : List File} (ha : ∀ f ∈ l, f.archive = false) (hobj : ∀ f ∈ l, badObj f = false) : takeL l = objMods l := by
  have h1 := startT_mods ha l.length (Nat.le_refl _)
  rw [List.take_length] at h1
  have hin : objsIn l (startT l l.length) := fun i hi h => startT_objs hi h hi
  have hn : nextP l (startT l l.length) = none := nextP_none fun i hi p hp => hin.good hobj hi (ha _ (List.getElem_mem hi)) p hp
  unfold takeL takeT
  rw [rounds_none hn, h1]

/-- PickNames. -/
theorem defines_names (m : Module) : ∀ s ∈ definesM m, s ∈ namesM m := by
  intro s hs
  unfold definesM namesF namesG at hs
  unfold namesM fnames gnames
  simp only [List.mem_append, List.mem_map, List.mem_filter] at hs ⊢
  rcases hs with ⟨f, ⟨hf, _⟩, rfl⟩ | ⟨f, ⟨hf, _⟩, rfl⟩
  · exact .inl ⟨f, hf, rfl⟩
  · exact .inr ⟨f, hf, rfl⟩
theorem nodup_filter2 {α : Type} {f : α → ByteArray} {p q : α → Bool} (hpq : ∀ x, p x = true → q x = false) : ∀ {l : List α}, (l.map f).Nodup → ∀ s, s ∈ (l.filter p).map f → s ∉ (l.filter q).map f
  | [], _, s, h => by simp at h
  | x :: l, hn, s, h => by
    simp only [List.map_cons, List.nodup_cons] at hn
    have ih := nodup_filter2 hpq hn.2 s
    have hnot : ∀ r : α → Bool, f x ∉ (l.filter r).map f := fun r hr => by
      obtain ⟨y, hy, e⟩ := List.mem_map.1 hr
      exact hn.1 (List.mem_map.2 ⟨y, (List.mem_filter.1 hy).1, e⟩)
    intro h2
    cases hp : p x with
    | true =>
      have hq := hpq x hp
      rw [List.filter_cons_of_pos (by simpa using hp)] at h
      rw [List.filter_cons_of_neg (by simp [hq])] at h2
      simp only [List.map_cons, List.mem_cons] at h
      rcases h with rfl | h
      · exact hnot q h2
      · exact ih h h2
    | false =>
      rw [List.filter_cons_of_neg (by simp [hp])] at h
      cases hq : q x with
      | true =>
        rw [List.filter_cons_of_pos (by simpa using hq)] at h2
        simp only [List.map_cons, List.mem_cons] at h2
        rcases h2 with rfl | h2
        · exact hnot p h
        · exact ih h h2
      | false =>
        rw [List.filter_cons_of_neg (by simp [hq])] at h2
        exact ih h h2
theorem names_sub {α : Type} {f : α → ByteArray} {p : α → Bool} {l : List α} {s : ByteArray} (h : s ∈ (l.filter p).map f) : s ∈ l.map f := by
  obtain ⟨y, hy, e⟩ := List.mem_map.1 h
  exact List.mem_map.2 ⟨y, (List.mem_filter.1 hy).1, e⟩
theorem defines_not_wants {m : Module} (hn : (namesM m).Nodup) : ∀ s ∈ definesM m, s ∉ wantsM m := by
  intro s hs hw
  unfold namesM fnames gnames at hn
  rw [List.nodup_append] at hn
  obtain ⟨h1, h2, h3⟩ := hn
  unfold definesM at hs
  unfold wantsM at hw
  rcases List.mem_append.1 hs with hs | hs <;> rcases List.mem_append.1 hw with hw | hw
  · exact nodup_filter2 (p := defF) (q := wantF) (fun x hx => by cases hb : x.blocks <;> simp_all [defF, wantF]) h1 s hs hw
  · exact h3 s (names_sub hs) s (names_sub hw) rfl
  · exact h3 s (names_sub hw) s (names_sub hs) rfl
  · exact nodup_filter2 (p := defG) (q := wantG) (fun x hx => by simp [defG, wantG] at hx ⊢; simp [hx.1]) h2 s hs hw
theorem filter_two {α : Type} {p q : α → Bool} (hpq : ∀ x, p x = true → q x = false) : ∀ l : List α, (l.filter p).length + (l.filter q).length ≤ l.length
  | [] => by simp
  | x :: l => by
    have ih := filter_two hpq l
    cases hp : p x with
    | true => simp [hp, hpq x hp]; omega
    | false => cases hq : q x <;> simp [hp, hq] <;> omega
theorem names_count (m : Module) : (definesM m).length + (wantsM m).length ≤ m.funcs.length + m.globs.length := by
  have h1 := filter_two (p := defF) (q := wantF) (fun x hx => by cases hb : x.blocks <;> simp_all [defF, wantF]) m.funcs
  have h2 := filter_two (p := defG) (q := wantG) (fun x hx => by simp [defG, wantG] at hx ⊢; simp [hx.1]) m.globs
  simp [definesM, wantsM, namesF, namesG]
  omega

end Go.Proofs.Ytkpjokhiobclbaa
