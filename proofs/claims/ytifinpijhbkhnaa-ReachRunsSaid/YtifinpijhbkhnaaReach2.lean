/- Plain laws of layer 11: a module without what isn't reached. -/
import Derived.Test.YtifinpijhbkhnaaReach
import Derived.Test.YtifinpijhbkhnaaLD
namespace Go.Proofs.Ytifinpijhbkhnaa
open Go.RowKit

theorem fromL_mem {m : Module} {R : List ByteArray} {s : ByteArray} : s ∈ fromL m R ↔ s ∈ namesM m ∧ Rch m R s := by
  unfold fromL reachL
  rw [List.mem_filter, onceL_mem]
  exact and_congr_right fun _ => by rw [mem_hasN]; exact reachL_iff m R s
theorem fromL_nodup (m : Module) (R : List ByteArray) : (fromL m R).Nodup := (onceL_nodup _).sublist List.filter_sublist
theorem fromL_length (m : Module) (R : List ByteArray) : (fromL m R).length ≤ m.funcs.length + m.globs.length := by
  have h1 := onceT_length (namesM m) (namesM m).length
  rw [onceT_all (Nat.le_refl _)] at h1
  have h2 := List.length_filter_le (fun s => hasN (reachL m R) s) (onceL (namesM m))
  have h3 := namesM_length m
  unfold fromL
  omega

theorem fromL_more {m : Module} {R : List ByteArray} {x s : ByteArray} (h : s ∈ fromL m R) : s ∈ fromL m (R ++ [x]) := by
  rw [fromL_mem] at h ⊢
  exact ⟨h.1, h.2.mono fun y hy => .root (List.mem_append_left _ hy)⟩
theorem fromL_own {m : Module} {R : List ByteArray} {s : ByteArray} (h : s ∈ fromL m R) : s ∈ fromL m [s] := by
  rw [fromL_mem] at h ⊢
  exact ⟨h.1, .root (by simp)⟩
theorem fromL_chain {m : Module} {r s t : ByteArray} (h : s ∈ fromL m [r]) (ht : t ∈ fromL m [s]) : t ∈ fromL m [r] := by
  rw [fromL_mem] at h ht ⊢
  exact ⟨ht.1, ht.2.mono fun y hy => by
    obtain rfl : y = s := by simpa using hy
    exact h.2⟩

theorem find?_filter {α : Type} (p q : α → Bool) : ∀ l : List α, (∀ x ∈ l, q x = true → p x = true) → (l.filter p).find? q = l.find? q
  | [], _ => rfl
  | x :: l, h => by
    have ih := find?_filter p q l fun y hy => h y (List.mem_cons_of_mem _ hy)
    by_cases hq : q x = true
    · have hp := h x (by simp) hq
      simp [hp, hq]
    · have hq' : q x = false := by simpa using hq
      by_cases hp : p x = true
      · simp [hp, hq', ih]
      · have hp' : p x = false := by simpa using hp
        simp [hp', hq', ih]

theorem fname_mem {m : Module} {f : Func} (h : f ∈ m.funcs) : f.name ∈ namesM m := List.mem_append_left _ (List.mem_map.2 ⟨f, h, rfl⟩)
theorem gname_mem {m : Module} {g : Glob} (h : g ∈ m.globs) : g.name ∈ namesM m := List.mem_append_right _ (List.mem_map.2 ⟨g, h, rfl⟩)

theorem mem_dropF {m : Module} {f : Func} : f ∈ (dropM m).funcs ↔ f ∈ m.funcs ∧ Rch m (rootsL m) f.name := by
  unfold dropM
  simp only [List.mem_filter]
  exact and_congr_right fun h => by rw [mem_hasN, fromL_mem]; exact and_iff_right (fname_mem h)
theorem mem_dropG {m : Module} {g : Glob} : g ∈ (dropM m).globs ↔ g ∈ m.globs ∧ Rch m (rootsL m) g.name := by
  unfold dropM
  simp only [List.mem_filter]
  exact and_congr_right fun h => by rw [mem_hasN, fromL_mem]; exact and_iff_right (gname_mem h)

theorem findF_drop {m : Module} {s : ByteArray} (h : Rch m (rootsL m) s) : findF (dropM m) s = findF m s := by
  unfold findF dropM
  refine find?_filter _ _ _ fun f hf hs => ?_
  obtain rfl : f.name = s := by simpa using hs
  exact mem_hasN.2 (fromL_mem.2 ⟨fname_mem hf, h⟩)
theorem leads_drop {m : Module} {s : ByteArray} (h : Rch m (rootsL m) s) : leads (dropM m) s = leads m s := by
  unfold leads
  rw [findF_drop h]

theorem rootsL_mem {m : Module} {s : ByteArray} : s ∈ rootsL m ↔ (∃ f ∈ m.funcs, rootF f = true ∧ f.name = s) ∨ ∃ g ∈ m.globs, rootG g = true ∧ g.name = s := by
  unfold rootsL
  simp only [List.mem_append, List.mem_map, List.mem_filter]
  constructor
  · rintro (⟨f, ⟨h1, h2⟩, h3⟩ | ⟨g, ⟨h1, h2⟩, h3⟩)
    · exact .inl ⟨f, h1, h2, h3⟩
    · exact .inr ⟨g, h1, h2, h3⟩
  · rintro (⟨f, h1, h2, h3⟩ | ⟨g, h1, h2, h3⟩)
    · exact .inl ⟨f, ⟨h1, h2⟩, h3⟩
    · exact .inr ⟨g, ⟨h1, h2⟩, h3⟩
theorem rootsL_drop {m : Module} {s : ByteArray} (h : s ∈ rootsL m) : s ∈ rootsL (dropM m) := by
  have hr : Rch m (rootsL m) s := .root h
  rw [rootsL_mem] at h ⊢
  rcases h with ⟨f, h1, h2, rfl⟩ | ⟨g, h1, h2, rfl⟩
  · exact .inl ⟨f, mem_dropF.2 ⟨h1, hr⟩, h2, rfl⟩
  · exact .inr ⟨g, mem_dropG.2 ⟨h1, hr⟩, h2, rfl⟩
theorem rch_drop {m : Module} {s : ByteArray} (h : Rch m (rootsL m) s) : Rch (dropM m) (rootsL (dropM m)) s := by
  induction h with
  | root h => exact .root (rootsL_drop h)
  | step hs ht ih => exact .step ih (by rw [leads_drop hs]; exact ht)

/-- What was dropped once is dropped. -/
theorem drop_drop (m : Module) : dropM (dropM m) = dropM m := by
  have hF : (dropM (dropM m)).funcs = (dropM m).funcs := by
    rw [show (dropM (dropM m)).funcs = (dropM m).funcs.filter fun f => hasN (fromL (dropM m) (rootsL (dropM m))) f.name from rfl]
    rw [List.filter_eq_self]
    exact fun f hf => mem_hasN.2 (fromL_mem.2 ⟨fname_mem hf, rch_drop (mem_dropF.1 hf).2⟩)
  have hG : (dropM (dropM m)).globs = (dropM m).globs := by
    rw [show (dropM (dropM m)).globs = (dropM m).globs.filter fun g => hasN (fromL (dropM m) (rootsL (dropM m))) g.name from rfl]
    rw [List.filter_eq_self]
    exact fun g hg => mem_hasN.2 (fromL_mem.2 ⟨gname_mem hg, rch_drop (mem_dropG.1 hg).2⟩)
  cases h1 : dropM (dropM m)
  cases h2 : dropM m
  rw [h1, h2] at hF hG
  simp only at hF hG
  rw [hF, hG]

theorem drop_funcs_le (m : Module) : (dropM m).funcs.length ≤ m.funcs.length := List.length_filter_le _ _
theorem drop_globs_le (m : Module) : (dropM m).globs.length ≤ m.globs.length := List.length_filter_le _ _

theorem Small.drop {m : Module} (h : Small m) : Small (dropM m) where
  len := by have h1 := drop_funcs_le m; have h2 := drop_globs_le m; have := h.len; omega
  ins := fun f hf => h.ins f (mem_dropF.1 hf).1
  blks := fun f hf => h.blks f (mem_dropF.1 hf).1
  args := fun f hf => h.args f (mem_dropF.1 hf).1

/-- In a right module a name tells its function. -/
theorem findF_uniq {m : Module} (h : ModOk m) {f : Func} (hf : f ∈ m.funcs) : findF m f.name = some f := by
  unfold findF
  cases hx : m.funcs.find? fun g => decide (g.name = f.name) with
  | none =>
    have := List.find?_eq_none.1 hx f hf
    simp at this
  | some g =>
    have h1 := List.mem_of_find?_eq_some hx
    have h2 : g.name = f.name := by simpa using List.find?_some hx
    rw [name_uniq h.fnodup h1 hf h2]
theorem leads_of {m : Module} (h : ModOk m) {f : Func} (hf : f ∈ m.funcs) : leads m f.name = namesOf (allIns f) := by
  unfold leads
  rw [findF_uniq h hf]
theorem leads_some {m : Module} {s t : ByteArray} (h : t ∈ leads m s) : ∃ f ∈ m.funcs, f.name = s ∧ t ∈ namesOf (allIns f) := by
  unfold leads at h
  split at h
  · cases h
  · rename_i f hf
    exact ⟨f, List.mem_of_find?_eq_some hf, by simpa using List.find?_some hf, h⟩

/-- All names that some functions have. -/
def refsA (l : List Func) : List ByteArray := l.flatMap fun f => namesOf (allIns f)

theorem named_stays {m : Module} (h : ModOk m) {s : ByteArray} (hs : s ∈ refsA (dropM m).funcs) : Rch m (rootsL m) s := by
  obtain ⟨f, hf, hsf⟩ := List.mem_flatMap.1 hs
  obtain ⟨h1, h2⟩ := mem_dropF.1 hf
  exact .step h2 (by rw [leads_of h h1]; exact hsf)
theorem stays_named {m : Module} {s : ByteArray} (h : Rch m (rootsL m) s) : s ∈ rootsL m ∨ s ∈ refsA (dropM m).funcs := by
  cases h with
  | root h => exact .inl h
  | step hs ht =>
    obtain ⟨f, h1, h2, h3⟩ := leads_some ht
    exact .inr (List.mem_flatMap.2 ⟨f, mem_dropF.2 ⟨h1, by rw [h2]; exact hs⟩, h3⟩)

/-- A right module is right without what isn't reached. -/
theorem drop_ok {m : Module} (h : ModOk m) : ModOk (dropM m) := by
  have hnm : ∀ f ∈ (dropM m).funcs, ∀ i ∈ allIns f, isNamed i.op = true → Rch m (rootsL m) i.name := fun f hf i hi hn => by
    obtain ⟨h1, h2⟩ := mem_dropF.1 hf
    exact .step h2 (by rw [leads_of h h1]; exact List.mem_map.2 ⟨i, List.mem_filter.2 ⟨hi, hn⟩, rfl⟩)
  refine .mk' (Nat.le_trans (drop_funcs_le m) h.nf) (Nat.le_trans (drop_globs_le m) h.ng) (fun f hf => h.funcs f (mem_dropF.1 hf).1) (fun g hg => h.globs g (mem_dropG.1 hg).1) ?_ (fun f hf i hi h14 => ?_) (fun f hf i hi h12 => ?_)
  · have : (namesM (dropM m)).Sublist (namesM m) := List.Sublist.append (List.filter_sublist.map _) (List.filter_sublist.map _)
    exact h.names.sublist this
  · obtain ⟨g, hg1, hg2, hg3⟩ := h.call (mem_insM (mem_dropF.1 hf).1 hi) h14
    exact ⟨g, mem_dropF.2 ⟨hg1, by rw [hg2]; exact hnm f hf i hi (isNamed_iff.2 (.inr (.inr h14)))⟩, hg2, hg3⟩
  · obtain ⟨g, hg1, hg2⟩ := hasG_iff.1 ((missI_false (h.miss i (mem_insM (mem_dropF.1 hf).1 hi))).2 h12)
    refine ⟨g, mem_dropG.2 ⟨hg1, ?_⟩, hg2⟩
    rw [hg2]
    exact hnm f hf i hi (isNamed_iff.2 (by rcases h12 with h | h <;> simp [h]))

end Go.Proofs.Ytifinpijhbkhnaa
