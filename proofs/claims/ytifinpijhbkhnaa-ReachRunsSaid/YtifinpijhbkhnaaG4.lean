/- Plain laws of layer 7: a run without what isn't reached. -/
import Derived.Test.YtifinpijhbkhnaaG1
import Derived.Test.YtifinpijhbkhnaaF13
namespace Go.Proofs.Ytifinpijhbkhnaa
open Go.RowKit

/-- Two runs that are alike, one without what isn't reached. -/
structure SimD (m : Module) (w w' : Wd) : Prop where
  same : w' = { w with globs := w'.globs }
  globs : ∀ s, Rch m (rootsL m) s → (∃ g ∈ m.globs, g.name = s) → valAt w'.globs (globI (dropM m) s) = valAt w.globs (globI m s)
  len : w.globs.length = m.globs.length
  len' : w'.globs.length = (dropM m).globs.length

theorem valAt_set (l : List Int) (k : Nat) (v i : Int) : valAt (l.set k v) i = if i.toNat = k ∧ k < l.length then v else valAt l i := by
  unfold valAt
  rw [List.getElem?_set]
  by_cases h : k = i.toNat
  · subst h
    by_cases hk : i.toNat < l.length
    · simp [hk]
    · simp [hk]
  · rw [if_neg h, if_neg (fun h' => h h'.1.symm)]

theorem globI_at {m : Module} {s : ByteArray} (h : ∃ g ∈ m.globs, g.name = s) : ∃ k, ∃ hk : k < m.globs.length, globI m s = k ∧ findG m s = some m.globs[k] ∧ m.globs[k].name = s := by
  rcases leadsG_eq m s with ⟨k, hk, h1, h2⟩ | ⟨_, h2⟩
  · exact ⟨k, hk, h1, h2, by simpa using List.find?_some h2⟩
  · obtain ⟨g, hg, hn⟩ := h
    have := List.find?_eq_none.1 h2 g hg
    simp [hn] at this

theorem SimD.step {m : Module} {w w' : Wd} (h : SimD m w w') (fuel : Nat) : SimD m (stepW fuel w) (stepW fuel w') := by
  have hs := h.same
  unfold stepW
  rw [show w'.steps = w.steps from by rw [hs]]
  split <;> exact ⟨by rw [hs], h.globs, h.len, h.len'⟩
theorem SimD.enter {m : Module} {w w' : Wd} (h : SimD m w w') (n : Nat) : SimD m (enterW n w) (enterW n w') := by
  have hs := h.same
  unfold enterW
  rw [show w'.deep = w.deep from by rw [hs]]
  split <;> exact ⟨by rw [hs], h.globs, h.len, h.len'⟩

theorem SimD.gives {m : Module} (hok : ModOk m) {w w' : Wd} (h : SimD m w w') (inp : ByteArray) (x : Inst) (vals : List Int) (hr : x.op = 12 ∨ x.op = 13 → Rch m (rootsL m) x.name ∧ ∃ g ∈ m.globs, g.name = x.name) :
    SimD m (givesW m inp x vals w).1 (givesW (dropM m) inp x vals w').1 ∧ (givesW (dropM m) inp x vals w').2 = (givesW m inp x vals w).2 := by
  have hs := h.same
  have hrd : w'.read = w.read := by rw [hs]
  unfold givesW
  split
  · exact ⟨h, rfl⟩
  split
  · rename_i h12
    obtain ⟨h1, h2⟩ := hr (.inl h12)
    exact ⟨h, h.globs _ h1 h2⟩
  split
  · rename_i h13
    obtain ⟨h1, h2⟩ := hr (.inr h13)
    refine ⟨⟨by simp only; rw [hs], fun s hs1 hs2 => ?_, by simp only [List.length_set]; exact h.len, by simp only [List.length_set]; exact h.len'⟩, rfl⟩
    simp only [valAt_set]
    have hdrop : ∀ t, Rch m (rootsL m) t → (∃ g ∈ m.globs, g.name = t) → ∃ g ∈ (dropM m).globs, g.name = t := fun t ht ⟨g, hg, hn⟩ => ⟨g, mem_dropG.2 ⟨hg, by rw [hn]; exact ht⟩, hn⟩
    obtain ⟨k, hk, e1, e2, e3⟩ := globI_at h2
    obtain ⟨j, hj, f1, f2, f3⟩ := globI_at hs2
    obtain ⟨k', hk', e1', e2', e3'⟩ := globI_at (hdrop _ h1 h2)
    obtain ⟨j', hj', f1', f2', f3'⟩ := globI_at (hdrop _ hs1 hs2)
    rw [h.globs s hs1 hs2, e1, f1, e1', f1', h.len, h.len']
    simp only [Int.toNat_natCast]
    by_cases e : s = x.name
    · subst e
      rw [f1] at e1
      rw [f1'] at e1'
      rw [if_pos ⟨by omega, by omega⟩, if_pos ⟨by omega, by omega⟩]
    · rw [if_neg, if_neg]
      · rintro ⟨rfl, _⟩
        exact e (f3.symm.trans e3)
      · rintro ⟨rfl, _⟩
        exact e (f3'.symm.trans e3')
  split
  · rw [hrd]
    split
    · exact ⟨h, rfl⟩
    · exact ⟨⟨by simp only; rw [hs], h.globs, h.len, h.len'⟩, rfl⟩
  split
  · exact ⟨⟨by simp only; rw [hs], h.globs, h.len, h.len'⟩, rfl⟩
  · exact ⟨h, rfl⟩

theorem goR_drop {m : Module} (hok : ModOk m) {inp : ByteArray} {fuel deep : Nat} : ∀ (g : Nat) (w w' : Wd) (f : Func) (at' i : Nat) (vals : List Int) (n : Nat), SimD m w w' → f ∈ (dropM m).funcs →
    SimD m (goR m inp fuel deep g w f at' i vals n).1 (goR (dropM m) inp fuel deep g w' f at' i vals n).1 ∧ (goR (dropM m) inp fuel deep g w' f at' i vals n).2 = (goR m inp fuel deep g w f at' i vals n).2 := by
  intro g
  induction g with
  | zero => intro w w' f at' i vals n h hf; exact ⟨h, rfl⟩
  | succ g ih =>
    intro w w' f at' i vals n h hf
    have hb : ∀ {w w' : Wd}, SimD m w w' → w'.bad = w.bad := fun h => by rw [h.same]
    have h1 := h.step fuel
    obtain ⟨hf1, hf2⟩ := mem_dropF.1 hf
    rw [goR, goR]
    simp only [hb h1]
    split
    · exact ⟨h1, rfl⟩
    split
    · rename_i hi
      have hx : (f.blocks[at']?.getD default).ins[i]?.getD default ∈ allIns f := by
        cases hbl : f.blocks[at']? with
        | none => rw [hbl] at hi; simp at hi; exact absurd hi (by simp [show (default : Block).ins = [] from rfl])
        | some b =>
          rw [hbl] at hi
          simp only [Option.getD_some] at hi ⊢
          rw [List.getElem?_eq_getElem hi]
          exact List.mem_flatMap.2 ⟨b, List.mem_of_getElem? hbl, List.getElem_mem hi⟩
      generalize (f.blocks[at']?.getD default).ins[i]?.getD default = x at hx ⊢
      have hnm : isNamed x.op = true → Rch m (rootsL m) x.name := fun hn => .step hf2 (by rw [leads_of hok hf1]; exact List.mem_map.2 ⟨x, List.mem_filter.2 ⟨hx, hn⟩, rfl⟩)
      split
      · rename_i h14
        split
        · exact ⟨⟨by simp only; rw [h1.same], h1.globs, h1.len, h1.len'⟩, rfl⟩
        · obtain ⟨f', hf', hfn, hfp⟩ := hok.call (mem_insM hf1 hx) h14
          have hrc := hnm (isNamed_iff.2 (.inr (.inr h14)))
          have hff : findF m x.name = some f' := by rw [← hfn]; exact findF_uniq hok hf'
          have e1 : funcOf m x.name = f' := by unfold funcOf; rw [hff]; rfl
          have e2 : funcOf (dropM m) x.name = f' := by unfold funcOf; rw [findF_drop hrc, hff]; rfl
          rw [e1, e2]
          obtain ⟨a1, a2⟩ := ih (enterW (n + 1) (stepW fuel w)) (enterW (n + 1) (stepW fuel w')) f' 0 0 (pickI vals x.args) (n + 1) (h1.enter _) (mem_dropF.2 ⟨hf', by rw [hfn]; exact hrc⟩)
          rw [hb a1, a2]
          split
          · exact ⟨a1, rfl⟩
          · exact ih _ _ f at' (i + 1) _ n a1 hf
      · obtain ⟨a1, a2⟩ := h1.gives hok inp x vals (fun h12 => ⟨hnm (isNamed_iff.2 (by rcases h12 with h | h <;> simp [h])), hasG_iff.1 ((missI_false (hok.miss x (mem_insM hf1 hx))).2 h12)⟩)
        rw [a2]
        exact ih _ _ f at' (i + 1) _ n a1 hf
    · split
      · exact ⟨h1, rfl⟩
      · split
        · exact ih _ _ f _ 0 _ n h1 hf
        · exact ih _ _ f _ 0 _ n h1 hf

/-- A whole module does the same without what isn't reached. -/
theorem runR_drop {m : Module} (hw : wholeE m = 0) (inp : ByteArray) (fuel deep : Nat) : runR (dropM m) inp fuel deep = { runR m inp fuel deep with globs := (runR (dropM m) inp fuel deep).globs } := by
  obtain ⟨hok, hmain, hthere⟩ := wholeE_zero.1 hw
  have hroot : Rch m (rootsL m) mainS := .root (main_root hmain)
  have hst : SimD m (startW m) (startW (dropM m)) := by
    refine ⟨rfl, fun s hs1 hs2 => ?_, by simp [startW], by simp [startW]⟩
    obtain ⟨g, hg, hn⟩ := hs2
    obtain ⟨k, hk, e1, e2, e3⟩ := globI_at ⟨g, hg, hn⟩
    obtain ⟨k', hk', e1', e2', e3'⟩ := globI_at (m := dropM m) ⟨g, mem_dropG.2 ⟨hg, by rw [hn]; exact hs1⟩, hn⟩
    rw [findG_drop hs1, e2] at e2'
    injection e2' with e2'
    rw [e1, e1']
    simp only [startW, valAt, Int.toNat_natCast, List.getElem?_map, List.getElem?_eq_getElem hk, List.getElem?_eq_getElem hk', Option.map_some, Option.getD_some, e2']
  unfold mainB at hmain
  cases hf : findF m mainS with
  | none => rw [hf] at hmain; cases hmain
  | some f =>
    have h1 := List.mem_of_find?_eq_some hf
    have h2 : f.name = mainS := by simpa using List.find?_some hf
    have e1 : funcOf m mainS = f := by unfold funcOf; rw [hf]; rfl
    have e2 : funcOf (dropM m) mainS = f := by unfold funcOf; rw [findF_drop hroot, hf]; rfl
    obtain ⟨a1, a2⟩ := goR_drop hok (inp := inp) (fuel := fuel) (deep := deep) (fuel + 1) _ _ f 0 0 [] 1 (hst.enter 1) (mem_dropF.2 ⟨h1, by rw [h2]; exact hroot⟩)
    have hb := a1.same
    unfold runR
    rw [e1, e2]
    simp only
    have hbb : (goR (dropM m) inp fuel deep (fuel + 1) (enterW 1 (startW (dropM m))) f 0 0 [] 1).1.bad = (goR m inp fuel deep (fuel + 1) (enterW 1 (startW m)) f 0 0 [] 1).1.bad := by rw [hb]
    rw [hbb, a2]
    split
    · exact hb
    · generalize (goR (dropM m) inp fuel deep (fuel + 1) (enterW 1 (startW (dropM m))) f 0 0 [] 1).1 = a at hb ⊢
      rw [hb]

end Go.Proofs.Ytifinpijhbkhnaa
