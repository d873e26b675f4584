/- What runs of layer 7 have in common: plain. -/
import Derived.Test.YtpfokkfomgmibaaH2
namespace Go.Proofs.Ytpfokkfomgmibaa

theorem app_nil (b : ByteArray) : b = b ++ ⟨#[]⟩ := (ByteArray.append_empty (b := b)).symm

/-- What a run has done is the beginning of what another has. -/
structure LeW (w r : Wd) : Prop where
  out : ∃ s, r.out = w.out ++ s
  read : w.read ≤ r.read
  deep : w.deep ≤ r.deep
  steps : w.steps ≤ r.steps

theorem LeW.refl (w : Wd) : LeW w w := ⟨⟨⟨#[]⟩, app_nil _⟩, Nat.le_refl _, Nat.le_refl _, Nat.le_refl _⟩
theorem LeW.trans {a b c : Wd} (h : LeW a b) (h' : LeW b c) : LeW a c := by
  obtain ⟨s, hs⟩ := h.out
  obtain ⟨t, ht⟩ := h'.out
  exact ⟨⟨s ++ t, by rw [ht, hs, ByteArray.append_assoc]⟩, Nat.le_trans h.read h'.read, Nat.le_trans h.deep h'.deep, Nat.le_trans h.steps h'.steps⟩
theorem LeW.step (fuel : Nat) (w : Wd) : LeW w (stepW fuel w) := by
  unfold stepW
  split
  · exact ⟨⟨⟨#[]⟩, app_nil _⟩, Nat.le_refl _, Nat.le_refl _, Nat.le_refl _⟩
  · exact ⟨⟨⟨#[]⟩, app_nil _⟩, Nat.le_refl _, Nat.le_refl _, Nat.le_succ _⟩
theorem LeW.enter (n : Nat) (w : Wd) : LeW w (enterW n w) := by
  unfold enterW
  split
  · exact ⟨⟨⟨#[]⟩, app_nil _⟩, Nat.le_refl _, by simp only []; omega, Nat.le_refl _⟩
  · exact LeW.refl w
theorem LeW.gives (m : Module) (inp : ByteArray) (x : Inst) (vals : List Int) (w : Wd) : LeW w (givesW m inp x vals w).1 := by
  unfold givesW
  split
  · exact LeW.refl w
  split
  · exact LeW.refl w
  split
  · exact ⟨⟨⟨#[]⟩, app_nil _⟩, Nat.le_refl _, Nat.le_refl _, Nat.le_refl _⟩
  split
  · split
    · exact LeW.refl w
    · exact ⟨⟨⟨#[]⟩, app_nil _⟩, Nat.le_succ _, Nat.le_refl _, Nat.le_refl _⟩
  split
  · exact ⟨⟨_, rfl⟩, Nat.le_refl _, Nat.le_refl _, Nat.le_refl _⟩
  · exact LeW.refl w
theorem LeW.of_right {w r r' : Wd} (h : LeW w r) (h1 : r'.out = r.out) (h2 : r'.read = r.read) (h3 : r'.deep = r.deep) (h4 : r'.steps = r.steps) : LeW w r' := ⟨by rw [h1]; exact h.out, by rw [h2]; exact h.read, by rw [h3]; exact h.deep, by rw [h4]; exact h.steps⟩
theorem LeW.of_left {w w' r : Wd} (h : LeW w r) (h1 : w'.out = w.out) (h2 : w'.read = w.read) (h3 : w'.deep = w.deep) (h4 : w'.steps = w.steps) : LeW w' r := ⟨by rw [h1]; exact h.out, by rw [h2]; exact h.read, by rw [h3]; exact h.deep, by rw [h4]; exact h.steps⟩
theorem goR_le {m : Module} {inp : ByteArray} {fuel deep : Nat} : ∀ (g : Nat) (w : Wd) (f : Func) (at' i : Nat) (vals : List Int) (n : Nat), LeW w (goR m inp fuel deep g w f at' i vals n).1 := by
  intro g
  induction g with
  | zero => intro w f at' i vals n; exact LeW.refl w
  | succ g ih =>
    intro w f at' i vals n
    have h1 := LeW.step fuel w
    rw [goR]
    simp only []
    split
    · exact h1
    split
    · split
      · split
        · exact h1.of_right rfl rfl rfl rfl
        · split
          · exact h1.trans ((LeW.enter (n + 1) _).trans (ih _ _ _ _ _ _))
          · exact (h1.trans ((LeW.enter (n + 1) _).trans (ih _ _ _ _ _ _))).trans (ih _ _ _ _ _ _)
      · exact h1.trans ((LeW.gives _ _ _ _ _).trans (ih _ _ _ _ _ _))
    · split
      · exact h1
      · split <;> exact h1.trans (ih _ _ _ _ _ _)

/-- What holds of a run at any time. -/
structure Kept (inp : ByteArray) (deep : Nat) (w : Wd) : Prop where
  out : w.out.size ≤ w.steps
  read : w.read ≤ inp.size
  deep : w.deep ≤ deep
  ended : w.ended = false
  code : w.code = 0
theorem Kept.enter {inp : ByteArray} {deep n : Nat} {w : Wd} (h : Kept inp deep w) (hn : n ≤ deep) : Kept inp deep (enterW n w) := by
  unfold enterW
  split
  · exact ⟨h.out, h.read, hn, h.ended, h.code⟩
  · exact h
theorem Kept.step {inp : ByteArray} {deep fuel : Nat} {w : Wd} (h : Kept inp deep w) : Kept inp deep (stepW fuel w) := by
  unfold stepW
  split
  · exact ⟨h.out, h.read, h.deep, h.ended, h.code⟩
  · exact ⟨Nat.le_succ_of_le h.out, h.read, h.deep, h.ended, h.code⟩
theorem Kept.gives {m : Module} {inp : ByteArray} {deep fuel : Nat} {w : Wd} (h : Kept inp deep w) (hs : ¬ w.steps = fuel) (x : Inst) (vals : List Int) : Kept inp deep (givesW m inp x vals (stepW fuel w)).1 := by
  have h1 : Kept inp deep (stepW fuel w) := h.step
  have h2 := h.out
  rw [stepW_go hs] at h1 ⊢
  unfold givesW
  split
  · exact h1
  split
  · exact h1
  split
  · exact ⟨h1.out, h1.read, h1.deep, h1.ended, h1.code⟩
  split
  · split
    · exact h1
    · rename_i h3
      simp only [Nat.not_le] at h3
      exact ⟨h1.out, h3, h1.deep, h1.ended, h1.code⟩
  split
  · exact ⟨by simp only [ByteArray.size_append, byteS_size]; omega, h1.read, h1.deep, h1.ended, h1.code⟩
  · exact h1
theorem gives_bad {m : Module} {inp : ByteArray} {x : Inst} {vals : List Int} {w : Wd} : (givesW m inp x vals w).1.bad = w.bad := by
  unfold givesW
  repeat' split
  all_goals rfl
theorem enter_bad {n : Nat} {w : Wd} : (enterW n w).bad = w.bad := by
  unfold enterW
  split <;> rfl
theorem goR_kept {m : Module} {inp : ByteArray} {fuel deep : Nat} : ∀ (g : Nat) (w : Wd) (f : Func) (at' i : Nat) (vals : List Int) (n : Nat), Kept inp deep w → w.bad = 0 → n ≤ deep →
    Kept inp deep (goR m inp fuel deep g w f at' i vals n).1 ∧ ((goR m inp fuel deep g w f at' i vals n).1.bad = 0 ∨ ((goR m inp fuel deep g w f at' i vals n).1.bad = 12 ∧ (goR m inp fuel deep g w f at' i vals n).1.steps = fuel) ∨ (goR m inp fuel deep g w f at' i vals n).1.bad = 13) := by
  intro g
  induction g with
  | zero => intro w f at' i vals n h hb hn; exact ⟨h, .inl hb⟩
  | succ g ih =>
    intro w f at' i vals n h hb hn
    by_cases hs : w.steps = fuel
    · have e : goR m inp fuel deep (g + 1) w f at' i vals n = (stepW fuel w, 0) := by rw [goR]; exact if_pos ((stepW_bad (fuel := fuel) hb).2 hs)
      rw [e]
      exact ⟨h.step, .inr (.inl (by unfold stepW; rw [if_pos hs]; exact ⟨rfl, hs⟩))⟩
    · have hb1 : ¬ (stepW fuel w).bad ≠ 0 := fun h' => hs ((stepW_bad hb).1 h')
      have hb2 : (stepW fuel w).bad = 0 := Classical.not_not.1 hb1
      have h1 : Kept inp deep (stepW fuel w) := h.step
      rw [goR]
      simp only [if_neg hb1]
      split
      · split
        · split
          · exact ⟨⟨h1.out, h1.read, h1.deep, h1.ended, h1.code⟩, .inr (.inr rfl)⟩
          · obtain ⟨k1, k2⟩ := ih (enterW (n + 1) (stepW fuel w)) (funcOf m (((f.blocks[at']?.getD default).ins[i]?.getD default).name)) 0 0 (pickI vals ((f.blocks[at']?.getD default).ins[i]?.getD default).args) (n + 1) (h1.enter (by omega)) (by rw [enter_bad]; exact hb2) (by omega)
            split
            · exact ⟨k1, k2⟩
            · rename_i hr
              exact ih _ f at' (i + 1) _ n k1 (Classical.not_not.1 hr) hn
        · exact ih _ f at' (i + 1) _ n (h.gives hs _ _) (by rw [gives_bad]; exact hb2) hn
      · split
        · exact ⟨h1, .inl hb2⟩
        · split
          · exact ih _ f _ 0 _ n h1 hb2 hn
          · exact ih _ f _ 0 _ n h1 hb2 hn

/-- More fuel, deeper calls. -/
theorem goR_two {m : Module} {inp : ByteArray} {fuel deep fuel' deep' : Nat} (hf : fuel ≤ fuel') (hd : deep ≤ deep') : ∀ (g g' : Nat) (w : Wd) (f : Func) (at' i : Nat) (vals : List Int) (n : Nat), Good m fuel w → (∀ v ∈ vals, 0 ≤ v) → n ≤ deep → fuel < g + w.steps → fuel' < g' + w.steps →
    goR m inp fuel' deep' g' w f at' i vals n = goR m inp fuel deep g w f at' i vals n ∨
    ((goR m inp fuel deep g w f at' i vals n).1.bad = 12 ∧ fuel < fuel' ∧ LeW (goR m inp fuel deep g w f at' i vals n).1 (goR m inp fuel' deep' g' w f at' i vals n).1) ∨
    ((goR m inp fuel deep g w f at' i vals n).1.bad = 13 ∧ deep < deep' ∧ ∃ s, (goR m inp fuel' deep' g' w f at' i vals n).1.out = (goR m inp fuel deep g w f at' i vals n).1.out ++ s) := by
  intro g
  induction g with
  | zero => intro g' w f at' i vals n h _ _ h1; have := h.steps; omega
  | succ g ih =>
    intro g' w f at' i vals n h hv hn h1 h2
    cases g' with
    | zero => have := h.steps; omega
    | succ g' =>
      by_cases hs : w.steps = fuel
      · have e : goR m inp fuel deep (g + 1) w f at' i vals n = (stepW fuel w, 0) := by rw [goR]; exact if_pos ((stepW_bad (fuel := fuel) h.bad).2 hs)
        rw [e]
        by_cases hff : fuel = fuel'
        · subst hff
          refine .inl ?_
          rw [goR]
          exact if_pos ((stepW_bad (fuel := fuel) h.bad).2 hs)
        · refine .inr (.inl ⟨by unfold stepW; rw [if_pos hs], by omega, ?_⟩)
          refine (goR_le (g' + 1) w f at' i vals n).of_left ?_ ?_ ?_ ?_ <;> (unfold stepW; rw [if_pos hs])
      · have hsl := h.steps
        have hs' : ¬ w.steps = fuel' := by omega
        have hb : ¬ (stepW fuel w).bad ≠ 0 := fun h' => hs ((stepW_bad h.bad).1 h')
        have hg := h.step hs
        have hst : (stepW fuel w).steps = w.steps + 1 := by rw [stepW_go hs]
        have hee : stepW fuel' w = stepW fuel w := by rw [stepW_go hs, stepW_go hs']
        have hle : LeW w (goR m inp fuel' deep' (g' + 1) w f at' i vals n).1 := goR_le _ _ _ _ _ _ _
        rw [goR] at hle
        rw [goR, goR]
        rw [hee] at hle ⊢
        simp only [if_neg hb] at hle ⊢
        by_cases hi : i < (f.blocks[at']?.getD default).ins.length
        · simp only [if_pos hi] at hle ⊢
          by_cases h14 : ((f.blocks[at']?.getD default).ins[i]?.getD default).op = 14
          · simp only [if_pos h14] at hle ⊢
            by_cases hnd : n = deep
            · by_cases hdd : deep = deep'
              · subst hdd
                exact .inl (by rw [if_pos hnd, if_pos hnd])
              · rw [if_pos hnd]
                refine .inr (.inr ⟨rfl, by omega, ?_⟩)
                obtain ⟨s, hs2⟩ := hle.out
                exact ⟨s, by rw [hs2, stepW_go hs]⟩
            · have hnd' : ¬ n = deep' := by omega
              simp only [if_neg hnd, if_neg hnd'] at hle ⊢
              have hge := hg.enter (n + 1)
              have hpn := pickI_nonneg hv ((f.blocks[at']?.getD default).ins[i]?.getD default).args
              obtain ⟨a1, a2, a3, a4, a5⟩ := goR_good (inp := inp) (deep := deep) g (enterW (n + 1) (stepW fuel w)) (funcOf m (((f.blocks[at']?.getD default).ins[i]?.getD default).name)) 0 0 _ (n + 1) hge hpn
              rw [enterW_steps, hst] at a1
              have e := ih g' (enterW (n + 1) (stepW fuel w)) (funcOf m (((f.blocks[at']?.getD default).ins[i]?.getD default).name)) 0 0 _ (n + 1) hge hpn (by omega) (by rw [enterW_steps]; omega) (by rw [enterW_steps]; omega)
              generalize goR m inp fuel deep g (enterW (n + 1) (stepW fuel w)) (funcOf m (((f.blocks[at']?.getD default).ins[i]?.getD default).name)) 0 0 (pickI vals ((f.blocks[at']?.getD default).ins[i]?.getD default).args) (n + 1) = r at *
              generalize goR m inp fuel' deep' g' (enterW (n + 1) (stepW fuel w)) (funcOf m (((f.blocks[at']?.getD default).ins[i]?.getD default).name)) 0 0 (pickI vals ((f.blocks[at']?.getD default).ins[i]?.getD default).args) (n + 1) = r' at *
              have hr' : LeW r'.1 (if r'.1.bad ≠ 0 then (r'.1, (0 : Int)) else goR m inp fuel' deep' g' r'.1 f at' (i + 1) (vals ++ [r'.2]) n).1 := by
                split
                · exact LeW.refl _
                · exact goR_le _ _ _ _ _ _ _
              rcases e with e | ⟨e1, e2, e3⟩ | ⟨e1, e2, e3⟩
              · subst e
                by_cases hr : r'.1.bad ≠ 0
                · exact .inl (by rw [if_pos hr, if_pos hr])
                · simp only [if_neg hr]
                  refine ih g' _ f at' (i + 1) _ n (a3 (Classical.not_not.1 hr)) (fun v hv' => ?_) hn (by omega) (by omega)
                  rcases List.mem_append.1 hv' with hv' | hv'
                  · exact hv v hv'
                  · rw [List.mem_singleton.1 hv']; exact a4
              · rw [if_pos (by omega : r.1.bad ≠ 0)]
                exact .inr (.inl ⟨e1, e2, e3.trans hr'⟩)
              · rw [if_pos (by omega : r.1.bad ≠ 0)]
                obtain ⟨s, hs2⟩ := e3
                obtain ⟨s', hs3⟩ := hr'.out
                exact .inr (.inr ⟨e1, e2, s ++ s', by rw [hs3, hs2, ByteArray.append_assoc]⟩)
          · simp only [if_neg h14]
            obtain ⟨c1, c2, c3⟩ := h.gives hs inp ((f.blocks[at']?.getD default).ins[i]?.getD default) hv
            refine ih g' _ f at' (i + 1) _ n c1 (fun v hv' => ?_) hn (by omega) (by omega)
            rcases List.mem_append.1 hv' with hv' | hv'
            · exact hv v hv'
            · rw [List.mem_singleton.1 hv']; exact c2
        · simp only [if_neg hi]
          split
          · exact .inl rfl
          · split
            · exact ih g' _ f _ 0 _ n hg (pickI_nonneg hv _) hn (by omega) (by omega)
            · exact ih g' _ f _ 0 _ n hg (pickI_nonneg hv _) hn (by omega) (by omega)

/-- What is read is all that matters. -/
theorem gives_ahead {m : Module} {inp inp' : ByteArray} {x : Inst} {vals : List Int} {w : Wd} {R : Nat} (h1 : (givesW m inp x vals w).1.read ≤ R) (h2 : R < inp.size) (h3 : R < inp'.size) (h4 : ∀ i, i ≤ R → inp'[i]? = inp[i]?) : givesW m inp' x vals w = givesW m inp x vals w := by
  have hle := (LeW.gives m inp x vals w).read
  unfold givesW
  rw [h4 w.read (by omega), if_neg (by omega : ¬ inp'.size ≤ w.read), if_neg (by omega : ¬ inp.size ≤ w.read)]
theorem goR_ahead {m : Module} {inp inp' : ByteArray} {fuel deep R : Nat} (h2 : R < inp.size) (h3 : R < inp'.size) (h4 : ∀ i, i ≤ R → inp'[i]? = inp[i]?) : ∀ (g : Nat) (w : Wd) (f : Func) (at' i : Nat) (vals : List Int) (n : Nat), (goR m inp fuel deep g w f at' i vals n).1.read ≤ R →
    goR m inp' fuel deep g w f at' i vals n = goR m inp fuel deep g w f at' i vals n := by
  intro g
  induction g with
  | zero => intro w f at' i vals n _; rfl
  | succ g ih =>
    intro w f at' i vals n hr
    rw [goR] at hr
    rw [goR, goR]
    simp only [] at hr ⊢
    by_cases c1 : (stepW fuel w).bad ≠ 0
    · rw [if_pos c1, if_pos c1]
    · simp only [if_neg c1] at hr ⊢
      by_cases hi : i < (f.blocks[at']?.getD default).ins.length
      · simp only [if_pos hi] at hr ⊢
        by_cases h14 : ((f.blocks[at']?.getD default).ins[i]?.getD default).op = 14
        · simp only [if_pos h14] at hr ⊢
          by_cases hnd : n = deep
          · rw [if_pos hnd, if_pos hnd]
          · simp only [if_neg hnd] at hr ⊢
            have e := ih (enterW (n + 1) (stepW fuel w)) (funcOf m (((f.blocks[at']?.getD default).ins[i]?.getD default).name)) 0 0 (pickI vals ((f.blocks[at']?.getD default).ins[i]?.getD default).args) (n + 1)
            generalize goR m inp fuel deep g (enterW (n + 1) (stepW fuel w)) (funcOf m (((f.blocks[at']?.getD default).ins[i]?.getD default).name)) 0 0 (pickI vals ((f.blocks[at']?.getD default).ins[i]?.getD default).args) (n + 1) = r at *
            by_cases hb : r.1.bad ≠ 0
            · rw [if_pos hb] at hr
              rw [e hr, if_pos hb, if_pos hb]
            · simp only [if_neg hb] at hr ⊢
              have hle := (goR_le (m := m) (inp := inp) (fuel := fuel) (deep := deep) g r.1 f at' (i + 1) (vals ++ [r.2]) n).read
              rw [e (by omega), if_neg hb]
              exact ih _ _ _ _ _ _ hr
        · simp only [if_neg h14] at hr ⊢
          have hle := (goR_le (m := m) (inp := inp) (fuel := fuel) (deep := deep) g (givesW m inp ((f.blocks[at']?.getD default).ins[i]?.getD default) vals (stepW fuel w)).1 f at' (i + 1) (vals ++ [(givesW m inp ((f.blocks[at']?.getD default).ins[i]?.getD default) vals (stepW fuel w)).2]) n).read
          rw [gives_ahead (by omega : (givesW m inp ((f.blocks[at']?.getD default).ins[i]?.getD default) vals (stepW fuel w)).1.read ≤ R) h2 h3 h4]
          exact ih _ _ _ _ _ _ hr
      · simp only [if_neg hi] at hr ⊢
        by_cases h5 : (f.blocks[at']?.getD default).kind = 3
        · rw [if_pos h5, if_pos h5]
        · simp only [if_neg h5] at hr ⊢
          split
          · rename_i h6
            rw [if_pos h6] at hr
            exact ih _ _ _ _ _ _ hr
          · rename_i h6
            rw [if_neg h6] at hr
            exact ih _ _ _ _ _ _ hr

end Go.Proofs.Ytpfokkfomgmibaa
