/- What runs of layer 7 have in common, from the start: plain. -/
import Derived.Test.YtpfokkfomgmibaaSJ
namespace Go.Proofs.Ytpfokkfomgmibaa

theorem wholeE_in (m : Module) : wholeE m ≠ 12 ∧ wholeE m ≠ 13 := by
  unfold wholeE checkE refsE
  repeat' split
  all_goals exact ⟨by decide, by decide⟩

theorem start_kept (m : Module) (inp : ByteArray) {deep : Nat} (h : 1 ≤ deep) : Kept inp deep (enterW 1 (startW m)) := Kept.enter ⟨Nat.le_refl 0, Nat.zero_le _, Nat.zero_le _, rfl, rfl⟩ h
theorem start_bad (m : Module) : (enterW 1 (startW m)).bad = 0 := by rw [enter_bad]; rfl
theorem start_steps (m : Module) : (enterW 1 (startW m)).steps = 0 := by rw [enterW_steps]; rfl
theorem start_deep (m : Module) : (enterW 1 (startW m)).deep = 1 := rfl

/-- With more fuel and deeper calls. -/
theorem runR_two (m : Module) (inp : ByteArray) {fuel deep fuel' deep' : Nat} (hf : fuel ≤ fuel') (hd : deep ≤ deep') (h1 : 1 ≤ deep) :
    runR m inp fuel' deep' = runR m inp fuel deep ∨ ((runR m inp fuel deep).bad = 12 ∧ fuel < fuel' ∧ LeW (runR m inp fuel deep) (runR m inp fuel' deep')) ∨
    ((runR m inp fuel deep).bad = 13 ∧ deep < deep' ∧ ∃ s, (runR m inp fuel' deep').out = (runR m inp fuel deep).out ++ s) := by
  have e := goR_two (m := m) (inp := inp) hf hd (fuel + 1) (fuel' + 1) (enterW 1 (startW m)) (funcOf m mainS) 0 0 [] 1 ((startW_good m fuel).enter 1) (fun v hv => by cases hv) h1 (by omega) (by omega)
  unfold runR
  simp only []
  generalize goR m inp fuel deep (fuel + 1) (enterW 1 (startW m)) (funcOf m mainS) 0 0 [] 1 = r at *
  generalize goR m inp fuel' deep' (fuel' + 1) (enterW 1 (startW m)) (funcOf m mainS) 0 0 [] 1 = r' at *
  rcases e with e | ⟨e1, e2, e3⟩ | ⟨e1, e2, s, e3⟩
  · exact .inl (by rw [e])
  · refine .inr (.inl ?_)
    rw [if_pos (by omega : r.1.bad ≠ 0)]
    refine ⟨e1, e2, ?_⟩
    split
    · exact e3
    · exact e3.of_right rfl rfl rfl rfl
  · refine .inr (.inr ?_)
    rw [if_pos (by omega : r.1.bad ≠ 0)]
    refine ⟨e1, e2, s, ?_⟩
    split
    · exact e3
    · exact e3

theorem runR_kept (m : Module) (inp : ByteArray) {fuel deep : Nat} (h1 : 1 ≤ deep) :
    ((runR m inp fuel deep).bad = 0 ∨ ((runR m inp fuel deep).bad = 12 ∧ (runR m inp fuel deep).steps = fuel) ∨ (runR m inp fuel deep).bad = 13) ∧ (runR m inp fuel deep).read ≤ inp.size ∧ (runR m inp fuel deep).steps ≤ fuel ∧ 1 ≤ (runR m inp fuel deep).deep ∧ (runR m inp fuel deep).deep ≤ deep ∧
    (runR m inp fuel deep).out.size ≤ (runR m inp fuel deep).steps ∧ (runR m inp fuel deep).ended = decide ((runR m inp fuel deep).bad = 0) ∧ ((runR m inp fuel deep).ended = true ∨ (runR m inp fuel deep).code = 0) := by
  obtain ⟨k, kb⟩ := goR_kept (m := m) (inp := inp) (fuel := fuel) (fuel + 1) (enterW 1 (startW m)) (funcOf m mainS) 0 0 [] 1 (start_kept m inp h1) (start_bad m) h1
  have hg := goR_good (m := m) (inp := inp) (fuel := fuel) (deep := deep) (fuel + 1) (enterW 1 (startW m)) (funcOf m mainS) 0 0 [] 1 ((startW_good m fuel).enter 1) (fun v hv => by cases hv)
  have hl := (goR_le (m := m) (inp := inp) (fuel := fuel) (deep := deep) (fuel + 1) (enterW 1 (startW m)) (funcOf m mainS) 0 0 [] 1).deep
  rw [start_deep] at hl
  unfold runR
  simp only []
  generalize goR m inp fuel deep (fuel + 1) (enterW 1 (startW m)) (funcOf m mainS) 0 0 [] 1 = r at *
  by_cases hb : r.1.bad ≠ 0
  · rw [if_pos hb]
    exact ⟨kb, k.read, hg.2.1, hl, k.deep, k.out, by rw [k.ended]; exact (decide_eq_false hb).symm, .inr k.code⟩
  · rw [if_neg hb]
    have hb0 := Classical.not_not.1 hb
    exact ⟨.inl hb0, k.read, hg.2.1, hl, k.deep, k.out, (decide_eq_true hb0).symm, .inl rfl⟩

theorem runR_ahead (m : Module) (inp inp' : ByteArray) {fuel deep : Nat} (h2 : (runR m inp fuel deep).read < inp.size) (h3 : (runR m inp fuel deep).read < inp'.size) (h4 : ∀ i, i ≤ (runR m inp fuel deep).read → inp'[i]? = inp[i]?) : runR m inp' fuel deep = runR m inp fuel deep := by
  have hr : (runR m inp fuel deep).read = (goR m inp fuel deep (fuel + 1) (enterW 1 (startW m)) (funcOf m mainS) 0 0 [] 1).1.read := by
    unfold runR
    simp only []
    split <;> rfl
  rw [hr] at h2 h3 h4
  have e := goR_ahead (m := m) (fuel := fuel) (deep := deep) h2 h3 h4 (fuel + 1) (enterW 1 (startW m)) (funcOf m mainS) 0 0 [] 1 (Nat.le_refl _)
  unfold runR
  rw [e]

theorem runA_no {m : Module} {inp : ByteArray} {fuel deep : Int} (h : fuel < 0 ∨ 100000 < fuel ∨ deep < 1 ∨ 64 < deep) : runA m inp fuel deep = errW 1 := if_pos h
theorem runA_not {m : Module} {inp : ByteArray} {fuel deep : Int} (h : ¬ (fuel < 0 ∨ 100000 < fuel ∨ deep < 1 ∨ 64 < deep)) (hw : wholeE m ≠ 0) : runA m inp fuel deep = errW (wholeE m) := by unfold runA; rw [if_neg h, if_pos hw]
theorem runA_is {m : Module} {inp : ByteArray} {fuel deep : Int} (h : ¬ (fuel < 0 ∨ 100000 < fuel ∨ deep < 1 ∨ 64 < deep)) (hw : wholeE m = 0) : runA m inp fuel deep = runR m inp fuel.toNat deep.toNat := by unfold runA; rw [if_neg h, if_neg (fun h => h hw)]

theorem runA_fuel (m : Module) (inp : ByteArray) {a b : Int} (deep : Int) (h0 : 0 ≤ a) (h1 : a ≤ b) (h2 : b ≤ 100000) :
    ((runA m inp a deep).bad ≠ 12 ∧ runA m inp b deep = runA m inp a deep) ∨ ((runA m inp a deep).bad = 12 ∧ ((runA m inp a deep).steps : Int) = a ∧ (runA m inp a deep).ended = false ∧ LeW (runA m inp a deep) (runA m inp b deep)) := by
  by_cases hd : deep < 1 ∨ 64 < deep
  · rw [runA_no (by omega), runA_no (by omega)]
    exact .inl ⟨by decide, rfl⟩
  by_cases hw : wholeE m ≠ 0
  · rw [runA_not (by omega) hw, runA_not (by omega) hw]
    exact .inl ⟨(wholeE_in m).1, rfl⟩
  have hw := Classical.not_not.1 hw
  rw [runA_is (by omega) hw, runA_is (by omega) hw]
  have hk := runR_kept m inp (fuel := a.toNat) (deep := deep.toNat) (by omega)
  have key : (runR m inp a.toNat deep.toNat).bad = 12 → ((runR m inp a.toNat deep.toNat).steps : Int) = a ∧ (runR m inp a.toNat deep.toNat).ended = false := fun h => by
    obtain ⟨k1, _, _, _, _, _, k2, _⟩ := hk
    refine ⟨?_, by rw [k2, h]; rfl⟩
    rcases k1 with k1 | ⟨_, k1⟩ | k1
    · omega
    · omega
    · omega
  rcases runR_two m inp (fuel := a.toNat) (fuel' := b.toNat) (by omega) (Nat.le_refl deep.toNat) (by omega) with e | ⟨e1, e2, e3⟩ | ⟨e1, e2, _⟩
  · rw [e]
    by_cases h12 : (runR m inp a.toNat deep.toNat).bad = 12
    · exact .inr ⟨h12, (key h12).1, (key h12).2, LeW.refl _⟩
    · exact .inl ⟨h12, rfl⟩
  · exact .inr ⟨e1, (key e1).1, (key e1).2, e3⟩
  · omega

theorem runA_deep (m : Module) (inp : ByteArray) (fuel : Int) {a b : Int} (h0 : 1 ≤ a) (h1 : a ≤ b) (h2 : b ≤ 64) :
    ((runA m inp fuel a).bad ≠ 13 ∧ runA m inp fuel b = runA m inp fuel a) ∨ ((runA m inp fuel a).bad = 13 ∧ ∃ s, (runA m inp fuel b).out = (runA m inp fuel a).out ++ s) := by
  by_cases hd : fuel < 0 ∨ 100000 < fuel
  · rw [runA_no (by omega), runA_no (by omega)]
    exact .inl ⟨by decide, rfl⟩
  by_cases hw : wholeE m ≠ 0
  · rw [runA_not (by omega) hw, runA_not (by omega) hw]
    exact .inl ⟨(wholeE_in m).2, rfl⟩
  have hw := Classical.not_not.1 hw
  rw [runA_is (by omega) hw, runA_is (by omega) hw]
  rcases runR_two m inp (Nat.le_refl fuel.toNat) (deep := a.toNat) (deep' := b.toNat) (by omega) (by omega) with e | ⟨e1, e2, _⟩ | ⟨e1, e2, e3⟩
  · rw [e]
    by_cases h13 : (runR m inp fuel.toNat a.toNat).bad = 13
    · exact .inr ⟨h13, ⟨#[]⟩, app_nil _⟩
    · exact .inl ⟨h13, rfl⟩
  · omega
  · exact .inr ⟨e1, e3⟩

theorem runA_kept (m : Module) (inp : ByteArray) (fuel deep : Int) :
    (((runA m inp fuel deep).bad ≠ 0 ∧ (runA m inp fuel deep).bad ≠ 12 ∧ (runA m inp fuel deep).bad ≠ 13) ∧ traceC (runA m inp fuel deep) = traceC (errW 0)) ∨
    (((runA m inp fuel deep).bad = 0 ∨ (runA m inp fuel deep).bad = 12 ∨ (runA m inp fuel deep).bad = 13) ∧ (runA m inp fuel deep).read ≤ inp.size ∧ ((runA m inp fuel deep).steps : Int) ≤ fuel ∧ 1 ≤ (runA m inp fuel deep).deep ∧ ((runA m inp fuel deep).deep : Int) ≤ deep ∧
    (runA m inp fuel deep).out.size ≤ (runA m inp fuel deep).steps ∧ (runA m inp fuel deep).ended = decide ((runA m inp fuel deep).bad = 0) ∧ ((runA m inp fuel deep).ended = true ∨ (runA m inp fuel deep).code = 0)) := by
  by_cases hd : fuel < 0 ∨ 100000 < fuel ∨ deep < 1 ∨ 64 < deep
  · rw [runA_no hd]
    exact .inl ⟨⟨by decide, by decide, by decide⟩, rfl⟩
  by_cases hw : wholeE m ≠ 0
  · rw [runA_not hd hw]
    exact .inl ⟨⟨hw, (wholeE_in m).1, (wholeE_in m).2⟩, rfl⟩
  rw [runA_is hd (Classical.not_not.1 hw)]
  obtain ⟨k1, k2, k3, k4, k5, k6, k7, k8⟩ := runR_kept m inp (fuel := fuel.toNat) (deep := deep.toNat) (by omega)
  exact .inr ⟨by omega, k2, by omega, k4, by omega, k6, k7, k8⟩

theorem runA_ahead (m : Module) (inp inp' : ByteArray) (fuel deep : Int) (h2 : (runA m inp fuel deep).read < inp.size) (h3 : (runA m inp fuel deep).read < inp'.size) (h4 : ∀ i, i ≤ (runA m inp fuel deep).read → inp'[i]? = inp[i]?) : runA m inp' fuel deep = runA m inp fuel deep := by
  by_cases hd : fuel < 0 ∨ 100000 < fuel ∨ deep < 1 ∨ 64 < deep
  · rw [runA_no hd, runA_no hd]
  by_cases hw : wholeE m ≠ 0
  · rw [runA_not hd hw, runA_not hd hw]
  have hw := Classical.not_not.1 hw
  rw [runA_is hd hw] at h2 h3 h4
  rw [runA_is hd hw, runA_is hd hw]
  exact runR_ahead m inp inp' h2 h3 h4

end Go.Proofs.Ytpfokkfomgmibaa
