/- Layer 6: plain laws of taking; contracts of BitBack, BitCut, BitChecks. -/
import Derived.Test.YtciihchbiifgkaaT2
import Derived.Test.YtciihchbiifgkaaTQ
namespace Go.Proofs.Ytciihchbiifgkaa
open Go.RowKit

theorem takeM_fit (s : ByteArray) : BitFit (takeM s) := by
  unfold takeM
  split
  · exact res_mods _
  · exact ⟨fun f h => (by cases h), fun f h => (by cases h), fun g h => (by cases h)⟩
theorem cut_of {s : ByteArray} {r : List UInt8} (h : bL s = bL magicB ++ r) : cutB s magicB = true ∧ (bL s).drop 4 = r := by
  have h4 : (bL magicB).length = 4 := rfl
  have hl := congrArg List.length h
  rw [bL_length, List.length_append, h4] at hl
  refine ⟨?_, by rw [h, List.drop_left' h4]⟩
  unfold cutB
  rw [Bool.and_eq_true, decide_eq_true_eq, decide_eq_true_eq]
  have hm : magicB.size = 4 := rfl
  refine ⟨by omega, ?_⟩
  rw [hm, bL_take, h, List.take_left' h4, bL_back]
theorem cut_back {s : ByteArray} (h : cutB s magicB = true) : bL s = bL magicB ++ (bL s).drop 4 := by
  unfold cutB at h
  rw [Bool.and_eq_true, decide_eq_true_eq, decide_eq_true_eq] at h
  have h2 := h.2
  rw [show magicB.size = 4 from rfl, bL_take] at h2
  have e : (bL s).take 4 = bL magicB := by rw [← h2]; unfold bL; rw [List.toList_toArray]
  rw [← e, List.take_append_drop]
theorem bL_mod (m : Module) : bL (encMod m) = bL magicB ++ bL (encL encFunc m.funcs ++ encL encGlob m.globs) := by unfold encMod; rw [bL_append]
theorem takeP_ok {s : ByteArray} {m : Module} (h : takeP s = .ok m) : checkE m = 0 ∧ s.size ≤ 65535 ∧ BitFit m ∧ encMod m = s := by
  have hf : BitFit m := by rw [← ((take_is s).1 m h).2]; exact takeM_fit s
  unfold takeP at h
  by_cases hc : cutB s magicB = true
  · rw [if_pos hc] at h
    cases hp : pMods ((bL s).drop 4) with
    | error c => rw [hp] at h; cases h
    | ok v =>
      obtain ⟨m', r⟩ := v
      rw [hp] at h
      simp only at h
      by_cases hr : r ≠ []
      · rw [if_pos hr] at h; cases h
      rw [if_neg hr] at h
      by_cases hk : checkE m' ≠ 0
      · rw [if_pos hk] at h; cases h
      rw [if_neg hk] at h
      by_cases hz : 65535 < s.size
      · rw [if_pos hz] at h; cases h
      rw [if_neg hz] at h
      injection h with h
      subst h
      refine ⟨Decidable.not_not.1 hk, by omega, hf, ?_⟩
      have hr : r = [] := Decidable.not_not.1 hr
      have hb := bk_mods _ _ _ hp
      rw [hr, List.append_nil] at hb
      simp only at hb
      apply bL_inj
      rw [bL_mod, hb]
      exact (cut_back hc).symm
  · rw [if_neg hc] at h; cases h
theorem checkE_ok {m : Module} (h : bytesE m = 0) : checkE m = 0 ∧ (encMod m).size ≤ 65535 := by
  unfold bytesE at h
  by_cases hc : checkE m = 0
  · rw [if_pos hc] at h
    by_cases hz : 65535 < (encMod m).size
    · rw [if_pos hz] at h; cases h
    · exact ⟨hc, by omega⟩
  · rw [if_neg hc] at h; exact absurd h hc
theorem bytesE_of {m : Module} (h : checkE m = 0) (hz : (encMod m).size ≤ 65535) : bytesE m = 0 := by
  unfold bytesE
  rw [if_pos h, if_neg (by omega)]
theorem bytesM_size (m : Module) : (bytesM m).size ≤ 65535 := by
  unfold bytesM
  split
  · rename_i h; exact (checkE_ok h).2
  · show 0 ≤ 65535; omega
theorem takeP_lay {m : Module} (h : bytesE m = 0) (hm : BitFit m) : takeP (encMod m) = .ok m := by
  obtain ⟨hk, hz⟩ := checkE_ok h
  have hr := rt_mods m [] ⟨checkE_zero.1 hk, hm⟩
  simp only [List.append_nil] at hr
  obtain ⟨c1, c2⟩ := cut_of (bL_mod m)
  unfold takeP
  rw [if_pos c1, c2, hr]
  simp only
  rw [if_neg (by simp), if_neg (by simp [hk]), if_neg (by omega)]
theorem takeP_more {m : Module} (h : bytesE m = 0) (hm : BitFit m) {s : ByteArray} {t : List UInt8} (ht : t ≠ []) (hs : bL s = bL (encMod m) ++ t) : takeP s = .error 3 := by
  obtain ⟨hk, hz⟩ := checkE_ok h
  have hr := rt_mods m t ⟨checkE_zero.1 hk, hm⟩
  simp only at hr
  rw [bL_mod, List.append_assoc] at hs
  obtain ⟨c1, c2⟩ := cut_of hs
  unfold takeP
  rw [if_pos c1, c2, hr]
  simp only
  rw [if_pos ht]
theorem takeP_less {m : Module} (h : bytesE m = 0) (hm : BitFit m) {s : ByteArray} {t : List UInt8} (ht : t ≠ []) (hs : bL (encMod m) = bL s ++ t) (x : Module) : takeP s ≠ .ok x := fun hx => by
  obtain ⟨hk, hz⟩ := checkE_ok h
  obtain ⟨k1, _, k3, k4⟩ := takeP_ok hx
  have h1 := rt_mods m [] ⟨checkE_zero.1 hk, hm⟩
  have h2 := rt_mods x t ⟨checkE_zero.1 k1, k3⟩
  simp only [List.append_nil] at h1 h2
  rw [← k4, bL_mod, bL_mod, List.append_assoc] at hs
  rw [List.append_cancel_left hs, h2] at h1
  injection h1 with h1
  injection h1 with _ h1
  exact ht h1
theorem takeE_ne {s : ByteArray} (h : ∀ x, takeP s ≠ .ok x) : takeE s ≠ 0 := by
  cases hp : takeP s with
  | ok m => exact absurd hp (h m)
  | error c =>
    obtain ⟨h1, h2, _⟩ := (take_is s).2 c hp
    rw [h2]; exact h1
theorem take_zero {s : ByteArray} (h : takeE s = 0) : takeP s = .ok (takeM s) := by
  cases hp : takeP s with
  | ok m => rw [((take_is s).1 m hp).2]
  | error c =>
    obtain ⟨h1, h2, _⟩ := (take_is s).2 c hp
    exact absurd (h2.symm.trans h) h1

theorem take_zero2 {s : ByteArray} (h : takeE s = 0) : bytesE (takeM s) = 0 ∧ bytesM (takeM s) = s := by
  obtain ⟨h1, h2, _, h4⟩ := takeP_ok (take_zero h)
  have h5 := bytesE_of h1 (by rw [h4]; exact h2)
  exact ⟨h5, by unfold bytesM; rw [if_pos h5, h4]⟩
set_option maxRecDepth 10000 in
theorem bitBack_pure (m : Module) (s : ByteArray) (hm : BitFit m) (hs : s.size ≤ 140737488355328) : APure Try.prog 5 [.agg (moduleC m), .str s] (.bool true) := by
  refine apureG _ _ Try.func5 (by kernel_rfl) t_marlinelaw06_BitBack u_marlinelaw06_BitBack rfl rfl (fun hx => ?_)
  clear hx
  simp [c_marlinelaw06_BitBack, r_marlinelaw06_BitBack]
  refine call_plain (ds := []) _ (by simp) (by simp) (fun _ => rfl) (fun _ => shown06_pure) ?_
  simp
  refine call_plain (ds := [.agg (moduleC m)]) _ (by simp) (by simp) (fun _ => by simp; rfl) (fun _ => bytes_pure m hm) ?_
  simp
  have hb := bytesM_size m
  refine ⟨fun h => ?_, fun h => ?_⟩
  · have e : bytesM m = encMod m := by unfold bytesM; rw [if_pos h]
    obtain ⟨q1, q2⟩ := (take_is _).1 m (takeP_lay h hm)
    rw [← e] at q1 q2
    refine call_plain (ds := [.str (bytesM m)]) _ (by simp) (by simp) (fun _ => by simp) (fun _ => take_pure (bytesM m) (by omega)) ?_
    simp
    rw [q1, q2]
    refine call_plain (ds := [.agg (moduleC m), .agg (moduleC m)]) _ (by simp) (by simp) (fun _ => by simp; rfl) (fun _ => refSame_pure m m) ?_
    have hsm : sameMod m m = true := (sameMod_iff m m).2 rfl
    simp [hsm]
    refine call_plain (ds := [.str s]) _ (by simp) (by simp) (fun _ => by simp) (fun _ => take_pure s (hs)) ?_
    simp
    refine call_plain (ds := [.agg (moduleC (takeM s))]) _ (by simp) (by simp) (fun _ => by simp; rfl) (fun _ => bytes_pure (takeM s) (takeM_fit s)) ?_
    simp
    refine ⟨fun h => ⟨h, fun h' => ⟨h, h'⟩⟩, DLe_bool ?_⟩
    by_cases hz : takeE s = 0
    · obtain ⟨z1, z2⟩ := take_zero2 hz
      simp [hz, z1, z2]
    · simp [hz]
  · have e := h
    refine call_plain (ds := [.str s]) _ (by simp) (by simp) (fun _ => by simp) (fun _ => take_pure s (hs)) ?_
    simp
    refine call_plain (ds := [.agg (moduleC (takeM s))]) _ (by simp) (by simp) (fun _ => by simp; rfl) (fun _ => bytes_pure (takeM s) (takeM_fit s)) ?_
    simp
    refine ⟨fun h => ⟨h, fun h' => ⟨h, h'⟩⟩, DLe_bool ?_⟩
    by_cases hz : takeE s = 0
    · obtain ⟨z1, z2⟩ := take_zero2 hz
      simp [hz, z1, z2]
    · simp [hz]

set_option maxRecDepth 10000 in
theorem bitCut_pure (m : Module) (cut : Int) (hm : BitFit m) : APure Try.prog 6 [.agg (moduleC m), .int cut] (.bool true) := by
  refine apureG _ _ Try.func6 (by kernel_rfl) t_marlinelaw06_BitCut u_marlinelaw06_BitCut rfl rfl (fun hx => ?_)
  clear hx
  simp [c_marlinelaw06_BitCut, r_marlinelaw06_BitCut]
  refine call_plain (ds := []) _ (by simp) (by simp) (fun _ => rfl) (fun _ => shown06_pure) ?_
  simp
  refine call_plain (ds := [.agg (moduleC m)]) _ (by simp) (by simp) (fun _ => by simp; rfl) (fun _ => bytes_pure m hm) ?_
  simp
  have hb := bytesM_size m
  intro h h0 h1
  have hM : bytesM m = encMod m := by unfold bytesM; rw [if_pos h]
  have hlen : (bL (encMod m)).length = (bytesM m).size := by rw [bL_length, hM]
  have f1 : takeE ((bytesM m).extract 0 cut.toNat) ≠ 0 := by
    refine takeE_ne (takeP_less h hm (t := (bL (encMod m)).drop cut.toNat) (fun hn => ?_) ?_)
    · have := congrArg List.length hn
      rw [List.length_drop, hlen] at this
      simp only [List.length_nil] at this
      omega
    · rw [bL_take, hM]
      have e : bL (⟨((bL (encMod m)).take cut.toNat).toArray⟩ : ByteArray) = (bL (encMod m)).take cut.toNat := by unfold bL; rw [List.toList_toArray]
      rw [e, List.take_append_drop]
  have f2 : takeE (bytesM m ++ ⟨#[48]⟩) = 3 := ((take_is _).2 3 (takeP_more h hm (t := [48]) (by simp) (by rw [bL_append, hM]; rfl))).2.1
  refine ⟨⟨h0, by omega⟩, ?_⟩
  refine call_plain (ds := [.str ((bytesM m).extract 0 cut.toNat)]) _ (by simp) (by simp) (fun _ => by simp) (fun _ => take_pure ((bytesM m).extract 0 cut.toNat) (by rw [ByteArray.size_extract]; omega)) ?_
  simp
  refine ⟨by show _ + 1 ≤ _; omega, ?_⟩
  refine call_plain (ds := [.str (bytesM m ++ ⟨#[48]⟩)]) _ (by simp) (by simp) (fun _ => by simp) (fun _ => take_pure (bytesM m ++ ⟨#[48]⟩) (by rw [ByteArray.size_append]; show _ + 1 ≤ _; omega)) ?_
  simp
  simp [f1, f2]

set_option maxRecDepth 10000 in
theorem bitChecks_pure (m : Module) (s : ByteArray) (hm : BitFit m) (hs : s.size ≤ 140737488355328) : APure Try.prog 7 [.agg (moduleC m), .str s] (.bool true) := by
  refine apureG _ _ Try.func7 (by kernel_rfl) t_marlinelaw06_BitChecks u_marlinelaw06_BitChecks rfl rfl (fun hx => ?_)
  clear hx
  simp [c_marlinelaw06_BitChecks, r_marlinelaw06_BitChecks]
  refine call_plain (ds := []) _ (by simp) (by simp) (fun _ => rfl) (fun _ => shown06_pure) ?_
  simp
  refine call_plain (ds := [.agg (moduleC m)]) _ (by simp) (by simp) (fun _ => by simp; rfl) (fun _ => bytes_pure m hm) ?_
  simp
  refine call_plain (ds := [.agg (moduleC m)]) _ (by simp) (by simp) (fun _ => by simp; rfl) (fun _ => refCheck_pure m hm.args) ?_
  simp
  have hb := bytesM_size m
  have v1 : ¬ checkE m = 0 → bytesE m = checkE m := fun h => by unfold bytesE; rw [if_neg h]
  have v2 : checkE m = 0 → ¬ bytesE m = 0 → bytesE m = 4 := fun h h' => by
    unfold bytesE at h' ⊢
    rw [if_pos h] at h' ⊢
    split at h' <;> simp_all
  have v : checkE m = 0 ∨ bytesE m = checkE m := by
    by_cases h : checkE m = 0
    · exact .inl h
    · exact .inr (v1 h)
  have w : (¬ checkE m = 0 ∨ bytesE m = 0) ∨ bytesE m = 4 := by
    by_cases h : checkE m = 0
    · by_cases h' : bytesE m = 0
      · exact .inl (.inr h')
      · exact .inr (v2 h h')
    · exact .inl (.inl h)
  refine ⟨fun _ => ⟨v, fun h => ⟨v, h⟩⟩, fun _ => ⟨v, fun h h' => ⟨v, h, h'⟩⟩, fun _ => v, fun _ _ => ⟨v, w⟩, fun hbad => ?_, fun _ _ hz => ?_⟩
  · exfalso
    rcases hbad with (⟨h1, h2⟩ | ⟨⟨h1, h2⟩, h3⟩) | h
    · exact h2 (v1 h1)
    · exact h3 (v2 h1 h2)
    · omega
  refine call_plain (ds := [.str s]) _ (by simp) (by simp) (fun _ => by simp) (fun _ => take_pure s hs) ?_
  simp
  refine call_plain (ds := [.agg (moduleC (takeM s))]) _ (by simp) (by simp) (fun _ => by simp; rfl) (fun _ => refCheck_pure (takeM s) (takeM_fit s).args) ?_
  simp
  refine ⟨fun h => ⟨h, fun h' => ⟨h, h'⟩⟩, DLe_bool ?_⟩
  by_cases hz : takeE s = 0
  · obtain ⟨z1, z2, _, _⟩ := takeP_ok (take_zero hz)
    simp [hz, z1]
    omega
  · simp [hz]

end Go.Proofs.Ytciihchbiifgkaa
