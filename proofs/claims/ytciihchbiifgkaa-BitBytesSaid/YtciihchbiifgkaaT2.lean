/- Plain layer 6: what is taken is written by the same bytes; what bit.Take comes to. -/
import Derived.Test.YtciihchbiifgkaaT1
namespace Go.Proofs.Ytciihchbiifgkaa
open Go.RowKit

/-- What is taken of so many bytes, plainly. -/
def takeP (s : ByteArray) : Except Int Module :=
  if cutB s magicB = true then match pMods ((bL s).drop 4) with
    | .error c => .error c
    | .ok (m, r) => if r ≠ [] then .error 3 else if checkE m ≠ 0 then .error (checkE m) else if 65535 < s.size then .error 4 else .ok m
  else .error 3
theorem take_is (s : ByteArray) : (∀ m, takeP s = .ok m → takeE s = 0 ∧ takeM s = m) ∧ (∀ c, takeP s = .error c → c ≠ 0 ∧ takeE s = c ∧ takeM s = ⟨[], []⟩) := by
  unfold takeP takeE takeM
  by_cases hc : ¬ cutB s magicB = true
  · rw [if_neg hc, if_neg hc, if_neg (fun h => hc h.1)]
    refine ⟨fun m h => (by cases h), fun c h => ?_⟩
    cases h
    exact ⟨by decide, rfl, rfl⟩
  have hc : cutB s magicB = true := Decidable.not_not.1 hc
  have hcd : cutD s magicB = s.extract 4 s.size := by unfold cutD; rw [if_pos hc]; rfl
  have hs := sim_mods ⟨cutD s magicB, 0⟩ rfl
  simp only at hs
  have hq : takeQ s = modsS ⟨cutD s magicB, 0⟩ := rfl
  rw [hcd, bL_drop, ← hcd, ← hq] at hs
  rw [if_pos hc, if_pos hc]
  cases hp : pMods ((bL s).drop 4) with
  | error c =>
    obtain ⟨h1, h2⟩ := hs.2 c hp
    have hA : takeA s = (takeQ s).2 := by
      unfold takeA
      split
      · rfl
      · exact oddS_dead 3 (by rw [h2]; exact h1)
    have hB : takeB s = (takeQ s).2 := by unfold takeB; rw [hA, if_neg (by rw [h2]; exact h1)]
    have hC : takeC s = (takeQ s).2 := by
      unfold takeC
      rw [hB]
      split
      · exact oddS_dead 4 (by rw [h2]; exact h1)
      · rfl
    rw [hC, h2, if_neg (fun h => h1 h.2)]
    refine ⟨fun m h => (by cases h), fun c' h => ?_⟩
    cases h
    exact ⟨h1, rfl, rfl⟩
  | ok v =>
    obtain ⟨m, r⟩ := v
    obtain ⟨h1, h2, h3⟩ := hs.1 m r hp
    simp only
    by_cases hr : ¬ r = []
    · rw [if_pos hr]
      have hA : takeA s = ⟨(takeQ s).2.s, 3⟩ := by
        unfold takeA
        rw [if_neg (fun h => hr (by rw [← h2, h]; rfl)), oddS_live 3 h3]
      have hB : takeB s = ⟨(takeQ s).2.s, 3⟩ := by unfold takeB; rw [hA, if_neg (show ¬ (3 : Int) = 0 by decide)]
      have hC : takeC s = ⟨(takeQ s).2.s, 3⟩ := by
        unfold takeC
        rw [hB]
        split
        · exact oddS_dead 4 (show (3 : Int) ≠ 0 by decide)
        · rfl
      rw [hC, if_neg (fun h => absurd h.2 (show ¬ (3 : Int) = 0 by decide))]
      refine ⟨fun m h => (by cases h), fun c' h => ?_⟩
      cases h
      exact ⟨by decide, rfl, rfl⟩
    have hr : r = [] := Decidable.not_not.1 hr
    rw [if_neg (by simp [hr])]
    have hA : takeA s = (takeQ s).2 := by
      unfold takeA
      rw [if_pos (bL_inj (by rw [h2, hr]; rfl))]
    have hB : takeB s = ⟨(takeQ s).2.s, checkE m⟩ := by unfold takeB; rw [hA, if_pos h3, oddS_live _ h3, h1]
    by_cases hk : ¬ checkE m = 0
    · rw [if_pos hk]
      have hC : takeC s = ⟨(takeQ s).2.s, checkE m⟩ := by
        unfold takeC
        rw [hB]
        split
        · exact oddS_dead 4 hk
        · rfl
      rw [hC, if_neg (fun h => hk h.2)]
      refine ⟨fun m h => (by cases h), fun c' h => ?_⟩
      cases h
      exact ⟨hk, rfl, rfl⟩
    have hk : checkE m = 0 := Decidable.not_not.1 hk
    rw [if_neg (by simp [hk])]
    by_cases hz : 65535 < s.size
    · rw [if_pos hz]
      have hC : takeC s = ⟨(takeQ s).2.s, 4⟩ := by unfold takeC; rw [if_pos hz, hB, oddS_live 4 hk]
      rw [hC, if_neg (fun h => absurd h.2 (show ¬ (4 : Int) = 0 by decide))]
      refine ⟨fun m h => (by cases h), fun c' h => ?_⟩
      cases h
      exact ⟨by decide, rfl, rfl⟩
    · rw [if_neg hz]
      have hC : takeC s = ⟨(takeQ s).2.s, checkE m⟩ := by unfold takeC; rw [if_neg hz, hB]
      rw [hC, if_pos ⟨hc, hk⟩]
      refine ⟨fun m' h => ?_, fun c' h => (by cases h)⟩
      cases h
      exact ⟨hk, h1⟩

end Go.Proofs.Ytciihchbiifgkaa
