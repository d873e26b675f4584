/- Layer 6: the document's taking is the program's; the contract of BitBytes. -/
import Derived.Test.YtciihchbiifgkaaVG
import Derived.Test.YtciihchbiifgkaaVI
import Derived.Test.YtciihchbiifgkaaT3
namespace Go.Proofs.Ytciihchbiifgkaa
open Go.RowKit

theorem take6_is (s : ByteArray) : (∀ m, takeP s = .ok m → take6E s = 0 ∧ take6M s = m) ∧ (∀ c, takeP s = .error c → c ≠ 0 ∧ take6E s = c ∧ take6M s = ⟨[], []⟩) := by
  have fin : ∀ c, c ≠ 0 → take6E s = c → take6M s = ⟨[], []⟩ := fun c h1 h2 => by unfold take6M; rw [h2, if_neg h1]
  have hE : take6E s = if cutB s magicB = true then (if (take6Q s).2.e = 0 then (if 0 < (take6Q s).2.s.size then 3 else if checkE (take6Q s).1 = 0 then (if 65535 < s.size then 4 else 0) else checkE (take6Q s).1) else (take6Q s).2.e) else 3 := rfl
  unfold takeP
  by_cases hc : ¬ cutB s magicB = true
  · rw [if_neg hc] at hE ⊢
    refine ⟨fun m h => (by cases h), fun c h => ?_⟩
    cases h
    exact ⟨by decide, hE, fin _ (by decide) hE⟩
  have hc : cutB s magicB = true := Decidable.not_not.1 hc
  have hs := sim_modsR ⟨s.extract 4 s.size, 0⟩ rfl
  simp only at hs
  have hq : take6Q s = modsR ⟨s.extract 4 s.size, 0⟩ := rfl
  rw [bL_drop, ← hq] at hs
  rw [if_pos hc] at hE ⊢
  cases hp : pMods ((bL s).drop 4) with
  | error c =>
    obtain ⟨h1, h2⟩ := hs.2 c hp
    rw [if_neg (by rw [h2]; exact h1), h2] at hE
    refine ⟨fun m h => (by cases h), fun c' h => ?_⟩
    cases h
    exact ⟨h1, hE, fin _ h1 hE⟩
  | ok v =>
    obtain ⟨m, r⟩ := v
    obtain ⟨h1, h2, h3⟩ := hs.1 m r hp
    rw [if_pos h3, h1] at hE
    simp only
    by_cases hr : ¬ r = []
    · have hz : 0 < (take6Q s).2.s.size := by
        rw [← bL_length, h2]
        cases r with
        | nil => exact absurd rfl hr
        | cons a b => simp
      rw [if_pos hz] at hE
      rw [if_pos hr]
      refine ⟨fun m h => (by cases h), fun c' h => ?_⟩
      cases h
      exact ⟨by decide, hE, fin _ (by decide) hE⟩
    have hr : r = [] := Decidable.not_not.1 hr
    have hz : ¬ 0 < (take6Q s).2.s.size := by
      rw [← bL_length, h2, hr]
      exact Nat.lt_irrefl 0
    rw [if_neg hz] at hE
    rw [if_neg (by simp [hr])]
    by_cases hk : ¬ checkE m = 0
    · rw [if_neg hk] at hE
      rw [if_pos hk]
      refine ⟨fun m h => (by cases h), fun c' h => ?_⟩
      cases h
      exact ⟨hk, hE, fin _ hk hE⟩
    have hk : checkE m = 0 := Decidable.not_not.1 hk
    rw [if_pos hk] at hE
    rw [if_neg (by simp [hk])]
    by_cases hb : 65535 < s.size
    · rw [if_pos hb] at hE ⊢
      refine ⟨fun m h => (by cases h), fun c' h => ?_⟩
      cases h
      exact ⟨by decide, hE, fin _ (by decide) hE⟩
    · rw [if_neg hb] at hE ⊢
      refine ⟨fun m' h => ?_, fun c' h => (by cases h)⟩
      cases h
      exact ⟨hE, by unfold take6M; rw [hE, if_pos rfl, h1]⟩
theorem take6_eq (s : ByteArray) : take6E s = takeE s ∧ take6M s = takeM s := by
  cases hp : takeP s with
  | ok m =>
    obtain ⟨a, b⟩ := (take6_is s).1 m hp
    obtain ⟨c, d⟩ := (take_is s).1 m hp
    exact ⟨a.trans c.symm, b.trans d.symm⟩
  | error c =>
    obtain ⟨_, a, b⟩ := (take6_is s).2 c hp
    obtain ⟨_, c, d⟩ := (take_is s).2 c hp
    exact ⟨a.trans c.symm, b.trans d.symm⟩

set_option maxRecDepth 10000 in
theorem bitBytes_pure (m : Module) (s : ByteArray) (hm : BitFit m) (hs : s.size ≤ 140737488355328) : APure Try.prog 4 [.agg (moduleC m), .str s] (.bool true) := by
  refine apureG _ _ Try.func4 (by kernel_rfl) t_marlinelaw06_BitBytes u_marlinelaw06_BitBytes rfl rfl (fun hx => ?_)
  clear hx
  simp [c_marlinelaw06_BitBytes, r_marlinelaw06_BitBytes]
  refine call_plain (ds := []) _ (by simp) (by simp) (fun _ => rfl) (fun _ => shown06_pure) ?_
  simp
  refine call_plain (ds := [.agg (moduleC m)]) _ (by simp) (by simp) (fun _ => by simp; rfl) (fun _ => bytes_pure m hm) ?_
  simp
  refine call_plain (ds := [.agg (moduleC m)]) _ (by simp) (by simp) (fun _ => by simp; rfl) (fun _ => ref6Bytes_pure m hm) ?_
  simp
  refine call_plain (ds := [.str s]) _ (by simp) (by simp) (fun _ => by simp) (fun _ => take_pure s hs) ?_
  simp
  refine call_plain (ds := [.str s]) _ (by simp) (by simp) (fun _ => by simp) (fun _ => r6take_pure s hs) ?_
  simp
  obtain ⟨e1, e2⟩ := take6_eq s
  rw [e1, e2]
  refine call_plain (ds := [.agg (moduleC (takeM s)), .agg (moduleC (takeM s))]) _ (by simp) (by simp) (fun _ => by simp; rfl) (fun _ => refSame_pure (takeM s) (takeM s)) ?_
  have hsm : sameMod (takeM s) (takeM s) = true := (sameMod_iff _ _).2 rfl
  simp [hsm]

end Go.Proofs.Ytciihchbiifgkaa
