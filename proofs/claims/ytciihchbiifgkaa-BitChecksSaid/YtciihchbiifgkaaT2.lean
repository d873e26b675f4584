/- Plain layer 6: what is taken is written by the same bytes; what bit.Take comes to. -/
import Derived.Test.YtciihchbiifgkaaT1
namespace Go.Proofs.Ytciihchbiifgkaa
open Go.RowKit

/-- What p takes is what f lays. -/
def Bk {α : Type} (p : PR α) (f : α → ByteArray) : Prop := ∀ (l : List UInt8) (x : α) (r : List UInt8), p l = .ok (x, r) → bL (f x) ++ r = l
theorem pBind_back {α β : Type} {p : PR α} {g : α → PR β} {l r : List UInt8} {y : β} (h : pBind p g l = .ok (y, r)) : ∃ x r1, p l = .ok (x, r1) ∧ g x r1 = .ok (y, r) := by
  unfold pBind at h
  cases hp : p l with
  | error c => rw [hp] at h; cases h
  | ok v => obtain ⟨x, r1⟩ := v; rw [hp] at h; exact ⟨x, r1, rfl, h⟩
theorem pRet_back {α : Type} {x y : α} {l r : List UInt8} (h : pRet x l = .ok (y, r)) : x = y ∧ l = r := by
  unfold pRet at h
  injection h with h
  injection h with h1 h2
  exact ⟨h1, h2⟩
theorem pErr_back {α : Type} {c : Int} {l r : List UInt8} {y : α} (h : pErr c l = .ok (y, r)) : False := by cases h
theorem bk_wide2 {l : List UInt8} {x : Nat} {r : List UInt8} (h : pWide l = .ok (x, r)) : takeNum l = (x, r, 0) := by
  unfold pWide at h
  rcases hq : takeNum l with ⟨a, b, c⟩
  rw [hq] at h
  cases c with
  | zero => injection h with h; injection h with h1 h2; rw [h1, h2]
  | succ c => cases h
theorem bk_wide : Bk pWide numB := fun l x r h => by
  unfold numB bL
  simp only [List.toList_toArray]
  exact takeNum_back (bk_wide2 h)
theorem bk_most2 {N : Nat} {l : List UInt8} {x : Int} {r : List UInt8} (h : pMost N l = .ok (x, r)) : 0 ≤ x ∧ x ≤ N ∧ bL (encI x) ++ r = l := by
  unfold pMost at h
  obtain ⟨v, r1, h1, h⟩ := pBind_back h
  by_cases c : N < v
  · rw [if_pos c] at h; exact (pErr_back h).elim
  · rw [if_neg c] at h
    obtain ⟨rfl, rfl⟩ := pRet_back h
    have hv := takeNum_lt (bk_wide2 h1)
    refine ⟨by omega, by omega, ?_⟩
    unfold encI
    rw [u64N_id (by omega) (by omega), Int.toNat_natCast]
    exact bk_wide _ _ _ h1
theorem bk_most (N : Nat) : Bk (pMost N) encI := fun _ _ _ h => (bk_most2 h).2.2
theorem bk_num : Bk pNum encI := bk_most _
theorem bk_text : Bk pText encT := fun l x r h => by
  unfold pText at h
  obtain ⟨n, r1, h1, h⟩ := pBind_back h
  obtain ⟨n0, _, b1⟩ := bk_most2 h1
  by_cases c : r1.length < n.toNat
  · rw [if_pos c] at h; cases h
  · rw [if_neg c] at h
    injection h with h
    injection h with h2 h3
    have hs : x.size = n.toNat := by
      rw [← h2]
      show (List.take n.toNat r1).toArray.size = _
      rw [List.size_toArray, List.length_take]
      omega
    have e : bL x = r1.take n.toNat := by rw [← h2]; unfold bL; rw [List.toList_toArray]
    unfold encT
    rw [bL_append, List.append_assoc, e, ← h3, List.take_append_drop, hs, Int.toNat_of_nonneg n0]
    exact b1
theorem bk_rep {α : Type} {p : PR α} {f : α → ByteArray} (h : Bk p f) : ∀ (n : Nat) (l : List UInt8) (xs : List α) (r : List UInt8), pRep p n l = .ok (xs, r) → bL (catM f xs) ++ r = l ∧ xs.length = n
  | 0, l, xs, r, hp => by
    obtain ⟨rfl, rfl⟩ := pRet_back (x := ([] : List α)) hp
    exact ⟨rfl, rfl⟩
  | n + 1, l, xs, r, hp => by
    rw [pRep] at hp
    obtain ⟨x, r1, h1, hp⟩ := pBind_back hp
    obtain ⟨ys, r2, h2, hp⟩ := pBind_back hp
    obtain ⟨rfl, rfl⟩ := pRet_back hp
    obtain ⟨b, hn⟩ := bk_rep h n _ _ _ h2
    have e : catM f (x :: ys) = f x ++ catM f ys := rfl
    refine ⟨?_, by simp [hn]⟩
    rw [e, bL_append, List.append_assoc, b]
    exact h _ _ _ h1
theorem bk_sev {α : Type} {p : PR α} {f : α → ByteArray} (h : Bk p f) (N : Nat) : Bk (pSev N p) (encL f) := fun l xs r hp => by
  unfold pSev at hp
  obtain ⟨n, r1, h1, hp⟩ := pBind_back hp
  obtain ⟨n0, _, b1⟩ := bk_most2 h1
  obtain ⟨b, hn⟩ := bk_rep h _ _ _ _ hp
  unfold encL
  rw [bL_append, List.append_assoc, b, hn, Int.toNat_of_nonneg n0]
  exact b1
theorem bk_args : Bk pArgs encR := bk_sev bk_num 6
theorem bk_inst : Bk pInst encInst := fun l x r h => by
  unfold pInst at h
  obtain ⟨op, r1, h1, h⟩ := pBind_back h
  have b1 := bk_num _ _ _ h1
  by_cases c0 : op < 1 ∨ 16 < op
  · rw [if_pos c0] at h; exact (pErr_back h).elim
  rw [if_neg c0] at h
  by_cases c1 : op = 1
  · rw [if_pos c1] at h
    obtain ⟨k, r2, h2, h⟩ := pBind_back h
    obtain ⟨rfl, rfl⟩ := pRet_back h
    unfold encInst
    simp only
    rw [if_pos c1, bL_append, List.append_assoc, bk_wide _ _ _ h2, b1]
  rw [if_neg c1] at h
  by_cases c2 : op ≤ 11
  · rw [if_pos c2] at h
    obtain ⟨a, r2, h2, h⟩ := pBind_back h
    obtain ⟨b, r3, h3, h⟩ := pBind_back h
    obtain ⟨rfl, rfl⟩ := pRet_back h
    unfold encInst
    simp only
    rw [if_neg c1, if_pos c2, encIs_two, bL_append, bL_append, List.append_assoc, List.append_assoc, bk_num _ _ _ h3, bk_num _ _ _ h2, b1]
  rw [if_neg c2] at h
  by_cases c3 : op = 12
  · rw [if_pos c3] at h
    obtain ⟨a, r2, h2, h⟩ := pBind_back h
    obtain ⟨rfl, rfl⟩ := pRet_back h
    unfold encInst
    simp only
    rw [if_neg c1, if_neg c2, if_pos c3, bL_append, List.append_assoc, bk_text _ _ _ h2, b1]
  rw [if_neg c3] at h
  by_cases c4 : op = 13
  · rw [if_pos c4] at h
    obtain ⟨a, r2, h2, h⟩ := pBind_back h
    obtain ⟨b, r3, h3, h⟩ := pBind_back h
    obtain ⟨rfl, rfl⟩ := pRet_back h
    unfold encInst
    simp only
    rw [if_neg c1, if_neg c2, if_neg c3, if_pos c4, bL_append, bL_append, List.append_assoc, List.append_assoc, bk_text _ _ _ h3, bk_num _ _ _ h2, b1]
  rw [if_neg c4] at h
  by_cases c5 : op = 14
  · rw [if_pos c5] at h
    obtain ⟨a, r2, h2, h⟩ := pBind_back h
    obtain ⟨b, r3, h3, h⟩ := pBind_back h
    obtain ⟨rfl, rfl⟩ := pRet_back h
    unfold encInst
    simp only
    rw [if_neg c1, if_neg c2, if_neg c3, if_neg c4, if_pos c5, bL_append, bL_append, List.append_assoc, List.append_assoc, bk_args _ _ _ h3, bk_text _ _ _ h2, b1]
  rw [if_neg c5] at h
  by_cases c6 : op = 16
  · rw [if_pos c6] at h
    obtain ⟨a, r2, h2, h⟩ := pBind_back h
    obtain ⟨rfl, rfl⟩ := pRet_back h
    unfold encInst
    simp only
    rw [if_neg c1, if_neg c2, if_neg c3, if_neg c4, if_neg c5, if_pos c6, bL_append, List.append_assoc, bk_num _ _ _ h2, b1]
  rw [if_neg c6] at h
  obtain ⟨rfl, rfl⟩ := pRet_back h
  unfold encInst
  simp only
  rw [if_neg c1, if_neg c2, if_neg c3, if_neg c4, if_neg c5, if_neg c6, append_empty, b1]
theorem bk_block : Bk pBlock encBlock := fun l x r h => by
  unfold pBlock at h
  obtain ⟨params, r1, h1, h⟩ := pBind_back h
  obtain ⟨ins, r2, h2, h⟩ := pBind_back h
  obtain ⟨kind, r3, h3, h⟩ := pBind_back h
  have b1 := bk_num _ _ _ h1
  have b2 := bk_sev bk_inst 32 _ _ _ h2
  have b3 := bk_num _ _ _ h3
  by_cases c1 : kind = 1
  · rw [if_pos c1] at h
    obtain ⟨to, r4, h4, h⟩ := pBind_back h
    obtain ⟨args, r5, h5, h⟩ := pBind_back h
    obtain ⟨rfl, rfl⟩ := pRet_back h
    unfold encBlock encTerm
    simp only
    rw [if_pos c1, bL_append, bL_append, bL_append, bL_append, List.append_assoc, List.append_assoc, List.append_assoc, List.append_assoc, bk_args _ _ _ h5, bk_num _ _ _ h4, b3, b2, b1]
  rw [if_neg c1] at h
  by_cases c2 : kind = 2
  · rw [if_pos c2] at h
    obtain ⟨ta, r4, h4, h⟩ := pBind_back h
    obtain ⟨to, r5, h5, h⟩ := pBind_back h
    obtain ⟨args, r6, h6, h⟩ := pBind_back h
    obtain ⟨els, r7, h7, h⟩ := pBind_back h
    obtain ⟨elses, r8, h8, h⟩ := pBind_back h
    obtain ⟨rfl, rfl⟩ := pRet_back h
    unfold encBlock encTerm
    simp only
    rw [if_neg c1, if_pos c2, encIs_two]
    simp only [bL_append, List.append_assoc]
    rw [bk_args _ _ _ h8, bk_num _ _ _ h7, bk_args _ _ _ h6, bk_num _ _ _ h5, bk_num _ _ _ h4, b3, b2, b1]
  rw [if_neg c2] at h
  by_cases c3 : kind = 3
  · rw [if_pos c3] at h
    obtain ⟨ta, r4, h4, h⟩ := pBind_back h
    obtain ⟨rfl, rfl⟩ := pRet_back h
    unfold encBlock encTerm
    simp only
    rw [if_neg c1, if_neg c2, if_pos c3]
    simp only [bL_append, List.append_assoc]
    rw [bk_num _ _ _ h4, b3, b2, b1]
  · rw [if_neg c3] at h; exact (pErr_back h).elim
theorem bk_func : Bk pFunc encFunc := fun l x r h => by
  unfold pFunc at h
  obtain ⟨name, r1, h1, h⟩ := pBind_back h
  obtain ⟨bind, r2, h2, h⟩ := pBind_back h
  obtain ⟨params, r3, h3, h⟩ := pBind_back h
  obtain ⟨blocks, r4, h4, h⟩ := pBind_back h
  obtain ⟨rfl, rfl⟩ := pRet_back h
  unfold encFunc
  simp only [encIs_two, bL_append, List.append_assoc]
  rw [bk_sev bk_block 16 _ _ _ h4, bk_num _ _ _ h3, bk_num _ _ _ h2, bk_text _ _ _ h1]
theorem bk_glob : Bk pGlob encGlob := fun l x r h => by
  unfold pGlob at h
  obtain ⟨name, r1, h1, h⟩ := pBind_back h
  obtain ⟨bind, r2, h2, h⟩ := pBind_back h
  obtain ⟨here, r3, h3, h⟩ := pBind_back h
  obtain ⟨n0, _, b3⟩ := bk_most2 h3
  by_cases c : 1 < here
  · rw [if_pos c] at h; exact (pErr_back h).elim
  rw [if_neg c] at h
  obtain ⟨init, r4, h4, h⟩ := pBind_back h
  obtain ⟨rfl, rfl⟩ := pRet_back h
  have e : (if decide (here = 1) = true then (1 : Int) else 0) = here := by
    by_cases c1 : here = 1
    · simp [c1]
    · simp [c1]; omega
  unfold encGlob
  simp only [encIs_two, bL_append, List.append_assoc]
  rw [e, bk_wide _ _ _ h4, b3, bk_num _ _ _ h2, bk_text _ _ _ h1]
theorem bk_mods : Bk pMods (fun m => encL encFunc m.funcs ++ encL encGlob m.globs) := fun l x r h => by
  unfold pMods at h
  obtain ⟨fs, r1, h1, h⟩ := pBind_back h
  obtain ⟨gs, r2, h2, h⟩ := pBind_back h
  obtain ⟨rfl, rfl⟩ := pRet_back h
  simp only [bL_append, List.append_assoc]
  rw [bk_sev bk_glob 16 _ _ _ h2, bk_sev bk_func 16 _ _ _ h1]

/-- What is taken of so many bytes, plainly. -/
def takeP (s : ByteArray) : Except Int Module :=
  if cutB s magicB = true then match pMods ((bL s).drop 4) with
    | .error c => .error c
    | .ok (m, r) => if r ≠ [] then .error 3 else if checkE m ≠ 0 then .error (checkE m) else if 65535 < s.size then .error 4 else .ok m
  else .error 3
theorem take_is (s : ByteArray) : (∀ m, takeP s = .ok m → takeE s = 0 ∧ takeM s = m) ∧ (∀ c, takeP s = .error c → c ≠ 0 ∧ takeE s = c ∧ takeM s = ⟨[], []⟩) := by
  unfold takeP takeE takeM
  by_cases hc : ¬ cutB s magicB = true
  · rw [if_neg hc, if_neg hc, if_neg (fun h => hc h.1)]
    refine ⟨fun m h => (by cases h), fun c h => ?_⟩
    cases h
    exact ⟨by decide, rfl, rfl⟩
  have hc : cutB s magicB = true := Decidable.not_not.1 hc
  have hcd : cutD s magicB = s.extract 4 s.size := by unfold cutD; rw [if_pos hc]; rfl
  have hs := sim_mods ⟨cutD s magicB, 0⟩ rfl
  simp only at hs
  have hq : takeQ s = modsS ⟨cutD s magicB, 0⟩ := rfl
  rw [hcd, bL_drop, ← hcd, ← hq] at hs
  rw [if_pos hc, if_pos hc]
  cases hp : pMods ((bL s).drop 4) with
  | error c =>
    obtain ⟨h1, h2⟩ := hs.2 c hp
    have hA : takeA s = (takeQ s).2 := by
      unfold takeA
      split
      · rfl
      · exact oddS_dead 3 (by rw [h2]; exact h1)
    have hB : takeB s = (takeQ s).2 := by unfold takeB; rw [hA, if_neg (by rw [h2]; exact h1)]
    have hC : takeC s = (takeQ s).2 := by
      unfold takeC
      rw [hB]
      split
      · exact oddS_dead 4 (by rw [h2]; exact h1)
      · rfl
    rw [hC, h2, if_neg (fun h => h1 h.2)]
    refine ⟨fun m h => (by cases h), fun c' h => ?_⟩
    cases h
    exact ⟨h1, rfl, rfl⟩
  | ok v =>
    obtain ⟨m, r⟩ := v
    obtain ⟨h1, h2, h3⟩ := hs.1 m r hp
    simp only
    by_cases hr : ¬ r = []
    · rw [if_pos hr]
      have hA : takeA s = ⟨(takeQ s).2.s, 3⟩ := by
        unfold takeA
        rw [if_neg (fun h => hr (by rw [← h2, h]; rfl)), oddS_live 3 h3]
      have hB : takeB s = ⟨(takeQ s).2.s, 3⟩ := by unfold takeB; rw [hA, if_neg (show ¬ (3 : Int) = 0 by decide)]
      have hC : takeC s = ⟨(takeQ s).2.s, 3⟩ := by
        unfold takeC
        rw [hB]
        split
        · exact oddS_dead 4 (show (3 : Int) ≠ 0 by decide)
        · rfl
      rw [hC, if_neg (fun h => absurd h.2 (show ¬ (3 : Int) = 0 by decide))]
      refine ⟨fun m h => (by cases h), fun c' h => ?_⟩
      cases h
      exact ⟨by decide, rfl, rfl⟩
    have hr : r = [] := Decidable.not_not.1 hr
    rw [if_neg (by simp [hr])]
    have hA : takeA s = (takeQ s).2 := by
      unfold takeA
      rw [if_pos (bL_inj (by rw [h2, hr]; rfl))]
    have hB : takeB s = ⟨(takeQ s).2.s, checkE m⟩ := by unfold takeB; rw [hA, if_pos h3, oddS_live _ h3, h1]
    by_cases hk : ¬ checkE m = 0
    · rw [if_pos hk]
      have hC : takeC s = ⟨(takeQ s).2.s, checkE m⟩ := by
        unfold takeC
        rw [hB]
        split
        · exact oddS_dead 4 hk
        · rfl
      rw [hC, if_neg (fun h => hk h.2)]
      refine ⟨fun m h => (by cases h), fun c' h => ?_⟩
      cases h
      exact ⟨hk, rfl, rfl⟩
    have hk : checkE m = 0 := Decidable.not_not.1 hk
    rw [if_neg (by simp [hk])]
    by_cases hz : 65535 < s.size
    · rw [if_pos hz]
      have hC : takeC s = ⟨(takeQ s).2.s, 4⟩ := by unfold takeC; rw [if_pos hz, hB, oddS_live 4 hk]
      rw [hC, if_neg (fun h => absurd h.2 (show ¬ (4 : Int) = 0 by decide))]
      refine ⟨fun m h => (by cases h), fun c' h => ?_⟩
      cases h
      exact ⟨by decide, rfl, rfl⟩
    · rw [if_neg hz]
      have hC : takeC s = ⟨(takeQ s).2.s, checkE m⟩ := by unfold takeC; rw [if_neg hz, hB]
      rw [hC, if_pos ⟨hc, hk⟩]
      refine ⟨fun m' h => ?_, fun c' h => (by cases h)⟩
      cases h
      exact ⟨hk, h1⟩

end Go.Proofs.Ytciihchbiifgkaa
