/- Layer 7: open calls as a family of objects. -/
import Derived.Test.YtpfokkfomgmibaaS2
namespace Go.Proofs.Ytpfokkfomgmibaa
open Go.RowKit

/-- The numbers of the objects of an open call below the top, from the lowest one on. -/
def fid (b k : Nat) : Nat := b + 100 + 2 * k
def vid (b k : Nat) : Nat := b + 101 + 2 * k
/-- The objects of open calls, the highest one first. -/
def fam (b : Nat) : List Fr → List (Nat × AObj)
  | [] => []
  | fr :: r => (fid b r.length, .box (frC fr (.own (vid b r.length) fr.vals.length))) :: (vid b r.length, .row 29 1 fr.vals.length (valsR fr.vals)) :: fam b r

theorem fam_mem {b : Nat} {i : Nat} {o : AObj} : ∀ {l : List Fr}, (i, o) ∈ fam b l → ∃ k, k < l.length ∧ (i = fid b k ∨ i = vid b k)
  | [], h => by cases h
  | fr :: r, h => by
    simp only [fam, List.mem_cons] at h
    rcases h with h | h | h
    · injection h with h1 h2
      exact ⟨r.length, by simp, .inl h1⟩
    · injection h with h1 h2
      exact ⟨r.length, by simp, .inr h1⟩
    · obtain ⟨k, h1, h2⟩ := fam_mem h
      exact ⟨k, by simp only [List.length_cons]; omega, h2⟩

theorem fam_has {b : Nat} : ∀ {l : List Fr} {k : Nat}, k < l.length → (∃ o, (fid b k, o) ∈ fam b l) ∧ ∃ o, (vid b k, o) ∈ fam b l
  | [], k, h => by simp at h
  | fr :: r, k, h => by
    by_cases e : k = r.length
    · subst e
      exact ⟨⟨_, by simp only [fam]; exact List.mem_cons_self⟩, ⟨_, by simp only [fam]; exact List.mem_cons_of_mem _ List.mem_cons_self⟩⟩
    · simp only [List.length_cons] at h
      obtain ⟨⟨o, h1⟩, o', h2⟩ := fam_has (b := b) (l := r) (k := k) (by omega)
      exact ⟨⟨o, by simp only [fam, List.mem_cons]; exact .inr (.inr h1)⟩, o', by simp only [fam, List.mem_cons]; exact .inr (.inr h2)⟩

theorem HLe_cons {M : Rws} {g : Nat → Src} {H : Heap} {i : Nat} {o' : AObj} {r : List (Nat × AObj)} : HLe M g H ((i, o') :: r) = ((match g i with
      | .id k => (match hget H k with | some o => OLe M g o o' | none => False)
      | .nil => (match o' with | .row _ _ len _ => len = 0 | _ => False)
      | .none => False) ∧ HLe M g H r) := rfl

theorem HLe_fam {M : Rws} {g : Nat → Src} {H : Heap} {b c : Nat} : ∀ {l : List Fr}, (∀ k, k < l.length → g (fid b k) = .id (fid c k) ∧ g (vid b k) = .id (vid c k)) → (∀ i o, (i, o) ∈ fam c l → hget H i = some o) → HLe M g H (fam b l)
  | [], _, _ => trivial
  | fr :: r, hg, hH => by
    obtain ⟨g1, g2⟩ := hg r.length (by simp)
    have h1 := hH (fid c r.length) _ (by simp only [fam]; exact List.mem_cons_self)
    have h2 := hH (vid c r.length) _ (by simp only [fam]; exact List.mem_cons_of_mem _ List.mem_cons_self)
    simp only [fam, HLe_cons, g1, g2, h1, h2]
    refine ⟨?_, ?_, HLe_fam (fun k hk => hg k (by simp only [List.length_cons]; omega)) (fun i o h => hH i o (by simp only [fam, List.mem_cons]; exact .inr (.inr h)))⟩
    · simp [frC, g2]
    · simp

theorem srcApart_inj {g : Nat → Src} : ∀ {L : List (Nat × AObj)}, (∀ i j k o o', (i, o) ∈ L → (j, o') ∈ L → g i = .id k → g j = .id k → i = j) → srcApart g L
  | [], _ => trivial
  | (i, o) :: r, h => by
    refine ⟨fun j o' hj hne k h1 h2 => hne (h i j k o o' (by simp) (by simp [hj]) h1 h2), srcApart_inj fun i j k o o' hi hj => h i j k o o' (by simp [hi]) (by simp [hj])⟩

theorem srcApart_gOf {τ : Nat → Nat} {L : List (Nat × AObj)} (h : ∀ i j o o', (i, o) ∈ L → (j, o') ∈ L → τ i = τ j → i = j) : srcApart (gOf τ L) L := by
  refine srcApart_inj fun i j k o o' hi hj h1 h2 => h i j o o' hi hj ?_
  rw [gOf_mem hi] at h1
  rw [gOf_mem hj] at h2
  injection h1 with h1
  injection h2 with h2
  rw [h1, h2]

theorem srcApart_gE {L L' : List (Nat × AObj)} {s : Nat} (hL : ∀ i o, (i, o) ∈ L → 1000000 ≤ i) (h1 : s % 1000000000 < 1000000) (h2 : s / 1000000000 < 1000000) (h3 : s % 1000000000 ≠ s / 1000000000) : srcApart (gE L (.id s)) L' := by
  have key : ∀ i k, gE L (.id s) i = .id k → (i = 999999 ∧ k = s % 1000000000) ∨ (i = 999998 ∧ k = s / 1000000000) ∨ (i = k ∧ 1000000 ≤ k) := by
    intro i k h
    unfold gE at h
    split at h
    · injection h with h
      exact .inl ⟨by assumption, h.symm⟩
    · split at h
      · simp only at h
        split at h
        · injection h with h
          exact .inr (.inl ⟨by assumption, h.symm⟩)
        · cases h
      · split at h
        · rename_i hin
          injection h with h
          subst h
          obtain ⟨⟨j, o⟩, hm, he⟩ := List.any_eq_true.1 hin
          simp only [beq_iff_eq] at he
          subst he
          exact .inr (.inr ⟨rfl, hL _ _ hm⟩)
        · cases h
  refine srcApart_inj fun i j k o o' hi hj h4 h5 => ?_
  rcases key i k h4 with ⟨a1, a2⟩ | ⟨a1, a2⟩ | ⟨a1, a2⟩ <;> rcases key j k h5 with ⟨b1, b2⟩ | ⟨b1, b2⟩ | ⟨b1, b2⟩ <;> omega

theorem any_fam {b : Nat} {l : List Fr} {k : Nat} (h : k < l.length) : (fam b l).any (fun p => p.1 == fid b k) = true ∧ (fam b l).any (fun p => p.1 == vid b k) = true := by
  obtain ⟨⟨o, h1⟩, o', h2⟩ := fam_has (b := b) h
  exact ⟨List.any_eq_true.2 ⟨_, h1, by simp⟩, List.any_eq_true.2 ⟨_, h2, by simp⟩⟩

theorem gOf_fam {τ : Nat → Nat} {A : List (Nat × AObj)} {b : Nat} {l : List Fr} {k : Nat} (h : k < l.length) : gOf τ (A ++ fam b l) (fid b k) = .id (τ (fid b k)) ∧ gOf τ (A ++ fam b l) (vid b k) = .id (τ (vid b k)) := by
  obtain ⟨h1, h2⟩ := any_fam (b := b) h
  unfold gOf
  rw [if_pos (by rw [List.any_append, h1]; simp), if_pos (by rw [List.any_append, h2]; simp)]
  exact ⟨rfl, rfl⟩

theorem gE_fam {A : List (Nat × AObj)} {s : Src} {b : Nat} {l : List Fr} {k : Nat} (hb : 1000000 ≤ b) (h : k < l.length) : gE (A ++ fam b l) s (fid b k) = .id (fid b k) ∧ gE (A ++ fam b l) s (vid b k) = .id (vid b k) := by
  obtain ⟨h1, h2⟩ := any_fam (b := b) h
  unfold gE
  rw [if_neg (by unfold fid; omega), if_neg (by unfold fid; omega), if_pos (by rw [List.any_append, h1]; simp), if_neg (by unfold vid; omega), if_neg (by unfold vid; omega), if_pos (by rw [List.any_append, h2]; simp)]
  exact ⟨rfl, rfl⟩

theorem fam_all {l : List Fr} (h : l.length ≤ 100) : (fam 1000000 l).all (fun p => decide (1000000 ≤ p.1) && decide (p.1 < 1001000)) = true := by
  refine List.all_eq_true.2 fun ⟨i, o⟩ hm => ?_
  obtain ⟨k, hk, he⟩ := fam_mem hm
  simp only [Bool.and_eq_true, decide_eq_true_eq]
  unfold fid vid at he
  omega

theorem idsOk_append {L : List (Nat × AObj)} : ∀ {A B : List (Nat × AObj)}, idsOk L (A ++ B) ↔ idsOk L A ∧ idsOk L B
  | [], B => by simp [idsOk]
  | (i, o) :: A, B => by
    simp only [List.cons_append, idsOk, idsOk_append (A := A), and_assoc]
theorem idsOk_fam {L : List (Nat × AObj)} {b : Nat} : ∀ {l : List Fr}, (∀ k, k < l.length → L.any (fun p => p.1 == fid b k) = true ∧ L.any (fun p => p.1 == vid b k) = true) → idsOk L (fam b l)
  | [], _ => trivial
  | fr :: r, h => by
    obtain ⟨h1, h2⟩ := h r.length (by simp)
    exact ⟨.inr h1, .inr h2, idsOk_fam fun k hk => h k (by simp only [List.length_cons]; omega)⟩

theorem hof_fam {b : Nat} : ∀ {l : List Fr} {i : Nat} {o : AObj}, (i, o) ∈ fam b l → hget (hof (fam b l)) i = some o
  | [], i, o, h => by cases h
  | fr :: r, i, o, h => by
    simp only [fam, List.mem_cons] at h
    simp only [fam, hof, hget_add]
    rcases h with h | h | h
    · injection h with h1 h2
      rw [if_pos h1.symm, h2]
    · injection h with h1 h2
      rw [if_neg (by rw [h1]; unfold fid vid; omega), if_pos h1.symm, h2]
    · obtain ⟨k, h1, h2⟩ := fam_mem h
      rw [if_neg (by unfold fid vid at *; omega), if_neg (by unfold fid vid at *; omega)]
      exact hof_fam h
theorem hof_fam_none {b : Nat} {l : List Fr} {i : Nat} (h : ∀ k, k < l.length → i ≠ fid b k ∧ i ≠ vid b k) : hget (hof (fam b l)) i = none := by
  cases hg : hget (hof (fam b l)) i with
  | none => rfl
  | some o =>
    obtain ⟨k, h1, h2⟩ := fam_mem (hof_get hg)
    have := h k h1
    rcases h2 with h2 | h2
    · exact absurd h2 this.1
    · exact absurd h2 this.2

theorem foldr_hdel {τ : Nat → Nat} {H : Heap} : ∀ (L : List (Nat × AObj)) (k : Nat), (L.foldr (fun p h => hdel h (τ p.1)) H) k = if L.any (fun p => τ p.1 == k) = true then none else H k
  | [], k => by simp
  | p :: L, k => by
    simp only [List.foldr_cons, List.any_cons, Bool.or_eq_true, beq_iff_eq]
    show (if τ p.1 = k then none else (L.foldr (fun p h => hdel h (τ p.1)) H) k) = _
    rw [foldr_hdel L k]
    by_cases h1 : τ p.1 = k <;> by_cases h2 : L.any (fun p => τ p.1 == k) = true <;> simp [h1, h2]
theorem foldr_hadd {τ : Nat → Nat} {H : Heap} : ∀ (L : List (Nat × AObj)) (k : Nat), (L.foldr (fun p h => hadd (τ p.1) (p.2.ren τ) h) H) k = match L.find? (fun p => τ p.1 == k) with | some p => some (p.2.ren τ) | none => H k
  | [], k => by simp
  | p :: L, k => by
    simp only [List.foldr_cons, List.find?_cons]
    show (if τ p.1 = k then some (p.2.ren τ) else (L.foldr (fun p h => hadd (τ p.1) (p.2.ren τ) h) H) k) = _
    rw [foldr_hadd L k]
    by_cases h1 : τ p.1 = k
    · simp [h1]
    · have : (τ p.1 == k) = false := by simp [h1]
      rw [if_neg h1, this]

/-- What a call leaves as it was needs not be told. -/
theorem hput_frame {τ : Nat → Nat} {A A' F : List (Nat × AObj)} {H : Heap} (h1 : ∀ i o, (i, o) ∈ F → hget H (τ i) = some (o.ren τ)) (h2 : ∀ i o j o', (i, o) ∈ A → (j, o') ∈ F → τ i ≠ τ j) : hput τ (A ++ F) (A' ++ F) H = hput τ A A' H := by
  funext k
  unfold hput
  rw [foldr_hadd, foldr_hadd, foldr_hdel, foldr_hdel, List.find?_append]
  cases hA : A'.find? (fun p => τ p.1 == k) with
  | some p => simp
  | none =>
    cases hF : F.find? (fun p => τ p.1 == k) with
    | some p =>
      obtain ⟨i, o⟩ := p
      have hm := List.mem_of_find?_eq_some hF
      have hk := List.find?_some hF
      simp only [beq_iff_eq] at hk
      have hno : ¬ A.any (fun p => τ p.1 == k) = true := by
        intro h
        obtain ⟨⟨j, o'⟩, hj, he⟩ := List.any_eq_true.1 h
        simp only [beq_iff_eq] at he
        exact h2 j o' i o hj hm (he.trans hk.symm)
      simp only [Option.none_or]
      rw [if_neg hno, ← hk]
      exact (h1 i o hm).symm
    | none =>
      simp only [Option.none_or]
      have hno : ¬ F.any (fun p => τ p.1 == k) = true := by
        intro h
        obtain ⟨p, hp, he⟩ := List.any_eq_true.1 h
        exact absurd he (List.find?_eq_none.1 hF p hp)
      simp only [List.any_append, Bool.or_eq_true]
      by_cases hA2 : A.any (fun p => τ p.1 == k) = true
      · simp [hA2]
      · simp [hA2, hno]

theorem fam_ren {τ : Nat → Nat} {b c : Nat} : ∀ {l : List Fr}, (∀ k, k < l.length → τ (fid b k) = fid c k ∧ τ (vid b k) = vid c k) → ∀ i o, (i, o) ∈ fam b l → (τ i, o.ren τ) ∈ fam c l
  | [], _, i, o, h => by cases h
  | fr :: r, hτ, i, o, h => by
    obtain ⟨t1, t2⟩ := hτ r.length (by simp)
    simp only [fam, List.mem_cons] at h ⊢
    rcases h with h | h | h
    · injection h with h3 h4
      subst h3; subst h4
      left
      simp [t1, t2, frC]
    · injection h with h3 h4
      subst h3; subst h4
      right; left
      simp [t2]
    · right; right
      exact fam_ren (fun k hk => hτ k (by simp only [List.length_cons]; omega)) i o h

end Go.Proofs.Ytpfokkfomgmibaa
