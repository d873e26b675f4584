/- Plain laws of layer 11: what the search reaches. -/
import Derived.Test.YtifinpijhbkhnaaF7
namespace Go.Proofs.Ytifinpijhbkhnaa
open Go.RowKit

theorem mem_hasN {l : List ByteArray} {s : ByteArray} : hasN l s = true ↔ s ∈ l := hasN_iff _ _

/-- The names to which a name leads. -/
def leads (m : Module) (s : ByteArray) : List ByteArray := match findF m s with
  | none => []
  | some f => namesOf (allIns f)

/-- What is reached from some names. -/
inductive Rch (m : Module) (R : List ByteArray) : ByteArray → Prop
  | root {s : ByteArray} (h : s ∈ R) : Rch m R s
  | step {s t : ByteArray} (h : Rch m R s) (ht : t ∈ leads m s) : Rch m R t

theorem Rch.mono {m : Module} {R R' : List ByteArray} (h : ∀ s ∈ R, Rch m R' s) {t : ByteArray} (ht : Rch m R t) : Rch m R' t := by
  induction ht with
  | root hs => exact h _ hs
  | step _ ht ih => exact .step ih ht

theorem dfs_sub (m : Module) : ∀ (n : Nat) (S : List ByteArray) (s t : ByteArray), t ∈ dfs m n S s → t ∈ S ∨ Rch m [s] t := by
  intro n
  induction n with
  | zero => intro S s t h; exact .inl h
  | succ n ih =>
    intro S s t h
    unfold dfs at h
    split at h
    · exact .inl h
    · split at h
      · rcases List.mem_append.1 h with h | h
        · exact .inl h
        · exact .inr (.root h)
      · rename_i f hf
        have key : ∀ (l : List ByteArray) (S : List ByteArray), (∀ x ∈ l, Rch m [s] x) → t ∈ l.foldl (dfs m n) S → t ∈ S ∨ Rch m [s] t := by
          intro l
          induction l with
          | nil => intro S _ h; exact .inl h
          | cons x l ihl =>
            intro S hl h
            rcases ihl _ (fun y hy => hl y (List.mem_cons_of_mem _ hy)) h with h1 | h1
            · rcases ih S x t h1 with h2 | h2
              · exact .inl h2
              · exact .inr (h2.mono fun y hy => by
                  obtain rfl : y = x := by simpa using hy
                  exact hl _ (by simp))
            · exact .inr h1
        have hs : ∀ x ∈ namesOf (allIns f), Rch m [s] x := fun x hx => .step (s := s) (.root (by simp)) (by unfold leads; rw [hf]; exact hx)
        rcases key _ _ hs h with h1 | h1
        · rcases List.mem_append.1 h1 with h1 | h1
          · exact .inl h1
          · exact .inr (.root h1)
        · exact .inr h1

/-- Nothing new leads out of S'. -/
def Closed (m : Module) (S S' : List ByteArray) : Prop := ∀ x ∈ S', x ∉ S → ∀ y ∈ leads m x, y ∈ S'

theorem dfs_has (m : Module) (n : Nat) (S : List ByteArray) (s t : ByteArray) (h : t ∈ S) : t ∈ dfs m n S s := mem_hasN.1 (dfs_mono m n S s t (mem_hasN.2 h))
theorem fold_has (m : Module) (n : Nat) (t : ByteArray) (l S : List ByteArray) (h : t ∈ S) : t ∈ l.foldl (dfs m n) S := mem_hasN.1 (fold_mono m n t l S (mem_hasN.2 h))
theorem left_sub {m : Module} {S S' : List ByteArray} (h : ∀ s ∈ S, s ∈ S') : left m S' ≤ left m S := left_mono fun s hs => mem_hasN.2 (h s (mem_hasN.1 hs))

theorem dfs_full (m : Module) : ∀ (n : Nat) (S : List ByteArray) (s : ByteArray), left m S < n → s ∈ dfs m n S s ∧ Closed m S (dfs m n S s) := by
  intro n
  induction n with
  | zero => intro S s h; omega
  | succ n ih =>
    intro S s hn
    have key : ∀ (l : List ByteArray) (S : List ByteArray), left m S < n → (∀ x ∈ l, x ∈ l.foldl (dfs m n) S) ∧ Closed m S (l.foldl (dfs m n) S) := by
      intro l
      induction l with
      | nil => intro S _; exact ⟨fun x hx => (by cases hx), fun x hx hn => absurd hx hn⟩
      | cons x l ihl =>
        intro S hS
        have hS' : left m (dfs m n S x) < n := Nat.lt_of_le_of_lt (left_sub fun t ht => dfs_has m n S x t ht) hS
        obtain ⟨h1, h2⟩ := ihl (dfs m n S x) hS'
        obtain ⟨h3, h4⟩ := ih S x hS
        refine ⟨fun y hy => ?_, fun y hy hyn z hz => ?_⟩
        · rcases List.mem_cons.1 hy with rfl | hy
          · exact fold_has m n _ l _ h3
          · exact h1 y hy
        · by_cases hyd : y ∈ dfs m n S x
          · exact fold_has m n _ l _ (h4 y hyd hyn z hz)
          · exact h2 y hy hyd z hz
    unfold dfs
    split
    · rename_i hs
      exact ⟨mem_hasN.1 hs, fun x hx hn => absurd hx hn⟩
    · rename_i hs
      have hs' : hasN S s = false := by simpa using hs
      split
      · rename_i hf
        refine ⟨by simp, fun x hx hxn y hy => ?_⟩
        have hx' : x = s := by
          rcases List.mem_append.1 hx with h | h
          · exact absurd h hxn
          · simpa using h
        subst hx'
        unfold leads at hy
        rw [hf] at hy
        cases hy
      · rename_i f hf
        have hl := left_lt hf hs'
        obtain ⟨h1, h2⟩ := key (namesOf (allIns f)) (S ++ [s]) (by omega)
        refine ⟨fold_has m n _ _ _ (by simp), fun x hx hxn y hy => ?_⟩
        by_cases hxs : x = s
        · subst hxs
          unfold leads at hy
          rw [hf] at hy
          exact h1 y hy
        · exact h2 x hx (by simp [hxn, hxs]) y hy

theorem reachL_iff (m : Module) (R : List ByteArray) (t : ByteArray) : t ∈ R.foldl (dfs m (m.funcs.length + 1)) [] ↔ Rch m R t := by
  have hlt : ∀ S, left m S < m.funcs.length + 1 := fun S => Nat.lt_succ_of_le (List.length_filter_le _ _)
  constructor
  · have key : ∀ (l S : List ByteArray), (∀ x ∈ l, Rch m R x) → t ∈ l.foldl (dfs m (m.funcs.length + 1)) S → t ∈ S ∨ Rch m R t := by
      intro l
      induction l with
      | nil => intro S _ h; exact .inl h
      | cons x l ih =>
        intro S hl h
        rcases ih _ (fun y hy => hl y (List.mem_cons_of_mem _ hy)) h with h1 | h1
        · rcases dfs_sub m _ _ _ _ h1 with h2 | h2
          · exact .inl h2
          · exact .inr (h2.mono fun y hy => by
              obtain rfl : y = x := by simpa using hy
              exact hl _ (by simp))
        · exact .inr h1
    intro h
    rcases key R [] (fun x hx => .root hx) h with h1 | h1
    · cases h1
    · exact h1
  · have key : ∀ (l S : List ByteArray), (∀ x ∈ l, x ∈ l.foldl (dfs m (m.funcs.length + 1)) S) ∧ Closed m S (l.foldl (dfs m (m.funcs.length + 1)) S) := by
      intro l
      induction l with
      | nil => intro S; exact ⟨fun x hx => (by cases hx), fun x hx hn => absurd hx hn⟩
      | cons x l ihl =>
        intro S
        obtain ⟨h1, h2⟩ := ihl (dfs m (m.funcs.length + 1) S x)
        obtain ⟨h3, h4⟩ := dfs_full m _ S x (hlt S)
        refine ⟨fun y hy => ?_, fun y hy hyn z hz => ?_⟩
        · rcases List.mem_cons.1 hy with rfl | hy
          · exact fold_has m _ _ l _ h3
          · exact h1 y hy
        · by_cases hyd : y ∈ dfs m (m.funcs.length + 1) S x
          · exact fold_has m _ _ l _ (h4 y hyd hyn z hz)
          · exact h2 y hy hyd z hz
    intro h
    obtain ⟨h1, h2⟩ := key R []
    induction h with
    | root hs => exact h1 _ hs
    | step _ ht ih => exact h2 _ ih (by simp) _ ht

/-- Each thing once: the same things. -/
theorem onceL_mem (l : List ByteArray) (s : ByteArray) : s ∈ onceL l ↔ s ∈ l := by
  have key : ∀ (l acc : List ByteArray), s ∈ l.foldl (fun acc x => if hasN acc x = true then acc else acc ++ [x]) acc ↔ s ∈ acc ∨ s ∈ l := by
    intro l
    induction l with
    | nil => intro acc; simp
    | cons x l ih =>
      intro acc
      rw [List.foldl_cons, ih]
      split
      · rename_i h
        have hx := mem_hasN.1 h
        constructor
        · rintro (h | h)
          · exact .inl h
          · exact .inr (List.mem_cons_of_mem _ h)
        · rintro (h | h)
          · exact .inl h
          · rcases List.mem_cons.1 h with rfl | h
            · exact .inl hx
            · exact .inr h
      · simp only [List.mem_append, List.mem_cons, List.not_mem_nil, or_false]
        constructor
        · rintro ((h | h) | h)
          · exact .inl h
          · exact .inr (.inl h)
          · exact .inr (.inr h)
        · rintro (h | h | h)
          · exact .inl (.inl h)
          · exact .inl (.inr h)
          · exact .inr h
  have := key l []
  unfold onceL
  rw [this]
  simp
theorem onceL_nodup (l : List ByteArray) : (onceL l).Nodup := by
  have key : ∀ (l acc : List ByteArray), acc.Nodup → (l.foldl (fun acc x => if hasN acc x = true then acc else acc ++ [x]) acc).Nodup := by
    intro l
    induction l with
    | nil => intro acc h; exact h
    | cons x l ih =>
      intro acc h
      rw [List.foldl_cons]
      refine ih _ ?_
      split
      · exact h
      · rename_i hx
        rw [List.nodup_append]
        refine ⟨h, by simp, fun a ha b hb => ?_⟩
        obtain rfl : b = x := by simpa using hb
        rintro rfl
        exact hx (mem_hasN.2 ha)
  exact key l [] List.nodup_nil

end Go.Proofs.Ytifinpijhbkhnaa
