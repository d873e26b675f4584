/- Plain laws of layer 11: the order of Deepest. -/
import Derived.Test.YtifinpijhbkhnaaReach2
import Derived.Test.YtifinpijhbkhnaaF8
namespace Go.Proofs.Ytifinpijhbkhnaa
open Go.RowKit

theorem nodup_le {α : Type} [DecidableEq α] : ∀ {l l' : List α}, l.Nodup → (∀ x ∈ l, x ∈ l') → l.length ≤ l'.length
  | [], _, _, _ => Nat.zero_le _
  | x :: l, l', hn, hs => by
    have hx := hs x (by simp)
    have h1 := List.nodup_cons.1 hn
    have h2 := nodup_le (l := l) (l' := l'.erase x) h1.2 fun y hy => by
      have hne : y ≠ x := fun e => h1.1 (e ▸ hy)
      exact (List.mem_erase_of_ne hne).2 (hs y (by simp [hy]))
    have h3 := List.length_erase_of_mem hx
    have h4 := List.length_pos_of_mem hx
    simp only [List.length_cons]
    omega

theorem callsL_leads {m : Module} {s v : ByteArray} (h : v ∈ callsL m s) : v ∈ leads m s := by
  unfold callsL at h
  unfold leads
  cases hf : findF m s with
  | none => rw [hf] at h; cases h
  | some f =>
    rw [hf] at h
    simp only [onceL_mem] at h
    obtain ⟨i, hi, rfl⟩ := List.mem_map.1 h
    obtain ⟨h1, h2⟩ := List.mem_filter.1 hi
    exact List.mem_map.2 ⟨i, List.mem_filter.2 ⟨h1, isNamed_iff.2 (.inr (.inr (by simpa using h2)))⟩, rfl⟩

/-- What one search adds to another: functions, each once; each behind those that it calls, but for such as reach it. -/
def VS (m : Module) (p q : List ByteArray × List ByteArray) : Prop :=
  ∃ N : List ByteArray, q.2 = p.2 ++ N ∧ N.Nodup ∧ (∀ x ∈ N, x ∉ p.1 ∧ (findF m x).isSome = true) ∧ (∀ x, x ∈ q.1 ↔ x ∈ p.1 ∨ x ∈ N) ∧
    ∀ i (h : i < N.length), ∀ v ∈ callsL m N[i], (findF m v).isSome = true → v ∈ p.2 ∨ v ∈ N.take i ∨ Rch m [v] N[i]

theorem VS.refl (m : Module) (p : List ByteArray × List ByteArray) : VS m p p := ⟨[], by simp, List.nodup_nil, fun x hx => (by cases hx), fun x => by simp, fun i h => by cases h⟩
theorem VS.trans {m : Module} {p q r : List ByteArray × List ByteArray} (h : VS m p q) (k : VS m q r) : VS m p r := by
  obtain ⟨N, h1, h2, h3, h4, h5⟩ := h
  obtain ⟨M, k1, k2, k3, k4, k5⟩ := k
  refine ⟨N ++ M, by rw [k1, h1, List.append_assoc], List.nodup_append.2 ⟨h2, k2, fun a ha b hb e => (k3 b hb).1 ((h4 b).2 (.inr (e ▸ ha)))⟩, fun x hx => ?_, fun x => ?_, fun i hi v hv hs => ?_⟩
  · rcases List.mem_append.1 hx with hx | hx
    · exact h3 x hx
    · exact ⟨fun h' => (k3 x hx).1 ((h4 x).2 (.inl h')), (k3 x hx).2⟩
  · rw [k4, h4, List.mem_append, or_assoc]
  · by_cases hlt : i < N.length
    · rw [List.getElem_append_left hlt] at hv ⊢
      rw [List.take_append_of_le_length (Nat.le_of_lt hlt)]
      exact h5 i hlt v hv hs
    · have hge : N.length ≤ i := by omega
      have hi' : i - N.length < M.length := by simp at hi; omega
      rw [List.getElem_append_right hge] at hv ⊢
      rcases k5 (i - N.length) hi' v hv hs with h6 | h6 | h6
      · rw [h1] at h6
        rcases List.mem_append.1 h6 with h6 | h6
        · exact .inl h6
        · refine .inr (.inl ?_)
          rw [List.take_append]
          rw [List.take_of_length_le hge]
          exact List.mem_append_left _ h6
      · refine .inr (.inl ?_)
        rw [List.take_append]
        exact List.mem_append_right _ h6
      · exact .inr (.inr h6)

theorem vis_vs (m : Module) : ∀ (n : Nat) (p : List ByteArray × List ByteArray) (s : ByteArray), left m p.1 < n → (∀ v ∈ p.1, v ∈ p.2 ∨ Rch m [v] s) → VS m p (vis m n p s) ∧ ((findF m s).isSome = true → s ∈ (vis m n p s).1) := by
  intro n
  induction n with
  | zero => intro p s h; omega
  | succ n ih =>
    intro p s hn hH
    cases hf : findF m s with
    | none => rw [vis_none hf]; exact ⟨.refl m p, fun h => by cases h⟩
    | some f =>
      cases hs : hasN p.1 s with
      | true => rw [vis_had hs]; exact ⟨.refl m p, fun _ => mem_hasN.1 hs⟩
      | false =>
        rw [vis_new hf hs]
        have hsn : s ∉ p.1 := fun h => by rw [mem_hasN.2 h] at hs; cases hs
        have hl := left_lt hf hs
        -- the calls, one by one
        have key : ∀ (l : List ByteArray) (q : List ByteArray × List ByteArray), left m q.1 < n → (∀ c ∈ l, c ∈ leads m s) → (∀ v ∈ q.1, v ∈ q.2 ∨ Rch m [v] s) →
            VS m q (l.foldl (vis m n) q) ∧ ∀ c ∈ l, (findF m c).isSome = true → c ∈ (l.foldl (vis m n) q).1 := by
          intro l
          induction l with
          | nil => intro q _ _ _; exact ⟨.refl m q, fun c hc => by cases hc⟩
          | cons c l ihl =>
            intro q hq hc hv
            obtain ⟨h1, h2⟩ := ih q c hq fun v hvq => by
              rcases hv v hvq with h | h
              · exact .inl h
              · exact .inr (.step h (hc c (by simp)))
            have h1' := h1
            obtain ⟨N, e1, e2, e3, e4, e5⟩ := h1'
            have hq' : left m (vis m n q c).1 < n := Nat.lt_of_le_of_lt (left_sub fun t ht => (e4 t).2 (.inl ht)) hq
            obtain ⟨h3, h4⟩ := ihl (vis m n q c) hq' (fun d hd => hc d (by simp [hd])) fun v hvq => by
              rcases (e4 v).1 hvq with h | h
              · rcases hv v h with h | h
                · exact .inl (by rw [e1]; exact List.mem_append_left _ h)
                · exact .inr h
              · exact .inl (by rw [e1]; exact List.mem_append_right _ h)
            refine ⟨h1.trans h3, fun d hd hds => ?_⟩
            rcases List.mem_cons.1 hd with rfl | hd
            · obtain ⟨M, _, _, _, m4, _⟩ := h3
              exact (m4 _).2 (.inl (h2 hds))
            · exact h4 d hd hds
        obtain ⟨⟨N, e1, e2, e3, e4, e5⟩, h2⟩ := key (callsL m s) (p.1 ++ [s], p.2) (by simp only []; omega) (fun c hc => callsL_leads hc) fun v hv => by
          rcases List.mem_append.1 hv with h | h
          · exact hH v h
          · exact .inr (.root (by simpa using (List.mem_singleton.1 h).symm))
        simp only [] at e1 e3 e4 e5
        have hsN : s ∉ N := fun h => (e3 s h).1 (by simp)
        refine ⟨⟨N ++ [s], by simp only [e1, List.append_assoc], List.nodup_append.2 ⟨e2, by simp, fun a ha b hb e => ?_⟩, fun x hx => ?_, fun x => ?_, fun i hi v hv hvs => ?_⟩, fun _ => (e4 s).2 (.inl (by simp))⟩
        · rw [List.mem_singleton.1 hb] at e
          exact hsN (e ▸ ha)
        · rcases List.mem_append.1 hx with hx | hx
          · exact ⟨fun h => (e3 x hx).1 (List.mem_append_left _ h), (e3 x hx).2⟩
          · rw [List.mem_singleton.1 hx, hf]
            exact ⟨hsn, rfl⟩
        · simp only [e4, List.mem_append, List.mem_singleton]
          constructor
          · rintro ((h | h) | h)
            · exact .inl h
            · exact .inr (.inr h)
            · exact .inr (.inl h)
          · rintro (h | h | h)
            · exact .inl (.inl h)
            · exact .inr h
            · exact .inl (.inr h)
        · by_cases hlt : i < N.length
          · rw [List.getElem_append_left hlt] at hv ⊢
            rw [List.take_append_of_le_length (Nat.le_of_lt hlt)]
            exact e5 i hlt v hv hvs
          · obtain rfl : i = N.length := by simp at hi; omega
            simp at hv ⊢
            rcases (e4 v).1 (h2 v hv hvs) with h | h
            · rcases List.mem_append.1 h with h | h
              · rcases hH v h with h | h
                · exact .inl h
                · exact .inr (.inr h)
              · rw [List.mem_singleton.1 h]
                exact .inr (.inr (.root (by simp)))
            · exact .inr (.inl h)

theorem deepP_vs (m : Module) : ∀ k, k ≤ m.funcs.length → VS m ([], []) (deepP m k) ∧ ∀ j (hj : j < m.funcs.length), j < k → m.funcs[j].name ∈ (deepP m k).1 := by
  intro k
  induction k with
  | zero => intro _; exact ⟨.refl m _, fun j _ h => by omega⟩
  | succ k ih =>
    intro hk
    obtain ⟨h1, h2⟩ := ih (by omega)
    rw [deepP_succ (by omega : k < m.funcs.length)]
    have h1' := h1
    obtain ⟨N, e1, e2, e3, e4, e5⟩ := h1'
    obtain ⟨h3, h4⟩ := vis_vs m (m.funcs.length + 1) (deepP m k) m.funcs[k].name (left_le m _) fun v hv => by
      rcases (e4 v).1 hv with h | h
      · cases h
      · exact .inl (by rw [e1]; simpa using h)
    refine ⟨h1.trans h3, fun j hj hjk => ?_⟩
    by_cases e : j = k
    · subst e
      refine h4 ?_
      unfold findF
      rw [List.find?_isSome]
      exact ⟨m.funcs[j], List.getElem_mem _, by simp⟩
    · obtain ⟨M, _, _, _, m4, _⟩ := h3
      exact (m4 _).2 (.inl (h2 j hj (by omega)))

theorem findF_some_mem {m : Module} {s : ByteArray} (h : (findF m s).isSome = true) : s ∈ fnames m := by
  unfold findF at h
  rw [List.find?_isSome] at h
  obtain ⟨f, hf, hs⟩ := h
  exact List.mem_map.2 ⟨f, hf, by simpa using hs⟩

theorem deep_nodup (m : Module) : (deepL m).Nodup := by
  obtain ⟨⟨N, e1, e2, _⟩, _⟩ := deepP_vs m m.funcs.length (Nat.le_refl _)
  unfold deepL
  rw [e1]
  simpa using e2
theorem deep_mem {m : Module} {s : ByteArray} (h : s ∈ deepL m) : s ∈ fnames m := by
  obtain ⟨⟨N, e1, _, e3, _⟩, _⟩ := deepP_vs m m.funcs.length (Nat.le_refl _)
  unfold deepL at h
  rw [e1] at h
  exact findF_some_mem (e3 s (by simpa using h)).2
theorem deep_length {m : Module} (h : ModOk m) : (deepL m).length = m.funcs.length := by
  obtain ⟨⟨N, e1, e2, e3, e4, _⟩, h2⟩ := deepP_vs m m.funcs.length (Nat.le_refl _)
  have hl : (fnames m).length = m.funcs.length := by simp [fnames]
  have h3 : (deepL m).length ≤ (fnames m).length := nodup_le (deep_nodup m) fun x hx => deep_mem hx
  have h4 : (fnames m).length ≤ (deepL m).length := nodup_le h.fnodup fun x hx => by
    obtain ⟨f, hf, rfl⟩ := List.mem_map.1 hx
    obtain ⟨j, hj, rfl⟩ := List.getElem_of_mem hf
    have := (e4 _).1 (h2 j hj hj)
    unfold deepL
    rw [e1]
    simpa using this
  omega
/-- Where a function calls one that doesn't reach it, that one stands ahead of it. -/
theorem deep_order {m : Module} {i k : Nat} (hi : i < (deepL m).length) (hk : k < (deepL m).length) (hc : (deepL m)[k] ∈ callsL m (deepL m)[i]) (hb : ¬ Rch m [(deepL m)[k]] (deepL m)[i]) : k ≤ i := by
  obtain ⟨⟨N, e1, e2, e3, e4, e5⟩, h2⟩ := deepP_vs m m.funcs.length (Nat.le_refl _)
  have hN : deepL m = N := by unfold deepL; rw [e1]; simp
  simp only [hN] at hi hk hc hb
  rcases e5 i hi _ hc (e3 _ (List.getElem_mem hk)).2 with h | h | h
  · cases h
  · obtain ⟨j, hj, he⟩ := List.getElem_of_mem h
    simp at he
    have hj' : j < i := by simp at hj; omega
    have := (List.getElem_inj (h₀ := by omega) (h₁ := hk) e2).1 he
    omega
  · exact absurd h hb

end Go.Proofs.Ytifinpijhbkhnaa
