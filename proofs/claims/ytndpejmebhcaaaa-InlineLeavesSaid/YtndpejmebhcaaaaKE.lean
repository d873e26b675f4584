/- Some texts of one kind, one behind the other. -/
import Derived.Test.YtndpejmebhcaaaaKC
import Derived.Test.YtndpejmebhcaaaaKD
import Derived.Test.YtndpejmebhcaaaaRows
/- A function that turns objects of its callers: its contract out of its body. -/
namespace Go.Proofs.Ytndpejmebhcaaaa
open Go.RowKit

/-- The slots at a function's entry, whatever they hold. -/
def setAllA (D : Nat) (e : T) : Nat → List AV → T
  | _, [] => e
  | i, a :: aa => setAllA D (e.set (bits D i) a) (i + 1) aa
theorem setAllA_get (D : Nat) {p : Slot} (hp : p.length = D) : ∀ (l : List AV) (e : T) (i : Nat), i + l.length ≤ 2 ^ D → ((setAllA D e i l).get p = e.get p ∧ (p.idx < i ∨ i + l.length ≤ p.idx)) ∨ ∃ k, ∃ h : k < l.length, p.idx = i + k ∧ (setAllA D e i l).get p = l[k]
  | [], e, i, _ => .inl ⟨rfl, by simp; omega⟩
  | a :: l, e, i, hle => by
    simp only [List.length_cons] at hle
    rcases setAllA_get D hp l (e.set (bits D i) a) (i + 1) (by omega) with ⟨h1, h2⟩ | ⟨k, hk, h1, h2⟩
    · by_cases hpi : p.idx = i
      · right
        have : bits D i = p := Slot.idx_inj ((bits_length D i).trans hp.symm) ((idx_bits D i (by omega)).trans hpi.symm)
        refine ⟨0, by simp, by omega, ?_⟩
        show (setAllA D (e.set (bits D i) a) (i + 1) l).get p = _
        rw [h1, this, T.get_set]
        rfl
      · left
        have : bits D i ≠ p := fun h => hpi (by rw [← h]; exact idx_bits D i (by omega))
        refine ⟨?_, by simp only [List.length_cons]; omega⟩
        simp only [setAllA, h1]
        exact T.get_set_ne _ _ _ _ ((bits_length D i).trans hp.symm) this
    · exact .inr ⟨k + 1, by simpa using hk, by omega, by simpa [setAllA] using h2⟩
def initA (D : Nat) (l : List AV) : T := setAllA D (.leaf (.d .top)) 0 l

theorem renL_map (τ : Nat → Nat) : ∀ l : List AV, AV.ren.renL τ l = l.map (AV.ren τ)
  | [] => rfl
  | a :: l => by simp only [AV.ren.renL, List.map_cons, renL_map τ l]

theorem Rep.ren {γ γ' : Nat → Option Value} {X X' : Nat → Nat → Prop} {w w' : World} {ρ : Nat → Nat} (hγ : ∀ k v, γ k = some v → γ' (ρ k) = some v) (k : Keeps X X' w w') {v : Value} {x : AV} (h : Rep γ X w v x) : Rep γ' X' w' v (x.ren ρ) := by
  induction h with
  | d v x h => exact .d v x (h.mono k)
  | whn v g x _ h0 ih => exact .whn v g _ ih h0
  | ptr b id off h => exact .ptr b _ off (hγ _ _ h)
  | own v id len h => exact .own v _ len (hγ _ _ h)
  | mp b id h => exact .mp b _ (hγ _ _ h)
  | el b len cap id n i off h => exact .el b len cap _ n i off (hγ _ _ h)
  | fn f vs caps hl _ ih =>
    simp only [AV.ren, renL_map]
    exact .fn f vs _ (by simpa using hl) (fun i h1 h2 => by simpa using ih i h1 (by simpa using h2))
  | agg vs cs hl _ ih =>
    simp only [AV.ren, renL_map]
    exact .agg vs _ (by simpa using hl) (fun i h1 h2 => by simpa using ih i h1 (by simpa using h2))
  | tup vs cs hl _ ih =>
    simp only [AV.ren, renL_map]
    exact .tup vs _ (by simpa using hl) (fun i h1 h2 => by simpa using ih i h1 (by simpa using h2))
theorem ORep.ren {γ γ' : Nat → Option Value} {X X' : Nat → Nat → Prop} {w : World} {n : Nat} {ρ : Nat → Nat} (hγ : ∀ k v, γ k = some v → γ' (ρ k) = some v) (k : Keeps X X' w w) {v : Value} {o : AObj} (h : ORep γ X n w v o) : ORep γ' X' n w v (o.ren ρ) := by
  cases o with
  | box cs =>
    obtain ⟨b, arr, t, rfl, h1, h2, h3⟩ := h
    refine ⟨b, arr, t, rfl, h1, h2, ?_⟩
    rw [renL_map]
    exact ⟨by simpa using h3.1, fun i hi hi' => by simpa using (h3.2 i hi (by simpa using hi')).ren hγ k⟩
  | row e n len row =>
    obtain ⟨xs, h1, h2⟩ := h
    exact ⟨xs, h1, fun i hi => ⟨(h2 i hi).1, (h2 i hi).2.mono k⟩⟩
  | vec e n len row =>
    obtain ⟨xs, h1, h2⟩ := h
    refine ⟨xs, h1, fun i hi => ⟨(h2 i hi).1, ?_⟩⟩
    simp only [renL_map]
    exact ⟨by simpa using (h2 i hi).2.1, fun j hj hj' => by simpa using ((h2 i hi).2.2 j hj (by simpa using hj')).ren hγ k⟩
  | map kd n f => exact h

theorem Rep.unren {γ0 γ γ' : Nat → Option Value} {X X' : Nat → Nat → Prop} {w w' : World} {ρ : Nat → Nat} (hγ : ∀ id u0 u, γ0 id = some u0 → γ (ρ id) = some u → γ' id = some u) (k : Keeps X X' w w') {v : Value} {y : AV} (h : Rep γ X w v y) :
    ∀ x : AV, y = x.ren ρ → (∃ X0 w0 v0, Rep γ0 X0 w0 v0 x) → Rep γ' X' w' v x := by
  induction h with
  | d v x h =>
    rintro (x | _ | _ | _ | _ | _ | _ | _ | _) e _ <;> simp only [AV.ren] at e <;> (try cases e)
    exact .d _ _ (h.mono k)
  | whn v g y _ h0 ih =>
    rintro (_ | ⟨g', x⟩ | _ | _ | _ | _ | _ | _ | _) e ⟨X1, w1, v1, h1⟩ <;> simp only [AV.ren] at e <;> (try cases e)
    cases h1 with | whn _ _ _ h2 _ => exact .whn v _ x (fun hg => ih hg x rfl ⟨_, _, _, h2 hg⟩) h0
  | ptr b id off h =>
    rintro (_ | _ | ⟨i, o⟩ | _ | _ | _ | _ | _ | _) e ⟨X1, w1, v1, h1⟩ <;> simp only [AV.ren] at e <;> (try cases e)
    cases h1 with | ptr b' _ _ h2 => exact .ptr b _ _ (hγ _ _ _ h2 h)
  | own v id len h =>
    rintro (_ | _ | _ | ⟨i, n⟩ | _ | _ | _ | _ | _) e ⟨X1, w1, v1, h1⟩ <;> simp only [AV.ren] at e <;> (try cases e)
    cases h1 with | own _ _ _ h2 => exact .own v _ _ (hγ _ _ _ h2 h)
  | mp b id h =>
    rintro (_ | _ | _ | _ | ⟨i⟩ | _ | _ | _ | _) e ⟨X1, w1, v1, h1⟩ <;> simp only [AV.ren] at e <;> (try cases e)
    cases h1 with | mp b' _ h2 => exact .mp b _ (hγ _ _ _ h2 h)
  | el b len cap id n i off h =>
    rintro (_ | _ | _ | _ | _ | ⟨i', n', k', o'⟩ | _ | _ | _) e ⟨X1, w1, v1, h1⟩ <;> simp only [AV.ren] at e <;> (try cases e)
    cases h1 with | el b' _ _ _ _ _ _ h2 => exact .el b len cap _ _ _ _ (hγ _ _ _ h2 h)
  | fn f vs caps hl _ ih =>
    rintro (_ | _ | _ | _ | _ | _ | ⟨f', caps'⟩ | _ | _) e ⟨X1, w1, v1, h1⟩ <;> simp only [AV.ren, renL_map] at e <;> (try cases e)
    cases h1 with | fn _ vs1 _ hl1 hr1 =>
    exact .fn _ vs caps' (by simpa using hl) (fun i h3 h4 => ih i h3 (by simpa using h4) caps'[i] (by simp) ⟨_, _, _, hr1 i (by omega) h4⟩)
  | agg vs cs hl _ ih =>
    rintro (_ | _ | _ | _ | _ | _ | _ | ⟨cs'⟩ | _) e ⟨X1, w1, v1, h1⟩ <;> simp only [AV.ren, renL_map] at e <;> (try cases e)
    cases h1 with | agg vs1 _ hl1 hr1 =>
    exact .agg vs cs' (by simpa using hl) (fun i h3 h4 => ih i h3 (by simpa using h4) cs'[i] (by simp) ⟨_, _, _, hr1 i (by omega) h4⟩)
  | tup vs cs hl _ ih =>
    rintro (_ | _ | _ | _ | _ | _ | _ | _ | ⟨cs'⟩) e ⟨X1, w1, v1, h1⟩ <;> simp only [AV.ren, renL_map] at e <;> (try cases e)
    cases h1 with | tup vs1 _ hl1 hr1 =>
    exact .tup vs cs' (by simpa using hl) (fun i h3 h4 => ih i h3 (by simpa using h4) cs'[i] (by simp) ⟨_, _, _, hr1 i (by omega) h4⟩)
theorem ORep.unren {γ0 γ γ' : Nat → Option Value} {X X' Y : Nat → Nat → Prop} {w w0 : World} {n n0 : Nat} {ρ : Nat → Nat} (hγ : ∀ id u0 u, γ0 id = some u0 → γ (ρ id) = some u → γ' id = some u) (k : Keeps X X' w w) {v v0 : Value} {o : AObj} (h0 : ORep γ0 Y n0 w0 v0 o) (h : ORep γ X n w v (o.ren ρ)) : ORep γ' X' n w v o := by
  cases o with
  | box cs =>
    obtain ⟨b, arr, t, rfl, h1, h2, h3⟩ := h
    obtain ⟨b0, arr0, t0, _, _, _, g3⟩ := h0
    rw [renL_map] at h3
    refine ⟨b, arr, t, rfl, h1, h2, by simpa using h3.1, fun i hi hi' => ?_⟩
    have := h3.2 i hi (by simpa using hi')
    exact this.unren hγ k cs[i] (by simp) ⟨_, _, _, g3.2 i (by have := g3.1; omega) hi'⟩
  | row e n len row =>
    obtain ⟨xs, h1, h2⟩ := h
    exact ⟨xs, h1, fun i hi => ⟨(h2 i hi).1, (h2 i hi).2.mono k⟩⟩
  | vec e n len row =>
    obtain ⟨xs, h1, h2⟩ := h
    obtain ⟨xs0, _, g2⟩ := h0
    refine ⟨xs, h1, fun i hi => ⟨(h2 i hi).1, ?_⟩⟩
    have h3 := (h2 i hi).2
    simp only [renL_map] at h3
    refine ⟨by simpa using h3.1, fun j hj hj' => ?_⟩
    have := h3.2 j hj (by simpa using hj')
    exact this.unren hγ k (row i)[j] (by simp) ⟨_, _, _, (g2 i hi).2.2 j (by have := (g2 i hi).2.1; omega) hj'⟩
  | map kd n f => exact h

mutual
theorem ren_far {ρ : Nat → Nat} (hρ : ∀ k, 1000000 ≤ ρ k) : ∀ x : AV, (x.ren ρ).far = true
  | .d _ => by simp [AV.ren, AV.far]
  | .whn _ x => by simp only [AV.ren, AV.far]; exact ren_far hρ x
  | .ptr i _ => by simp [AV.ren, AV.far, hρ i]
  | .own i _ => by simp [AV.ren, AV.far, hρ i]
  | .mp i => by simp [AV.ren, AV.far, hρ i]
  | .el i _ _ _ => by simp [AV.ren, AV.far, hρ i]
  | .fn _ l => by simp only [AV.ren, AV.far]; exact ren_farL hρ l
  | .agg l => by simp only [AV.ren, AV.far]; exact ren_farL hρ l
  | .tup l => by simp only [AV.ren, AV.far]; exact ren_farL hρ l
theorem ren_farL {ρ : Nat → Nat} (hρ : ∀ k, 1000000 ≤ ρ k) : ∀ l : List AV, AV.far.farL (AV.ren.renL ρ l) = true
  | [] => rfl
  | a :: l => by simp only [AV.ren.renL, AV.far.farL, Bool.and_eq_true]; exact ⟨ren_far hρ a, ren_farL hρ l⟩
end
theorem AObj.ren_far {ρ : Nat → Nat} (hρ : ∀ k, 1000000 ≤ ρ k) (o : AObj) : (o.ren ρ).far := by
  cases o with
  | box cs => exact ren_farL hρ cs
  | vec e n len row => exact fun i _ => ren_farL hρ (row i)
  | _ => trivial
theorem turns_ren {ρ : Nat → Nat} {o : AObj} {q : Nat} : turns (o.ren ρ) q = turns o q := by cases o <;> rfl

section
variable {P : Program} {D N : Nat} {X0 : Nat → Nat → Prop} {W0 : World} {γ : Nat → Option Value} {w : World} {H : Heap} {a : Act} {e : T}

theorem OLe.turns {M : Rws} {g : Nat → Src} {o o' : AObj} (h : OLe M g o o') {q : Nat} (ht : Proofs.Ytndpejmebhcaaaa.turns o' q) : Proofs.Ytndpejmebhcaaaa.turns o q := by
  cases o with
  | box => trivial
  | map => trivial
  | row e n len row =>
    cases o' with
    | box => exact h.elim
    | vec => exact h.elim
    | map => exact h.elim
    | row e' n' len' row' =>
      obtain ⟨_, rfl, rfl, _⟩ := h
      exact ht
  | vec e n len row =>
    cases o' with
    | box => exact h.elim
    | row => exact h.elim
    | map => exact h.elim
    | vec e' n' len' row' =>
      obtain ⟨_, rfl, rfl, _⟩ := h
      exact ht
theorem OLe.orep {M : Rws} {g : Nat → Src} {γ' : Nat → Option Value} {X X' : Nat → Nat → Prop} {n : Nat} {o o' : AObj} (hrep : ∀ v x y, AVLe M g x y → Rep γ X w v x → Rep γ' X' w v y) (hK : Keeps X X' w w) {v : Value} (hle : OLe M g o o') (hr : ORep γ X n w v o) : ORep γ' X' n w v o' := by
  cases o with
  | box cs =>
    cases o' with
    | row => exact hle.elim
    | vec => exact hle.elim
    | map => exact hle.elim
    | box cs' =>
      obtain ⟨b, arr, t, rfl, h1, h2, h3⟩ := hr
      exact ⟨b, arr, t, rfl, h1, h2, cellsLe.reps hrep hle h3⟩
  | row e n len row =>
    cases o' with
    | box => exact hle.elim
    | vec => exact hle.elim
    | map => exact hle.elim
    | row e' n' len' row' =>
      obtain ⟨rfl, rfl, rfl, hrow⟩ := hle
      obtain ⟨xs, hown, hx⟩ := hr
      exact ⟨xs, hown, fun j hj => ⟨(hx j hj).1, by rw [← hrow j hj]; exact (hx j hj).2.mono hK⟩⟩
  | vec e n len row =>
    cases o' with
    | box => exact hle.elim
    | row => exact hle.elim
    | map => exact hle.elim
    | vec e' n' len' row' =>
      obtain ⟨rfl, rfl, rfl, hrow⟩ := hle
      obtain ⟨xs, hown, hx⟩ := hr
      exact ⟨xs, hown, fun j hj => ⟨(hx j hj).1, cellsLe.reps hrep (hrow j hj) (hx j hj).2⟩⟩
  | map kd n f =>
    cases o' with
    | box => exact hle.elim
    | row => exact hle.elim
    | vec => exact hle.elim
    | map kd' n' f' =>
      obtain ⟨rfl, rfl, hf⟩ := hle
      obtain ⟨b, ent, clock, rfl, h1, h2, h3, h4, h5⟩ := hr
      exact ⟨b, ent, clock, rfl, h1, h2, h3, h4, fun k hk => (h5 k hk).trans (hf k hk)⟩

/-- The caller's objects, as a function's body has them: those that it is handed by their own numbers, the others behind. -/
structure Entered (X0 : Nat → Nat → Prop) (W0 : World) (γ : Nat → Option Value) (w : World) (H : Heap) (τ : Nat → Nat) (L : List (Nat × AObj)) (ρ : Nat → Nat) (γc : Nat → Option Value) (Hf : Heap) : Prop where
  back : ∀ i o, (i, o) ∈ L → ρ (τ i) = i
  inj : ∀ k k', ρ k = ρ k' → k = k'
  val : ∀ k, γc (ρ k) = γ k
  far : ∀ k, 1000000 ≤ ρ k
  low : ∀ k, k < 1000000 → γc k = none
  ok : HOk (hof L) Hf
  fr : ∀ k o, hget H k = some o → (∀ i o', (i, o') ∈ L → τ i ≠ k) → hget Hf (ρ k) = some (o.ren ρ)
  st : St X0 W0 γc w (hjoin (hof L) Hf)
  sub : ∀ b q, XOf X0 γc (hjoin (hof L) Hf) b q → XOf X0 γ H b q

theorem eff_enter {τ : Nat → Nat} {L : List (Nat × AObj)} (hS : St X0 W0 γ w H) (hL : L.all (fun p => decide (1000000 ≤ p.1) && decide (p.1 < 1001000)) = true) (hHL : HLe noR (gOf τ L) H L) (hap : srcApart (gOf τ L) L) : ∃ ρ γc Hf, Entered X0 W0 γ w H τ L ρ γc Hf := by
  have hLb : ∀ i o, (i, o) ∈ L → 1000000 ≤ i ∧ i < 1001000 := fun i o hm => by
    have := List.all_eq_true.1 hL _ hm
    simpa using this
  have hinj : ∀ i o j o', (i, o) ∈ L → (j, o') ∈ L → τ i = τ j → i = j := fun i o j o' hi hj he => by
    by_cases hne : i = j
    · exact hne
    · exact (hap.mem hi hj hne (gOf_mem hi) (by rw [gOf_mem hj, he])).elim
  let fd : Nat → Option (Nat × AObj) := fun k => L.find? fun p => τ p.1 == k
  have hfd : ∀ k p, fd k = some p → p ∈ L ∧ τ p.1 = k := fun k p h => ⟨List.mem_of_find?_eq_some h, by simpa using List.find?_some h⟩
  have hfn : ∀ k, fd k = none → ∀ i o, (i, o) ∈ L → τ i ≠ k := fun k h i o hm => by
    have := List.find?_eq_none.1 h (i, o) hm
    simpa using this
  let ρ : Nat → Nat := fun k => match fd k with | some p => p.1 | none => 1001000 + k
  let γc : Nat → Option Value := fun j => if L.any (fun p => p.1 == j) = true then γ (τ j) else if 1001000 ≤ j then γ (j - 1001000) else none
  let Hf : Heap := fun j => if 1001000 ≤ j then (match fd (j - 1001000) with | some _ => none | none => (H (j - 1001000)).map (·.ren ρ)) else none
  have hany : ∀ i, L.any (fun p => p.1 == i) = true ↔ ∃ o, (i, o) ∈ L := fun i => by
    rw [List.any_eq_true]
    constructor
    · rintro ⟨⟨j, o⟩, hm, he⟩
      simp only [beq_iff_eq] at he
      subst he
      exact ⟨o, hm⟩
    · rintro ⟨o, hm⟩
      exact ⟨(i, o), hm, by simp⟩
  have hback : ∀ i o, (i, o) ∈ L → ρ (τ i) = i := fun i o hm => by
    cases h : fd (τ i) with
    | none => exact absurd rfl (hfn _ h i o hm)
    | some p =>
      obtain ⟨h1, h2⟩ := hfd _ _ h
      show (match fd (τ i) with | some p => p.1 | none => _) = i
      rw [h]
      exact hinj p.1 p.2 i o h1 hm h2
  have hρn : ∀ k, fd k = none → ρ k = 1001000 + k := fun k h => by
    show (match fd k with | some p => p.1 | none => _) = _
    rw [h]
  have hρs : ∀ k p, fd k = some p → ρ k = p.1 := fun k p h => by
    show (match fd k with | some p => p.1 | none => _) = _
    rw [h]
  have hfar : ∀ k, 1000000 ≤ ρ k := fun k => by
    cases h : fd k with
    | none => rw [hρn k h]; omega
    | some p => rw [hρs k p h]; exact (hLb p.1 p.2 (hfd k p h).1).1
  have hinjρ : ∀ k k', ρ k = ρ k' → k = k' := fun k k' he => by
    cases h : fd k with
    | none =>
      rw [hρn k h] at he
      cases h' : fd k' with
      | none => rw [hρn k' h'] at he; omega
      | some p => rw [hρs k' p h'] at he; have := (hLb p.1 p.2 (hfd k' p h').1).2; omega
    | some p =>
      rw [hρs k p h] at he
      have h1 := hfd k p h
      cases h' : fd k' with
      | none => rw [hρn k' h'] at he; have := (hLb p.1 p.2 h1.1).2; omega
      | some p' =>
        rw [hρs k' p' h'] at he
        rw [← h1.2, ← (hfd k' p' h').2, he]
  have hval : ∀ k, γc (ρ k) = γ k := fun k => by
    cases h : fd k with
    | none =>
      rw [hρn k h]
      have hno : ¬ L.any (fun p => p.1 == 1001000 + k) = true := fun h' => by
        obtain ⟨o, hm⟩ := (hany _).1 h'
        have := (hLb _ _ hm).2
        omega
      show (if L.any (fun p => p.1 == 1001000 + k) = true then _ else _) = _
      rw [if_neg hno, if_pos (by omega), Nat.add_sub_cancel_left]
    | some p =>
      rw [hρs k p h]
      obtain ⟨h1, h2⟩ := hfd k p h
      show (if L.any (fun q => q.1 == p.1) = true then γ (τ p.1) else _) = _
      rw [if_pos ((hany _).2 ⟨p.2, h1⟩), h2]
  have hlow : ∀ k, k < 1000000 → γc k = none := fun k hk => by
    have hno : ¬ L.any (fun p => p.1 == k) = true := fun h' => by
      obtain ⟨o, hm⟩ := (hany _).1 h'
      have := (hLb _ _ hm).1
      omega
    show (if L.any (fun p => p.1 == k) = true then _ else _) = _
    rw [if_neg hno, if_neg (by omega)]
  have hHf : ∀ j o, hget Hf j = some o → ∃ k o0, 1001000 ≤ j ∧ j = 1001000 + k ∧ fd k = none ∧ hget H k = some o0 ∧ o = o0.ren ρ := fun j o h => by
    have h' : (if 1001000 ≤ j then (match fd (j - 1001000) with | some _ => none | none => (H (j - 1001000)).map (·.ren ρ)) else none) = some o := h
    split at h'
    · rename_i hj
      cases hf : fd (j - 1001000) with
      | some p => rw [hf] at h'; cases h'
      | none =>
        rw [hf] at h'
        simp only [Option.map_eq_some_iff] at h'
        obtain ⟨o0, h1, h2⟩ := h'
        exact ⟨_, o0, hj, by omega, hf, h1, h2.symm⟩
    · cases h'
  have hok : HOk (hof L) Hf := fun j o h => by
    obtain ⟨k, o0, hj, _, hf, ho, rfl⟩ := hHf j o h
    refine ⟨by omega, ?_, o0.ren_far hfar⟩
    cases hg : hget (hof L) j with
    | none => rfl
    | some o' =>
      have := (hLb _ _ (hof_get hg)).2
      omega
  have hfr : ∀ k o, hget H k = some o → (∀ i o', (i, o') ∈ L → τ i ≠ k) → hget Hf (ρ k) = some (o.ren ρ) := fun k o ho hne => by
    have hf : fd k = none := by
      cases h : fd k with
      | none => rfl
      | some p => exact absurd (hfd k p h).2 (hne p.1 p.2 (hfd k p h).1)
    rw [hρn k hf]
    show (if 1001000 ≤ 1001000 + k then (match fd (1001000 + k - 1001000) with | some _ => none | none => (H (1001000 + k - 1001000)).map (·.ren ρ)) else none) = _
    have e1 : 1001000 + k - 1001000 = k := by omega
    rw [if_pos (by omega), e1, hf]
    have ho' : H k = some o := ho
    simp only [ho', Option.map_some]
  have hγL : ∀ i, L.any (fun p => p.1 == i) = true → γc i = γ (τ i) := fun i hi => by
    show (if L.any (fun p => p.1 == i) = true then γ (τ i) else _) = _
    rw [if_pos hi]
  clear_value Hf γc ρ
  -- each object is one of the caller's
  have hsrc : ∀ j o, hget (hjoin (hof L) Hf) j = some o → ∃ k o0, ρ k = j ∧ hget H k = some o0 ∧ (∀ q, turns o q → turns o0 q) ∧ ∀ (X X' : Nat → Nat → Prop) (n : Nat) v, Keeps X X' w w → ORep γ X n w v o0 → ORep γc X' n w v o := by
    intro j o h
    rcases hjoin_get h with h | ⟨_, h⟩
    · have hm := hof_get h
      rcases hHL.mem hm with ⟨k, o0, hk, ho0, hle⟩ | ⟨hk, _⟩
      · rw [gOf_mem hm] at hk
        injection hk with hk
        subst hk
        refine ⟨τ j, o0, hback j o hm, ho0, fun q => hle.turns, fun X X' n v hK hr => hle.orep (fun v x y hxy hv => AVLe.rep (γ := γ) (fun i k hk => ?_) (fun i hi => absurd hi (gOf_nil i)) (fun b q hb hX => hK.sub b q hb hX) (fun _ _ _ _ _ hM => by cases hM) hxy hv) hK hr⟩
        have hin : L.any (fun p => p.1 == i) = true := by
          by_cases hc : L.any (fun p => p.1 == i) = true
          · exact hc
          · unfold gOf at hk; rw [if_neg hc] at hk; cases hk
        unfold gOf at hk
        rw [if_pos hin] at hk
        injection hk with hk
        subst hk
        exact hγL i hin
      · exact absurd hk (gOf_nil _)
    · obtain ⟨k, o0, hj, hk, hf, ho, rfl⟩ := hHf j o h
      refine ⟨k, o0, by rw [hρn k hf]; omega, ho, fun q hq => by rw [turns_ren] at hq; exact hq, fun X X' n v hK hr => hr.ren (fun k v hkv => by rw [hval]; exact hkv) hK⟩
  have hsub : ∀ b q, XOf X0 γc (hjoin (hof L) Hf) b q → XOf X0 γ H b q := by
    rintro b q (h | ⟨j, o, v, h1, h2, h3, h4⟩)
    · exact .inl h
    · obtain ⟨k, o0, rfl, ho0, ht, _⟩ := hsrc j o h1
      rw [hval] at h2
      exact .inr ⟨k, o0, v, ho0, h2, h3, ht q h4⟩
  refine ⟨ρ, γc, Hf, hback, hinjρ, hval, hfar, hlow, hok, hfr, ⟨hS.hx, hS.ext, fun j o ho => ?_, fun j j' o o' v v' b h1 h2 h3 h4 h5 h6 => ?_⟩, hsub⟩
  · obtain ⟨k, o0, rfl, ho0, _, hr⟩ := hsrc j o ho
    obtain ⟨v, hv, hor⟩ := hS.obj k o0 ho0
    exact ⟨v, by rw [hval]; exact hv, hr _ _ _ _ (.same fun b q _ hb => hsub b q hb) hor⟩
  · obtain ⟨k, o0, rfl, ho0, _, _⟩ := hsrc j o h1
    obtain ⟨k', o0', rfl, ho0', _, _⟩ := hsrc j' o' h2
    rw [hval] at h3 h4
    rw [hS.dis k k' o0 o0' v v' b ho0 ho0' h3 h4 h5 h6]

/-- Where the contract's objects come from, at the body's end: s tells of the new one. -/
def gE (L : List (Nat × AObj)) (s : Src) : Nat → Src := fun i => if i = 999999 then s else if L.any (fun p => p.1 == i) = true then .id i else .none

theorem eff_leave {τ : Nat → Nat} {L L' : List (Nat × AObj)} {ρ : Nat → Nat} {γc γe : Nat → Option Value} {Hf H' : Heap} {w' : World} {s : Src} (hS : St X0 W0 γ w H) (hL : L.all (fun p => decide (1000000 ≤ p.1) && decide (p.1 < 1001000)) = true) (hHL : HLe noR (gOf τ L) H L) (hE : Entered X0 W0 γ w H τ L ρ γc Hf) (hnew : γ (τ 999999) = none) (hids : idsOk L L')
    (hS' : St X0 W0 γe w' (hjoin H' Hf)) (hO' : HOk H' Hf) (hpin : ∀ k v, 1000000 ≤ k → γc k = some v → γe k = some v) (hk : Keeps (XOf X0 γc (hjoin (hof L) Hf)) (XOf X0 γe (hjoin H' Hf)) w w') (hs : HLe noR (gE L s) H' L') (hap : srcApart (gE L s) L') :
    ∃ γ', St X0 W0 γ' w' (hput τ L L' H) ∧ (∀ k, k ≠ τ 999999 → γ' k = γ k) ∧ Keeps (XOf X0 γ H) (XOf X0 γ' (hput τ L L' H)) w w' ∧ ∀ v x, DRep (XOf X0 γe (hjoin H' Hf)) w' v x → DRep (XOf X0 γ' (hput τ L L' H)) w' v x := by
  have hLb : ∀ i o, (i, o) ∈ L → 1000000 ≤ i ∧ i < 1001000 := fun i o hm => by
    have := List.all_eq_true.1 hL _ hm
    simpa using this
  have hany : ∀ i, L.any (fun p => p.1 == i) = true ↔ ∃ o, (i, o) ∈ L := fun i => by
    rw [List.any_eq_true]
    constructor
    · rintro ⟨⟨j, o⟩, hm, he⟩
      simp only [beq_iff_eq] at he
      subst he
      exact ⟨o, hm⟩
    · rintro ⟨o, hm⟩
      exact ⟨(i, o), hm, by simp⟩
  have hLv : ∀ i o, (i, o) ∈ L → ∃ u, γ (τ i) = some u := fun i o hm => by
    rcases hHL.mem hm with ⟨k, o0, hk1, ho0, _⟩ | ⟨hk1, _⟩
    · rw [gOf_mem hm] at hk1
      injection hk1 with hk1
      subst hk1
      obtain ⟨u, hu, _⟩ := hS.obj _ _ ho0
      exact ⟨u, hu⟩
    · exact absurd hk1 (gOf_nil _)
  obtain ⟨γ2, hγ2⟩ : ∃ γ2, γ2 = Proofs.Ytndpejmebhcaaaa.ren (gE L s) γe := ⟨_, rfl⟩
  have hgL : ∀ i o, (i, o) ∈ L → gE L s i = .id i := fun i o hm => by
    have := hLb i o hm
    unfold gE
    rw [if_neg (by omega), if_pos ((hany i).2 ⟨o, hm⟩)]
  have h2L : ∀ i o, (i, o) ∈ L → γ2 i = γ (τ i) := fun i o hm => by
    obtain ⟨u, hu⟩ := hLv i o hm
    have h1 : γc i = some u := by rw [← hE.back i o hm, hE.val, hu]
    rw [hγ2]
    show (match gE L s i with | .none => none | .id k => γe k | .nil => some _) = _
    rw [hgL i o hm, hu]
    exact hpin i u (hLb i o hm).1 h1
  obtain ⟨γ', hγ'⟩ : ∃ γ' : Nat → Option Value, γ' = fun k => if k = τ 999999 then γ2 999999 else γ k := ⟨_, rfl⟩
  have hγ'o : ∀ k, k ≠ τ 999999 → γ' k = γ k := fun k hk => by rw [hγ']; exact if_neg hk
  have hγ's : ∀ k u, γ k = some u → γ' k = some u := fun k u hu => by
    rw [hγ'o k (fun e => by rw [e, hnew] at hu; cases hu)]
    exact hu
  have hγ'L : ∀ i o, (i, o) ∈ L → γ' (τ i) = γ2 i := fun i o hm => by
    obtain ⟨u, hu⟩ := hLv i o hm
    rw [h2L i o hm, hu]
    exact hγ's _ _ hu
  have hγ'N : γ' (τ 999999) = γ2 999999 := by rw [hγ']; exact if_pos rfl
  have hto : ∀ k v, γ2 k = some v → γ' (τ k) = some v := fun k v hv => by
    by_cases h1 : k = 999999
    · subst h1; rw [hγ'N]; exact hv
    · by_cases h2 : L.any (fun p => p.1 == k) = true
      · obtain ⟨o, hm⟩ := (hany k).1 h2
        rw [hγ'L k o hm]; exact hv
      · exfalso
        have : gE L s k = .none := by unfold gE; rw [if_neg h1, if_neg h2]
        rw [hγ2] at hv
        have hv' : (match gE L s k with | .none => none | .id k => γe k | .nil => some (.slice none 0 0)) = some v := hv
        rw [this] at hv'
        cases hv'
  -- each object is one of those at the body's end
  have hsrc : ∀ k o, hget (hput τ L L' H) k = some o → (∃ j oT, hget (hjoin H' Hf) j = some oT ∧ γ' k = γe j ∧ (∀ q, turns o q → turns oT q) ∧ (∀ (X X' : Nat → Nat → Prop) (n : Nat) v, Keeps X X' w' w' → ORep γe X n w' v oT → ORep γ' X' n w' v o) ∧
      ((∃ i o', (i, o') ∈ L' ∧ k = τ i ∧ gE L s i = .id j ∧ ∃ oH, hget H' j = some oH) ∨ (j = ρ k ∧ hget H' j = none))) ∨ (γ' k = some (.slice none 0 0) ∧ ∃ e n row, o = .row e n 0 row) := by
    intro k o h
    rcases hput_get h with ⟨i, o', hm, rfl, rfl⟩ | ⟨h1, h2⟩
    · have hval : γ' (τ i) = γ2 i := by
        by_cases e1 : i = 999999
        · subst e1; exact hγ'N
        · have hin : ∃ o2, (i, o2) ∈ L := by
            have key : ∀ R : List (Nat × AObj), idsOk L R → (i, o') ∈ R → ∃ o2, (i, o2) ∈ L := by
              intro R
              induction R with
              | nil => intro _ hm; cases hm
              | cons p R ih =>
                intro hR hm
                rcases List.mem_cons.1 hm with e2 | hm
                · subst e2
                  have hR1 := hR.1
                  cases o' with
                  | map kd n f =>
                    simp only at hR1
                    split at hR1
                    · rename_i q kd' n' f' hf
                      have hm' := List.mem_of_find?_eq_some hf
                      have hq := List.find?_some hf
                      simp only [beq_iff_eq] at hq
                      subst hq
                      exact ⟨_, hm'⟩
                    · exact hR1.elim
                  | box cs => exact (hany i).1 (hR1.resolve_left e1)
                  | row => exact (hany i).1 (hR1.resolve_left e1)
                  | vec => exact (hany i).1 (hR1.resolve_left e1)
                · exact ih hR.2 hm
            exact key L' hids hm
          obtain ⟨o2, hm2⟩ := hin
          exact hγ'L i o2 hm2
      rcases hs.mem hm with ⟨j, oH, hj, hoH, hle⟩ | ⟨hj, e, n, row, rfl⟩
      · refine .inl ⟨j, oH, hjoin_sub _ _ _ _ hoH, ?_, fun q hq => hle.turns (by rw [turns_ren] at hq; exact hq), fun X X' n v hK hr => ?_, .inl ⟨i, o', hm, rfl, hj, oH, hoH⟩⟩
        · rw [hval, hγ2]
          show (match gE L s i with | .none => none | .id k => γe k | .nil => some _) = _
          rw [hj]
        · have h3 : ORep γ2 X n w' v o' := hle.orep (fun v x y hxy hv => AVLe.rep (γ := γe) (fun i k hk => by rw [hγ2]; simp [Proofs.Ytndpejmebhcaaaa.ren, hk]) (fun i hi => by rw [hγ2]; simp [Proofs.Ytndpejmebhcaaaa.ren, hi]) (fun _ _ _ h => h) (fun _ _ _ _ _ hM => by cases hM) hxy hv) (Keeps.refl _ _) hr
          exact h3.ren hto hK
      · refine .inr ⟨?_, e, n, row, rfl⟩
        rw [hval, hγ2]
        show (match gE L s i with | .none => none | .id k => γe k | .nil => some _) = _
        rw [hj]
    · obtain ⟨v, hv, hor⟩ := hS.obj k o h1
      have hf := hE.fr k o h1 h2
      have hT := hjoin_far hO' hf
      have hce : γc (ρ k) = some v := by rw [hE.val]; exact hv
      refine .inl ⟨ρ k, _, hT, ?_, fun q hq => by rw [turns_ren]; exact hq, fun X X' n u hK hr => ?_, .inr ⟨rfl, (hO' _ _ hf).2.1⟩⟩
      · rw [hγ's k v hv, hpin _ v (hE.far k) hce]
      · refine ORep.unren (γ0 := γ) (fun id u0 u1 hu0 hu1 => ?_) hK hor hr
        have : γe (ρ id) = some u0 := hpin _ u0 (hE.far id) (by rw [hE.val]; exact hu0)
        rw [this] at hu1
        injection hu1 with hu1
        subst hu1
        exact hγ's id _ hu0
  have hX : ∀ b q, XOf X0 γ' (hput τ L L' H) b q → XOf X0 γe (hjoin H' Hf) b q := by
    rintro b q (h | ⟨k, o, v, h1, h2, h3, h4⟩)
    · exact .inl h
    · rcases hsrc k o h1 with ⟨j, oT, hT, hv, ht, _, _⟩ | ⟨hv, _⟩
      · rw [hv] at h2
        exact .inr ⟨j, oT, v, hT, h2, h3, ht q h4⟩
      · rw [hv] at h2
        injection h2 with h2
        subst h2
        simp [blk] at h3
  refine ⟨γ', ⟨hS'.hx, hS'.ext, fun k o ho => ?_, fun k k' o o' v v' b h1 h2 h3 h4 h5 h6 => ?_⟩, hγ'o, ?_, fun v x hv => hv.mono (.same fun b q _ hb => hX b q hb)⟩
  · rcases hsrc k o ho with ⟨j, oT, hT, hv, _, hr, _⟩ | ⟨hv, e, n, row, rfl⟩
    · obtain ⟨v, hv', hor⟩ := hS'.obj j oT hT
      exact ⟨v, hv.trans hv', hr _ _ _ _ (.same fun b q _ hb => hX b q hb) hor⟩
    · exact ⟨_, hv, fun _ => [], by simpa using World.ownsRow_nil w' _ _ _, fun j hj => by omega⟩
  · rcases hsrc k o h1 with ⟨j, oT, hT, hv, _, _, htag⟩ | ⟨hv, _⟩
    · rcases hsrc k' o' h2 with ⟨j', oT', hT', hv', _, _, htag'⟩ | ⟨hv', _⟩
      · rw [hv] at h3
        rw [hv'] at h4
        have hj := hS'.dis j j' oT oT' v v' b hT hT' h3 h4 h5 h6
        subst hj
        rcases htag with ⟨i, oi, hm, rfl, hg, oH, hoH⟩ | ⟨rfl, hno⟩ <;> rcases htag' with ⟨i', oi', hm', rfl, hg', oH', hoH'⟩ | ⟨he, hno'⟩
        · by_cases hne : i = i'
          · rw [hne]
          · exact (hap.mem hm hm' hne hg hg').elim
        · rw [hno'] at hoH; cases hoH
        · rw [hno] at hoH'; cases hoH'
        · exact hE.inj k k' he
      · rw [hv'] at h4
        injection h4 with h4
        subst h4
        simp [blk] at h6
    · rw [hv] at h3
      injection h3 with h3
      subst h3
      simp [blk] at h5
  · have k1 : Keeps (XOf X0 γ H) (XOf X0 γc (hjoin (hof L) Hf)) w w := .same fun b q _ hb => hE.sub b q hb
    have k2 : Keeps (XOf X0 γe (hjoin H' Hf)) (XOf X0 γ' (hput τ L L' H)) w' w' := .same fun b q _ hb => hX b q hb
    exact (k1.trans hk).trans k2

/-- At the function's end the marks are taken away, one by one; what lies below them stays. -/
theorem leaves_marks2 {fn : Func} {R : Ending → World → Prop} {n lo : Nat} {tmps : Array Value} : ∀ (Ks : List Nat) (w : World), Ks.Nodup → (∀ K, K ∈ Ks → W0.heap.size ≤ K ∧ lo ≤ K ∧ w.heap[K]? = some (.deferred (some []))) → St X0 W0 γ w H →
    (∀ w', St X0 W0 γ w' H → (∀ v x, Rep γ (XOf X0 γ H) w v x → Rep γ (XOf X0 γ H) w' v x) → w.heap.size ≤ w'.heap.size → (∀ b, b < lo → w'.heap[b]? = w.heap[b]?) → ∃ v, (results fn tmps).run P w' = .ok v w' ∧ R (.returned v) w') →
    LeavesInM Fence.wide n P fn tmps R (Ks.map markOf) .returning w
  | [], w, _, _, hS, h => h w hS (fun _ _ h => h) (Nat.le_refl _) (fun _ _ => rfl)
  | K :: Ks, w, hnd, hm, hS, h => by
    obtain ⟨h1, hlo, h2⟩ := hm K (by simp)
    obtain ⟨hS', hr⟩ := hS.mark (o' := .deferred none) h1 h2 rfl
    have hnd' := List.nodup_cons.1 hnd
    refine ⟨by simp, .inl ⟨K, _, rfl, run_takeDeferred h2, ?_⟩⟩
    refine leaves_marks2 (lo := lo) Ks _ hnd'.2 (fun K' hK' => ⟨(hm K' (by simp [hK'])).1, (hm K' (by simp [hK'])).2.1, ?_⟩) hS' (fun w' hS'' hr' hsz hb => h w' hS'' (fun v x hv => hr' v x (hr v x hv)) (by simpa using hsz) (fun b hlt => (hb b hlt).trans (World.putObj_heap_other (by omega))))
    exact (World.putObj_heap_other (fun e => hnd'.1 (by rw [← e]; exact hK'))).trans (hm K' (by simp [hK'])).2.2

theorem ARes.subH {H1 : Heap} (hs : Sub H1 H) : ∀ {y : ARes}, y.ok e H1 → y.ok e H ∧ y.val e H1 = y.val e H
  | .tmp _, h => ⟨h, rfl⟩
  | .cell _ _, h => ld_sub hs h
theorem resV_sub {H1 : Heap} (hs : Sub H1 H) {rs : List ARes} (h : ∀ y ∈ rs, y.ok e H1) : (∀ y ∈ rs, y.ok e H) ∧ resV e H1 rs = resV e H rs := by
  refine ⟨fun y hy => (ARes.subH hs (h y hy)).1, ?_⟩
  have hm : rs.map (·.val e H1) = rs.map (·.val e H) := List.map_congr_left fun y hy => (ARes.subH hs (h y hy)).2
  unfold resV
  split
  · exact (ARes.subH hs (h _ (by simp))).2
  · rw [hm]

/-- The objects at the body's end are as the contract says. -/
def EffEnd (L L' : List (Nat × AObj)) (H : Heap) : Prop := ∃ s, HLe noR (gE L s) H L' ∧ srcApart (gE L s) L'
/-- What a function that turns objects of its callers hands back, and leaves. -/
def EffRes (rs : List ARes) (x : DV) (L L' : List (Nat × AObj)) (y : AX) (e : T) (H : Heap) : Prop :=
  (match y with | .exit _ => False | _ => True) ∧ (∀ z ∈ rs, z.ok e H) ∧ (∃ d, frz false H 5 (resV e H rs) = some d ∧ DLe d x) ∧ EffEnd L L' H

/-- The contract of a function that turns objects of its callers. -/
theorem aeff {F : FuncId} {fn : Func} {c : Code} {ac : ACode} {as1 : List AV} {L L' : List (Nat × AObj)} {rs : List ARes} {x : DV} (D : Nat) (hf : P.funcs[F]? = some fn) (hn : (fn.name == "runtime.NumGoroutine") = false) (hb : fn.body = some c) (hN : fn.ntmps ≤ 2 ^ D) (hargs : as1.length ≤ fn.ntmps)
    (tr : TrCode P D fn.ntmps c ac) (hl : fn.results.size = rs.length) (htr : ∀ i (h : i < fn.results.toList.length) (h' : i < rs.length), TrRes P D fn.results.toList[i] rs[i])
    (hL : L.all (fun p => decide (1000000 ≤ p.1) && decide (p.1 < 1001000)) = true) (hids : idsOk L L')
    (h : (∃ γ X w vs, Reps γ X w vs as1) → awp P ac (fun y e H _ => EffRes rs x L L' y e H) (initA D as1) (hof L) 0) : AEff P F as1 L x L' := by
  refine ⟨⟨fn, c, hf, hn, hb⟩, fun X0 W0 γ w H τ vs hS hnew hHL hap hvs => ?_⟩
  obtain ⟨ρ, γc, Hf, hE⟩ := eff_enter hS hL hHL hap
  have hvs' : Reps γc (XOf X0 γc (hjoin (hof L) Hf)) w vs.toList as1 := by
    refine hvs.mono (fun i v hv => ?_) (.same fun b q _ hb => hE.sub b q hb)
    have hv' : (match gOf τ L i with | .none => none | .id k => γ k | .nil => some (.slice none 0 0)) = some v := hv
    unfold gOf at hv'
    split at hv'
    · cases hv'
    · rename_i k hk
      split at hk
      · rename_i hin
        injection hk with hk
        subst hk
        obtain ⟨⟨j, o⟩, hm, he⟩ := List.any_eq_true.1 hin
        simp only [beq_iff_eq] at he
        subst he
        rw [← hE.back j o hm, hE.val]
        exact hv'
      · cases hk
    · rename_i hk
      split at hk <;> cases hk
  refine (callsIn_wide (n := 0)).1 (callsIn_of_wp_marks (F := Fence.wide) hf hb trivial ?_ rfl)
  have hvl : vs.size = as1.length := by simpa using hvs.1
  have hF : FZ D fn.ntmps X0 W0 (Bs.now (XOf X0 γc (hjoin (hof L) Hf)) w γc Hf w.heap.size) γc { tmps := vs ++ Array.replicate (fn.ntmps - vs.size) undef, defers := [] } w (initA D as1) (hof L) 0 := by
    refine ⟨⟨⟨hE.st, fun p hp => ?_, by simp [hvl]; omega, ⟨[], rfl, List.nodup_nil, fun K hK => by cases hK⟩, Keeps.refl _ _, Bs.now_knows, fun _ _ _ _ _ _ _ _ _ => trivial⟩, fun k _ hk => hE.low k hk⟩, hE.ok⟩
    rcases setAllA_get D hp as1 (.leaf (.d .top)) 0 (by omega) with ⟨h1, h2⟩ | ⟨k, hk, h1, h2⟩
    · unfold initA
      rw [h1]
      exact .top _
    · unfold initA
      rw [h2]
      have hk' : k < vs.size := by omega
      have e1 : (vs ++ Array.replicate (fn.ntmps - vs.size) undef).getD p.idx undef = vs.toList[k]'(by simpa using hk') := by
        rw [h1, Nat.zero_add, Array.getD_eq_getD_getElem?, Array.getElem?_append_left hk', Array.getElem?_eq_getElem hk']
        simp
      show Rep _ _ _ ((vs ++ Array.replicate (fn.ntmps - vs.size) undef).getD p.idx undef) _
      rw [e1]
      exact hvs'.2 k (by simpa using hk') hk
  refine wpIn_mono (awp_sound tr none 0 _ _ (.inr ⟨⟨Bs.now_far, fun _ => trivial, Nat.le_refl _⟩, rfl⟩) _ _ _ _ _ _ hF (h ⟨_, _, w, _, hvs'⟩)) ?_
  rintro y a' w' ⟨ax, γe, e', H', nx', hy, ⟨⟨hR, hfr⟩, hO'⟩, hq⟩
  obtain ⟨hx, hok, ⟨d, hd, hle⟩, s, hs, hsap⟩ := hq
  have hRt : FR D fn.ntmps X0 W0 (Bs.now (XOf X0 γc (hjoin (hof L) Hf)) w γc Hf w.heap.size) γe a' w' e' (hjoin H' Hf) := hR
  have hO : HOk H' Hf := hO'
  have hpin : ∀ k v, 1000000 ≤ k → γc k = some v → γe k = some v := fun k v hk hv => hRt.pin k v (by simp only [Bs.now]; rw [if_pos hk]; exact hv)
  obtain ⟨hok2, hres⟩ := resV_sub (hjoin_sub H' Hf) hok
  rw [hres] at hd
  have hd2 := frz_sub (hjoin_sub H' Hf) _ _ _ hd
  have fin : LeavesInM Fence.wide 0 P fn a'.tmps (fun en w'' => ∃ v γ', en = .returned v ∧ St X0 W0 γ' w'' (hput τ L L' H) ∧ (∀ k, k ≠ τ 999999 → γ' k = γ k) ∧ Keeps (XOf X0 γ H) (XOf X0 γ' (hput τ L L' H)) w w'' ∧ DRep (XOf X0 γ' (hput τ L L' H)) w'' v x) a'.defers .returning w' := by
    obtain ⟨Ks, h1, h2, h3⟩ := hRt.marks
    rw [h1]
    refine leaves_marks2 (lo := w.heap.size) Ks w' h2 (fun K hK => ⟨(h3 K hK).1, (h3 K hK).2.2.2.2, (h3 K hK).2.1⟩) hRt.st (fun w'' hS'' hr hsz hlow => ?_)
    obtain ⟨v, hrun, hv⟩ := results_rep hl htr hS'' (fun p hp => hr _ _ (hRt.env p hp)) hok2
    have hbase : Keeps (XOf X0 γc (hjoin (hof L) Hf)) (XOf X0 γe (hjoin H' Hf)) w w' := hRt.base
    have hkeep : Keeps (XOf X0 γc (hjoin (hof L) Hf)) (XOf X0 γe (hjoin H' Hf)) w w'' :=
      ⟨Nat.le_trans hbase.size hsz, fun b o v hlt hX hc => (World.cell?_of_block (w := w') (w' := w'') (a := ⟨b, o, none⟩) (hlow b hlt)).trans (hbase.cells b o v hlt hX hc), hbase.sub,
        fun b o hb' ho hX => (hlow b (Array.getElem?_eq_some_iff.1 hb').1).trans (hbase.others b o hb' ho hX)⟩
    obtain ⟨γ', g1, g2, g3, g4⟩ := eff_leave hS hL hHL hE hnew hids hS'' hO hpin hkeep hs hsap
    exact ⟨v, hrun, v, γ', rfl, g1, g2, g3, g4 _ _ (hle _ _ _ (frz_own hS'' 5 hv hd2))⟩
  cases y <;> simp only [AX.of] at hy <;> (try cases hy)
  · exact fin
  · exact hx.elim
  · exact fin

end

end Go.Proofs.Ytndpejmebhcaaaa
/- A function's contract by the evaluator, over this translation; the evaluator's rules for simp. -/
namespace Go.Proofs.Ytndpejmebhcaaaa
open Go.RowKit

/-- Slot number n. -/
abbrev sl (n : Nat) : Slot := bits 8 n

theorem mixed : Try.prog.follows .mixedOrders = true := by kernel_rfl

/-- The translation, as it is used. -/
def trAll (P : Program) (n : Nat) (ms : List Nat) (ows : List (FuncId × TypeId × Nat)) (c : Code) : Option ACode := trCode P 8 n ms ows (drOk 8) c
/-- The same where regions that draw their order are let through (to tell why a text isn't translated). -/
def trLax (P : Program) (n : Nat) (ms : List Nat) (ows : List (FuncId × TypeId × Nat)) (c : Code) : Option ACode := trCode P 8 n ms ows (fun _ _ => true) c

/-- A function's contract out of its translated body. -/
theorem apureT {F : FuncId} {fn : Func} {ac : ACode} {vs : List DV} {rs : List ARes} {r : DV} (ms : List Nat) (ows : List (FuncId × TypeId × Nat)) (hf : Try.prog.funcs[F]? = some fn) (hn : (fn.name == "runtime.NumGoroutine") = false)
    (ht : fn.body.bind (trCode Try.prog 8 fn.ntmps ms ows (drOk 8)) = some ac) (hr : trRess Try.prog 8 fn.results.toList = some rs) (hN : Nat.ble fn.ntmps 256 = true) (ha : Nat.ble vs.length fn.ntmps = true)
    (h : (∃ X w us, DReps X w us vs) → awp Try.prog ac (fun x e H _ => Res rs r x e H) (initT 8 vs) hnil 0) : APure Try.prog F vs r := by
  cases hb : fn.body with
  | none => rw [hb] at ht; cases ht
  | some c =>
    rw [hb] at ht
    have ht' : trCode Try.prog 8 fn.ntmps ms ows (drOk 8) c = some ac := ht
    obtain ⟨h1, h2⟩ := trRess_sound hr
    exact apure 8 hf hn hb (Nat.le_of_ble_eq_true hN) (Nat.le_of_ble_eq_true ha) (trCode_sound (fun id ops os hnd hl htr hd => regOk_draw mixed hnd hl htr hd) ht') (by simpa using h1) h2 h

/-- The same for one that hands back a row of its own making. -/
theorem aownT {F : FuncId} {fn : Func} {ac : ACode} {vs : List DV} {rs : List ARes} {te : TypeId} {n len : Nat} {row : Nat → List DV} (ms : List Nat) (ows : List (FuncId × TypeId × Nat)) (hf : Try.prog.funcs[F]? = some fn) (hn : (fn.name == "runtime.NumGoroutine") = false)
    (ht : fn.body.bind (trCode Try.prog 8 fn.ntmps ms ows (drOk 8)) = some ac) (hr : trRess Try.prog 8 fn.results.toList = some rs) (hN : Nat.ble fn.ntmps 256 = true) (ha : Nat.ble vs.length fn.ntmps = true)
    (h : (∃ X w us, DReps X w us vs) → awp Try.prog ac (fun x e H _ => OwnRes rs te n len row x e H) (initT 8 vs) hnil 0) : AOwn Try.prog F vs te n len row := by
  cases hb : fn.body with
  | none => rw [hb] at ht; cases ht
  | some c =>
    rw [hb] at ht
    have ht' : trCode Try.prog 8 fn.ntmps ms ows (drOk 8) c = some ac := ht
    obtain ⟨h1, h2⟩ := trRess_sound hr
    exact aown 8 hf hn hb (Nat.le_of_ble_eq_true hN) (Nat.le_of_ble_eq_true ha) (trCode_sound (fun id ops os hnd hl htr hd => regOk_draw mixed hnd hl htr hd) ht') (by simpa using h1) h2 h

theorem aownVT {F : FuncId} {fn : Func} {ac : ACode} {vs : List DV} {rs : List ARes} {te : TypeId} {n len : Nat} {row : Nat → List DV} (ms : List Nat) (ows : List (FuncId × TypeId × Nat)) (hf : Try.prog.funcs[F]? = some fn) (hn : (fn.name == "runtime.NumGoroutine") = false)
    (ht : fn.body.bind (trCode Try.prog 8 fn.ntmps ms ows (drOk 8)) = some ac) (hr : trRess Try.prog 8 fn.results.toList = some rs) (hN : Nat.ble fn.ntmps 256 = true) (ha : Nat.ble vs.length fn.ntmps = true)
    (h : (∃ X w us, DReps X w us vs) → awp Try.prog ac (fun x e H _ => OwnResV rs te n len row x e H) (initT 8 vs) hnil 0) : AOwnV Try.prog F vs te n len row := by
  cases hb : fn.body with
  | none => rw [hb] at ht; cases ht
  | some c =>
    rw [hb] at ht
    have ht' : trCode Try.prog 8 fn.ntmps ms ows (drOk 8) c = some ac := ht
    obtain ⟨h1, h2⟩ := trRess_sound hr
    exact aownV 8 hf hn hb (Nat.le_of_ble_eq_true hN) (Nat.le_of_ble_eq_true ha) (trCode_sound (fun id ops os hnd hl htr hd => regOk_draw mixed hnd hl htr hd) ht') (by simpa using h1) h2 h

/-- The same for one that turns objects of its callers. -/
theorem aeffT {F : FuncId} {fn : Func} {ac : ACode} {vs : List AV} {rs : List ARes} {L L' : List (Nat × AObj)} {x : DV} (ms : List Nat) (ows : List (FuncId × TypeId × Nat)) (hf : Try.prog.funcs[F]? = some fn) (hn : (fn.name == "runtime.NumGoroutine") = false)
    (ht : fn.body.bind (trCode Try.prog 8 fn.ntmps ms ows (drOk 8)) = some ac) (hr : trRess Try.prog 8 fn.results.toList = some rs) (hN : Nat.ble fn.ntmps 256 = true) (ha : Nat.ble vs.length fn.ntmps = true)
    (hL : L.all (fun p => decide (1000000 ≤ p.1) && decide (p.1 < 1001000)) = true) (hids : idsOk L L')
    (h : (∃ γ X w us, Reps γ X w us vs) → awp Try.prog ac (fun y e H _ => EffRes rs x L L' y e H) (initA 8 vs) (hof L) 0) : AEff Try.prog F vs L x L' := by
  cases hb : fn.body with
  | none => rw [hb] at ht; cases ht
  | some c =>
    rw [hb] at ht
    have ht' : trCode Try.prog 8 fn.ntmps ms ows (drOk 8) c = some ac := ht
    obtain ⟨h1, h2⟩ := trRess_sound hr
    exact aeff 8 hf hn hb (Nat.le_of_ble_eq_true hN) (Nat.le_of_ble_eq_true ha) (trCode_sound (fun id ops os hnd hl htr hd => regOk_draw mixed hnd hl htr hd) ht') (by simpa using h1) h2 hL hids h

end Go.Proofs.Ytndpejmebhcaaaa
