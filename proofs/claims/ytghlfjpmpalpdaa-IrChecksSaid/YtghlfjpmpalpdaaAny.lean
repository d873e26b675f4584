/- Regions that draw their order: any order does as the list, where all that is not ordered is apart. -/
import Derived.Test.YtghlfjpmpalpdaaDraw
namespace Go.Proofs.Ytghlfjpmpalpdaa
open Go.RowKit

def bindsOn (o : Oper) : List Nat := (o.after.toList.filter fun e => Region.binds .any e).map (·.on)
/-- The operations that must come ahead of each, as far as a table says. -/
def closure : List Oper → List (List Nat) → List (List Nat)
  | [], acc => acc
  | o :: os, acc => closure os (acc ++ [((bindsOn o).flatMap fun k => k :: acc.getD k []).eraseDups])
/-- The table says nothing but what the edges say. -/
def closed (ops : List Oper) (rows : List (List Nat)) : Bool :=
  (List.range ops.length).all fun j => match ops[j]? with
    | some o => (bindsOn o).all (fun k => decide (k < j)) && (rows.getD j []).all fun i => (bindsOn o).any fun k => k == i || (rows.getD k []).contains i
    | none => false
def drOk (D : Nat) (ops : Array Oper) (os : List AOper) : Bool :=
  let rows := closure ops.toList []
  closed ops.toList rows && (List.range os.length).all fun j => (List.range j).all fun i => (rows.getD j []).contains i || (match os[i]?, os[j]? with | some a, some b => apart2 D i a j b | _, _ => false)

section
variable {P : Program} {D N : Nat} {X0 : Nat → Nat → Prop} {W0 : World} {ops : Array Oper} {os : List AOper} {nx : Nat} {ρ : Nat → DV}

/-- Operation number i, done. -/
def stpI (os : List AOper) (ρ : Nat → DV) (nx i : Nat) (s : T × Heap) : T × Heap :=
  match os[i]? with
  | some ao => stp (ρ i) (nx + i) ao s.1 s.2
  | none => s
def okI (P : Program) (os : List AOper) (ρ : Nat → DV) (nx i : Nat) (s : T × Heap) : Prop :=
  match os[i]? with
  | some ao => okS P (ρ i) (nx + i) ao s.1 s.2
  | none => True
def runL (os : List AOper) (ρ : Nat → DV) (nx : Nat) : List Nat → T × Heap → T × Heap
  | [], s => s
  | i :: l, s => runL os ρ nx l (stpI os ρ nx i s)

theorem runL_append (l m : List Nat) (s : T × Heap) : runL os ρ nx (l ++ m) s = runL os ρ nx m (runL os ρ nx l s) := by
  induction l generalizing s with
  | nil => rfl
  | cons i l ih => exact ih _

/-- Two operations do not see each other. -/
def Ind (P : Program) (os : List AOper) (ρ : Nat → DV) (nx i j : Nat) : Prop :=
  (∀ s, stpI os ρ nx j (stpI os ρ nx i s) = stpI os ρ nx i (stpI os ρ nx j s)) ∧ (∀ s, okI P os ρ nx j (stpI os ρ nx i s) = okI P os ρ nx j s) ∧ (∀ s, okI P os ρ nx i (stpI os ρ nx j s) = okI P os ρ nx i s)

theorem free_symm {D i j : Nat} {a b : AOper} (h : apart2 D i a j b = true) : apart2 D j b i a = true := by
  simp only [apart2, Bool.and_eq_true] at h ⊢
  obtain ⟨⟨⟨⟨⟨⟨h1, h2⟩, h3⟩, h4⟩, h5⟩, h6⟩, h7⟩ := h
  exact ⟨⟨⟨⟨⟨⟨h2, h1⟩, h4⟩, h3⟩, h6⟩, h5⟩, by rw [conf_symm (by simpa using h7)]; rfl⟩

theorem ind_of {i j : Nat} {a b : AOper} (hij : i ≠ j) (ha : os[i]? = some a) (hb : os[j]? = some b) (h : apart2 D i a j b = true) : Ind P os ρ nx i j := by
  refine ⟨fun s => ?_, fun s => ?_, fun s => ?_⟩
  · simp only [stpI, ha, hb]
    exact apart_comm h hij s.1 s.2
  · simp only [stpI, okI, ha, hb]
    exact apart_ok h s.1 s.2
  · simp only [stpI, okI, ha, hb]
    exact apart_ok (free_symm h) s.1 s.2

theorem Ind.symm {i j : Nat} (h : Ind P os ρ nx i j) : Ind P os ρ nx j i := ⟨fun s => (h.1 s).symm, h.2.2, h.2.1⟩

theorem run_through {i : Nat} : ∀ (l : List Nat), (∀ j ∈ l, Ind P os ρ nx i j) → ∀ s, runL os ρ nx l (stpI os ρ nx i s) = stpI os ρ nx i (runL os ρ nx l s)
  | [], _, s => rfl
  | j :: l, h, s => by
    simp only [runL]
    rw [(h j (by simp)).1 s]
    exact run_through l (fun k hk => h k (by simp [hk])) _
theorem ok_through {i : Nat} : ∀ (l : List Nat), (∀ j ∈ l, Ind P os ρ nx i j) → ∀ s, okI P os ρ nx i (runL os ρ nx l s) = okI P os ρ nx i s
  | [], _, s => rfl
  | j :: l, h, s => by
    simp only [runL]
    rw [ok_through l (fun k hk => h k (by simp [hk])) _]
    exact (h j (by simp)).2.2 s

/-- What is listed may come first. -/
theorem run_split (S : Nat → Bool) : ∀ (l : List Nat), (∀ k ∈ l, ∀ m ∈ l, S k = false → S m = true → k < m → Ind P os ρ nx k m) → l.Pairwise (· < ·) → ∀ s,
    runL os ρ nx l s = runL os ρ nx (l.filter fun k => !S k) (runL os ρ nx (l.filter S) s)
  | [], _, _, s => rfl
  | x :: l, h, hp, s => by
    have hp' := (List.pairwise_cons.1 hp)
    have ih := run_split S l (fun k hk m hm => h k (by simp [hk]) m (by simp [hm])) hp'.2
    cases hx : S x with
    | true =>
      simp only [List.filter_cons, hx, Bool.not_true, if_true, Bool.false_eq_true, if_false, runL]
      exact ih _
    | false =>
      simp only [List.filter_cons, hx, Bool.not_false, if_true, Bool.false_eq_true, if_false, runL]
      rw [ih, run_through (P := P) (l.filter S) (fun m hm => by
        have hm' := List.mem_filter.1 hm
        exact h x (by simp) m (by simp [hm'.1]) hx hm'.2 (hp'.1 m hm'.1)) s]

theorem range_pair (n : Nat) : (List.range n).Pairwise (· < ·) := List.pairwise_lt_range

theorem range_cut {i n : Nat} (h : i < n) : List.range n = List.range i ++ i :: (List.range (n - i - 1)).map (fun k => i + 1 + k) := by
  have e : List.range n = List.range (i + (n - i)) := by congr 1; omega
  rw [e, List.range_add]
  congr 1
  have e2 : n - i = (n - i - 1) + 1 := by omega
  rw [e2, List.range_succ_eq_map]
  simp only [List.map_cons, Nat.add_zero, List.map_map, Nat.add_sub_cancel, List.cons.injEq, true_and]
  apply List.map_congr_left
  intro k _
  simp only [Function.comp]; omega

/-- The state behind the listed ones, in the list's own order. -/
def stS (os : List AOper) (ρ : Nat → DV) (nx : Nat) (S : Nat → Bool) (s : T × Heap) : T × Heap := runL os ρ nx ((List.range os.length).filter S) s

theorem pick_next {S : Nat → Bool} {i : Nat} {s0 : T × Heap} (hi : i < os.length) (hS : S i = false)
    (hind : ∀ k m, k < m → m < os.length → S k = false → (S m = true ∨ m = i) → Ind P os ρ nx k m)
    (hok : okI P os ρ nx i (runL os ρ nx (List.range i) s0)) :
    okI P os ρ nx i (stS os ρ nx S s0) ∧ stS os ρ nx (fun k => S k || k == i) s0 = stpI os ρ nx i (stS os ρ nx S s0) := by
  have hcut := range_cut hi
  let F2 := ((List.range (os.length - i - 1)).map (fun k => i + 1 + k)).filter S
  have hF2 : ∀ m ∈ F2, m < os.length ∧ i < m ∧ S m = true := by
    intro m hm
    obtain ⟨h1, h2⟩ := List.mem_filter.1 hm
    obtain ⟨k, hk, rfl⟩ := List.mem_map.1 h1
    have := List.mem_range.1 hk
    exact ⟨by omega, by omega, h2⟩
  have hI2 : ∀ m ∈ F2, Ind P os ρ nx i m := fun m hm => by
    obtain ⟨h1, h2, h3⟩ := hF2 m hm
    exact hind i m h2 h1 hS (.inl h3)
  have e1 : (List.range os.length).filter S = (List.range i).filter S ++ F2 := by
    rw [hcut, List.filter_append, List.filter_cons_of_neg (by simp [hS])]
  have e2 : (List.range os.length).filter (fun k => S k || k == i) = (List.range i).filter S ++ i :: F2 := by
    rw [hcut, List.filter_append, List.filter_cons_of_pos (by simp)]
    congr 1
    · apply List.filter_congr
      intro k hk
      have := List.mem_range.1 hk
      have : ¬ k = i := by omega
      simp [this]
    · congr 1
      apply List.filter_congr
      intro k hk
      obtain ⟨q, _, rfl⟩ := List.mem_map.1 hk
      have : ¬ i + 1 + q = i := by omega
      simp [this]
  constructor
  · unfold stS
    rw [e1, runL_append, ok_through F2 hI2]
    have hsp := run_split (P := P) S (List.range i) (fun k hk m hm h1 h2 h3 => hind k m h3 (by have := List.mem_range.1 hm; omega) h1 (.inl h2)) (range_pair i) s0
    rw [hsp, ok_through _ (fun k hk => ?_)] at hok
    · exact hok
    · obtain ⟨h1, h2⟩ := List.mem_filter.1 hk
      have := List.mem_range.1 h1
      exact (hind k i (by omega) hi (by simpa using h2) (.inr rfl)).symm
  · unfold stS
    rw [e1, e2, runL_append, runL_append]
    simp only [runL]
    exact run_through F2 hI2 _

/-- One by one, in the list's own order: what each shows. -/
theorem awpOps_run {K : T → Heap → Prop} : ∀ (r i : Nat) (s : T × Heap), i + r = os.length → awpOps P nx i (os.drop i) K s.1 s.2 →
    ∃ ρ : Nat → DV, (∀ k, k < r → okI P os ρ nx (i + k) (runL os ρ nx ((List.range k).map (i + ·)) s)) ∧ K (runL os ρ nx ((List.range r).map (i + ·)) s).1 (runL os ρ nx ((List.range r).map (i + ·)) s).2 := by
  intro r
  induction r with
  | zero =>
    intro i s hi h
    rw [List.drop_eq_nil_of_le (by omega)] at h
    exact ⟨fun _ => .top, fun k hk => by omega, h⟩
  | succ r ih =>
    intro i s hi h
    have hi2 : i < os.length := by omega
    rw [List.drop_eq_getElem_cons hi2] at h
    have hoi : os[i]? = some os[i] := List.getElem?_eq_getElem hi2
    have go : ∀ r', okS P r' (nx + i) os[i] s.1 s.2 → awpOps P nx (i + 1) (os.drop (i + 1)) K (stp r' (nx + i) os[i] s.1 s.2).1 (stp r' (nx + i) os[i] s.1 s.2).2 →
        ∃ ρ : Nat → DV, (∀ k, k < r + 1 → okI P os ρ nx (i + k) (runL os ρ nx ((List.range k).map (i + ·)) s)) ∧ K (runL os ρ nx ((List.range (r + 1)).map (i + ·)) s).1 (runL os ρ nx ((List.range (r + 1)).map (i + ·)) s).2 := by
      intro r' h1 h2
      obtain ⟨ρ, h3, h4⟩ := ih (i + 1) _ (by omega) h2
      let ρ' : Nat → DV := fun k => if k = i then r' else ρ k
      have hr : ∀ (l : List Nat), (∀ k ∈ l, k ≠ i) → ∀ s, runL os ρ' nx l s = runL os ρ nx l s := by
        intro l
        induction l with
        | nil => intro _ s; rfl
        | cons k l ihl =>
          intro hl s
          have hk : ρ' k = ρ k := if_neg (hl k (by simp))
          simp only [runL]
          rw [ihl (fun k hk => hl k (by simp [hk]))]
          simp only [stpI, hk]
      have e1 : ∀ k, (List.range (k + 1)).map (i + ·) = i :: (List.range k).map (i + 1 + ·) := by
        intro k
        rw [List.range_succ_eq_map, List.map_cons, List.map_map]
        simp only [Nat.add_zero, List.cons.injEq, true_and]
        apply List.map_congr_left
        intro q _
        simp only [Function.comp]; omega
      have e2 : stpI os ρ' nx i s = stp r' (nx + i) os[i] s.1 s.2 := by
        simp only [stpI, hoi, ρ', if_true]
      have e3 : ∀ k, runL os ρ' nx ((List.range (k + 1)).map (i + ·)) s = runL os ρ nx ((List.range k).map (i + 1 + ·)) (stp r' (nx + i) os[i] s.1 s.2) := by
        intro k
        rw [e1]
        simp only [runL]
        rw [e2, hr _ (fun q hq => by obtain ⟨z, _, rfl⟩ := List.mem_map.1 hq; omega)]
      refine ⟨ρ', fun k hk => ?_, ?_⟩
      · cases k with
        | zero =>
          simp only [Nat.add_zero, List.range_zero, List.map_nil, runL, okI, hoi, ρ', if_true]
          exact h1
        | succ k =>
          rw [e3]
          have := h3 k (by omega)
          have hne : ρ' (i + (k + 1)) = ρ (i + 1 + k) := by
            simp only [ρ']
            rw [if_neg (by omega), show i + (k + 1) = i + 1 + k by omega]
          simp only [okI] at this ⊢
          rw [hne, show i + (k + 1) = i + 1 + k by omega]
          exact this
      · rw [e3]; exact h4
    unfold awpOps at h
    split at h
    · obtain ⟨r', h1, h2⟩ := h
      exact go r' h1 h2
    · obtain ⟨r', h1, h2⟩ := h
      exact go r' h1 h2
    · exact go .top h.1 h.2

/-- The law of a region that draws its order. -/
theorem regOk_draw (hm : P.follows .mixedOrders = true) {id : Nat} (hnd : noDefer ops = true) (hl : ops.size = os.length) (htr : ∀ (i : Nat) (o : Oper) (ao : AOper), ops[i]? = some o → os[i]? = some ao → TrOper P D N ops o ao) (hd : drOk D ops os = true) : RegOk P D N id ops true os := by
  intro X0 W0 B γ a w e H nx K Q1 ro n hmk hF hK hQ1
  let Q : Exit → Act → World → Prop := fun x a' w' => x = .normal ∧ ∃ γ' e' H', K e' H' ∧ FZ D N X0 W0 B γ' a' w' e' H' (nx + os.length)
  have hQ : ∀ γ' a' w' e' H', K e' H' → FZ D N X0 W0 B γ' a' w' e' H' (nx + os.length) → Q .normal a' w' := fun γ' a' w' e' H' h1 h2 => ⟨rfl, γ', e', H', h1, h2⟩
  have hlo : ¬ LetsOut Q := by rintro ⟨_, _, h, _⟩; cases h
  suffices hs : wpAny P .any ops Q ops.size (Array.replicate ops.size false) a { w with drawn := w.drawn + 1 } from wpIn_mono (wpIn_region_any hm (wpAnyIn_of (noDefer_at hnd) hlo _ _ _ _ hs)) (by
    rintro x a' w' ⟨rfl, γ', e', H', h1, h2⟩
    exact hQ1 γ' a' w' e' H' h1 h2)
  obtain ⟨ρ, hokl, hKf⟩ := awpOps_run (os := os) (nx := nx) (K := K) os.length 0 (e, H) (by simp) (by simpa using hK)
  simp only [Nat.zero_add, List.map_id'] at hokl hKf
  simp only [drOk, Bool.and_eq_true] at hd
  obtain ⟨hcl, hpair⟩ := hd
  generalize hrows : closure ops.toList [] = rows at hcl hpair
  -- the table
  have htab : ∀ j o, ops[j]? = some o → (∀ k ∈ bindsOn o, k < j) ∧ ∀ i ∈ rows.getD j [], ∃ k ∈ bindsOn o, k = i ∨ i ∈ rows.getD k [] := by
    intro j o ho
    have hj : j < ops.toList.length := by
      have := (Array.getElem?_eq_some_iff.1 ho).1
      simpa using this
    have h1 := List.all_eq_true.1 hcl j (List.mem_range.2 hj)
    have ho' : ops.toList[j]? = some o := by simpa using ho
    rw [ho'] at h1
    simp only [Bool.and_eq_true, List.all_eq_true, decide_eq_true_eq, List.any_eq_true, Bool.or_eq_true, beq_iff_eq, List.contains_iff_mem] at h1
    exact h1
  -- what is closed under the edges is closed under the table
  have hdown : ∀ (S : Nat → Bool), (∀ j o, ops[j]? = some o → S j = true → ∀ k ∈ bindsOn o, S k = true) → ∀ j, (∀ o, ops[j]? = some o → ∀ k ∈ bindsOn o, S k = true) → j < ops.size → ∀ i ∈ rows.getD j [], S i = true := by
    intro S hS j
    induction j using Nat.strongRecOn with
    | _ j ih =>
      intro hj hlt i hi
      obtain ⟨h1, h2⟩ := htab j ops[j] (Array.getElem?_eq_getElem hlt)
      obtain ⟨k, hk, hki⟩ := h2 i hi
      have hSk := hj _ (Array.getElem?_eq_getElem hlt) k hk
      rcases hki with rfl | hki
      · exact hSk
      · have hkj := h1 k hk
        exact ih k hkj (fun o ho q hq => hS k o ho hSk q hq) (by omega) i hki
  have hpr : ∀ i j, i < j → j < os.length → i ∈ rows.getD j [] ∨ Ind P os ρ nx i j := by
    intro i j hij hj
    have h1 := List.all_eq_true.1 (List.all_eq_true.1 hpair j (List.mem_range.2 hj)) i (List.mem_range.2 hij)
    rw [Bool.or_eq_true] at h1
    rcases h1 with h1 | h1
    · exact .inl (List.contains_iff_mem.1 h1)
    · have hoi : os[i]? = some os[i] := List.getElem?_eq_getElem (by omega)
      have hoj : os[j]? = some os[j] := List.getElem?_eq_getElem hj
      rw [hoi, hoj] at h1
      exact .inr (ind_of (by omega) hoi hoj h1)
  have key : ∀ (fuel : Nat) (listed : Array Bool) (γ : Nat → Option Value) (a : Act) (w : World), listed.size = ops.size →
      (∀ j o, ops[j]? = some o → listed.getD j false = true → ∀ k ∈ bindsOn o, listed.getD k false = true) →
      FR D N X0 W0 B γ a w (stS os ρ nx (fun k => listed.getD k false) (e, H)).1 (stS os ρ nx (fun k => listed.getD k false) (e, H)).2 →
      (∀ k, nx ≤ k → (∀ j, listed.getD j false = true → k ≠ nx + j) → γ k = none) →
      ((List.range ops.size).filter fun k => !listed.getD k false).length = fuel →
      wpAny P .any ops Q fuel listed a w := by
    intro fuel
    induction fuel with
    | zero =>
      intro listed γ a w hsz hcls hR hfr hcnt
      have hall : ∀ k, k < ops.size → listed.getD k false = true := by
        intro k hk
        cases hlk : listed.getD k false with
        | true => rfl
        | false =>
          have : k ∈ (List.range ops.size).filter fun k => !listed.getD k false := List.mem_filter.2 ⟨List.mem_range.2 hk, by simp [hlk]⟩
          rw [List.length_eq_zero_iff.1 hcnt] at this
          cases this
      refine ⟨?_, ?_⟩
      · apply List.eq_nil_iff_forall_not_mem.2
        intro j hj
        obtain ⟨h1, o, ho, _⟩ := mem_ready.1 hj
        have hlt := (Array.getElem?_eq_some_iff.1 ho).1
        have h2 := hall j hlt
        rw [Array.getD_eq_getD_getElem?] at h1 h2
        rw [Array.getElem?_eq_getElem (by omega)] at h1 h2
        simp at h1 h2
        rw [h1] at h2; cases h2
      · have hfull : stS os ρ nx (fun k => listed.getD k false) (e, H) = runL os ρ nx (List.range os.length) (e, H) := by
          unfold stS
          congr 1
          apply List.filter_eq_self.2
          intro k hk
          have := List.mem_range.1 hk
          exact hall k (by omega)
        rw [hfull] at hR
        refine hQ γ a w _ _ hKf ⟨hR, fun k hk => hfr k (by omega) (fun j hj => ?_)⟩
        have hjlt : j < ops.size := by
          rcases Nat.lt_or_ge j ops.size with h | h
          · exact h
          · rw [Array.getD_eq_getD_getElem?, Array.getElem?_eq_none (by omega)] at hj
            cases hj
        omega
    | succ fuel ih =>
      intro listed γ a w hsz hcls hR hfr hcnt
      refine ⟨fun hnil => ?_, fun i hi => ?_⟩
      · -- something is left, and the first one left is ready
        exfalso
        have hne : ((List.range ops.size).filter fun k => !listed.getD k false) ≠ [] := by
          intro h; rw [h] at hcnt; cases hcnt
        obtain ⟨m, hm⟩ := exists_min (p := fun k => k < ops.size ∧ listed.getD k false = false) (by
          obtain ⟨k, hk⟩ := List.exists_mem_of_ne_nil _ hne
          obtain ⟨h1, h2⟩ := List.mem_filter.1 hk
          exact ⟨k, List.mem_range.1 h1, by simpa using h2⟩)
        obtain ⟨⟨hm1, hm2⟩, hmin⟩ := hm
        have hr : m ∈ Region.ready .any ops listed := by
          refine mem_ready.2 ⟨?_, ops[m], Array.getElem?_eq_getElem hm1, fun ed hed hb => ?_⟩
          · rw [Array.getD_eq_getD_getElem?, Array.getElem?_eq_getElem (by omega)] at hm2 ⊢
            simpa using hm2
          · have hmem : ed.on ∈ bindsOn ops[m] := List.mem_map.2 ⟨ed, List.mem_filter.2 ⟨by simpa using hed, hb⟩, rfl⟩
            have hlt := (htab m _ (Array.getElem?_eq_getElem hm1)).1 _ hmem
            cases hl2 : listed.getD ed.on false with
            | true => rfl
            | false => have := hmin ed.on ⟨by omega, hl2⟩; omega
        rw [hnil] at hr
        cases hr
      · obtain ⟨hun, o, ho, hpre⟩ := mem_ready.1 hi
        have hlt := (Array.getElem?_eq_some_iff.1 ho).1
        have hSi : listed.getD i false = false := by
          rw [Array.getD_eq_getD_getElem?, Array.getElem?_eq_getElem (by omega)] at hun ⊢
          simpa using hun
        have hpre' : ∀ k ∈ bindsOn o, listed.getD k false = true := by
          intro k hk
          obtain ⟨ed, hed, rfl⟩ := List.mem_map.1 hk
          obtain ⟨h1, h2⟩ := List.mem_filter.1 hed
          exact hpre ed (by simpa using h1) h2
        have hD := hdown (fun k => listed.getD k false) hcls
        have hno : ∀ k m, k < m → m < os.length → listed.getD k false = false → (listed.getD m false = true ∨ m = i) → Ind P os ρ nx k m := by
          intro k m hkm hm' hSk hSm
          rcases hpr k m hkm hm' with h | h
          · exfalso
            have : listed.getD k false = true := by
              rcases hSm with hSm | rfl
              · exact hD m (fun o' ho' => hcls m o' ho' hSm) (by omega) k h
              · exact hD m (fun o' ho' => by rw [ho] at ho'; injection ho' with ho'; subst ho'; exact hpre') (by omega) k h
            rw [hSk] at this; cases this
          · exact h
        have hi' : i < os.length := by omega
        obtain ⟨k1, k2⟩ := pick_next (P := P) (ρ := ρ) (nx := nx) (S := fun k => listed.getD k false) (s0 := (e, H)) hi' hSi hno (hokl i hi')
        have hoi : os[i]? = some os[i] := List.getElem?_eq_getElem hi'
        have tr := htr i o os[i] ho hoi
        have hok : okS P (ρ i) (nx + i) os[i] (stS os ρ nx (fun k => listed.getD k false) (e, H)).1 (stS os ρ nx (fun k => listed.getD k false) (e, H)).2 := by
          simpa only [okI, hoi] using k1
        have hst : stS os ρ nx (fun k => (listed.setIfInBounds i true).getD k false) (e, H) = stp (ρ i) (nx + i) os[i] (stS os ρ nx (fun k => listed.getD k false) (e, H)).1 (stS os ρ nx (fun k => listed.getD k false) (e, H)).2 := by
          have e1 : (fun k => (listed.setIfInBounds i true).getD k false) = fun k => listed.getD k false || k == i := by
            funext k
            rw [Array.getD_eq_getD_getElem?, Array.getD_eq_getD_getElem?]
            by_cases hk : k = i
            · subst hk
              simp [show k < listed.size by omega]
            · rw [Array.getElem?_setIfInBounds_ne (Ne.symm hk)]
              simp [hk]
          rw [e1, k2]
          simp only [stpI, hoi]
        have hstep := op_sound (Q := Q) (K := wpAny P .any ops Q fuel (listed.setIfInBounds i true)) tr hR (id := nx + i) (hfr _ (by omega) (fun j hj e1 => by
          have : j = i := by omega
          subst this
          rw [hSi] at hj; cases hj)) (ρ i) hok (noMk_at hmk hi') (fun γ' a' w' hR' hkn hne => by
            refine ih _ γ' a' w' (by simpa using hsz) (fun j o' ho' hj k hk => ?_) (by rw [hst]; exact hR') (fun k hk hnot => ?_) ?_
            · rw [Array.getD_eq_getD_getElem?] at hj ⊢
              by_cases hki : k = i
              · subst hki; simp [show k < listed.size by omega]
              · rw [Array.getElem?_setIfInBounds_ne (Ne.symm hki), ← Array.getD_eq_getD_getElem?]
                by_cases hji : j = i
                · subst hji
                  rw [ho] at ho'
                  injection ho' with ho'
                  subst ho'
                  exact hpre' k hk
                · rw [Array.getElem?_setIfInBounds_ne (Ne.symm hji), ← Array.getD_eq_getD_getElem?] at hj
                  exact hcls j o' ho' hj k hk
            · have hki : k ≠ nx + i := hnot i (by rw [Array.getD_eq_getD_getElem?]; simp [show i < listed.size by omega])
              rw [hne k hki]
              refine hfr k hk (fun j hj => hnot j ?_)
              by_cases hji : j = i
              · subst hji; rw [hSi] at hj; cases hj
              · rw [Array.getD_eq_getD_getElem?, Array.getElem?_setIfInBounds_ne (Ne.symm hji), ← Array.getD_eq_getD_getElem?]
                exact hj
            · have hcut := range_cut hlt
              have same : ∀ k, k ≠ i → (listed.setIfInBounds i true).getD k false = listed.getD k false := fun k hk => by
                rw [Array.getD_eq_getD_getElem?, Array.getElem?_setIfInBounds_ne (Ne.symm hk), ← Array.getD_eq_getD_getElem?]
              have hi1 : (listed.setIfInBounds i true).getD i false = true := by
                rw [Array.getD_eq_getD_getElem?]; simp [show i < listed.size by omega]
              rw [hcut, List.filter_append, List.filter_cons_of_pos (by simp [hSi])] at hcnt
              rw [hcut, List.filter_append, List.filter_cons_of_neg (by simp [hi1])]
              have f1 : (List.range i).filter (fun k => !(listed.setIfInBounds i true).getD k false) = (List.range i).filter (fun k => !listed.getD k false) := by
                apply List.filter_congr
                intro k hk
                have := List.mem_range.1 hk
                rw [same k (by omega)]
              have f2 : ((List.range (ops.size - i - 1)).map (fun k => i + 1 + k)).filter (fun k => !(listed.setIfInBounds i true).getD k false) = ((List.range (ops.size - i - 1)).map (fun k => i + 1 + k)).filter (fun k => !listed.getD k false) := by
                apply List.filter_congr
                intro k hk
                obtain ⟨q, _, rfl⟩ := List.mem_map.1 hk
                rw [same _ (by omega)]
              rw [f1, f2]
              simp only [List.length_append, List.length_cons] at hcnt ⊢
              omega)
        unfold wpOp
        rw [ho]
        exact hstep
  have hdr : Ext w { w with drawn := w.drawn + 1 } := Ext.drew w
  have hF' := hF.1.mono (Knows.refl γ) (.of_ext hdr) (hF.1.st.stay hdr) (.refl _)
  have h0 : stS os ρ nx (fun k => (Array.replicate ops.size false).getD k false) (e, H) = (e, H) := by
    unfold stS
    have : (List.range os.length).filter (fun k => (Array.replicate ops.size false).getD k false) = [] := by
      apply List.filter_eq_nil_iff.2
      intro k hk
      have := List.mem_range.1 hk
      rw [Array.getD_eq_getD_getElem?]
      simp [show k < ops.size by omega]
    rw [this]; rfl
  have hlist : ∀ j, (Array.replicate ops.size false).getD j false = false := by
    intro j
    rw [Array.getD_eq_getD_getElem?]
    by_cases hj : j < ops.size
    · simp [hj]
    · rw [Array.getElem?_eq_none (by simpa using hj)]; rfl
  refine key ops.size _ γ a _ (by simp) (fun j o ho hj => by rw [hlist j] at hj; cases hj) (by rw [h0]; exact hF') (fun k hk _ => hF.2 k hk) ?_
  have : (List.range ops.size).filter (fun k => !(Array.replicate ops.size false).getD k false) = List.range ops.size := by
    apply List.filter_eq_self.2
    intro k _
    rw [hlist k]; rfl
  rw [this]; simp

end

end Go.Proofs.Ytghlfjpmpalpdaa
