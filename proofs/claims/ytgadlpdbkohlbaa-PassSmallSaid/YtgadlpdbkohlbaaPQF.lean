/- Texts of one kind, one behind the other (merged by program; the bodies of functions are printed by program). -/
import Derived.Test.YtgadlpdbkohlbaaPQE
import Derived.Shelf.SlicesE.DeleteFunc
import Derived.Lib.AppendZeros
import Derived.Laws.AppendOwnNone
namespace Go.Proofs.Ytgadlpdbkohlbaa
def sel {α : Type} : List Bool → List α → List α
 | true :: l, x :: xs => x :: sel l xs
 | false :: l, _ :: xs => sel l xs
 | _, _ => []
def nst (l : List Bool) (k : Nat) : Nat := (l.take k).countP id
@[simp] theorem nst_zero (l : List Bool) : nst l 0 = 0 := rfl
theorem nst_cons (s : Bool) (l : List Bool) (k : Nat) : nst (s :: l) (k + 1) = (if s = true then 1 else 0) + nst l k := by
 unfold nst
 rw [List.take_succ_cons, List.countP_cons]
 simp only [id]
 omega
theorem nst_snoc {l : List Bool} {k : Nat} {s : Bool} (h : l[k]? = some s) : nst l (k + 1) = nst l k + (if s = true then 1 else 0) := by
 have hk := (List.getElem?_eq_some_iff.1 h).1
 unfold nst
 rw [List.take_succ_eq_append_getElem hk, (List.getElem?_eq_some_iff.1 h).2, List.countP_append, List.countP_singleton]
 rfl
theorem nst_mono {l : List Bool} {i j : Nat} (h : i ≤ j) : nst l i ≤ nst l j := by
 unfold nst
 exact (List.take_sublist_take_left h).countP_le
theorem nst_le (l : List Bool) (k : Nat) : nst l k ≤ k := by
 unfold nst
 exact Nat.le_trans List.countP_le_length (by rw [List.length_take]; omega)
theorem nst_lt {l : List Bool} {i j : Nat} (h : l[i]? = some true) (hij : i < j) : nst l i < nst l j := by
 have h1 := nst_snoc h
 have h2 := nst_mono (l := l) (show i + 1 ≤ j by omega)
 rw [if_pos rfl] at h1
 omega
theorem nst_append_le {l l' : List Bool} {k : Nat} : nst (l ++ l') (l.length + k) = nst l l.length + nst l' k := by
 unfold nst
 rw [List.take_length_add_append, List.countP_append, List.take_length]
theorem nst_all {l : List Bool} : ∀ {k : Nat}, k ≤ l.length → (∀ i, i < k → l[i]? = some true) → nst l k = k
 | 0, _, _ => rfl
 | k + 1, hk, h => by rw [nst_snoc (h k (by omega)), if_pos rfl, nst_all (by omega) fun i hi => h i (by omega)]
section
variable {α : Type}
@[simp] theorem sel_nil (l : List Bool) : sel l ([] : List α) = [] := by
 cases l with
 | nil => rfl
 | cons s l => cases s <;> rfl
theorem sel_at : ∀ {l : List Bool} {xs : List α} {k : Nat} {x : α}, l[k]? = some true → xs[k]? = some x → (sel l xs)[nst l k]? = some x
  | [], _, _, _, h, _ => by simp at h
  | _ :: _, [], _, _, _, h => by simp at h
  | s :: l, y :: xs, 0, x, h, h' => by
    simp only [List.getElem?_cons_zero] at h h'
    injection h with h
    subst h
    simp [sel, h']
  | s :: l, y :: xs, k + 1, x, h, h' => by
    simp only [List.getElem?_cons_succ] at h h'
    have ih := sel_at h h'
    rw [nst_cons]
    cases s with
    | true => simp only [sel, if_pos]; rw [Nat.add_comm, List.getElem?_cons_succ]; exact ih
    | false => simp only [sel]; rw [if_neg (by simp), Nat.zero_add]; exact ih
theorem sel_length : ∀ {l : List Bool} {xs : List α}, xs.length ≤ l.length → (sel l xs).length = nst l xs.length
  | l, [], _ => by simp
  | [], _ :: _, h => by simp at h
  | s :: l, y :: xs, h => by
    have ih := sel_length (l := l) (xs := xs) (by simpa using h)
    rw [List.length_cons, nst_cons, ← ih]
    cases s with
    | true => simp [sel, Nat.add_comm]
    | false => simp [sel]
theorem sel_of : ∀ {l : List Bool} {xs : List α} {j : Nat} {x : α}, (sel l xs)[j]? = some x → ∃ k : Nat, l[k]? = some true ∧ xs[k]? = some x ∧ nst l k = j
  | l, [], j, x, h => by simp at h
  | [], _ :: _, j, x, h => by simp [sel] at h
  | true :: l, y :: xs, 0, x, h => ⟨0, rfl, by simpa [sel] using h, rfl⟩
  | true :: l, y :: xs, j + 1, x, h => by
    simp only [sel, List.getElem?_cons_succ] at h
    obtain ⟨k, h1, h2, h3⟩ := sel_of h
    exact ⟨k + 1, by simpa using h1, by simpa using h2, by rw [nst_cons, if_pos rfl, h3]; omega⟩
  | false :: l, y :: xs, j, x, h => by
    simp only [sel] at h
    obtain ⟨k, h1, h2, h3⟩ := sel_of h
    exact ⟨k + 1, by simpa using h1, by simpa using h2, by rw [nst_cons, if_neg (by simp), h3]; omega⟩
theorem sel_mem {l : List Bool} {xs : List α} {x : α} (h : x ∈ sel l xs) : ∃ k : Nat, l[k]? = some true ∧ xs[k]? = some x := by
 obtain ⟨j, hj, rfl⟩ := List.getElem_of_mem h
 obtain ⟨k, h1, h2, _⟩ := sel_of (List.getElem?_eq_getElem hj)
 exact ⟨k, h1, h2⟩
theorem sel_all : ∀ {l : List Bool} {xs : List α}, (∀ i, i < xs.length → l[i]? = some true) → sel l xs = xs
  | l, [], _ => by simp
  | [], _ :: _, h => by have := h 0 (by simp); simp at this
  | s :: l, y :: xs, h => by
    have h0 := h 0 (by simp)
    simp only [List.getElem?_cons_zero] at h0
    injection h0 with h0
    subst h0
    simp only [sel]
    rw [sel_all fun i hi => by have := h (i + 1) (by simp; omega); simpa using this]
theorem sel_snoc : ∀ {l : List Bool} {xs : List α} {x : α} {s : Bool}, l[xs.length]? = some s → sel l (xs ++ [x]) = sel l xs ++ (if s = true then [x] else [])
  | [], _, _, _, h => by simp at h
  | t :: l, [], x, s, h => by
    simp only [List.length_nil, List.getElem?_cons_zero] at h
    injection h with h
    subst h
    cases t <;> simp [sel]
  | t :: l, y :: xs, x, s, h => by
    simp only [List.length_cons, List.getElem?_cons_succ] at h
    have ih := sel_snoc (xs := xs) (x := x) h
    cases t with
    | true => simp only [sel, List.cons_append]; rw [ih]
    | false => simp only [sel, List.cons_append]; rw [ih]
theorem sel_sum (f : α → Nat) : ∀ (l : List Bool) (xs : List α), ((sel l xs).map f).sum ≤ (xs.map f).sum
  | l, [] => by simp
  | [], _ :: _ => by simp [sel]
  | s :: l, y :: xs => by
    have ih := sel_sum f l xs
    cases s with
    | true => simp only [sel, List.map_cons, List.sum_cons]; omega
    | false => simp only [sel, List.map_cons, List.sum_cons]; omega
end
end Go.Proofs.Ytgadlpdbkohlbaa
namespace Go.Proofs.Ytgadlpdbkohlbaa
open Go.RowKit
def doesB (op : Int) : Bool := op == 13 || op == 14 || op == 15 || op == 16
def markL (u : List Bool) (l : List Int) : List Bool := l.foldl (fun u v => u.set v.toNat true) u
def endsL (b : Block) : List Int := b.args ++ b.elses ++ (if b.kind = 1 then [] else [b.ta])
def usedK (b : Block) : Nat → List Bool → List Bool
  | 0, u => u
  | k + 1, u => match b.ins[k]? with
    | none => usedK b k u
    | some x => if doesB x.op = true ∨ u[b.params.toNat + k]? = some true then usedK b k (markL u (uses x)) else usedK b k u
def usedL (b : Block) : List Bool := usedK b b.ins.length (markL (List.replicate (b.params.toNat + b.ins.length) false) (endsL b))
def stayL (b : Block) : List Bool := List.replicate b.params.toNat true ++ List.zipWith (fun (x : Inst) u => doesB x.op || u) b.ins ((usedL b).drop b.params.toNat)
def gT (b : Block) (v : Int) : Int := nst (stayL b) v.toNat
def trimIns (b : Block) : List Inst := (sel ((stayL b).drop b.params.toNat) b.ins).map (mapInst (gT b))
def trimB (b : Block) : Block := ⟨b.params, trimIns b, b.kind, if b.kind = 1 then b.ta else gT b b.ta, b.to, b.args.map (gT b), b.els, b.elses.map (gT b)⟩
@[simp] theorem markL_length : ∀ (l : List Int) (u : List Bool), (markL u l).length = u.length
  | [], _ => rfl
  | v :: l, u => by
    show (markL (u.set v.toNat true) l).length = _
    rw [markL_length l, List.length_set]
theorem markL_mono : ∀ {l : List Int} {u : List Bool} {i : Nat}, u[i]? = some true → (markL u l)[i]? = some true
  | [], _, _, h => h
  | v :: l, u, i, h => by
    refine markL_mono (l := l) (u := u.set v.toNat true) ?_
    rw [List.getElem?_set]
    have hi := (List.getElem?_eq_some_iff.1 h).1
    split
    · rename_i e; subst e; rw [if_pos hi]
    · exact h
theorem markL_in : ∀ {l : List Int} {u : List Bool} {v : Int}, v ∈ l → v.toNat < u.length → (markL u l)[v.toNat]? = some true
  | [], _, _, h, _ => by cases h
  | w :: l, u, v, h, hv => by
    rcases List.mem_cons.1 h with h | h
    · subst h
      exact markL_mono (l := l) (by rw [List.getElem?_set, if_pos rfl, if_pos hv])
    · exact markL_in (l := l) (u := u.set w.toNat true) h (by rw [List.length_set]; exact hv)
theorem markL_out : ∀ {l : List Int} {u : List Bool} {i : Nat}, (∀ v ∈ l, v.toNat ≠ i) → (markL u l)[i]? = u[i]?
  | [], _, _, _ => rfl
  | v :: l, u, i, h => by
    show (markL (u.set v.toNat true) l)[i]? = _
    rw [markL_out fun w hw => h w (by simp [hw]), List.getElem?_set, if_neg (h v (by simp))]
structure BlkFit (b : Block) : Prop where
 params : 0 ≤ b.params
 ins : ∀ (k : Nat) (x : Inst), b.ins[k]? = some x → ∀ v ∈ uses x, 0 ≤ v ∧ v < b.params + k
 ends : ∀ v ∈ endsL b, 0 ≤ v ∧ v < b.params + b.ins.length
theorem blkFit {f : Func} {b : Block} (h : blockOk f b = true) : BlkFit b := by
 obtain ⟨h0, h6, h32, hi, he⟩ := blockOk_iff.1 h
 refine ⟨h0, fun k x hx => ?_, fun v hv => ?_⟩
 ·have hk := (List.getElem?_eq_some_iff.1 hx).1
  have := hi k hk
  rw [(List.getElem?_eq_some_iff.1 hx).2] at this
  exact belowB_iff.1 (instOk_below this)
 ·unfold endsL at hv
  rcases endB_iff.1 he with ⟨e1, e2, e3, e4, e5⟩ | ⟨e1, e2, e3, e4⟩ | ⟨e1, e2, e3, e4, e5, e6⟩
  ·rw [if_pos e1, e5] at hv
   simp only [List.append_nil] at hv
   exact (goesB_iff.1 e2).2.2 v hv
  ·rw [if_neg (by omega)] at hv
   rcases List.mem_append.1 hv with hv | hv
   ·rcases List.mem_append.1 hv with hv | hv
    ·exact (goesB_iff.1 e3).2.2 v hv
    ·exact (goesB_iff.1 e4).2.2 v hv
   ·rw [List.mem_singleton.1 hv]; exact e2
  ·rw [if_neg (by omega), e4, e6] at hv
   simp only [List.nil_append, List.mem_singleton] at hv
   rw [hv]; exact e2
section
variable {b : Block}
@[simp] theorem usedK_length : ∀ (k : Nat) (u : List Bool), (usedK b k u).length = u.length
  | 0, _ => rfl
  | k + 1, u => by
    unfold usedK
    split
    · exact usedK_length k u
    · split
      · rw [usedK_length k, markL_length]
      · exact usedK_length k u
theorem usedK_mono : ∀ {k : Nat} {u : List Bool} {i : Nat}, u[i]? = some true → (usedK b k u)[i]? = some true
  | 0, _, _, h => h
  | k + 1, u, i, h => by
    unfold usedK
    split
    · exact usedK_mono h
    · split
      · exact usedK_mono (markL_mono h)
      · exact usedK_mono h
theorem usedK_out (hb : BlkFit b) : ∀ {k : Nat} {u : List Bool} {i : Nat}, b.params.toNat + k ≤ i + 1 → (usedK b k u)[i]? = u[i]?
  | 0, _, _, _ => rfl
  | k + 1, u, i, h => by
    unfold usedK
    split
    · exact usedK_out hb (by omega)
    · rename_i x hx
      split
      · rw [usedK_out hb (by omega), markL_out]
        intro v hv
        have := hb.ins k x hx v hv
        have := hb.params
        omega
      · exact usedK_out hb (by omega)
theorem usedK_uses (hb : BlkFit b) : ∀ {k : Nat} {u : List Bool} {j : Nat} {x : Inst}, b.params.toNat + k ≤ u.length → j < k → b.ins[j]? = some x → (doesB x.op = true ∨ (usedK b k u)[b.params.toNat + j]? = some true) → ∀ v ∈ uses x, (usedK b k u)[v.toNat]? = some true
  | 0, _, _, _, _, h, _, _ => by omega
  | k + 1, u, j, x, hl, hj, hx, hd => by
    intro v hv
    by_cases hjk : j = k
    · subst hjk
      unfold usedK at hd ⊢
      rw [hx] at hd ⊢
      simp only at hd ⊢
      have hvb := hb.ins j x hx v hv
      have hp := hb.params
      have key : doesB x.op = true ∨ u[b.params.toNat + j]? = some true := by
        rcases hd with hd | hd
        · exact .inl hd
        · split at hd
          · rename_i h; exact h
          · rw [usedK_out hb (by omega)] at hd
            exact .inr hd
      rw [if_pos key]
      exact usedK_mono (markL_in hv (by omega))
    · unfold usedK at hd ⊢
      cases hxk : b.ins[k]? with
      | none =>
        rw [hxk] at hd
        exact usedK_uses hb (by omega) (by omega) hx hd v hv
      | some y =>
        rw [hxk] at hd
        simp only at hd ⊢
        split
        · rename_i h
          rw [if_pos h] at hd
          exact usedK_uses hb (by rw [markL_length]; omega) (by omega) hx hd v hv
        · rename_i h
          rw [if_neg h] at hd
          exact usedK_uses hb (by omega) (by omega) hx hd v hv
@[simp] theorem usedL_length (b : Block) : (usedL b).length = b.params.toNat + b.ins.length := by unfold usedL; simp
theorem usedL_ends (hb : BlkFit b) {v : Int} (hv : v ∈ endsL b) : (usedL b)[v.toNat]? = some true := by
 have := hb.ends v hv
 have := hb.params
 exact usedK_mono (markL_in hv (by simp; omega))
theorem usedL_uses (hb : BlkFit b) {k : Nat} {x : Inst} (hx : b.ins[k]? = some x) (h : doesB x.op = true ∨ (usedL b)[b.params.toNat + k]? = some true) {v : Int} (hv : v ∈ uses x) : (usedL b)[v.toNat]? = some true :=
 usedK_uses hb (by simp) (List.getElem?_eq_some_iff.1 hx).1 hx h v hv
theorem stayL_length (b : Block) : (stayL b).length = b.params.toNat + b.ins.length := by
 unfold stayL
 rw [List.length_append, List.length_replicate, List.length_zipWith, List.length_drop, usedL_length]
 omega
theorem stayL_param {i : Nat} (h : i < b.params.toNat) : (stayL b)[i]? = some true := by
 unfold stayL
 rw [List.getElem?_append_left (by simpa using h), List.getElem?_replicate, if_pos h]
theorem stayL_ins {k : Nat} {x : Inst} (hx : b.ins[k]? = some x) : (stayL b)[b.params.toNat + k]? = some (doesB x.op || ((usedL b)[b.params.toNat + k]?).getD false) := by
 have hk := (List.getElem?_eq_some_iff.1 hx).1
 have hu : (usedL b)[b.params.toNat + k]? = some ((usedL b)[b.params.toNat + k]'(by simp; omega)) := List.getElem?_eq_getElem _
 unfold stayL
 rw [List.getElem?_append_right (by simp), List.length_replicate, Nat.add_sub_cancel_left, List.getElem?_zipWith, hx, List.getElem?_drop, hu]
 rfl
theorem stayL_used {i : Nat} (h : (usedL b)[i]? = some true) : (stayL b)[i]? = some true := by
 have hi := (List.getElem?_eq_some_iff.1 h).1
 rw [usedL_length] at hi
 by_cases hp : i < b.params.toNat
 ·exact stayL_param hp
 ·obtain ⟨k, rfl⟩ : ∃ k, i = b.params.toNat + k := ⟨i - b.params.toNat, by omega⟩
  have hk : k < b.ins.length := by omega
  rw [stayL_ins (List.getElem?_eq_getElem hk), h]
  simp
theorem stayL_uses (hb : BlkFit b) {k : Nat} {x : Inst} (hx : b.ins[k]? = some x) (h : (stayL b)[b.params.toNat + k]? = some true) {v : Int} (hv : v ∈ uses x) : (stayL b)[v.toNat]? = some true := by
 rw [stayL_ins hx] at h
 refine stayL_used (usedL_uses hb hx ?_ hv)
 injection h with h
 rw [Bool.or_eq_true] at h
 refine h.elim Or.inl fun h => Or.inr ?_
 cases hu : (usedL b)[b.params.toNat + k]? with
 | none => rw [hu] at h; cases h
 | some s => rw [hu] at h; exact congrArg some h
theorem stayL_ends (hb : BlkFit b) {v : Int} (hv : v ∈ endsL b) : (stayL b)[v.toNat]? = some true := stayL_used (usedL_ends hb hv)
theorem nst_ins (b : Block) (k : Nat) : nst (stayL b) (b.params.toNat + k) = b.params.toNat + nst ((stayL b).drop b.params.toNat) k := by
 have e : stayL b = (stayL b).take b.params.toNat ++ (stayL b).drop b.params.toNat := (List.take_append_drop _ _).symm
 have hl : ((stayL b).take b.params.toNat).length = b.params.toNat := by rw [List.length_take, stayL_length]; omega
 have h := nst_append_le (l := (stayL b).take b.params.toNat) (l' := (stayL b).drop b.params.toNat) (k := k)
 rw [← e, hl] at h
 rw [h]
 congr 1
 refine nst_all (by omega) fun i hi => ?_
 rw [List.getElem?_take, if_pos hi]
 exact stayL_param hi
theorem trimIns_length (b : Block) : (trimIns b).length = nst ((stayL b).drop b.params.toNat) b.ins.length := by
 unfold trimIns
 rw [List.length_map, sel_length (by rw [List.length_drop, stayL_length]; omega)]
theorem trimIns_le (b : Block) : (trimIns b).length ≤ b.ins.length := by rw [trimIns_length]; exact nst_le _ _
theorem trimIns_of {j : Nat} {y : Inst} (h : (trimIns b)[j]? = some y) : ∃ k x, b.ins[k]? = some x ∧ (stayL b)[b.params.toNat + k]? = some true ∧ nst ((stayL b).drop b.params.toNat) k = j ∧ y = mapInst (gT b) x := by
  unfold trimIns at h
  rw [List.getElem?_map] at h
  cases hs : (sel ((stayL b).drop b.params.toNat) b.ins)[j]? with
  | none => rw [hs] at h; cases h
  | some x =>
    rw [hs] at h
    obtain ⟨k, h1, h2, h3⟩ := sel_of hs
    rw [List.getElem?_drop] at h1
    injection h with h
    exact ⟨k, x, h2, h1, h3, h.symm⟩
theorem gT_lt {v : Int} {k : Nat} (h : (stayL b)[v.toNat]? = some true) (hv : 0 ≤ v ∧ v < b.params + k) (hp : 0 ≤ b.params) : 0 ≤ gT b v ∧ gT b v < b.params + nst ((stayL b).drop b.params.toNat) k := by
 have h1 := nst_lt h (show v.toNat < b.params.toNat + k by omega)
 rw [nst_ins] at h1
 unfold gT
 omega
theorem gT_ins {v : Int} {k : Nat} {x : Inst} (hb : BlkFit b) (hx : b.ins[k]? = some x) (h : (stayL b)[b.params.toNat + k]? = some true) (hv : v ∈ uses x) : 0 ≤ gT b v ∧ gT b v < b.params + nst ((stayL b).drop b.params.toNat) k :=
 gT_lt (stayL_uses hb hx h hv) (hb.ins k x hx v hv) hb.params
theorem gT_ends {v : Int} (hb : BlkFit b) (hv : v ∈ endsL b) : 0 ≤ gT b v ∧ gT b v < b.params + (trimIns b).length := by
 rw [trimIns_length]
 exact gT_lt (stayL_ends hb hv) (hb.ends v hv) hb.params
end
theorem mapInst_ok' {x : Inst} {n n' : Int} {g : Int → Int} (h : instOk x n = true) (hg : ∀ v ∈ uses x, 0 ≤ g v ∧ g v < n') : instOk (mapInst g x) n' = true := by
 unfold instOk at h ⊢
 simp only [Bool.and_eq_true, decide_eq_true_eq] at h ⊢
 obtain ⟨⟨⟨⟨⟨⟨⟨⟨h1, h2⟩, hb⟩, hA⟩, hB⟩, hK⟩, hN⟩, h6⟩, hNm⟩ := h
 refine ⟨⟨⟨⟨⟨⟨⟨⟨h1, h2⟩, ?_⟩, ?_⟩, ?_⟩, hK⟩, ?_⟩, ?_⟩, hNm⟩
 ·rw [uses_map, belowB_iff]
  intro v hv
  obtain ⟨u, hu, rfl⟩ := List.mem_map.1 hv
  exact hg u hu
 ·cases h1 : isOne x.op
  ·simpa [mapInst, h1] using hA
  ·simp [mapInst, h1]
 ·cases h1 : isTwo x.op
  ·simpa [mapInst, h1] using hB
  ·simp [mapInst, h1]
 ·simpa [mapInst] using hN
 ·simpa [mapInst] using h6
end Go.Proofs.Ytgadlpdbkohlbaa
namespace Go.Proofs.Ytgadlpdbkohlbaa
open Go.RowKit
inductive RchB (f : Func) : Nat → Prop
 | first (h : 0 < f.blocks.length) : RchB f 0
 | to {k : Nat} {b : Block} (h : RchB f k) (hb : f.blocks[k]? = some b) (hk : ¬ b.kind = 3) : RchB f b.to.toNat
 | els {k : Nat} {b : Block} (h : RchB f k) (hb : f.blocks[k]? = some b) (hk : b.kind = 2) : RchB f b.els.toNat
def stepB (f : Func) (u : List Bool) (k : Nat) : List Bool := match f.blocks[k]? with
 | none => u
 | some b => if u[k]? = some true then (if b.kind = 3 then u else if b.kind = 2 then (u.set b.to.toNat true).set b.els.toNat true else u.set b.to.toNat true) else u
def stepsB (f : Func) (u : List Bool) (n : Nat) : List Bool := (List.range n).foldl (stepB f) u
def roundB (f : Func) (u : List Bool) : List Bool := stepsB f (u.set 0 true) f.blocks.length
def roundsB (f : Func) : Nat → List Bool
 | 0 => List.replicate f.blocks.length false
 | n + 1 => roundB f (roundsB f n)
def inBL (f : Func) : List Bool := roundsB f f.blocks.length
def LeB (u v : List Bool) : Prop := v.length = u.length ∧ ∀ i : Nat, u[i]? = some true → v[i]? = some true
theorem LeB.refl (u : List Bool) : LeB u u := ⟨rfl, fun _ h => h⟩
theorem LeB.trans {u v w : List Bool} (h : LeB u v) (h' : LeB v w) : LeB u w := ⟨h'.1.trans h.1, fun i hi => h'.2 i (h.2 i hi)⟩
theorem LeB.set (u : List Bool) (k : Nat) : LeB u (u.set k true) := ⟨List.length_set, fun i h => by
 rw [List.getElem?_set]
 have hi := (List.getElem?_eq_some_iff.1 h).1
 split
 ·rename_i e; subst e; rw [if_pos hi]
 ·exact h⟩
theorem LeB.eq_of_count {u v : List Bool} (h : LeB u v) (hc : v.countP id ≤ u.countP id) : v = u := by
  obtain ⟨hl, hm⟩ := h
  induction u generalizing v with
  | nil => cases v with
    | nil => rfl
    | cons _ _ => simp at hl
  | cons s u ih =>
    cases v with
    | nil => simp at hl
    | cons t v =>
      have hm' : LeB u v := ⟨by simpa using hl, fun i hi => by have := hm (i + 1) (by simpa using hi); simpa using this⟩
      have hle : ∀ {u v : List Bool}, LeB u v → u.countP id ≤ v.countP id := by
        intro u
        induction u with
        | nil => intro v _; simp
        | cons s u ih =>
          intro v h
          cases v with
          | nil => have := h.1; simp at this
          | cons t v =>
            have h1 := ih (v := v) ⟨by simpa using h.1, fun i hi => by have := h.2 (i + 1) (by simpa using hi); simpa using this⟩
            rw [List.countP_cons, List.countP_cons]
            cases s with
            | false => cases t <;> simp <;> omega
            | true =>
              have : t = true := by have := h.2 0 rfl; simpa using this
              subst this
              simp; omega
      have h1 := hle hm'
      rw [List.countP_cons, List.countP_cons] at hc
      cases s with
      | false =>
        cases t with
        | false =>
          simp at hc
          rw [ih (v := v) (by simpa using hc) hm'.1 hm'.2]
        | true => simp at hc; omega
      | true =>
        have : t = true := by have := hm 0 rfl; simpa using this
        subst this
        simp at hc
        rw [ih (v := v) (by simpa using hc) hm'.1 hm'.2]
section
variable {f : Func}
theorem stepB_le (u : List Bool) (k : Nat) : LeB u (stepB f u k) := by
 unfold stepB
 split
 ·exact LeB.refl u
 ·split
  ·split
   ·exact LeB.refl u
   ·split
    ·exact (LeB.set u _).trans (LeB.set _ _)
    ·exact LeB.set u _
  ·exact LeB.refl u
theorem stepsB_succ (u : List Bool) (n : Nat) : stepsB f u (n + 1) = stepB f (stepsB f u n) n := by
 unfold stepsB
 rw [List.range_succ, List.foldl_append]
 rfl
theorem stepsB_le (u : List Bool) : ∀ n, LeB u (stepsB f u n)
 | 0 => LeB.refl u
 | n + 1 => by rw [stepsB_succ]; exact (stepsB_le u n).trans (stepB_le _ _)
theorem stepsB_mono (u : List Bool) {i n : Nat} (h : i ≤ n) : LeB (stepsB f u i) (stepsB f u n) := by
  induction n with
  | zero => obtain rfl : i = 0 := by omega
            exact LeB.refl _
  | succ n ih =>
    rcases Nat.lt_or_ge i (n + 1) with hi | hi
    · rw [stepsB_succ]; exact (ih (by omega)).trans (stepB_le _ _)
    · obtain rfl : i = n + 1 := by omega
      exact LeB.refl _
theorem roundB_le (u : List Bool) : LeB u (roundB f u) := (LeB.set u 0).trans (stepsB_le _ _)
@[simp] theorem roundsB_length (f : Func) : ∀ n, (roundsB f n).length = f.blocks.length
 | 0 => by simp [roundsB]
 | n + 1 => by show (roundB f (roundsB f n)).length = _; rw [(roundB_le _).1, roundsB_length f n]
@[simp] theorem inBL_length (f : Func) : (inBL f).length = f.blocks.length := roundsB_length f _
theorem stepB_rch {u : List Bool} (h : ∀ i : Nat, u[i]? = some true → RchB f i) (k : Nat) : ∀ i : Nat, (stepB f u k)[i]? = some true → RchB f i := by
 intro i hi
 unfold stepB at hi
 split at hi
 ·exact h i hi
 ·rename_i b hb
  split at hi
  ·rename_i hu
   split at hi
   ·exact h i hi
   ·rename_i h3
    split at hi
    ·rename_i h2
     rw [List.getElem?_set] at hi
     split at hi
     ·rename_i e; rw [← e]; exact .els (h k hu) hb h2
     ·rw [List.getElem?_set] at hi
      split at hi
      ·rename_i e; rw [← e]; exact .to (h k hu) hb h3
      ·exact h i hi
    ·rw [List.getElem?_set] at hi
     split at hi
     ·rename_i e; rw [← e]; exact .to (h k hu) hb h3
     ·exact h i hi
  ·exact h i hi
theorem stepsB_rch {u : List Bool} (h : ∀ i : Nat, u[i]? = some true → RchB f i) : ∀ n, ∀ i : Nat, (stepsB f u n)[i]? = some true → RchB f i
 | 0 => h
 | n + 1 => by rw [stepsB_succ]; exact stepB_rch (stepsB_rch h n) n
theorem roundsB_rch : ∀ n, ∀ i : Nat, (roundsB f n)[i]? = some true → RchB f i
  | 0, i, h => by
    unfold roundsB at h
    rw [List.getElem?_replicate] at h
    split at h <;> simp at h
  | n + 1, i, h => by
    refine stepsB_rch (fun i hi => ?_) _ i h
    rw [List.getElem?_set] at hi
    split at hi
    · rename_i e
      subst e
      split at hi
      · rename_i hl; exact .first (by rw [roundsB_length] at hl; exact hl)
      · cases hi
    · exact roundsB_rch n i hi
structure ClosedB (f : Func) (u : List Bool) : Prop where
 len : u.length = f.blocks.length
 first : 0 < f.blocks.length → u[0]? = some true
 next : ∀ (k : Nat), stepB f u k = u
theorem closed_of (hl : ∀ u : List Bool, u.length = f.blocks.length → True) {u : List Bool} (hu : u.length = f.blocks.length) (h : roundB f u = u) : ClosedB f u := by
  have h0 : LeB (u.set 0 true) u := by
    have := stepsB_le (f := f) (u.set 0 true) f.blocks.length
    rwa [show stepsB f (u.set 0 true) f.blocks.length = u from h] at this
  have e0 : u.set 0 true = u := by
    apply List.ext_getElem?
    intro i
    rw [List.getElem?_set]
    split
    · rename_i e
      subst e
      split
      · rename_i hl
        have := h0.2 0 (by rw [List.getElem?_set, if_pos rfl, if_pos hl])
        rw [this]
      · rename_i hl
        rw [List.getElem?_eq_none (by omega)]
    · rfl
  have hs : ∀ n, n ≤ f.blocks.length → stepsB f u n = u := by
    intro n hn
    have h1 := stepsB_le (f := f) u n
    have h2 := stepsB_mono (f := f) u hn
    rw [show stepsB f u f.blocks.length = u by have := h; unfold roundB at this; rwa [e0] at this] at h2
    apply List.ext_getElem?
    intro i
    cases hi : u[i]? with
    | none =>
      have := List.getElem?_eq_none_iff.1 hi
      rw [List.getElem?_eq_none (by rw [h1.1]; exact this)]
    | some s =>
      have hi' := (List.getElem?_eq_some_iff.1 hi).1
      have hi2 : (stepsB f u n)[i]? = some ((stepsB f u n)[i]'(by rw [h1.1]; exact hi')) := List.getElem?_eq_getElem _
      cases s with
      | true => exact h1.2 i hi
      | false =>
        rw [hi2]
        cases hv : (stepsB f u n)[i]'(by rw [h1.1]; exact hi') with
        | false => rfl
        | true =>
          rw [hv] at hi2
          have := h2.2 i hi2
          rw [hi] at this
          cases this
  refine ⟨hu, fun hl => ?_, fun k => ?_⟩
  · have := h0.2 0 (by rw [List.getElem?_set, if_pos rfl, if_pos (by omega)])
    exact this
  · by_cases hk : k < f.blocks.length
    · have h1 := hs k (by omega)
      have h2 := hs (k + 1) (by omega)
      rw [stepsB_succ, h1] at h2
      exact h2
    · unfold stepB
      rw [List.getElem?_eq_none (by omega)]
theorem ClosedB.round {u : List Bool} (h : ClosedB f u) : roundB f u = u := by
 have e0 : u.set 0 true = u := by
  apply List.ext_getElem?
  intro i
  rw [List.getElem?_set]
  split
  ·rename_i e
   subst e
   split
   ·rename_i hl
    rw [h.first (by rw [← h.len]; exact hl)]
   ·rw [List.getElem?_eq_none (by omega)]
  ·rfl
 unfold roundB
 rw [e0]
 have : ∀ n, stepsB f u n = u := by
  intro n
  induction n with
  | zero => rfl
  | succ n ih => rw [stepsB_succ, ih, h.next]
 exact this _
theorem roundsB_closed (f : Func) : ∀ n, ClosedB f (roundsB f n) ∨ n ≤ (roundsB f n).countP id
  | 0 => .inr (Nat.zero_le _)
  | n + 1 => by
    show ClosedB f (roundB f (roundsB f n)) ∨ n + 1 ≤ (roundB f (roundsB f n)).countP id
    rcases roundsB_closed f n with h | h
    · rw [h.round]; exact .inl h
    · by_cases e : roundB f (roundsB f n) = roundsB f n
      · rw [e]; exact .inl (closed_of (fun _ _ => trivial) (roundsB_length f n) e)
      · refine .inr (Nat.succ_le_of_lt (Nat.lt_of_le_of_lt h (Nat.lt_of_not_le fun hc => e ((roundB_le _).eq_of_count hc))))
theorem all_of_count : ∀ {u : List Bool}, u.length ≤ u.countP id → ∀ i, i < u.length → u[i]? = some true
  | [], _, _, h => by simp at h
  | s :: u, h, i, hi => by
    have hle : u.countP id ≤ u.length := List.countP_le_length
    rw [List.countP_cons, List.length_cons] at h
    cases s with
    | false => simp at h; omega
    | true =>
      simp at h
      cases i with
      | zero => rfl
      | succ i => exact all_of_count h i (by simpa using hi)
theorem set_same {u : List Bool} {k : Nat} (h : u[k]? = some true) : u.set k true = u := by
 apply List.ext_getElem?
 intro i
 rw [List.getElem?_set]
 split
 ·rename_i e; subst e; rw [if_pos (List.getElem?_eq_some_iff.1 h).1, h]
 ·rfl
def EndsIn (f : Func) : Prop := ∀ b ∈ f.blocks, (¬ b.kind = 3 → b.to.toNat < f.blocks.length) ∧ (b.kind = 2 → b.els.toNat < f.blocks.length)
theorem inBL_closed (he : EndsIn f) : ClosedB f (inBL f) := by
 rcases roundsB_closed f f.blocks.length with h | h
 ·exact h
 ·have hall := all_of_count (u := inBL f) (by rw [inBL_length]; exact h)
  rw [inBL_length] at hall
  refine ⟨inBL_length f, fun hl => hall 0 hl, fun k => ?_⟩
  unfold stepB
  split
  ·rfl
  ·rename_i b hb
   have hbe := he b (List.mem_of_getElem? hb)
   split
   ·split
    ·rfl
    ·rename_i h3
     have e1 := set_same (hall _ (hbe.1 h3))
     split
     ·rename_i h2
      rw [e1, set_same (hall _ (hbe.2 h2))]
     ·exact e1
   ·rfl
theorem inBL_iff (he : EndsIn f) (k : Nat) : (inBL f)[k]? = some true ↔ RchB f k := by
  have hc := inBL_closed he
  refine ⟨roundsB_rch _ k, fun h => ?_⟩
  induction h with
  | first h => exact hc.first h
  | @to k b h hb hk ih =>
    have := hc.next k
    unfold stepB at this
    rw [hb] at this
    simp only at this
    rw [if_pos ih, if_neg hk] at this
    have hbe := (he b (List.mem_of_getElem? hb)).1 hk
    rw [← this]
    split
    · refine (LeB.set _ _).2 _ ?_
      rw [List.getElem?_set, if_pos rfl, if_pos (by rw [inBL_length]; exact hbe)]
    · rw [List.getElem?_set, if_pos rfl, if_pos (by rw [inBL_length]; exact hbe)]
  | @els k b h hb hk ih =>
    have := hc.next k
    unfold stepB at this
    rw [hb] at this
    simp only at this
    rw [if_pos ih, if_neg (by omega), if_pos hk] at this
    have hbe := (he b (List.mem_of_getElem? hb)).2 hk
    rw [← this, List.getElem?_set, if_pos rfl, if_pos (by rw [List.length_set, inBL_length]; exact hbe)]
end
end Go.Proofs.Ytgadlpdbkohlbaa
namespace Go.Proofs.Ytgadlpdbkohlbaa
open Go.RowKit
def gB (f : Func) (v : Int) : Int := nst (inBL f) v.toNat
def endT (f : Func) (b : Block) : Block := { b with to := if b.kind = 3 then b.to else gB f b.to, els := if b.kind = 2 then gB f b.els else b.els }
def trimF (f : Func) : Func := { f with blocks := (sel (inBL f) f.blocks).map fun b => endT f (trimB b) }
def trimM (m : Module) : Module := mapM trimF m
theorem endsIn {f : Func} (h : funcOk f = true) : EndsIn f := fun b hb => by
 have hbk := (blockOk_iff.1 (List.all_eq_true.1 (funcOk_all h) b hb)).2.2.2.2
 have hg : ∀ (to : Int) (l : List Int) (n : Int), goesB f to l n = true → to.toNat < f.blocks.length := fun to l n hg => by
  obtain ⟨_, ⟨c, hc, _⟩, _⟩ := goesB_iff.1 hg
  exact (List.getElem?_eq_some_iff.1 hc).1
 rcases endB_iff.1 hbk with ⟨e1, e2, _⟩ | ⟨e1, _, e3, e4⟩ | ⟨e1, _⟩
 ·exact ⟨fun _ => hg _ _ _ e2, fun h => by omega⟩
 ·exact ⟨fun _ => hg _ _ _ e3, fun _ => hg _ _ _ e4⟩
 ·exact ⟨fun h => absurd e1 h, fun h => by omega⟩
section
variable {f : Func}
theorem trimF_at (h : funcOk f = true) {k : Nat} {b : Block} (hr : RchB f k) (hb : f.blocks[k]? = some b) : (trimF f).blocks[nst (inBL f) k]? = some (endT f (trimB b)) := by
 show ((sel (inBL f) f.blocks).map fun b => endT f (trimB b))[nst (inBL f) k]? = _
 rw [List.getElem?_map, sel_at ((inBL_iff (endsIn h) k).2 hr) hb]
 rfl
theorem trimF_of (h : funcOk f = true) {b' : Block} (hb : b' ∈ (trimF f).blocks) : ∃ k b, RchB f k ∧ f.blocks[k]? = some b ∧ b' = endT f (trimB b) := by
 obtain ⟨b, hb2, rfl⟩ := List.mem_map.1 hb
 obtain ⟨k, h1, h2⟩ := sel_mem hb2
 exact ⟨k, b, (inBL_iff (endsIn h) k).1 h1, h2, rfl⟩
@[simp] theorem endT_params (b : Block) : (endT f (trimB b)).params = b.params := rfl
@[simp] theorem endT_ins (b : Block) : (endT f (trimB b)).ins = trimIns b := rfl
@[simp] theorem endT_kind (b : Block) : (endT f (trimB b)).kind = b.kind := rfl
@[simp] theorem endT_ta (b : Block) : (endT f (trimB b)).ta = if b.kind = 1 then b.ta else gT b b.ta := rfl
@[simp] theorem endT_to (b : Block) : (endT f (trimB b)).to = if b.kind = 3 then b.to else gB f b.to := rfl
@[simp] theorem endT_els (b : Block) : (endT f (trimB b)).els = if b.kind = 2 then gB f b.els else b.els := rfl
@[simp] theorem endT_args (b : Block) : (endT f (trimB b)).args = b.args.map (gT b) := rfl
@[simp] theorem endT_elses (b : Block) : (endT f (trimB b)).elses = b.elses.map (gT b) := rfl
theorem gB_nat (f : Func) (v : Int) : (gB f v).toNat = nst (inBL f) v.toNat := by unfold gB; omega
theorem trim_goes (h : funcOk f = true) {b : Block} (hb : blockOk f b = true) {to : Int} {l : List Int} (hr : RchB f to.toNat) (hg : goesB f to l (b.params + b.ins.length) = true) (hl : ∀ v ∈ l, v ∈ endsL b) : goesB (trimF f) (gB f to) (l.map (gT b)) (b.params + (trimIns b).length) = true := by
 obtain ⟨h1, ⟨c, h2, h3⟩, h4⟩ := goesB_iff.1 hg
 refine goesB_iff.2 ⟨by unfold gB; omega, ⟨_, by rw [gB_nat]; exact trimF_at h hr h2, by simpa using h3⟩, fun v hv => ?_⟩
 obtain ⟨u, hu, rfl⟩ := List.mem_map.1 hv
 exact gT_ends (blkFit hb) (hl u hu)
theorem trim_block (h : funcOk f = true) {k : Nat} {b : Block} (hr : RchB f k) (hb : f.blocks[k]? = some b) : blockOk (trimF f) (endT f (trimB b)) = true := by
 have hbk : blockOk f b = true := List.all_eq_true.1 (funcOk_all h) b (List.mem_of_getElem? hb)
 have hfit := blkFit hbk
 obtain ⟨h0, h6, h32, hi, he⟩ := blockOk_iff.1 hbk
 refine blockOk_iff.2 ⟨h0, h6, Nat.le_trans (trimIns_le b) h32, fun j hj => ?_, ?_⟩
 ·simp only [endT_ins, endT_params] at hj ⊢
  obtain ⟨i, x, hx, hs, hn, hy⟩ := trimIns_of (List.getElem?_eq_getElem hj)
  rw [hy]
  have hik := (List.getElem?_eq_some_iff.1 hx).1
  have hxo := hi i hik
  rw [(List.getElem?_eq_some_iff.1 hx).2] at hxo
  refine mapInst_ok' hxo fun v hv => ?_
  have := gT_ins hfit hx hs hv
  rw [hn] at this
  exact this
 ·rw [endB_iff] at he ⊢
  simp only [endT_kind, endT_params, endT_ins, endT_ta, endT_to, endT_els, endT_args, endT_elses]
  rcases he with ⟨e1, e2, e3, e4, e5⟩ | ⟨e1, e2, e3, e4⟩ | ⟨e1, e2, e3, e4, e5, e6⟩
  ·rw [if_neg (by omega), if_pos e1, if_neg (by omega)]
   exact .inl ⟨e1, trim_goes h hbk (.to hr hb (by omega)) e2 (fun v hv => by unfold endsL; simp [hv]), e3, e4, by rw [e5]; rfl⟩
  ·rw [if_neg (by omega), if_neg (by omega), if_pos e1]
   exact .inr (.inl ⟨e1, gT_ends hfit (by unfold endsL; rw [if_neg (by omega)]; simp), trim_goes h hbk (.to hr hb (by omega)) e3 (fun v hv => by unfold endsL; simp [hv]), trim_goes h hbk (.els hr hb e1) e4 (fun v hv => by unfold endsL; simp [hv])⟩)
  ·rw [if_pos e1, if_neg (by omega), if_neg (by omega)]
   exact .inr (.inr ⟨e1, gT_ends hfit (by unfold endsL; rw [if_neg (by omega)]; simp), e3, by rw [e4]; rfl, e5, by rw [e6]; rfl⟩)
end
theorem trim_map {m : Module} (hok : ModOk m) : MapF m trimF where
 name _ _ := rfl
 params _ _ := rfl
 ok f hf := by
  have h := hok.funcs f hf
  have hlen : (trimF f).blocks.length ≤ f.blocks.length := by
   show ((sel (inBL f) f.blocks).map _).length ≤ _
   rw [List.length_map, sel_length (by simp)]
   exact nst_le _ _
  have hz : (trimF f).blocks.length = 0 ↔ f.blocks.length = 0 := by
   constructor
   ·intro h0
    refine Classical.byContradiction fun hne => ?_
    have hp : 0 < f.blocks.length := by omega
    have := trimF_at h (.first hp) (List.getElem?_eq_getElem hp)
    have := (List.getElem?_eq_some_iff.1 this).1
    omega
   ·omega
  refine funcOk_mk h rfl rfl rfl hlen hz (fun b hb => ?_) (fun b hb => ?_)
  ·have hp : 0 < f.blocks.length := by
    have := (List.getElem?_eq_some_iff.1 hb).1
    omega
   have e := trimF_at h (.first hp) (List.getElem?_eq_getElem hp)
   rw [nst_zero, hb] at e
   injection e with e
   rw [e, endT_params]
   exact funcOk_first h hp
  ·obtain ⟨k, c, hr, hc, rfl⟩ := trimF_of h hb
   exact trim_block h hr hc
 blocks f hf := by
  have h := hok.funcs f hf
  constructor
  ·intro h0
   refine Classical.byContradiction fun hne => ?_
   have hp : 0 < f.blocks.length := by omega
   have := trimF_at h (.first hp) (List.getElem?_eq_getElem hp)
   have := (List.getElem?_eq_some_iff.1 this).1
   omega
  ·intro h0
   show ((sel (inBL f) f.blocks).map _).length = 0
   rw [List.length_eq_zero_iff.1 h0]
   simp
 ins f hf x hx _ := by
  obtain ⟨b', hb', hx⟩ := List.mem_flatMap.1 hx
  obtain ⟨k, b, _, hb, rfl⟩ := trimF_of (hok.funcs f hf) hb'
  rw [endT_ins] at hx
  obtain ⟨j, hj, rfl⟩ := List.getElem_of_mem hx
  obtain ⟨i, y, hy, _, _, e⟩ := trimIns_of (List.getElem?_eq_getElem hj)
  rw [e]
  exact ⟨y, List.mem_flatMap.2 ⟨b, List.mem_of_getElem? hb, List.mem_of_getElem? hy⟩, rfl, rfl, by simp [mapInst]⟩
theorem trim_ok {m : Module} (h : ModOk m) : ModOk (trimM m) := (trim_map h).okM h
def RTrim (f : Func) (at' i : Nat) (vals : List Int) (f2 : Func) (at2 i2 : Nat) (vals2 : List Int) : Prop :=
 f2 = trimF f ∧ RchB f at' ∧ at2 = nst (inBL f) at' ∧ ∀ b, f.blocks[at']? = some b → i2 = nst ((stayL b).drop b.params.toNat) i ∧ vals2 = sel (stayL b) vals
theorem RTrim.start {f : Func} (h : funcOk f = true) {k : Nat} (hr : RchB f k) {vals : List Int} (hl : ∀ b, f.blocks[k]? = some b → (vals.length : Int) = b.params) : RTrim f k 0 vals (trimF f) (nst (inBL f) k) 0 vals :=
 ⟨rfl, hr, rfl, fun b hb => ⟨rfl, (sel_all fun i hi => stayL_param (by have := hl b hb; omega)).symm⟩⟩
end Go.Proofs.Ytgadlpdbkohlbaa
namespace Go.Proofs.Ytgadlpdbkohlbaa
open Go.RowKit
structure OnePut (m : Module) (fi : Nat) (f0 : Func) (bi : Nat) (b0 : Block) (ak : Nat) (x0 : Inst) (g0 : Func) (l : Block) : Prop where
 hf : m.funcs[fi]? = some f0
 hb : f0.blocks[bi]? = some b0
 hx : b0.ins[ak]? = some x0
 h14 : x0.op = 14
 hg : findF m x0.name = some g0
 hl : g0.blocks = [l]
 hk : l.kind = 3
 hno : ∀ i ∈ l.ins, ¬ i.op = 14
 h32 : b0.ins.length - 1 + l.ins.length ≤ 32
def putF (f0 : Func) (bi : Nat) (b0 : Block) (ak : Nat) (l : Block) : Func := { f0 with blocks := f0.blocks.set bi (putB b0 l ak) }
def putM (m : Module) (fi : Nat) (f0 : Func) (bi : Nat) (b0 : Block) (ak : Nat) (l : Block) : Module := { m with funcs := m.funcs.set fi (putF f0 bi b0 ak l) }
section
variable {m : Module} {fi : Nat} {f0 : Func} {bi : Nat} {b0 : Block} {ak : Nat} {x0 : Inst} {g0 : Func} {l : Block}
structure PutFacts (m : Module) (f0 : Func) (b0 : Block) (ak : Nat) (x0 : Inst) (g0 : Func) (l : Block) (P Q : Nat) : Prop where
 f0m : f0 ∈ m.funcs
 b0m : b0 ∈ f0.blocks
 x0m : x0 ∈ allIns f0
 g0m : g0 ∈ m.funcs
 g0n : g0.name = x0.name
 lm : l ∈ g0.blocks
 hP : b0.params = (P : Int)
 hQ : l.params = (Q : Int)
 len : x0.args.length = Q
 bOk : blockOk f0 b0 = true
 lOk : blockOk g0 l = true
 xOk : instOk x0 (P + ak) = true
 ta : 0 ≤ l.ta ∧ l.ta < Q + l.ins.length
 lt : ak < b0.ins.length
theorem OnePut.facts (h : OnePut m fi f0 bi b0 ak x0 g0 l) (hok : ModOk m) : ∃ P Q, PutFacts m f0 b0 ak x0 g0 l P Q := by
 have hfm := List.mem_of_getElem? h.hf
 have hbm := List.mem_of_getElem? h.hb
 have hxm : x0 ∈ allIns f0 := List.mem_flatMap.2 ⟨b0, hbm, List.mem_of_getElem? h.hx⟩
 have hgm := List.mem_of_find?_eq_some h.hg
 have hgn : g0.name = x0.name := by simpa using List.find?_some h.hg
 have hlm : l ∈ g0.blocks := by rw [h.hl]; simp
 have hbo := List.all_eq_true.1 (funcOk_all (hok.funcs f0 hfm)) b0 hbm
 have hlo := List.all_eq_true.1 (funcOk_all (hok.funcs g0 hgm)) l hlm
 obtain ⟨p0, p6, _, hins, _⟩ := blockOk_iff.1 hbo
 obtain ⟨l0, l6, _, _, le⟩ := blockOk_iff.1 hlo
 obtain ⟨P, hP⟩ := Int.eq_ofNat_of_zero_le p0
 obtain ⟨Q, hQ⟩ := Int.eq_ofNat_of_zero_le l0
 have hlt : ak < b0.ins.length := (List.getElem?_eq_some_iff.1 h.hx).1
 obtain ⟨g', hg', hgn', hgp'⟩ := hok.call (mem_insM hfm hxm) h.h14
 have e : g' = g0 := name_uniq hok.fnodup hg' hgm (hgn'.trans hgn.symm)
 subst e
 have hq : l.params = g'.params := by
  have := funcOk_first (hok.funcs g' hgm) (by rw [h.hl]; simp)
  simpa [h.hl] using this
 refine ⟨P, Q, hfm, hbm, hxm, hgm, hgn, hlm, hP, hQ, by omega, hbo, hlo, ?_, ?_, hlt⟩
 ·have := hins ak hlt
  rw [(List.getElem?_eq_some_iff.1 h.hx).2, hP] at this
  exact this
 ·have hk := h.hk
  rw [endB_iff] at le
  rcases le with ⟨e, _⟩ | ⟨e, _⟩ | ⟨_, e, _⟩
  ·omega
  ·omega
  ·rw [hQ] at e; exact e
theorem putF_same (h : OnePut m fi f0 bi b0 ak x0 g0 l) : SameParams f0 (putF f0 bi b0 ak l) := by
 refine ⟨by simp [putF], fun k b hb => ?_⟩
 simp only [putF]
 rw [List.getElem?_set]
 by_cases hk : bi = k
 ·subst hk
  rw [h.hb] at hb
  injection hb with hb
  subst hb
  rw [if_pos rfl, if_pos (List.getElem?_eq_some_iff.1 h.hb).1]
  exact ⟨_, rfl, rfl⟩
 ·rw [if_neg hk]
  exact ⟨b, hb, rfl⟩
theorem putF_blocks (h : OnePut m fi f0 bi b0 ak x0 g0 l) {b : Block} (hb : b ∈ (putF f0 bi b0 ak l).blocks) : b ∈ f0.blocks ∨ b = putB b0 l ak := List.mem_or_eq_of_mem_set hb
theorem putF_ok (h : OnePut m fi f0 bi b0 ak x0 g0 l) (hok : ModOk m) : funcOk (putF f0 bi b0 ak l) = true := by
 obtain ⟨P, Q, hF⟩ := h.facts hok
 have hf := hok.funcs f0 hF.f0m
 have hs := putF_same h
 have hbl := (List.getElem?_eq_some_iff.1 h.hb).1
 have hall : (putF f0 bi b0 ak l).blocks.all (blockOk (putF f0 bi b0 ak l)) = true := List.all_eq_true.2 fun b hb => by
  rcases putF_blocks h hb with hb | rfl
  ·exact blockOk_same hs (List.all_eq_true.1 (funcOk_all hf) b hb)
  ·exact putB_ok hs hF.bOk hF.lOk h.hk hF.hP hF.hQ h.hx h.h14 hF.len h.h32
 exact funcOk_with hf hs hall rfl rfl rfl (by omega)
theorem put_from (h : OnePut m fi f0 bi b0 ak x0 g0 l) (hok : ModOk m) {y : Inst} (hy : y ∈ allIns (putF f0 bi b0 ak l)) : ∃ f ∈ m.funcs, ∃ x ∈ allIns f, y.op = x.op ∧ y.name = x.name ∧ y.args.length = x.args.length := by
 obtain ⟨P, Q, hF⟩ := h.facts hok
 obtain ⟨b, hb, hyb⟩ := List.mem_flatMap.1 hy
 rcases putF_blocks h hb with hb | rfl
 ·exact ⟨f0, hF.f0m, y, List.mem_flatMap.2 ⟨b, hb, hyb⟩, rfl, rfl, rfl⟩
 ·have hin : ∀ x ∈ b0.ins, x ∈ allIns f0 := fun x hx => List.mem_flatMap.2 ⟨b0, hF.b0m, hx⟩
  simp only [putB, List.mem_append, List.mem_map] at hyb
  rcases hyb with (hyb | ⟨x, hx, rfl⟩) | ⟨x, hx, rfl⟩
  ·exact ⟨f0, hF.f0m, y, hin y (List.mem_of_mem_take hyb), rfl, rfl, rfl⟩
  ·exact ⟨g0, hF.g0m, x, List.mem_flatMap.2 ⟨l, hF.lm, hx⟩, rfl, rfl, by simp [mapInst]⟩
  ·exact ⟨f0, hF.f0m, x, hin x (List.mem_of_mem_drop hx), rfl, rfl, by simp [mapInst]⟩
theorem put_funcs (h : OnePut m fi f0 bi b0 ak x0 g0 l) {f : Func} (hf : f ∈ (putM m fi f0 bi b0 ak l).funcs) : f ∈ m.funcs ∨ f = putF f0 bi b0 ak l := List.mem_or_eq_of_mem_set hf
theorem find?_set {α β : Type} [DecidableEq β] (key : α → β) (s : β) : ∀ (xs : List α) (i : Nat) (x y : α), xs[i]? = some x → key y = key x → (xs.map key).Nodup →
    (xs.set i y).find? (fun a => decide (key a = s)) = if key x = s then some y else xs.find? (fun a => decide (key a = s))
  | [], _, _, _, h, _, _ => by simp at h
  | a :: xs, 0, x, y, h, hk, _ => by
    simp only [List.getElem?_cons_zero] at h
    injection h with h
    subst h
    by_cases e : key a = s
    · simp [e, hk]
    · simp [e, hk]
  | a :: xs, i + 1, x, y, h, hk, hn => by
    simp only [List.getElem?_cons_succ] at h
    simp only [List.map_cons, List.nodup_cons] at hn
    have ih := find?_set key s xs i x y h hk hn.2
    have hne : key a ≠ key x := fun e => hn.1 (by rw [e]; exact List.mem_map.2 ⟨x, List.mem_of_getElem? h, rfl⟩)
    by_cases e : key a = s
    · have : ¬ key x = s := fun e' => hne (e.trans e'.symm)
      simp [e, this]
    · simp only [List.set_cons_succ, List.find?_cons, decide_eq_false e, ih]
theorem findF_put (h : OnePut m fi f0 bi b0 ak x0 g0 l) (hok : ModOk m) (s : ByteArray) : findF (putM m fi f0 bi b0 ak l) s = if f0.name = s then some (putF f0 bi b0 ak l) else findF m s := by
 unfold findF putM
 exact find?_set (fun f : Func => f.name) s m.funcs fi f0 _ h.hf rfl hok.fnodup
theorem put_names (h : OnePut m fi f0 bi b0 ak x0 g0 l) : namesM (putM m fi f0 bi b0 ak l) = namesM m := by
 have : (m.funcs.set fi (putF f0 bi b0 ak l)).map (·.name) = m.funcs.map (·.name) := by
  apply List.ext_getElem?
  intro k
  simp only [List.getElem?_map, List.getElem?_set]
  by_cases hk : fi = k
  ·subst hk
   rw [if_pos rfl, if_pos (List.getElem?_eq_some_iff.1 h.hf).1, h.hf]
   rfl
  ·rw [if_neg hk]
 unfold namesM fnames gnames putM
 rw [this]
theorem put_mem (h : OnePut m fi f0 bi b0 ak x0 g0 l) (hok : ModOk m) {g : Func} (hg : g ∈ m.funcs) : ∃ g' ∈ (putM m fi f0 bi b0 ak l).funcs, g'.name = g.name ∧ g'.params = g.params := by
 have hf0m := List.mem_of_getElem? h.hf
 by_cases e : g.name = f0.name
 ·obtain rfl := name_uniq hok.fnodup hg hf0m e
  exact ⟨putF g bi b0 ak l, List.mem_of_getElem? (i := fi) (by simp only [putM]; rw [List.getElem?_set, if_pos rfl, if_pos (List.getElem?_eq_some_iff.1 h.hf).1]), rfl, rfl⟩
 ·obtain ⟨k, hk, rfl⟩ := List.getElem_of_mem hg
  refine ⟨m.funcs[k], List.mem_of_getElem? (i := k) ?_, rfl, rfl⟩
  simp only [putM]
  rw [List.getElem?_set, if_neg, List.getElem?_eq_getElem hk]
  rintro rfl
  have := h.hf
  rw [List.getElem?_eq_getElem hk] at this
  injection this with this
  exact e (by rw [this])
theorem put_ok (h : OnePut m fi f0 bi b0 ak x0 g0 l) (hok : ModOk m) : ModOk (putM m fi f0 bi b0 ak l) := by
 have hfrom : ∀ f ∈ (putM m fi f0 bi b0 ak l).funcs, ∀ y ∈ allIns f, ∃ f' ∈ m.funcs, ∃ x ∈ allIns f', y.op = x.op ∧ y.name = x.name ∧ y.args.length = x.args.length := fun f hf y hy => by
  rcases put_funcs h hf with hf | rfl
  ·exact ⟨f, hf, y, hy, rfl, rfl, rfl⟩
  ·exact put_from h hok hy
 refine .mk' (by simpa [putM] using hok.nf) hok.ng (fun f hf => ?_) hok.globs (by rw [put_names h]; exact hok.names) (fun f hf y hy h14 => ?_) (fun f hf y hy h12 => ?_)
 ·rcases put_funcs h hf with hf | rfl
  ·exact hok.funcs f hf
  ·exact putF_ok h hok
 ·obtain ⟨f', hf', x, hx, e1, e2, e3⟩ := hfrom f hf y hy
  obtain ⟨g, hg, hgn, hgp⟩ := hok.call (mem_insM hf' hx) (by omega)
  obtain ⟨g', hg', hn, hp⟩ := put_mem h hok hg
  exact ⟨g', hg', by rw [hn, hgn, e2], by rw [hp, hgp, e3]⟩
 ·obtain ⟨f', hf', x, hx, e1, e2, e3⟩ := hfrom f hf y hy
  obtain ⟨g, hg, hgn⟩ := hasG_iff.1 ((missI_false (hok.miss x (mem_insM hf' hx))).2 (by rw [← e1]; exact h12))
  exact ⟨g, hg, by rw [hgn, e2]⟩
theorem thereB_put (h : OnePut m fi f0 bi b0 ak x0 g0 l) (hok : ModOk m) (s : ByteArray) : thereB (putM m fi f0 bi b0 ak l) s = thereB m s := by
 have hf0m := List.mem_of_getElem? h.hf
 unfold thereB
 rw [findF_put h hok]
 by_cases e : f0.name = s
 ·rw [if_pos e, ← e, findF_uniq hok hf0m]
  simp [putF]
 ·rw [if_neg e]
  rfl
theorem put_whole (h : OnePut m fi f0 bi b0 ak x0 g0 l) (hw : wholeE m = 0) : wholeE (putM m fi f0 bi b0 ak l) = 0 := by
 obtain ⟨hok, hm, ht⟩ := wholeE_zero.1 hw
 have hf0m := List.mem_of_getElem? h.hf
 refine wholeE_zero.2 ⟨put_ok h hok, ?_, fun s hs => ?_⟩
 ·unfold mainB at hm ⊢
  rw [findF_put h hok]
  by_cases e : f0.name = mainS
  ·rw [if_pos e]
   rw [← e, findF_uniq hok hf0m] at hm
   have e1 : (putF f0 bi b0 ak l).blocks.length = f0.blocks.length := by simp [putF]
   show (decide ((putF f0 bi b0 ak l).blocks.length ≠ 0) && decide ((putF f0 bi b0 ak l).params = 0)) = true
   rw [e1]
   exact hm
  ·rw [if_neg e]
   exact hm
 ·rw [thereB_put h hok]
  refine ht s ?_
  obtain ⟨f, hf, hs⟩ := List.mem_flatMap.1 hs
  obtain ⟨y, hy, rfl⟩ := List.mem_map.1 hs
  obtain ⟨hy1, hy2⟩ := List.mem_filter.1 hy
  have : ∃ f' ∈ m.funcs, ∃ x ∈ allIns f', y.op = x.op ∧ y.name = x.name ∧ y.args.length = x.args.length := by
   rcases put_funcs h hf with hf | rfl
   ·exact ⟨f, hf, y, hy1, rfl, rfl, rfl⟩
   ·exact put_from h hok hy1
  obtain ⟨f', hf', x, hx, e1, e2, _⟩ := this
  exact List.mem_flatMap.2 ⟨f', hf', List.mem_map.2 ⟨x, List.mem_filter.2 ⟨hx, by rw [← e1]; exact hy2⟩, e2.symm⟩⟩
end
end Go.Proofs.Ytgadlpdbkohlbaa
namespace Go.Proofs.Ytgadlpdbkohlbaa
open Go.RowKit
section
variable {m : Module} {fi : Nat} {f0 : Func} {bi : Nat} {b0 : Block} {ak : Nat} {x0 : Inst} {g0 : Func} {l : Block} {P Q : Nat}
end
end Go.Proofs.Ytgadlpdbkohlbaa
namespace Go.Proofs.Ytgadlpdbkohlbaa
open Go.RowKit
def leafB (f : Func) (budget : Int) : Bool := match f.blocks with
 | [b] => decide (b.kind = 3) && decide ((b.ins.length : Int) ≤ budget) && !b.ins.any fun i => decide (i.op = 14)
 | _ => false
def leafL (m : Module) (budget : Int) (s : ByteArray) : Option Block := match findF m s with
 | some f => if leafB f budget = true then f.blocks[0]? else none
 | none => none
def blockI (m : Module) (budget : Int) : Nat → Block → Nat → Block
  | 0, b, _ => b
  | n + 1, b, at' => match b.ins[at']? with
    | none => b
    | some x => if x.op = 14 then (match leafL m budget x.name with
        | some l => if putYes b l at' = true then blockI m budget n (putB b l at') (at' + l.ins.length) else blockI m budget n b (at' + 1)
        | none => blockI m budget n b (at' + 1)) else blockI m budget n b (at' + 1)
def inlB (m : Module) (budget : Int) (b : Block) : Block := blockI m budget b.ins.length b 0
def inlF (m : Module) (budget : Int) (f : Func) : Func := { f with blocks := f.blocks.map (inlB m budget) }
def inlM (m : Module) (budget : Int) : Module := if checkE m = 0 then { m with funcs := m.funcs.map (inlF m budget) } else m
theorem leafB_iff {f : Func} {budget : Int} : leafB f budget = true ↔ ∃ b, f.blocks = [b] ∧ b.kind = 3 ∧ (b.ins.length : Int) ≤ budget ∧ ∀ i ∈ b.ins, ¬ i.op = 14 := by
 unfold leafB
 split
 ·rename_i b hb
  simp [hb, and_assoc]
 ·rename_i hb
  constructor
  ·intro h; cases h
  ·rintro ⟨b, h, _⟩; exact absurd h (hb b)
theorem leafL_some {m : Module} {budget : Int} {s : ByteArray} {l : Block} (h : leafL m budget s = some l) : ∃ f, findF m s = some f ∧ f.blocks = [l] ∧ l.kind = 3 ∧ ∀ i ∈ l.ins, ¬ i.op = 14 := by
 unfold leafL at h
 split at h
 ·rename_i f hf
  split at h
  ·rename_i hl
   obtain ⟨b, h1, h2, _, h4⟩ := leafB_iff.1 hl
   rw [h1] at h
   simp only [List.getElem?_cons_zero] at h
   injection h with h
   subst h
   exact ⟨f, hf, h1, h2, h4⟩
  ·cases h
 ·cases h
inductive Puts (m : Module) : Module → Prop
 | refl : Puts m m
 | step {M : Module} {fi : Nat} {f0 : Func} {bi : Nat} {b0 : Block} {ak : Nat} {x0 : Inst} {g0 : Func} {l : Block} (h : Puts m M) (hp : OnePut M fi f0 bi b0 ak x0 g0 l) : Puts m (putM M fi f0 bi b0 ak l)
theorem Puts.ok {m M : Module} (h : Puts m M) (hok : ModOk m) : ModOk M := by
 induction h with
 | refl => exact hok
 | step _ hp ih => exact put_ok hp ih
theorem Puts.whole {m M : Module} (h : Puts m M) (hw : wholeE m = 0) : wholeE M = 0 := by
 induction h with
 | refl => exact hw
 | step _ hp ih => exact put_whole hp ih
def Plain1 (f : Func) : Prop := ∃ b, f.blocks = [b] ∧ ∀ i ∈ b.ins, ¬ i.op = 14
structure Based (m M : Module) : Prop where
 globs : M.globs = m.globs
 funcs : M.funcs.length = m.funcs.length
 f : ∀ (i : Nat) (f F : Func), m.funcs[i]? = some f → M.funcs[i]? = some F → F.name = f.name ∧ F.bind = f.bind ∧ F.params = f.params ∧ F.blocks.length = f.blocks.length ∧ (Plain1 f → F = f)
theorem findF_at {m : Module} (hok : ModOk m) {s : ByteArray} {f : Func} (h : findF m s = some f) : ∃ i : Nat, m.funcs[i]? = some f ∧ f.name = s := by
 obtain ⟨i, hi, rfl⟩ := List.getElem_of_mem (List.mem_of_find?_eq_some h)
 exact ⟨i, List.getElem?_eq_getElem hi, by simpa using List.find?_some h⟩
theorem Based.leaf {m M : Module} (hB : Based m M) (hok : ModOk m) (hokM : ModOk M) {s : ByteArray} {g : Func} {l : Block} (h : findF m s = some g) (hl : g.blocks = [l]) (hno : ∀ i ∈ l.ins, ¬ i.op = 14) : findF M s = some g := by
 obtain ⟨i, hi, hn⟩ := findF_at hok h
 have hlt := (List.getElem?_eq_some_iff.1 hi).1
 have hi' : M.funcs[i]? = some (M.funcs[i]'(by rw [hB.funcs]; exact hlt)) := List.getElem?_eq_getElem _
 obtain ⟨_, _, _, _, e⟩ := hB.f i g _ hi hi'
 have e := e ⟨l, hl, hno⟩
 rw [e] at hi'
 rw [← hn]
 exact findF_uniq hokM (List.mem_of_getElem? hi')
def BlkAt (M : Module) (fi bi : Nat) (b : Block) : Prop := ∃ f : Func, M.funcs[fi]? = some f ∧ f.blocks[bi]? = some b
structure BlkSet (M M' : Module) (fi bi : Nat) (b : Block) : Prop where
 at_ : BlkAt M' fi bi b
 other : ∀ i j c, BlkAt M i j c → ¬ (i = fi ∧ j = bi) → BlkAt M' i j c
theorem blkSet_put {M : Module} {fi : Nat} {f0 : Func} {bi : Nat} {b0 : Block} {ak : Nat} {x0 : Inst} {g0 : Func} {l : Block} (h : OnePut M fi f0 bi b0 ak x0 g0 l) : BlkSet M (putM M fi f0 bi b0 ak l) fi bi (putB b0 l ak) := by
 have hfl := (List.getElem?_eq_some_iff.1 h.hf).1
 have hbl := (List.getElem?_eq_some_iff.1 h.hb).1
 have hfi : (putM M fi f0 bi b0 ak l).funcs[fi]? = some (putF f0 bi b0 ak l) := by simp only [putM]; rw [List.getElem?_set, if_pos rfl, if_pos hfl]
 refine ⟨⟨_, hfi, by simp only [putF]; rw [List.getElem?_set, if_pos rfl, if_pos hbl]⟩, fun i j c hc hne => ?_⟩
 obtain ⟨f, hf, hc⟩ := hc
 by_cases hi : i = fi
 ·subst hi
  rw [h.hf] at hf
  injection hf with hf
  subst hf
  refine ⟨_, hfi, ?_⟩
  simp only [putF]
  rw [List.getElem?_set, if_neg (fun e => hne ⟨rfl, e.symm⟩)]
  exact hc
 ·refine ⟨f, ?_, hc⟩
  simp only [putM]
  rw [List.getElem?_set, if_neg (fun e => hi e.symm)]
  exact hf
theorem based_put {m M : Module} (hB : Based m M) {fi : Nat} {f0 : Func} {bi : Nat} {b0 : Block} {ak : Nat} {x0 : Inst} {g0 : Func} {l : Block} (h : OnePut M fi f0 bi b0 ak x0 g0 l) : Based m (putM M fi f0 bi b0 ak l) := by
 have hfl := (List.getElem?_eq_some_iff.1 h.hf).1
 refine ⟨hB.globs, by simp [putM, hB.funcs], fun i f F hf hF => ?_⟩
 simp only [putM] at hF
 rw [List.getElem?_set] at hF
 by_cases hi : fi = i
 ·subst hi
  rw [if_pos rfl, if_pos hfl] at hF
  injection hF with hF
  obtain ⟨a1, a2, a3, a4, a5⟩ := hB.f fi f f0 hf h.hf
  subst hF
  refine ⟨a1, a2, a3, by simp [putF, a4], fun hp => ?_⟩
  exfalso
  have e := a5 hp
  obtain ⟨b, hb, hno⟩ := hp
  have h1 := h.hb
  rw [e, hb] at h1
  have h2 : b0 = b := by
   cases bi with
   | zero => simp at h1; exact h1.symm
   | succ k => simp at h1
  exact hno x0 (h2 ▸ List.mem_of_getElem? h.hx) h.h14
 ·rw [if_neg hi] at hF
  exact hB.f i f F hf hF
theorem putYes_iff {b l : Block} {ak : Nat} : putYes b l ak = true ↔ ak < b.ins.length ∧ (b.ins[ak]?.getD default).op = 14 ∧ ((b.ins[ak]?.getD default).args.length : Int) = l.params ∧ l.kind = 3 ∧ (b.ins.length : Int) - 1 + l.ins.length ≤ 32 := by
 unfold putYes insAt
 simp only [Bool.and_eq_true, decide_eq_true_eq, Int.toNat_natCast]
 omega
theorem puts_block {m : Module} (hok : ModOk m) (budget : Int) (fi bi : Nat) : ∀ (n : Nat) (M : Module) (b : Block) (at' : Nat), Puts m M → Based m M → BlkAt M fi bi b →
    ∃ M', Puts m M' ∧ Based m M' ∧ BlkSet M M' fi bi (blockI m budget n b at') := by
  intro n
  induction n with
  | zero => intro M b at' hP hB hb; exact ⟨M, hP, hB, hb, fun _ _ _ h _ => h⟩
  | succ n ih =>
    intro M b at' hP hB hb
    unfold blockI
    cases hx : b.ins[at']? with
    | none => exact ⟨M, hP, hB, hb, fun _ _ _ h _ => h⟩
    | some x =>
      simp only
      by_cases h14 : x.op = 14
      · rw [if_pos h14]
        cases hl : leafL m budget x.name with
        | none => exact ih M b (at' + 1) hP hB hb
        | some l =>
          simp only
          by_cases hy : putYes b l at' = true
          · rw [if_pos hy]
            obtain ⟨y1, y2, y3, y4, y5⟩ := putYes_iff.1 hy
            obtain ⟨g, hg, hgl, hk, hno⟩ := leafL_some hl
            obtain ⟨f0, hf0, hb0⟩ := hb
            have hone : OnePut M fi f0 bi b at' x g l := ⟨hf0, hb0, hx, h14, hB.leaf hok (hP.ok hok) hg hgl hno, hgl, hk, hno, by omega⟩
            obtain ⟨M', h1, h2, h3⟩ := ih (putM M fi f0 bi b at' l) (putB b l at') (at' + l.ins.length) (hP.step hone) (based_put hB hone) (blkSet_put hone).at_
            exact ⟨M', h1, h2, h3.at_, fun i j c hc hne => h3.other i j c ((blkSet_put hone).other i j c hc hne) hne⟩
          · rw [if_neg hy]
            exact ih M b (at' + 1) hP hB hb
      · rw [if_neg h14]
        exact ih M b (at' + 1) hP hB hb
structure Done (m M : Module) (budget : Int) (L : List (Nat × Nat)) : Prop where
 puts : Puts m M
 based : Based m M
 blk : ∀ i j b, BlkAt m i j b → BlkAt M i j (if (i, j) ∈ L then inlB m budget b else b)
theorem done_all {m : Module} (hok : ModOk m) (budget : Int) : ∀ L : List (Nat × Nat), ∃ M, Done m M budget L
  | [] => ⟨m, .refl, ⟨rfl, rfl, fun i f F h1 h2 => by rw [h1] at h2; injection h2 with h2; subst h2; exact ⟨rfl, rfl, rfl, rfl, fun _ => rfl⟩⟩, fun i j b h => by simpa using h⟩
  | (fi, bi) :: L => by
    obtain ⟨M, hM⟩ := done_all hok budget L
    by_cases hin : (fi, bi) ∈ L
    · exact ⟨M, hM.puts, hM.based, fun i j b h => by
        have e : ((i, j) ∈ (fi, bi) :: L) ↔ (i, j) ∈ L := by
          rw [List.mem_cons]
          exact ⟨fun h => h.elim (fun e => e ▸ hin) id, .inr⟩
        have := hM.blk i j b h
        by_cases hc : (i, j) ∈ L
        · rw [if_pos hc] at this; rw [if_pos (e.2 hc)]; exact this
        · rw [if_neg hc] at this; rw [if_neg (fun h => hc (e.1 h))]; exact this⟩
    · by_cases hb : ∃ b, BlkAt m fi bi b
      · obtain ⟨b, hb⟩ := hb
        have hbM := hM.blk fi bi b hb
        rw [if_neg hin] at hbM
        obtain ⟨M', h1, h2, h3⟩ := puts_block hok budget fi bi b.ins.length M b 0 hM.puts hM.based hbM
        refine ⟨M', h1, h2, fun i j c hc => ?_⟩
        by_cases he : i = fi ∧ j = bi
        · obtain ⟨rfl, rfl⟩ := he
          have : c = b := by
            obtain ⟨f, hf, hb⟩ := hb
            obtain ⟨f', hf', hc⟩ := hc
            rw [hf] at hf'
            injection hf' with hf'
            subst hf'
            rw [hb] at hc
            injection hc with hc
            exact hc.symm
          subst this
          rw [if_pos (by simp)]
          exact h3.at_
        · have := h3.other i j _ (hM.blk i j c hc) he
          have e : ((i, j) ∈ (fi, bi) :: L) ↔ (i, j) ∈ L := by
            rw [List.mem_cons]
            exact ⟨fun h => h.elim (fun e => absurd (Prod.mk.injEq .. ▸ e) he) id, .inr⟩
          by_cases hc' : (i, j) ∈ L
          · rw [if_pos hc'] at this; rw [if_pos (e.2 hc')]; exact this
          · rw [if_neg hc'] at this; rw [if_neg (fun h => hc' (e.1 h))]; exact this
      · refine ⟨M, hM.puts, hM.based, fun i j c hc => ?_⟩
        have := hM.blk i j c hc
        by_cases he : i = fi ∧ j = bi
        · obtain ⟨rfl, rfl⟩ := he
          exact absurd ⟨c, hc⟩ hb
        · have e : ((i, j) ∈ (fi, bi) :: L) ↔ (i, j) ∈ L := by
            rw [List.mem_cons]
            exact ⟨fun h => h.elim (fun e => absurd (Prod.mk.injEq .. ▸ e) he) id, .inr⟩
          by_cases hc' : (i, j) ∈ L
          · rw [if_pos hc'] at this; rw [if_pos (e.2 hc')]; exact this
          · rw [if_neg hc'] at this; rw [if_neg (fun h => hc' (e.1 h))]; exact this
theorem puts_inl {m : Module} (hok : ModOk m) (budget : Int) : Puts m { m with funcs := m.funcs.map (inlF m budget) } := by
  obtain ⟨M, hM⟩ := done_all hok budget ((List.range 16).flatMap fun i => (List.range 16).map fun j => (i, j))
  have hall : ∀ i j b, BlkAt m i j b → BlkAt M i j (inlB m budget b) := fun i j b h => by
    have := hM.blk i j b h
    rwa [if_pos] at this
    obtain ⟨f, hf, hb⟩ := h
    have h1 := (List.getElem?_eq_some_iff.1 hf).1
    have h2 := (List.getElem?_eq_some_iff.1 hb).1
    have h3 := hok.nf
    have h4 := funcOk_len (hok.funcs f (List.mem_of_getElem? hf))
    exact List.mem_flatMap.2 ⟨i, List.mem_range.2 (by omega), List.mem_map.2 ⟨j, List.mem_range.2 (by omega), rfl⟩⟩
  have e : M = { m with funcs := m.funcs.map (inlF m budget) } := by
    have hfs : M.funcs = m.funcs.map (inlF m budget) := by
      apply List.ext_getElem?
      intro i
      rw [List.getElem?_map]
      cases hf : m.funcs[i]? with
      | none =>
        have : M.funcs.length ≤ i := by rw [hM.based.funcs]; exact List.getElem?_eq_none_iff.1 hf
        rw [List.getElem?_eq_none_iff.2 this]
        rfl
      | some f =>
        have hlt : i < M.funcs.length := by rw [hM.based.funcs]; exact (List.getElem?_eq_some_iff.1 hf).1
        have hF := List.getElem?_eq_getElem hlt
        generalize M.funcs[i] = F at hF
        obtain ⟨a1, a2, a3, a4, _⟩ := hM.based.f i f F hf hF
        rw [hF]
        simp only [Option.map_some, Option.some.injEq]
        have hbl : F.blocks = f.blocks.map (inlB m budget) := by
          apply List.ext_getElem?
          intro j
          rw [List.getElem?_map]
          cases hb : f.blocks[j]? with
          | none =>
            have : F.blocks.length ≤ j := by rw [a4]; exact List.getElem?_eq_none_iff.1 hb
            rw [List.getElem?_eq_none_iff.2 this]
            rfl
          | some b =>
            obtain ⟨F', hF', hb'⟩ := hall i j b ⟨f, hf, hb⟩
            rw [hF] at hF'
            injection hF' with hF'
            subst hF'
            exact hb'
        cases F
        cases f
        simp only [inlF] at a1 a2 a3 hbl ⊢
        simp [a1, a2, a3, hbl]
    have hgs := hM.based.globs
    cases M
    simp only at hfs hgs ⊢
    rw [hfs, hgs]
  rw [← e]
  exact hM.puts
theorem inl_ok {m : Module} (hok : ModOk m) (budget : Int) : ModOk (inlM m budget) := by
 unfold inlM
 rw [if_pos (checkE_zero.2 hok)]
 exact (puts_inl hok budget).ok hok


end Go.Proofs.Ytgadlpdbkohlbaa
/- The bodies of some functions, as the evaluator has them (printed by program), and that they are the program's own. -/
namespace Go.Proofs.Ytgadlpdbkohlbaa
open Go.RowKit
def c_reach_find : ACode :=
 (.seq (.reg [Ro 2 (.box true (Sv 0)), Ro 3 (.box true (Sv 1)), Ro 4 (.new [(.string ⟨#[]⟩), (.int .i64 0), (.int .i64 0), (.slice none 0 0)]), Ro 5 (.mv (.c (.bool false)))])
 (.seq (.reg [Ro 7 (Fd 2 0), Ro 8 (Ld 7), Ro 9 (.mkfn 73 [Sv 3]), Ro 10 (.call true (.f 23) [Sv 8, Sv 9]), Ro 6 (Mv 10)])
 (.seq (.seq (.reg [Ro 11 (Mv 6), Ro 12 (.bin .lss (Sv 11) (Ci 0))])
 (.cond (Sv 12)
 (.seq (.reg [Ro 13 (.bld [(.string ⟨#[]⟩), (.int .i64 0), (.int .i64 0), (.slice none 0 0)] []), Rn (.st (Sv 4) (Sv 13) 4), Ro 5 (.mv (.c (.bool false)))])
 .ret)
 .skip))
 (.seq (.reg [Ro 14 (Fd 2 0), Ro 15 (Ld 14), Ro 16 (Mv 6), Ro 17 (.idx true (Sv 15) (Sv 16) 4), Ro 18 (Lk 17 4), Rn (.st (Sv 4) (Sv 18) 4), Ro 5 (.mv (.c (.bool true)))])
 .ret))))
def r_reach_find : List ARes := [(.cell (sl 4) (some 4)), (.tmp (sl 5))]
theorem t_reach_find : (Try.f56).body.bind (trCode Try.prog 8 (Try.f56).ntmps [4] [] (drOk 8)) = some c_reach_find := by kernel_rfl
theorem u_reach_find : trRess Try.prog 8 (Try.f56).results.toList = some r_reach_find := by kernel_rfl
def c_reach_find_1 : ACode :=
 (.seq (.reg [Ro 2 (.box true (Sv 0)), Ro 3 (.mv (.c (.bool false)))])
 (.seq (.reg [Ro 4 (Fd 2 0), Ro 5 (Ld 4), Ro 6 (Ld 1), Ro 7 (.bin .eql (Sv 5) (Sv 6)), Ro 3 (Mv 7)])
 .ret))
def r_reach_find_1 : List ARes := [(.tmp (sl 3))]
theorem t_reach_find_1 : (Try.f73).body.bind (trCode Try.prog 8 (Try.f73).ntmps [] [] (drOk 8)) = some c_reach_find_1 := by kernel_rfl
theorem u_reach_find_1 : trRess Try.prog 8 (Try.f73).results.toList = some r_reach_find_1 := by kernel_rfl
def c_slices_Contains___string_string_ : ACode :=
 (.seq (.reg [Ro 4 (.mv (.c (.bool false)))])
 (.seq (.reg [Ro 5 (Mv 0), Ro 6 (Mv 1), Ro 7 (.call true (.f 60) [Sv 5, Sv 6]), Ro 8 (.bin .geq (Sv 7) (Ci 0)), Ro 4 (Mv 8)])
 .ret))
def r_slices_Contains___string_string_ : List ARes := [(.tmp (sl 4))]
theorem t_slices_Contains___string_string_ : (Try.f46).body.bind (trCode Try.prog 8 (Try.f46).ntmps [] [] (drOk 8)) = some c_slices_Contains___string_string_ := by kernel_rfl
theorem u_slices_Contains___string_string_ : trRess Try.prog 8 (Try.f46).results.toList = some r_slices_Contains___string_string_ := by kernel_rfl
def c_slices_Index___string_string_ : ACode :=
 (.seq (.reg [Ro 4 (.mv (Ci 0))])
 (.seq (.seq (.reg [Ro 6 (Mv 0), Ro 7 (.len false (Sv 6)), Ro 8 (.mv (Ci 0))])
 (.block 0
 (.loop (.seq (.reg [Ro 9 (.bin .lss (Sv 8) (Sv 7))])
 (.seq (.cond (Sv 9)
 .skip
 (.exit 0))
 (.seq (.block 1
 (.seq (.reg [Ro 10 (Mv 8), Ro 5 (Mv 10)])
 (.seq (.reg [Ro 11 (Mv 1), Ro 12 (Mv 0), Ro 13 (Mv 5), Ro 14 (.idx true (Sv 12) (Sv 13) 1), Ro 15 (Ld 14), Ro 16 (.bin .eql (Sv 11) (Sv 15))])
 (.cond (Sv 16)
 (.seq (.reg [Ro 17 (Mv 5), Ro 4 (Mv 17)])
 .ret)
 .skip))))
 (.reg [Ro 18 (.bin .add (Sv 8) (Ci 1)), Ro 8 (Mv 18)])))))))
 (.seq (.reg [Ro 4 (.mv (Ci (-1)))])
 .ret)))
def r_slices_Index___string_string_ : List ARes := [(.tmp (sl 4))]
theorem t_slices_Index___string_string_ : (Try.f60).body.bind (trCode Try.prog 8 (Try.f60).ntmps [] [] (drOk 8)) = some c_slices_Index___string_string_ := by kernel_rfl
theorem u_slices_Index___string_string_ : trRess Try.prog 8 (Try.f60).results.toList = some r_slices_Index___string_string_ := by kernel_rfl
def c_reach_Roots : ACode :=
 (.seq (.reg [Ro 1 (.box true (Sv 0)), Ro 2 (.mv (.c (.slice none 0 0)))])
 (.seq (.reg [Ro 3 (.mv (.c (.slice none 0 0)))])
 (.seq (.seq (.reg [Ro 8 (Fd 1 0), Ro 9 (Ld 8), Ro 10 (.len false (Sv 9)), Ro 11 (.mv (Ci 0))])
 (.block 0
 (.loop (.seq (.reg [Ro 12 (.bin .lss (Sv 11) (Sv 10))])
 (.seq (.cond (Sv 12)
 .skip
 (.exit 0))
 (.seq (.block 1
 (.seq (.seq (.reg [Ro 13 (.idx true (Sv 9) (Sv 11) 4), Ro 14 (Lk 13 4), Ro 5 (.new [(.string ⟨#[]⟩), (.int .i64 0), (.int .i64 0), (.slice none 0 0)]), Rn (.ini 1 (Sv 5) (Sv 14) 4)])
 (.frz (sl 5)))
 (.seq (.reg [Ro 15 (Fd 5 1), Ro 16 (Ld 15), Ro 17 (.bin .eql (Sv 16) (Ci 2)), Ro 18 (Mv 17), Rg 19 18 false (Fd 5 0), Rg 20 18 false (Ld 19), Rg 21 18 false (.bin .eql (Sv 20) (.c (.string ⟨#[109, 97, 105, 110]⟩))), Ro 22 (.pick (Sv 18) (.c (.bool true)) (Sv 21))])
 (.cond (Sv 22)
 (.reg [Ro 23 (Mv 3), Ro 24 (Fd 5 0), Ro 25 (Ld 24), Ro 26 (.mksl 1 1 [(.string ⟨#[]⟩)] [(0, 1, (Sv 25))]), Ro 27 (.app 9 1 16 (Sv 23) (Sv 26)), Ro 3 (Mv 27)])
 .skip))))
 (.reg [Ro 28 (.bin .add (Sv 11) (Ci 1)), Ro 11 (Mv 28)])))))))
 (.seq (.seq (.reg [Ro 29 (Fd 1 1), Ro 30 (Ld 29), Ro 31 (.len false (Sv 30)), Ro 32 (.mv (Ci 0))])
 (.block 2
 (.loop (.seq (.reg [Ro 33 (.bin .lss (Sv 32) (Sv 31))])
 (.seq (.cond (Sv 33)
 .skip
 (.exit 2))
 (.seq (.block 3
 (.seq (.seq (.reg [Ro 34 (.idx true (Sv 30) (Sv 32) 4), Ro 35 (Lk 34 4), Ro 7 (.new [(.string ⟨#[]⟩), (.int .i64 0), (.bool false), (.int .u64 0)]), Rn (.ini 1 (Sv 7) (Sv 35) 4)])
 (.frz (sl 7)))
 (.seq (.reg [Ro 36 (Fd 7 1), Ro 37 (Ld 36), Ro 38 (.bin .eql (Sv 37) (Ci 2))])
 (.cond (Sv 38)
 (.reg [Ro 39 (Mv 3), Ro 40 (Fd 7 0), Ro 41 (Ld 40), Ro 42 (.mksl 1 1 [(.string ⟨#[]⟩)] [(0, 1, (Sv 41))]), Ro 43 (.app 9 1 16 (Sv 39) (Sv 42)), Ro 3 (Mv 43)])
 .skip))))
 (.reg [Ro 44 (.bin .add (Sv 32) (Ci 1)), Ro 32 (Mv 44)])))))))
 (.seq (.reg [Ro 45 (Mv 3), Ro 2 (Mv 45)])
 .ret)))))
def r_reach_Roots : List ARes := [(.tmp (sl 2))]
theorem t_reach_Roots : (Try.f45).body.bind (trCode Try.prog 8 (Try.f45).ntmps [2, 3, 23, 27, 39, 43, 45] [] (drOk 8)) = some c_reach_Roots := by kernel_rfl
theorem u_reach_Roots : trRess Try.prog 8 (Try.f45).results.toList = some r_reach_Roots := by kernel_rfl
end Go.Proofs.Ytgadlpdbkohlbaa
/- The bodies of some functions, as the evaluator has them (printed by program), and that they are the program's own. -/
namespace Go.Proofs.Ytgadlpdbkohlbaa
open Go.RowKit
def c_reach_once_string_ : ACode :=
 (.seq (.reg [Ro 2 (.mv (.c (.slice none 0 0)))])
 (.seq (.reg [Ro 3 (.mv (.c (.slice none 0 0)))])
 (.seq (.seq (.reg [Ro 6 (Mv 0), Ro 7 (.len false (Sv 6)), Ro 8 (.mv (Ci 0))])
 (.block 0
 (.loop (.seq (.reg [Ro 9 (.bin .lss (Sv 8) (Sv 7))])
 (.seq (.cond (Sv 9)
 .skip
 (.exit 0))
 (.seq (.block 1
 (.seq (.reg [Ro 10 (.idx true (Sv 6) (Sv 8) 1), Ro 11 (Ld 10), Ro 5 (Mv 11)])
 (.seq (.reg [Ro 12 (Mv 3), Ro 13 (Mv 5), Ro 14 (.call false (.f 46) [Sv 12, Sv 13]), Ro 15 (.not (Sv 14))])
 (.cond (Sv 15)
 (.reg [Ro 16 (Mv 3), Ro 17 (Mv 5), Ro 18 (.mksl 1 1 [(.string ⟨#[]⟩)] [(0, 1, (Sv 17))]), Ro 19 (.app 9 1 16 (Sv 16) (Sv 18)), Ro 3 (Mv 19)])
 .skip))))
 (.reg [Ro 20 (.bin .add (Sv 8) (Ci 1)), Ro 8 (Mv 20)])))))))
 (.seq (.reg [Ro 21 (Mv 3), Ro 2 (Mv 21)])
 .ret))))
def r_reach_once_string_ : List ARes := [(.tmp (sl 2))]
theorem t_reach_once_string_ : (Try.f74).body.bind (trCode Try.prog 8 (Try.f74).ntmps [2, 3, 12, 16, 19, 21] [(74, 9, 1)] (drOk 8)) = some c_reach_once_string_ := by kernel_rfl
theorem u_reach_once_string_ : trRess Try.prog 8 (Try.f74).results.toList = some r_reach_once_string_ := by kernel_rfl
def c_reach_names : ACode :=
 (.seq (.reg [Ro 1 (.box true (Sv 0)), Ro 2 (.mv (.c (.slice none 0 0)))])
 (.seq (.reg [Ro 3 (.mv (.c (.slice none 0 0)))])
 (.seq (.seq (.reg [Ro 8 (Fd 1 0), Ro 9 (Ld 8), Ro 10 (.len false (Sv 9)), Ro 11 (.mv (Ci 0))])
 (.block 0
 (.loop (.seq (.reg [Ro 12 (.bin .lss (Sv 11) (Sv 10))])
 (.seq (.cond (Sv 12)
 .skip
 (.exit 0))
 (.seq (.block 1
 (.seq (.seq (.reg [Ro 13 (.idx true (Sv 9) (Sv 11) 4), Ro 14 (Lk 13 4), Ro 5 (.new [(.string ⟨#[]⟩), (.int .i64 0), (.int .i64 0), (.slice none 0 0)]), Rn (.ini 1 (Sv 5) (Sv 14) 4)])
 (.frz (sl 5)))
 (.reg [Ro 15 (Mv 3), Ro 16 (Fd 5 0), Ro 17 (Ld 16), Ro 18 (.mksl 1 1 [(.string ⟨#[]⟩)] [(0, 1, (Sv 17))]), Ro 19 (.app 9 1 16 (Sv 15) (Sv 18)), Ro 3 (Mv 19)])))
 (.reg [Ro 20 (.bin .add (Sv 11) (Ci 1)), Ro 11 (Mv 20)])))))))
 (.seq (.seq (.reg [Ro 21 (Fd 1 1), Ro 22 (Ld 21), Ro 23 (.len false (Sv 22)), Ro 24 (.mv (Ci 0))])
 (.block 2
 (.loop (.seq (.reg [Ro 25 (.bin .lss (Sv 24) (Sv 23))])
 (.seq (.cond (Sv 25)
 .skip
 (.exit 2))
 (.seq (.block 3
 (.seq (.seq (.reg [Ro 26 (.idx true (Sv 22) (Sv 24) 4), Ro 27 (Lk 26 4), Ro 7 (.new [(.string ⟨#[]⟩), (.int .i64 0), (.bool false), (.int .u64 0)]), Rn (.ini 1 (Sv 7) (Sv 27) 4)])
 (.frz (sl 7)))
 (.reg [Ro 28 (Mv 3), Ro 29 (Fd 7 0), Ro 30 (Ld 29), Ro 31 (.mksl 1 1 [(.string ⟨#[]⟩)] [(0, 1, (Sv 30))]), Ro 32 (.app 9 1 16 (Sv 28) (Sv 31)), Ro 3 (Mv 32)])))
 (.reg [Ro 33 (.bin .add (Sv 24) (Ci 1)), Ro 24 (Mv 33)])))))))
 (.seq (.reg [Ro 34 (Mv 3), Ro 35 (.callo 9 1 (.f 74) [Sv 34]), Ro 2 (Mv 35)])
 .ret)))))
def r_reach_names : List ARes := [(.tmp (sl 2))]
theorem t_reach_names : (Try.f58).body.bind (trCode Try.prog 8 (Try.f58).ntmps [2, 3, 15, 19, 28, 32, 34, 35] [(74, 9, 1)] (drOk 8)) = some c_reach_names := by kernel_rfl
theorem u_reach_names : trRess Try.prog 8 (Try.f58).results.toList = some r_reach_names := by kernel_rfl
end Go.Proofs.Ytgadlpdbkohlbaa
/- The bodies of some functions, as the evaluator has them (printed by program), and that they are the program's own. -/
namespace Go.Proofs.Ytgadlpdbkohlbaa
open Go.RowKit
def c_reach_From : ACode :=
 (.seq (.reg [Ro 2 (.box true (Sv 0)), Ro 4 (.mv (.c (.slice none 0 0)))])
 (.seq (.reg [Ro 9 (.mmk .string), Ro 5 (.new [(.map none)]), Rn (.ini 1 (Sv 5) (Sv 9) 1)])
 (.seq (.reg [Ro 6 (.new [.nilFunc])])
 (.seq (.reg [Ro 10 (.mkfn 55 [Sv 5, Sv 2, Sv 6]), Rn (.st (Sv 6) (Sv 10) 1)])
 (.seq (.seq (.reg [Ro 11 (Mv 1), Ro 12 (.len false (Sv 11)), Ro 13 (.mv (Ci 0))])
 (.block 0
 (.loop (.seq (.reg [Ro 14 (.bin .lss (Sv 13) (Sv 12))])
 (.seq (.cond (Sv 14)
 .skip
 (.exit 0))
 (.seq (.block 1
 (.seq (.reg [Ro 15 (.idx true (Sv 11) (Sv 13) 1), Ro 16 (Ld 15), Ro 8 (Mv 16)])
 (.reg [Ro 17 (.ld false (Sv 6) none), Ro 18 (Mv 8), Ro 19 (.calle (Sv 17) [Sv 18])])))
 (.reg [Ro 20 (.bin .add (Sv 13) (Ci 1)), Ro 13 (Mv 20)])))))))
 (.seq (.reg [Ro 21 (Lk 2 2), Ro 22 (.callv 9 1 (.f 58) [Sv 21]), Ro 23 (.mkfn 59 [Sv 5]), Ro 24 (.calle (.f 57) [Sv 22, Sv 23]), Ro 4 (Mv 24)])
 .ret))))))
def r_reach_From : List ARes := [(.tmp (sl 4))]
theorem t_reach_From : (Try.f44).body.bind (trCode Try.prog 8 (Try.f44).ntmps [4, 5, 6, 10, 17, 22, 23, 24] [(58, 9, 1001), (57, 0, 0), (1000017, 0, 0)] (drOk 8)) = some c_reach_From := by kernel_rfl
theorem u_reach_From : trRess Try.prog 8 (Try.f44).results.toList = some r_reach_From := by kernel_rfl
end Go.Proofs.Ytgadlpdbkohlbaa
/- The bodies of some functions, as the evaluator has them (printed by program), and that they are the program's own. -/
namespace Go.Proofs.Ytgadlpdbkohlbaa
open Go.RowKit
def c_reach_From_1 : ACode :=
 (.seq (.seq (.reg [Ro 9 (.ld false (Sv 1) none), Ro 10 (Mv 0), Ro 11 (.mget (Sv 9) (Sv 10) false .string (.bool false))])
 (.cond (Sv 11)
 .ret
 .skip))
 (.seq (.reg [Ro 12 (.ld false (Sv 1) none), Ro 13 (Mv 0), Rn (.mset false (Sv 12) (Sv 13) (.c (.bool true)) .string)])
 (.seq (.seq (.reg [Ro 15 (Lk 2 2), Ro 16 (Mv 0), Ro 17 (.call true (.f 56) [Sv 15, Sv 16]), Ro 14 (Mv 17), Ro 18 (.ext (Sv 14) 0), Ro 19 (.ext (Sv 14) 1), Ro 5 (.new [(.string ⟨#[]⟩), (.int .i64 0), (.int .i64 0), (.slice none 0 0)]), Rn (.ini 1 (Sv 5) (Sv 18) 4), Ro 6 (Mv 19)])
 (.frz (sl 5)))
 (.seq (.reg [Ro 20 (Mv 6)])
 (.cond (Sv 20)
 (.seq (.reg [Ro 21 (Lk 5 4), Ro 22 (.call true (.f 16) [Sv 21]), Ro 23 (.len false (Sv 22)), Ro 24 (.mv (Ci 0))])
 (.block 0
 (.loop (.seq (.reg [Ro 25 (.bin .lss (Sv 24) (Sv 23))])
 (.seq (.cond (Sv 25)
 .skip
 (.exit 0))
 (.seq (.block 1
 (.seq (.reg [Ro 26 (.idx true (Sv 22) (Sv 24) 1), Ro 27 (Ld 26), Ro 8 (Mv 27)])
 (.reg [Ro 28 (.ld false (Sv 3) none), Ro 29 (Mv 8), Ro 30 (.calle (Sv 28) [Sv 29])])))
 (.reg [Ro 31 (.bin .add (Sv 24) (Ci 1)), Ro 24 (Mv 31)])))))))
 .skip)))))
def r_reach_From_1 : List ARes := []
theorem t_reach_From_1 : (Try.f55).body.bind (trCode Try.prog 8 (Try.f55).ntmps [1, 3, 9, 12, 28] [(1000028, 0, 0)] (drOk 8)) = some c_reach_From_1 := by kernel_rfl
theorem u_reach_From_1 : trRess Try.prog 8 (Try.f55).results.toList = some r_reach_From_1 := by kernel_rfl
end Go.Proofs.Ytgadlpdbkohlbaa
/- The bodies of some functions, as the evaluator has them (printed by program), and that they are the program's own. -/
namespace Go.Proofs.Ytgadlpdbkohlbaa
open Go.RowKit
end Go.Proofs.Ytgadlpdbkohlbaa
/- The bodies of some functions, as the evaluator has them (printed by program), and that they are the program's own. -/
namespace Go.Proofs.Ytgadlpdbkohlbaa
open Go.RowKit
end Go.Proofs.Ytgadlpdbkohlbaa
/- The bodies of some functions, as the evaluator has them (printed by program), and that they are the program's own. -/
namespace Go.Proofs.Ytgadlpdbkohlbaa
open Go.RowKit
def c_reach_Drop : ACode :=
 (.seq (.reg [Ro 1 (.box true (Sv 0)), Ro 2 (.new [(.slice none 0 0), (.slice none 0 0)])])
 (.seq (.reg [Rl 9 (Lk 1 2) 0, Rl 10 (Lk 1 2) 1, Rl 11 (.call true (.f 45) [Sv 10]) 2, Rl 12 (.call true (.f 44) [Sv 9, Sv 11]) 3, Rl 3 (Mv 12) 4])
 (.seq (.reg [Ro 4 (.new [(.slice none 0 0), (.slice none 0 0)])])
 (.seq (.seq (.reg [Ro 13 (Fd 1 0), Ro 14 (Ld 13), Ro 15 (.len false (Sv 14)), Ro 16 (.mv (Ci 0))])
 (.block 0
 (.loop (.seq (.reg [Ro 17 (.bin .lss (Sv 16) (Sv 15))])
 (.seq (.cond (Sv 17)
 .skip
 (.exit 0))
 (.seq (.block 1
 (.seq (.seq (.reg [Ro 18 (.idx true (Sv 14) (Sv 16) 4), Ro 19 (Lk 18 4), Ro 6 (.new [(.string ⟨#[]⟩), (.int .i64 0), (.int .i64 0), (.slice none 0 0)]), Rn (.ini 1 (Sv 6) (Sv 19) 4)])
 (.frz (sl 6)))
 (.seq (.reg [Ro 20 (Mv 3), Ro 21 (Fd 6 0), Ro 22 (Ld 21), Ro 23 (.call true (.f 46) [Sv 20, Sv 22])])
 (.cond (Sv 23)
 (.reg [Ro 24 (Fd 4 0), Ro 25 (.ld false (Sv 24) none), Ro 26 (Lk 6 4), Ro 27 (.mksl 4 1 [(.string ⟨#[]⟩), (.int .i64 0), (.int .i64 0), (.slice none 0 0)] [(0, 4, (Sv 26))]), Ro 28 (.app 47 4 56 (Sv 25) (Sv 27)), Ro 29 (Fd 4 0), Rn (.st (Sv 29) (Sv 28) 1)])
 .skip))))
 (.reg [Ro 30 (.bin .add (Sv 16) (Ci 1)), Ro 16 (Mv 30)])))))))
 (.seq (.seq (.reg [Ro 31 (Fd 1 1), Ro 32 (Ld 31), Ro 33 (.len false (Sv 32)), Ro 34 (.mv (Ci 0))])
 (.block 2
 (.loop (.seq (.reg [Ro 35 (.bin .lss (Sv 34) (Sv 33))])
 (.seq (.cond (Sv 35)
 .skip
 (.exit 2))
 (.seq (.block 3
 (.seq (.seq (.reg [Ro 36 (.idx true (Sv 32) (Sv 34) 4), Ro 37 (Lk 36 4), Ro 8 (.new [(.string ⟨#[]⟩), (.int .i64 0), (.bool false), (.int .u64 0)]), Rn (.ini 1 (Sv 8) (Sv 37) 4)])
 (.frz (sl 8)))
 (.seq (.reg [Ro 38 (Mv 3), Ro 39 (Fd 8 0), Ro 40 (Ld 39), Ro 41 (.call true (.f 46) [Sv 38, Sv 40])])
 (.cond (Sv 41)
 (.reg [Ro 42 (Fd 4 1), Ro 43 (.ld false (Sv 42) none), Ro 44 (Lk 8 4), Ro 45 (.mksl 4 1 [(.string ⟨#[]⟩), (.int .i64 0), (.bool false), (.int .u64 0)] [(0, 4, (Sv 44))]), Ro 46 (.app 53 4 40 (Sv 43) (Sv 45)), Ro 47 (Fd 4 1), Rn (.st (Sv 47) (Sv 46) 1)])
 .skip))))
 (.reg [Ro 48 (.bin .add (Sv 34) (Ci 1)), Ro 34 (Mv 48)])))))))
 (.seq (.reg [Ro 49 (.ld false (Sv 4) (some 2)), Rn (.st (Sv 2) (Sv 49) 2)])
 .ret))))))
def r_reach_Drop : List ARes := [(.cell (sl 2) (some 2))]
theorem t_reach_Drop : (Try.f32).body.bind (trCode Try.prog 8 (Try.f32).ntmps [2, 4, 24, 25, 28, 29, 42, 43, 46, 47, 49] [] (drOk 8)) = some c_reach_Drop := by kernel_rfl
theorem u_reach_Drop : trRess Try.prog 8 (Try.f32).results.toList = some r_reach_Drop := by kernel_rfl
end Go.Proofs.Ytgadlpdbkohlbaa
/- The bodies of some functions, as the evaluator has them (printed by program), and that they are the program's own. -/
namespace Go.Proofs.Ytgadlpdbkohlbaa
open Go.RowKit
end Go.Proofs.Ytgadlpdbkohlbaa
namespace Go.Proofs.Ytgadlpdbkohlbaa
open Go.RowKit
def c_slices_IndexFunc___api_Func_api_Func_ : ACode :=
 (.seq (.reg [Ro 4 (.mv (Ci 0))])
 (.seq (.seq (.reg [Ro 6 (Mv 0), Ro 7 (.len false (Sv 6)), Ro 8 (.mv (Ci 0))])
 (.block 0
 (.loop (.seq (.reg [Ro 9 (.bin .lss (Sv 8) (Sv 7))])
 (.seq (.cond (Sv 9)
 .skip
 (.exit 0))
 (.seq (.block 1
 (.seq (.reg [Ro 10 (Mv 8), Ro 5 (Mv 10)])
 (.seq (.reg [Ro 11 (Mv 1), Ro 12 (Mv 0), Ro 13 (Mv 5), Ro 14 (.idx true (Sv 12) (Sv 13) 4), Ro 15 (Lk 14 4), Ro 16 (.call true (Sv 11) [Sv 15])])
 (.cond (Sv 16)
 (.seq (.reg [Ro 17 (Mv 5), Ro 4 (Mv 17)])
 .ret)
 .skip))))
 (.reg [Ro 18 (.bin .add (Sv 8) (Ci 1)), Ro 8 (Mv 18)])))))))
 (.seq (.reg [Ro 4 (.mv (Ci (-1)))])
 .ret)))
def r_slices_IndexFunc___api_Func_api_Func_ : List ARes := [(.tmp (sl 4))]
theorem t_slices_IndexFunc___api_Func_api_Func_ : (Try.f23).body.bind (trCode Try.prog 8 (Try.f23).ntmps [] [] (drOk 8)) = some c_slices_IndexFunc___api_Func_api_Func_ := by kernel_rfl
theorem u_slices_IndexFunc___api_Func_api_Func_ : trRess Try.prog 8 (Try.f23).results.toList = some r_slices_IndexFunc___api_Func_api_Func_ := by kernel_rfl
theorem indexF_pure (xs : List Func) (F : FuncId) (caps : List DV) (p : Func → Bool) (hF : ∀ v ∈ xs, APure Try.prog F (.agg (funcC v) :: caps) (.bool (p v))) : APure Try.prog 23 [funcsD xs, .fn F caps] (.int (findI p xs)) := by
 refine apureG _ _ Try.func23 (by kernel_rfl) t_slices_IndexFunc___api_Func_api_Func_ u_slices_IndexFunc___api_Func_api_Func_ rfl rfl (fun hx => len1 hx fun hl => ?_)
 clear hx
 simp [c_slices_IndexFunc___api_Func_api_Func_, r_slices_IndexFunc___api_Func_api_Func_]
 refine loop_s (κ := Nat) (fun k => k ≤ xs.length ∧ ∀ i (h : i < xs.length), i < k → p xs[i] = false) (fun k => xs.length - k) (fun k => [(sl 8, .int k)]) (fun _ => []) 0 0 (srcs []) (by simp) (by simp) ?_
 rintro k ⟨hk, hb⟩
 simp
 refine ⟨fun hlt => ⟨hlt, ?_⟩, fun hge => ?_⟩
 ·rw [getD_some hlt]
  refine call_plain _ (by simp) (by simp) (fun _ => by simp) (fun _ => hF _ (List.getElem_mem hlt)) ?_
  simp
  refine ⟨fun h => DLe_int (findI_hit hlt hb h).symm, fun h => ?_⟩
  refine ⟨k + 1, ⟨by omega, fun i hi h1 => ?_⟩, by omega, srcs [], ?_⟩
  ·rcases Nat.lt_or_ge i k with h2 | h2
   ·exact hb i hi h2
   ·obtain rfl : i = k := by omega
    exact h
  ·simp [SLeK]
   exact DLe_int (wrap_succ (by omega))
 ·exact DLe_int (findI_miss fun i hi => hb i hi (by omega)).symm
theorem find1_pure (f : Func) (s : ByteArray) : APure Try.prog 73 [.agg (funcC f), .cref [.str s] 0] (.bool (decide (f.name = s))) := by
 refine apureG _ _ Try.func73 (by kernel_rfl) t_reach_find_1 u_reach_find_1 rfl rfl (fun _ => ?_)
 simp [c_reach_find_1, r_reach_find_1]
def findR (m : Module) (s : ByteArray) : DV := match findF m s with | some f => .tup [.agg (funcC f), .bool true] | none => .tup [.agg [.str ⟨#[]⟩, .int 0, .int 0, .lit (.slice none 0 0)], .bool false]
set_option maxRecDepth 10000 in
theorem find_pure (m : Module) (s : ByteArray) : APure Try.prog 56 [.agg (moduleC m), .str s] (findR m s) := by
 refine apureG _ _ Try.func56 (by kernel_rfl) t_reach_find u_reach_find rfl rfl (fun _ => ?_)
 simp [c_reach_find, r_reach_find]
 refine call_plain (ds := [funcsD m.funcs, .fn 73 [.cref [.str s] 0]]) _ (by simp) (by simp) (fun _ => by simp) (fun _ => indexF_pure m.funcs _ _ _ (fun f _ => find1_pure f s)) ?_
 simp
 unfold findR findF
 rcases find_idx (fun f : Func => decide (f.name = s)) m.funcs with ⟨k, hk, h1, h2⟩ | ⟨h1, h2⟩
 ·rw [h1, h2]
  refine ⟨fun h => by omega, fun _ => ⟨⟨by omega, by omega⟩, ?_⟩⟩
  simp only [Int.toNat_natCast, getD_some hk]
  exact DLe.refl _
 ·rw [h1, h2]
  exact ⟨fun _ => DLe.refl _, fun h => by omega⟩
theorem indexS_pure (xs : List ByteArray) (s : ByteArray) : APure Try.prog 60 [strsD xs, .str s] (.int (findI (fun x => decide (s = x)) xs)) := by
 refine apureG _ _ Try.func60 (by kernel_rfl) t_slices_Index___string_string_ u_slices_Index___string_string_ rfl rfl (fun hx => len1 hx fun hl => ?_)
 clear hx
 simp [c_slices_Index___string_string_, r_slices_Index___string_string_]
 refine loop_s (κ := Nat) (fun k => k ≤ xs.length ∧ ∀ i (h : i < xs.length), i < k → decide (s = xs[i]) = false) (fun k => xs.length - k) (fun k => [(sl 8, .int k)]) (fun _ => []) 0 0 (srcs []) (by simp) (by simp) ?_
 rintro k ⟨hk, hb⟩
 simp
 refine ⟨fun hlt => ⟨hlt, ?_⟩, fun hge => ?_⟩
 ·refine ⟨fun h => DLe_int (findI_hit (p := fun x => decide (s = x)) hlt (by simpa using hb) (by simpa [hlt] using h)).symm, fun h => ?_⟩
  refine ⟨k + 1, ⟨by omega, fun i hi h1 => ?_⟩, by omega, srcs [], ?_⟩
  ·rcases Nat.lt_or_ge i k with h2 | h2
   ·simpa using hb i hi h2
   ·obtain rfl : i = k := by omega
    simpa [hlt] using h
  ·simp [SLeK]
   exact DLe_int (wrap_succ (by omega))
 ·exact DLe_int (findI_miss fun i hi => hb i hi (by omega)).symm
theorem any_swap (xs : List ByteArray) (s : ByteArray) : (xs.any fun x => decide (s = x)) = hasN xs s := by
 unfold hasN
 congr 1
 funext x
 rw [Bool.eq_iff_iff]
 simp [eq_comm]
theorem containsS_pure (xs : List ByteArray) (s : ByteArray) : APure Try.prog 46 [strsD xs, .str s] (.bool (hasN xs s)) := by
 refine apureG _ _ Try.func46 (by kernel_rfl) t_slices_Contains___string_string_ u_slices_Contains___string_string_ rfl rfl (fun _ => ?_)
 simp [c_slices_Contains___string_string_, r_slices_Contains___string_string_]
 refine call_plain (ds := [strsD xs, .str s]) _ (by simp) (by simp) (fun _ => rfl) (fun _ => indexS_pure xs s) ?_
 simp
 exact DLe_bool ((findI_ge (fun x => decide (s = x)) xs).trans (any_swap xs s))
def onceL (l : List ByteArray) : List ByteArray := l.foldl (fun acc x => if hasN acc x = true then acc else acc ++ [x]) []
def onceT (l : List ByteArray) (k : Nat) : List ByteArray := onceL (l.take k)
@[simp] theorem onceT_zero (l : List ByteArray) : onceT l 0 = [] := rfl
theorem onceT_all {l : List ByteArray} {k : Nat} (h : l.length ≤ k) : onceT l k = onceL l := by
 unfold onceT
 rw [List.take_of_length_le h]
theorem onceT_succ {l : List ByteArray} {k : Nat} (hk : k < l.length) : onceT l (k + 1) = if hasN (onceT l k) l[k] = true then onceT l k else onceT l k ++ [l[k]] := by
 unfold onceT onceL
 rw [List.take_succ_eq_append_getElem hk, List.foldl_append]
 rfl
theorem onceT_length (l : List ByteArray) : ∀ k, (onceT l k).length ≤ k := by
  intro k
  induction k with
  | zero => simp
  | succ k ih =>
    by_cases hk : k < l.length
    · rw [onceT_succ hk]
      split
      · omega
      · simp; omega
    · rw [onceT_all (by omega), ← onceT_all (l := l) (k := k) (by omega)]
      omega
set_option maxRecDepth 10000 in
theorem once_own (l : List ByteArray) (hl : l.length ≤ 8796093022208) : AOwn Try.prog 74 [strsD l] 9 1 (onceL l).length (fun i => strC ((onceL l)[i]?.getD ⟨#[]⟩)) := by
 refine aownG _ _ Try.func74 (by kernel_rfl) t_reach_once_string_ u_reach_once_string_ rfl rfl (fun _ => ?_)
 simp [c_reach_once_string_, r_reach_once_string_]
 refine loop_s (κ := Nat) (fun k => k ≤ l.length) (fun k => l.length - k) (fun k => [(sl 8, .int k), (sl 3, .own 0 (onceT l k).length)])
  (fun k => [(0, .row 9 1 (onceT l k).length fun i => strC ((onceT l k)[i]?.getD ⟨#[]⟩))]) 1 0 (srcs [(0, .nil)]) (by simp) (by simp) ?_
 rintro k hk
 simp
 refine ⟨fun hlt => ⟨hlt, ?_⟩, fun hge => ?_⟩
 ·rw [getD_some hlt]
  have hlen := onceT_length l k
  have hsucc := onceT_succ hlt
  refine call_plain (ds := [strsD (onceT l k), .str l[k]]) _ (by simp) (by simp) (fun _ => by simp; rfl) (fun _ => containsS_pure (onceT l k) l[k]) ?_
  simp
  refine ⟨fun h => ⟨by omega, k + 1, by omega, by omega, srcs [(0, .id 12)], ?_⟩, fun h => ⟨k + 1, by omega, by omega, srcs [(0, .id 0)], ?_⟩⟩
  ·rw [h] at hsucc
   simp [SLeK, hsucc]
   exact ⟨DLe_int (wrap_succ (by omega)), fun i hi => appRow_str hi⟩
  ·rw [h] at hsucc
   simp [SLeK, hsucc]
   exact DLe_int (wrap_succ (by omega))
 ·rw [onceT_all hge]
  exact ⟨rfl, fun _ _ => rfl⟩
set_option maxRecDepth 10000 in
theorem names_own (m : Module) (hl : m.funcs.length + m.globs.length ≤ 1048576) : AOwn Try.prog 58 [.agg (moduleC m)] 9 1 (onceL (namesM m)).length (fun i => strC ((onceL (namesM m))[i]?.getD ⟨#[]⟩)) := by
 refine aownG _ _ Try.func58 (by kernel_rfl) t_reach_names u_reach_names rfl rfl (fun _ => ?_)
 simp [c_reach_names, r_reach_names]
 refine loop_s (κ := Nat) (fun k => k ≤ m.funcs.length) (fun k => m.funcs.length - k) (fun k => [(sl 11, .int k), (sl 3, .own 0 (fnT m k).length)]) (fun k => [(0, .row 9 1 (fnT m k).length fun i => strC ((fnT m k)[i]?.getD ⟨#[]⟩))]) 1 0 (srcs [(0, .nil)]) (by simp) (by simp) ?_
 rintro k hk
 simp
 refine ⟨fun hlt => ⟨hlt, ?_⟩, fun hge => ?_⟩
 ·have hlm := fnT_length m k
  refine ⟨by omega, k + 1, by omega, by omega, srcs [(0, .id 10)], ?_⟩
  simp [SLeK, fnT_succ hlt, getD_some hlt]
  exact ⟨DLe_int (wrap_succ (by omega)), fun i hi => appRow_str hi⟩
 rw [fnT_all hge]
 refine loop_s (κ := Nat) (fun k => k ≤ m.globs.length) (fun k => m.globs.length - k) (fun k => [(sl 24, .int k), (sl 3, .own 0 (gnT m k).length)]) (fun k => [(0, .row 9 1 (gnT m k).length fun i => strC ((gnT m k)[i]?.getD ⟨#[]⟩))]) 1 0 (srcs [(0, .id 0)]) (by simp) (by simp) ?_
 rintro j hj
 simp
 refine ⟨fun hlt => ⟨hlt, ?_⟩, fun hge => ?_⟩
 ·have hlm := gnT_length m j
  refine ⟨by omega, j + 1, by omega, by omega, srcs [(0, .id 10)], ?_⟩
  simp [SLeK, gnT_succ hlt, getD_some hlt]
  exact ⟨DLe_int (wrap_succ (by omega)), fun i hi => appRow_str hi⟩
 ·rw [gnT_all hge]
  have hn := namesM_length m
  refine callo_k (ds := [strsD (namesM m)]) _ _ (by simp) (by simp) (by simp) (once_own (namesM m) (by omega)) ?_
  simp
def rootF (f : Func) : Bool := decide (f.bind = 2) || decide (f.name = ⟨#[109, 97, 105, 110]⟩)
def rootG (g : Glob) : Bool := g.bind == 2
def rootsL (m : Module) : List ByteArray := (m.funcs.filter rootF).map (·.name) ++ (m.globs.filter rootG).map (·.name)
def rfT (m : Module) (k : Nat) : List ByteArray := ((m.funcs.take k).filter rootF).map (·.name)
def rgT (m : Module) (k : Nat) : List ByteArray := (m.funcs.filter rootF).map (·.name) ++ ((m.globs.take k).filter rootG).map (·.name)
@[simp] theorem rfT_zero (m : Module) : rfT m 0 = [] := rfl
theorem rfT_succ {m : Module} {k : Nat} (hk : k < m.funcs.length) : rfT m (k + 1) = if rootF m.funcs[k] = true then rfT m k ++ [m.funcs[k].name] else rfT m k := by
 unfold rfT
 rw [List.take_succ_eq_append_getElem hk, List.filter_append]
 cases h : rootF m.funcs[k] <;> simp [h]
theorem rfT_all {m : Module} {k : Nat} (hk : m.funcs.length ≤ k) : rfT m k = rgT m 0 := by
 unfold rfT rgT
 rw [List.take_of_length_le hk]
 simp
theorem rfT_length (m : Module) (k : Nat) : (rfT m k).length ≤ k := by
 unfold rfT
 rw [List.length_map]
 have := List.length_filter_le rootF (m.funcs.take k)
 simp at this
 omega
theorem rgT_succ {m : Module} {k : Nat} (hk : k < m.globs.length) : rgT m (k + 1) = if rootG m.globs[k] = true then rgT m k ++ [m.globs[k].name] else rgT m k := by
 unfold rgT
 rw [List.take_succ_eq_append_getElem hk, List.filter_append]
 cases h : rootG m.globs[k] <;> simp [h]
theorem rgT_all {m : Module} {k : Nat} (hk : m.globs.length ≤ k) : rgT m k = rootsL m := by
 unfold rgT rootsL
 rw [List.take_of_length_le hk]
theorem rgT_length (m : Module) (k : Nat) : (rgT m k).length ≤ m.funcs.length + k := by
 unfold rgT
 rw [List.length_append, List.length_map, List.length_map]
 have h1 := List.length_filter_le rootF m.funcs
 have h2 := List.length_filter_le rootG (m.globs.take k)
 simp at h2
 omega
set_option maxRecDepth 10000 in
theorem roots_pure (m : Module) (hl : m.funcs.length + m.globs.length ≤ 1048576) : APure Try.prog 45 [.agg (moduleC m)] (strsD (rootsL m)) := by
 refine apureG _ _ Try.func45 (by kernel_rfl) t_reach_Roots u_reach_Roots rfl rfl (fun _ => ?_)
 simp [c_reach_Roots, r_reach_Roots]
 refine loop_s (κ := Nat) (fun k => k ≤ m.funcs.length) (fun k => m.funcs.length - k) (fun k => [(sl 11, .int k), (sl 3, .own 0 (rfT m k).length)]) (fun k => [(0, .row 9 1 (rfT m k).length fun i => strC ((rfT m k)[i]?.getD ⟨#[]⟩))]) 1 0 (srcs [(0, .nil)]) (by simp) (by simp) ?_
 rintro k hk
 simp
 refine ⟨fun hlt => ⟨hlt, ?_⟩, fun hge => ?_⟩
 ·have hlm := rfT_length m k
  have hs := rfT_succ hlt
  rw [getD_some hlt]
  refine ⟨fun h => ?_, fun h1 h2 => ?_⟩
  ·have hr : rootF m.funcs[k] = true := by simpa [rootF] using h
   rw [if_pos hr] at hs
   refine ⟨by omega, k + 1, by omega, by omega, srcs [(0, .id 18)], ?_⟩
   simp [SLeK, hs]
   exact ⟨DLe_int (wrap_succ (by omega)), fun i hi => appRow_str hi⟩
  ·have hr : ¬ rootF m.funcs[k] = true := by simp [rootF, h1, h2]
   rw [if_neg hr] at hs
   refine ⟨k + 1, by omega, by omega, srcs [(0, .id 0)], ?_⟩
   simp [SLeK, hs]
   exact DLe_int (wrap_succ (by omega))
 rw [rfT_all hge]
 refine loop_s (κ := Nat) (fun k => k ≤ m.globs.length) (fun k => m.globs.length - k) (fun k => [(sl 32, .int k), (sl 3, .own 0 (rgT m k).length)]) (fun k => [(0, .row 9 1 (rgT m k).length fun i => strC ((rgT m k)[i]?.getD ⟨#[]⟩))]) 1 0 (srcs [(0, .id 0)]) (by simp) (by simp) ?_
 rintro j hj
 simp
 refine ⟨fun hlt => ⟨hlt, ?_⟩, fun hge => ?_⟩
 ·have hlm := rgT_length m j
  have hs := rgT_succ hlt
  rw [getD_some hlt]
  refine ⟨fun h => ?_, fun h1 => ?_⟩
  ·have hr : rootG m.globs[j] = true := by simp [rootG, h]
   rw [if_pos hr] at hs
   refine ⟨by omega, j + 1, by omega, by omega, srcs [(0, .id 13)], ?_⟩
   simp [SLeK, hs]
   exact ⟨DLe_int (wrap_succ (by omega)), fun i hi => appRow_str hi⟩
  ·have hr : ¬ rootG m.globs[j] = true := by simp [rootG, h1]
   rw [if_neg hr] at hs
   refine ⟨j + 1, by omega, by omega, srcs [(0, .id 0)], ?_⟩
   simp [SLeK, hs]
   exact DLe_int (wrap_succ (by omega))
 ·rw [rgT_all hge]
  exact DLe.refl _
def tau (c : Nat) : Nat → Nat := fun i => if i = 999999 then c else i
@[simp] theorem tau_new (c : Nat) : tau c 999999 = c := rfl
def dfs (m : Module) : Nat → List ByteArray → ByteArray → List ByteArray
  | 0, S, _ => S
  | n + 1, S, s => if hasN S s = true then S else match findF m s with
    | none => S ++ [s]
    | some f => (namesOf (allIns f)).foldl (dfs m n) (S ++ [s])
def left (m : Module) (S : List ByteArray) : Nat := (m.funcs.filter fun f => !hasN S f.name).length
theorem left_mono {m : Module} {S S' : List ByteArray} (h : ∀ s, hasN S s = true → hasN S' s = true) : left m S' ≤ left m S := by
 unfold left
 rw [← List.countP_eq_length_filter, ← List.countP_eq_length_filter]
 refine List.countP_mono_left fun f _ hf => ?_
 cases hs : hasN S f.name with
 | false => rfl
 | true => rw [h _ hs] at hf; cases hf
theorem left_lt {m : Module} {S : List ByteArray} {s : ByteArray} {f : Func} (hf : findF m s = some f) (hs : hasN S s = false) : left m (S ++ [s]) < left m S := by
 unfold findF at hf
 have hm := List.mem_of_find?_eq_some hf
 have hn : f.name = s := by simpa using List.find?_some hf
 unfold left
 rw [← List.countP_eq_length_filter, ← List.countP_eq_length_filter]
 obtain ⟨a, b, hab⟩ := List.append_of_mem hm
 rw [hab]
 simp only [List.countP_append, List.countP_cons]
 have key : ∀ l : List Func, l.countP (fun f => !hasN (S ++ [s]) f.name) ≤ l.countP (fun f => !hasN S f.name) := fun l => List.countP_mono_left fun f _ hf => by
  cases h : hasN S f.name with
  | false => rfl
  | true => rw [hasN_append, h] at hf; cases hf
 have h1 := key a
 have h2 := key b
 have h3 : (!hasN (S ++ [s]) f.name) = false := by rw [hasN_append, hn]; simp [hasN]
 have h4 : (!hasN S f.name) = true := by rw [hn, hs]; rfl
 rw [h3, h4]
 simp
 omega
theorem dfs_mono (m : Module) : ∀ (n : Nat) (S : List ByteArray) (s : ByteArray) (t : ByteArray), hasN S t = true → hasN (dfs m n S s) t = true := by
  intro n
  induction n with
  | zero => intro S s t h; exact h
  | succ n ih =>
    intro S s t h
    unfold dfs
    split
    · exact h
    · have h' : hasN (S ++ [s]) t = true := by rw [hasN_append, h]; rfl
      split
      · exact h'
      · rename_i f _
        have key : ∀ (l : List ByteArray) (S : List ByteArray), hasN S t = true → hasN (l.foldl (dfs m n) S) t = true := by
          intro l
          induction l with
          | nil => intro S h; exact h
          | cons x l ihl => intro S h; exact ihl _ (ih S x t h)
        exact key _ _ h'
theorem fold_mono (m : Module) (n : Nat) (t : ByteArray) : ∀ (l : List ByteArray) (S : List ByteArray), hasN S t = true → hasN (l.foldl (dfs m n) S) t = true
 | [], _, h => h
 | x :: l, S, h => fold_mono m n t l _ (dfs_mono m n S x t h)
def LR (m : Module) (S : List ByteArray) : List (Nat × AObj) :=
 [(1000000, .box [.mp 1000001]), (1000001, .map .string S.length (mapN S)), (1000002, .box [.fn 55 [.ptr 1000000 0, .d (.cref (moduleC m) 0), .ptr 1000002 0]])]
theorem hof_LR (m : Module) (S : List ByteArray) : hof (LR m S) = hadd 1000000 (.box [.mp 1000001]) (hadd 1000001 (.map .string S.length (mapN S)) (hadd 1000002 (.box [.fn 55 [.ptr 1000000 0, .d (.cref (moduleC m) 0), .ptr 1000002 0]]) hnil)) := rfl
theorem LR_end {m : Module} {S S' : List ByteArray} {n : Nat} {f : Value → Option Value} (hn : n = S'.length) (hf : ∀ v, kdOk .string v = true → f v = mapN S' v) : EffEnd (LR m S) (LR m S') (hadd 1000000 (.box [.mp 1000001]) (hadd 1000001 (.map .string n f) (hadd 1000002 (.box [.fn 55 [.ptr 1000000 0, .d (.cref (moduleC m) 0), .ptr 1000002 0]]) hnil))) := by
 subst hn
 refine ⟨.none, ?_, ?_⟩
 ·simp [LR, gE]
  exact fun v hv => hf v hv
 ·simp [LR, gE]
set_option maxRecDepth 10000 in
theorem reach_eff (m : Module) (hm : Small m) : ∀ (n : Nat) (S : List ByteArray) (s : ByteArray), left m S < n → AEff Try.prog 55 [.d (.str s), .ptr 1000000 0, .d (.cref (moduleC m) 0), .ptr 1000002 0] (LR m S) (.tup []) (LR m (dfs m n S s)) := by
  intro n
  induction n with
  | zero => intro S s h; omega
  | succ n ih =>
    intro S s hn
    refine aeffG _ _ Try.func55 (by kernel_rfl) t_reach_From_1 u_reach_From_1 rfl rfl (by simp [LR]) (by simp [LR, idsOk]) (fun _ => ?_)
    by_cases hs : hasN S s = true
    · have e : dfs m (n + 1) S s = S := by unfold dfs; rw [if_pos hs]
      rw [e]
      simp [c_reach_From_1, r_reach_From_1, hof_LR, hs]
      exact LR_end rfl fun _ _ => rfl
    · have hs' : hasN S s = false := by simpa using hs
      simp [c_reach_From_1, r_reach_From_1, hof_LR, hs']
      refine call_plain (ds := [.agg (moduleC m), .str s]) _ (by simp) (by simp) (fun _ => rfl) (fun _ => find_pure m s) ?_
      cases hf : findF m s with
      | none =>
        have hr : findR m s = .tup [.agg [.str ⟨#[]⟩, .int 0, .int 0, .lit (.slice none 0 0)], .bool false] := by unfold findR; rw [hf]
        have e : dfs m (n + 1) S s = S ++ [s] := by unfold dfs; rw [if_neg hs, hf]
        rw [hr, e]
        simp
        exact LR_end (by simp) fun v hv => mapN_step v hv
      | some f =>
        have hr : findR m s = .tup [.agg (funcC f), .bool true] := by unfold findR; rw [hf]
        have e : dfs m (n + 1) S s = (namesOf (allIns f)).foldl (dfs m n) (S ++ [s]) := by
          conv => lhs; unfold dfs
          rw [if_neg hs, hf]
        have hfm : f ∈ m.funcs := List.mem_of_find?_eq_some hf
        have hl := left_lt hf hs'
        rw [hr, e]
        simp
        refine call_plain (ds := [.agg (funcC f)]) _ (by simp) (by simp) (fun _ => rfl) (fun _ => refs_pure f (by have := hm.ins f hfm; omega)) ?_
        simp
        obtain ⟨ns, hns⟩ : ∃ ns, namesOf (allIns f) = ns := ⟨_, rfl⟩
        have hnl : ns.length ≤ 1048576 := by rw [← hns]; exact Nat.le_trans (namesOf_length _) (hm.ins f hfm)
        simp only [hns]
        refine loop_s (κ := Nat) (fun k => k ≤ ns.length) (fun k => ns.length - k) (fun k => [(sl 24, .int k)]) (fun k => LR m ((ns.take k).foldl (dfs m n) (S ++ [s]))) 0 0 (srcs []) (by simp) ?_ ?_
        · simp [LR]
          exact fun v hv => mapN_step v hv
        rintro k hk
        have hmu : left m ((ns.take k).foldl (dfs m n) (S ++ [s])) < n := by
          have := left_mono (m := m) (S := S ++ [s]) (S' := (ns.take k).foldl (dfs m n) (S ++ [s])) fun t ht => fold_mono m n t _ _ ht
          omega
        simp [hof_LR]
        refine ⟨fun hlt => ⟨hlt, ?_⟩, fun hge => ?_⟩
        · have hsucc : (ns.take (k + 1)).foldl (dfs m n) (S ++ [s]) = dfs m n ((ns.take k).foldl (dfs m n) (S ++ [s])) ns[k] := by
            rw [List.take_succ_eq_append_getElem hlt, List.foldl_append]
            rfl
          refine calle_k (ih ((ns.take k).foldl (dfs m n) (S ++ [s])) ns[k] hmu) (tau _) rfl [.d (.str ns[k]), .ptr 1000000 0, .d (.cref (moduleC m) 0), .ptr 1000002 0] (by simp) (by simp) (by simp [hlt]) (by simp [gOf, LR, tau]) (by simp [gOf, LR, tau]) (by simp [gOf, LR, tau]) (by simp [LR, idsOk]) ?_
          simp [LR, tau]
          refine ⟨k + 1, by omega, by omega, srcs [], ?_⟩
          simp [SLeK, hsucc]
          exact DLe_int (wrap_succ (by omega))
        · rw [List.take_of_length_le hge]
          exact LR_end rfl fun _ _ => rfl
end Go.Proofs.Ytgadlpdbkohlbaa
namespace Go.Proofs.Ytgadlpdbkohlbaa
open Go.RowKit Go.Shelf Go.Sort
def delRen : Go.Shelf.Ren := ⟨fun | 6 => 25 | 10 => 57 | n => n,
 fun | 0 => 0 | 3 => 3 | 4 => 4 | 22 => 59 | 23 => 9 | 25 => 61 | n => n, fun n => n⟩
theorem delLays : SlLaysH.n10 Try.prog delRen where
 mixed := by kernel_rfl
 f6 := ⟨Try.f25.name, by decide, Try.func25.trans (congrArg some (by kernel_rfl))⟩
 f10 := ⟨Try.f57.name, by decide, Try.func57.trans (congrArg some (by kernel_rfl))⟩
 t0 := Try.underlying0
 a0 := Try.isAgg0
 z0 := Try.sizeOf0
 v0 := Try.zeroValue0
 t3 := Try.underlying3
 a3 := Try.isAgg3
 z3 := Try.sizeOf3
 v3 := Try.zeroValue3
 t4 := Try.underlying4
 a4 := Try.isAgg4
 z4 := Try.sizeOf4
 v4 := Try.zeroValue4
 t22 := Try.underlying59
 a22 := Try.isAgg59
 z22 := Try.sizeOf59
 v22 := Try.zeroValue59
 a23 := Try.isAgg9
 z23 := Try.sizeOf9
 t25 := Try.underlying61
 a25 := Try.isAgg61
 z25 := Try.sizeOf61
 v25 := Try.zeroValue61
theorem run_lookN {W : World} {mb : Nat} {ent : Array MapEntry} {clock : Nat} {S : List ByteArray} (hm : W.heap[mb]? = some (.map ent clock)) (hall : ∀ x, x ∈ ent.toList → kdOk .string x.key = true) (hf : ∀ k, kdOk .string k = true → entFind ent.toList k = mapN S k) (s : ByteArray) :
    (Instr.lookup 57 (.map (some mb)) (.string s) false).run Try.prog W = .ok (.bool (hasN S s)) W := by
  have hfk := hf (.string s) rfl
  have hi := entIdx_find ent.toList (.string s) 0
  rw [hfk, mapN_str] at hi
  unfold Instr.lookup
  simp only [Sem.run_bind, run_underlying Try.underlying57, Result.andThen_ok, run_getObj hm, Sem.run_pure, run_checkKey (P := Try.prog) (kd := .string) (key := .string s) Try.underlying9 rfl, run_findKey (P := Try.prog) (kd := .string) (key := .string s) Try.underlying9 rfl hall]
  cases hx : entIdx ent.toList (.string s) 0 with
  | none =>
    rw [hx] at hi
    cases h : hasN S s <;> simp [h] at hi
    simp [Try.zeroValue4]
  | some p =>
    rw [hx] at hi
    cases h : hasN S s <;> simp [h] at hi
    simp [hi]
set_option maxRecDepth 100000 in
theorem from2_gives {W : World} {b mb : Nat} {ent : Array MapEntry} {clock : Nat} {S : List ByteArray} (hc : W.cell? ⟨b, 0, none⟩ = some (.map (some mb))) (hm : W.heap[mb]? = some (.map ent clock)) (hall : ∀ x, x ∈ ent.toList → kdOk .string x.key = true)
  (hf : ∀ k, kdOk .string k = true → entFind ent.toList k = mapN S k) (s : ByteArray) : FnGives Try.prog 59 #[.pointer (some ⟨b, 0, none⟩)] #[.string s] (.bool (!hasN S s)) W := by
 show Calls Try.prog 59 #[.string s, .pointer (some ⟨b, 0, none⟩)] W _
 have hlook := fun s => run_lookN hm hall hf s
 go_enter Try.func59, Try.ntmps59
 go_wp2
 go_ret
 exact ⟨rfl, 0, rfl⟩
set_option maxRecDepth 100000 in
theorem del_nil (fv : Value) (w : World) : Calls Try.prog 57 #[.slice none 0 0, fv] w fun e w' => e = .returned (.slice none 0 0) ∧ ∃ q, w' = w.drewN q := by
 have hIF : Calls Try.prog 25 #[.slice none 0 0, fv] w fun e w' => e = .returned (.int .i64 (-1)) ∧ ∃ q, w' = w.drewN q := (AnyE.slices_IndexFunc_empty (ρ := delRen) { delLays with } none 0 fv w).mono fun e w' h => ⟨h.1, 0, h.2⟩
 go_enter Try.func57, Try.ntmps57
 go_wp2_with (go_at_call 25; refine hIF.mono ?_; rintro e w' ⟨rfl, q, rfl⟩)
 go_ret
 exact ⟨rfl, q, rfl⟩
def LD (S ns : List ByteArray) : List (Nat × AObj) := [(1000000, .box [.mp 1000001]), (1000001, .map .string S.length (mapN S)), (1000003, .vec 9 1 ns.length fun i => (strC (ns[i]?.getD ⟨#[]⟩)).map .d)]
def LD' (S : List ByteArray) : List (Nat × AObj) := [(1000000, .box [.mp 1000001]), (1000001, .map .string S.length (mapN S))]
theorem hdel_LD {S ns : List ByteArray} {Hf : Heap} (hO : HOk (hof (LD S ns)) Hf) : hdel (hjoin (hof (LD S ns)) Hf) 1000003 = hjoin (hof (LD' S)) Hf := by
  have hn : Hf 1000003 = none := by
    cases h : Hf 1000003 with
    | none => rfl
    | some o =>
      have := (hO 1000003 o h).2.1
      simp [LD, hof, hget, hadd] at this
  funext k
  unfold hdel
  by_cases h : 1000003 = k
  · subst h
    rw [if_pos rfl]
    simp [hjoin, LD', hof, hadd, hnil, hn]
  · rw [if_neg h]
    simp [hjoin, LD, LD', hof, hadd, hnil, h]
theorem HOk.sub_LD {S ns : List ByteArray} {Hf : Heap} (hO : HOk (hof (LD S ns)) Hf) : HOk (hof (LD' S)) Hf := fun k o h => by
 obtain ⟨h1, h2, h3⟩ := hO k o h
 refine ⟨h1, ?_, h3⟩
 simp only [LD, LD', hof, hget_add] at h2 ⊢
 split at h2
 ·cases h2
 rename_i a
 rw [if_neg a]
 split at h2
 ·cases h2
 rename_i b
 rw [if_neg b]
 rfl
theorem heap_putRow_ne {α : Type} [Inhabited α] (enc : α → Value) (w : World) (blk off : Nat) (d : Array α) {b : Nat} (h : b ≠ blk) : (putRow enc w blk off d).heap[b]? = w.heap[b]? := by
 unfold putRow mapBlock
 simp only [Array.getElem?_modify]
 rw [if_neg (Ne.symm h)]
theorem del_eff (S ns : List ByteArray) : AEff Try.prog 57 [.own 1000003 ns.length, .fn 59 [.ptr 1000000 0]] (LD S ns) (strsD (ns.filter fun s => hasN S s)) (LD' S) := by
  refine aeff_raw (H' := hof (LD' S)) ⟨_, _, Try.func57, by kernel_rfl, rfl⟩ (by simp [LD]) (by simp [LD, LD', idsOk]) ⟨.none, by simp [LD', LD, hof, HLe, gE, hget, hadd, OLe, cellsLe, AVLe, AVLe0], by simp [LD', LD, srcApart, gE]⟩ ?_
  intro X0 W0 γ w Hf vs hS hO hvs
  have hg : ∀ k o, hget (hof (LD S ns)) k = some o → hget (hjoin (hof (LD S ns)) Hf) k = some o := fun k o h => by
    have h' : hof (LD S ns) k = some o := h
    simp [hget, hjoin, h']
  obtain ⟨u, hu, hvec⟩ := hS.obj 1000003 _ (hg 1000003 _ (by simp [LD, hof, hget, hadd]; rfl))
  obtain ⟨v0, hv0, b, arr, t0, rfl, hB, hh, hreps⟩ := hS.obj 1000000 _ (hg 1000000 _ (by simp [LD, hof, hget, hadd]; rfl))
  obtain ⟨v1, hv1, mb, ent, clock, rfl, hMB, hmh, hsz, hall, hf⟩ := hS.obj 1000001 _ (hg 1000001 _ (by simp [LD, hof, hget, hadd]; rfl))
  obtain ⟨xs, hown, hrow⟩ := hvec
  rw [← hdel_LD hO]
  have hvg := hg 1000003 _ (show hget (hof (LD S ns)) 1000003 = some (.vec 9 1 ns.length fun i => (strC (ns[i]?.getD ⟨#[]⟩)).map .d) by simp [LD, hof, hget, hadd])
  have hblt := hS.blk_lt hvg hu (b := b)
  have hargs : vs = #[u, .func (.func 59) #[] #[.pointer (some ⟨b, 0, none⟩)]] := by
    obtain ⟨a0, r0, e0, h0, k0⟩ := hvs.uncons
    obtain ⟨a1, r1, rfl, h1, k1⟩ := k0.uncons
    obtain rfl := k1.unnil
    have hu0 : a0 = u := by
      cases h0 with | own _ _ _ h => rw [hu] at h; injection h with h; exact h.symm
    subst hu0
    cases h1 with | fn _ us _ hl hr =>
    obtain ⟨p0, p1, rfl, h3, h4⟩ := (show Reps _ _ _ us _ from ⟨hl, hr⟩).uncons
    obtain rfl := h4.unnil
    cases h3 with | ptr b' _ _ h5 =>
    rw [hv0] at h5
    injection h5 with h5
    injection h5 with h5
    injection h5 with h5
    injection h5 with h5
    subst h5
    exact Array.toList_inj.1 e0
  subst hargs
  have hmb : arr = #[.map (some mb)] := by
    obtain ⟨a0, r0, e0, h0, k0⟩ := hreps.uncons
    obtain rfl := k0.unnil
    cases h0 with | mp b' _ h5 =>
    rw [hv1] at h5
    injection h5 with h5
    injection h5 with h5
    injection h5 with h5
    subst h5
    exact Array.toList_inj.1 e0
  subst hmb
  rcases hown.2 with ⟨rfl, h0⟩ | ⟨g, cap, cur, rfl, hgB, hgh, hn, hcap, hcs, htk⟩
  · refine (del_nil _ w).mono ?_
    rintro e w' ⟨rfl, q, rfl⟩
    have hns : ns = [] := by simpa using h0
    subst hns
    obtain ⟨h1, h2⟩ := hS.spend (w' := w.drewN q) hvg hu (fun _ => trivial) (hS.ext.trans (Ext.drewN w q)) (Nat.le_refl _) (fun _ _ _ => rfl)
    exact ⟨_, rfl, h1, hO.sub_LD, h2, .nil 1 _⟩
  · have hlt : ∀ {k : Nat} {o : Obj}, w.heap[k]? = some o → k < w.heap.size := fun h => (Array.getElem?_eq_some_iff.1 h).1
    have hne : b ≠ g := fun e => absurd (hS.dis 1000000 1000003 _ _ _ _ b (hg 1000000 _ (by simp [LD, hof, hget, hadd]; rfl)) hvg hv0 hu rfl (by rw [e]; rfl)) (by decide)
    have hnm : mb ≠ g := fun e => absurd (hS.dis 1000001 1000003 _ _ _ _ mb (hg 1000001 _ (by simp [LD, hof, hget, hadd]; rfl)) hvg hv1 hu rfl (by rw [e]; rfl)) (by decide)
    have hcell : w.cell? ⟨b, 0, none⟩ = some (.map (some mb)) := by simp [World.cell?, hh]
    have hgc : ∀ j (h : j < ns.length), w.cell? ⟨g, 0 + j, none⟩ = some (.string ns[j]) := by
      have hflat : (List.range ns.length).flatMap xs = ns.map Value.string := by
        rw [flat_congr (g := fun i => [Value.string (ns[i]?.getD ⟨#[]⟩)]) (fun i hi => ?_)]
        · clear hrow hvg hreps hown hvs htk
          have : ∀ l : List ByteArray, (List.range l.length).flatMap (fun i => [Value.string (l[i]?.getD ⟨#[]⟩)]) = l.map Value.string := fun l => by
            rw [← List.map_eq_flatMap]
            refine List.ext_getElem (by simp) fun i h1 h2 => ?_
            simp at h2
            simp [h2]
          exact this ns
        · have hi' : i < ns.length := List.mem_range.1 hi
          obtain ⟨hl, hr⟩ := hrow i hi'
          obtain ⟨v, vs', e, hv, hvs'⟩ := (show Reps _ _ w (xs i) [.d (.lit (.string (ns[i]?.getD ⟨#[]⟩)))] from hr).uncons
          obtain rfl := hvs'.unnil
          obtain rfl := hv.lit
          exact e
      intro j h
      rw [Nat.mul_one, hflat] at htk
      have e : (cur.toList.take ns.length)[j]? = some (.string ns[j]) := by rw [htk]; simp [h]
      rw [List.getElem?_take] at e
      simp [h] at e
      simp [World.cell?, hgh, e]
    have hH : Holds Value.string w g 0 ns.toArray := fun j hj => by
      have hj' : j < ns.length := by simpa using hj
      rw [hgc j hj']
      simp [hj', World.frozen?, hgh]
    have hcon := AnyE.slices_DeleteFunc delLays Value.string (fun _ => rfl) (fun x => !hasN S x) 59 #[.pointer (some ⟨b, 0, none⟩)] (enters_of Try.func59 (by kernel_rfl) rfl) ⟨#[]⟩ Try.zeroValue9 g 0 cap ns.toArray w
      (fun W x hb => from2_gives ((hb.cell (p := ⟨b, 0, none⟩) (hlt hh)).trans hcell) ((hb.block mb (hlt hmh)).trans hmh) hall.1 hf x)
      (fun n os dk x hs => from2_gives (by
        unfold sortWorld
        rw [cell?_grow _ _ _ (by show b < (putRow _ _ _ _ _).heap.size; rw [size_putRow]; exact hlt hh), cell?_putRow_other _ _ g 0 _ _ (Or.inl hne)]
        exact hcell) (mb := mb) (ent := ent) (clock := clock) (by
        unfold sortWorld grow
        have h0 := heap_putRow_ne Value.string (Sort.ahead w n) g 0 dk hnm
        have h1 : mb < (putRow Value.string (Sort.ahead w n) g 0 dk).heap.size := by rw [size_putRow]; exact hlt hmh
        show ((putRow Value.string (Sort.ahead w n) g 0 dk).heap ++ os)[mb]? = _
        rw [Array.getElem?_append_left h1, h0]
        exact hmh) hall.1 hf x) hH (by simp; unfold maxLen at hcap; omega) (by simpa using hn)
    simp only [List.size_toArray, Bool.not_not] at hcon
    refine (show Calls Try.prog 57 _ w _ from hcon).mono ?_
    rintro e w' ⟨rfl, q, rfl⟩
    obtain ⟨h1, h2⟩ := hS.spend (w' := putRow Value.string (Sort.ahead w q) g 0 (ns.filter (fun x => hasN S x) ++ List.replicate (ns.length - (ns.filter fun x => hasN S x).length) (⟨#[]⟩ : ByteArray)).toArray) hvg hu (fun _ => trivial) (show Ext W0 _ from ⟨hS.ext.os, hS.ext.tape, hS.ext.output, by rw [size_putRow]; exact hS.ext.size, fun k hk => (heap_putRow_ne Value.string (Sort.ahead w q) g 0 _ (by omega)).trans (hS.ext.block k hk)⟩) (by rw [size_putRow]; exact Nat.le_refl _)
      (fun k hk _ => heap_putRow_ne Value.string (Sort.ahead w q) g 0 _ (fun e => hk (by rw [e]; rfl)))
    refine ⟨_, rfl, h1, hO.sub_LD, h2, ?_⟩
    have hfl : (ns.filter fun x => hasN S x).length ≤ ns.length := List.length_filter_le _ _
    have hX : ∀ q', ¬ XOf X0 γ (hdel (hjoin (hof (LD S ns)) Hf) 1000003) g q' := by
      rintro q' (h | ⟨id, ob, v, h3, h4, h5, _⟩)
      · exact absurd (hS.hx g q' h) (by omega)
      · rw [hget_del] at h3
        split at h3
        · cases h3
        · rename_i hne'
          exact hne' (hS.dis _ _ _ _ _ _ g hvg h3 hu h4 rfl h5)
    refine .sl g 0 cap 1 _ _ (fun i => [Value.string ((ns.filter fun x => hasN S x)[i]?.getD ⟨#[]⟩)]) (by omega) hcap (by rw [size_putRow]; exact hlt hgh) (fun i _ j _ => hX _) (fun i _ => ⟨rfl, rfl⟩) (fun i hi j v hv => ?_) (fun i hi j h h' => ?_)
    · cases j with
      | succ j => simp at hv
      | zero =>
        simp at hv
        subst hv
        have hc := cell?_putRow Value.string (Sort.ahead w q) g 0 ns.toArray (ns.filter (fun x => hasN S x) ++ List.replicate (ns.length - (ns.filter fun x => hasN S x).length) (⟨#[]⟩ : ByteArray)).toArray (holds_ahead _ _ _ _ _ _ hH) (by simp; omega) i (by simp; omega)
        rw [Nat.mul_one, Nat.add_zero, hc]
        generalize (ns.filter fun x => hasN S x) = fl at hi
        generalize ns.length - fl.length = r
        rw [getElem!_pos _ i (by simp; omega)]
        simp [List.getElem_append_left hi, hi]
    · cases j with
      | succ j => simp at h
      | zero => exact .lit _
end Go.Proofs.Ytgadlpdbkohlbaa
namespace Go.Proofs.Ytgadlpdbkohlbaa
open Go.RowKit
def reachL (m : Module) (roots : List ByteArray) : List ByteArray := roots.foldl (dfs m (m.funcs.length + 1)) []
def fromL (m : Module) (roots : List ByteArray) : List ByteArray := (onceL (namesM m)).filter fun s => hasN (reachL m roots) s
def tauR (c : Nat) : Nat → Nat := fun i => if i = 1000000 then 1 else if i = 1000001 then 0 else if i = 1000002 then 2 else c
theorem left_le (m : Module) (S : List ByteArray) : left m S < m.funcs.length + 1 := Nat.lt_succ_of_le (List.length_filter_le _ _)
set_option maxRecDepth 10000 in
theorem from_pure (m : Module) (hm : Small m) (roots : List ByteArray) (hr : roots.length ≤ 1048576) : APure Try.prog 44 [.agg (moduleC m), strsD roots] (strsD (fromL m roots)) := by
 refine apureG _ _ Try.func44 (by kernel_rfl) t_reach_From u_reach_From rfl rfl (fun _ => ?_)
 simp [c_reach_From, r_reach_From]
 refine loop_s (κ := Nat) (fun k => k ≤ roots.length) (fun k => roots.length - k) (fun k => [(sl 13, .int k), (sl 5, .ptr 1 0), (sl 6, .ptr 2 0), (sl 9, .d .top), (sl 10, .d .top)])
  (fun k => [(0, .map .string ((roots.take k).foldl (dfs m (m.funcs.length + 1)) []).length (mapN ((roots.take k).foldl (dfs m (m.funcs.length + 1)) []))), (1, .box [.mp 0]), (2, .box [.fn 55 [.ptr 1 0, .d (.cref (moduleC m) 0), .ptr 2 0]])]) 3 0 (srcs [(0, .id 2), (1, .id 3), (2, .id 5)]) (by simp) ?_ ?_
 ·simp
  exact ⟨fun k _ => by cases k <;> rfl, DLe.refl _⟩
 rintro k hk
 simp
 refine ⟨fun hlt => ⟨hlt, ?_⟩, fun hge => ?_⟩
 ·have hsucc : (roots.take (k + 1)).foldl (dfs m (m.funcs.length + 1)) [] = dfs m (m.funcs.length + 1) ((roots.take k).foldl (dfs m (m.funcs.length + 1)) []) roots[k] := by
   rw [List.take_succ_eq_append_getElem hlt, List.foldl_append]
   rfl
  obtain ⟨S, hS⟩ : ∃ S, (roots.take k).foldl (dfs m (m.funcs.length + 1)) [] = S := ⟨_, rfl⟩
  rw [hS] at hsucc
  simp only [hS]
  refine calle_k (reach_eff m hm (m.funcs.length + 1) S roots[k] (left_le m S)) (tauR _) rfl [.d (.str roots[k]), .ptr 1 0, .d (.cref (moduleC m) 0), .ptr 2 0] (by simp) (by simp) (by simp [hlt]) ?_ ?_ ?_ (by simp [LR, idsOk]) ?_
  ·simp [gOf, LR, tauR]
  ·simp [gOf, LR, tauR]
  ·simp [gOf, LR, tauR]
  simp [LR, tauR]
  refine ⟨k + 1, by omega, by omega, srcs [(0, .id 0), (1, .id 1), (2, .id 2)], ?_⟩
  simp [SLeK, hsucc]
  exact DLe_int (wrap_succ (by omega))
 ·rw [List.take_of_length_le hge]
  refine callv_k (ds := [.agg (moduleC m)]) _ _ rfl (by simp) rfl (names_own m hm.len) (fun _ _ => rfl) ?_
  simp
  refine calle_k (del_eff (reachL m roots) (onceL (namesM m))) (fun i => if i = 1000000 then 1 else if i = 1000001 then 0 else if i = 1000003 then 5 else _) rfl [.own 5 (onceL (namesM m)).length, .fn 59 [.ptr 1 0]] (by simp) (by simp) (by simp) ?_ ?_ ?_ (by simp [LD, LD', idsOk]) ?_
  ·simp [gOf, LD]
  ·simp [gOf, LD, reachL]
  ·simp [gOf, LD]
  simp [LD, LD']
  exact DLe.refl _
def flT {α : Type} (p : α → Bool) (l : List α) (k : Nat) : List α := (l.take k).filter p
@[simp] theorem flT_zero {α : Type} (p : α → Bool) (l : List α) : flT p l 0 = [] := rfl
theorem flT_succ {α : Type} (p : α → Bool) {l : List α} {k : Nat} (hk : k < l.length) : flT p l (k + 1) = if p l[k] = true then flT p l k ++ [l[k]] else flT p l k := by
 unfold flT
 rw [List.take_succ_eq_append_getElem hk, List.filter_append]
 cases h : p l[k] <;> simp [h]
theorem flT_all {α : Type} (p : α → Bool) {l : List α} {k : Nat} (hk : l.length ≤ k) : flT p l k = l.filter p := by
 unfold flT
 rw [List.take_of_length_le hk]
theorem flT_length {α : Type} (p : α → Bool) (l : List α) (k : Nat) : (flT p l k).length ≤ k := by
 unfold flT
 have := List.length_filter_le p (l.take k)
 simp at this
 omega
theorem appRow_func {l : List Func} {x : Func} {i : Nat} (h : i < l.length + 1) : appRow l.length (fun i => funcC (l[i]?.getD default)) (fun i => List.take 4 (List.drop (i * 4) (funcC x))) i = funcC ((l ++ [x])[i]?.getD default) := by
 unfold appRow
 by_cases hi : i < l.length
 ·rw [if_pos hi]; simp [List.getElem?_append_left hi, hi]
 ·obtain rfl : i = l.length := by omega
  simp [funcC]
theorem appRow_glob {l : List Glob} {x : Glob} {i : Nat} (h : i < l.length + 1) : appRow l.length (fun i => globC (l[i]?.getD default)) (fun i => List.take 4 (List.drop (i * 4) (globC x))) i = globC ((l ++ [x])[i]?.getD default) := by
 unfold appRow
 by_cases hi : i < l.length
 ·rw [if_pos hi]; simp [List.getElem?_append_left hi, hi]
 ·obtain rfl : i = l.length := by omega
  simp [globC]
def dropM (m : Module) : Module := ⟨m.funcs.filter fun f => hasN (fromL m (rootsL m)) f.name, m.globs.filter fun g => hasN (fromL m (rootsL m)) g.name⟩
theorem rootsL_length (m : Module) : (rootsL m).length ≤ m.funcs.length + m.globs.length := by
 have := rgT_length m m.globs.length
 rwa [rgT_all (Nat.le_refl _)] at this
set_option maxRecDepth 10000 in
theorem drop_pure (m : Module) (hm : Small m) : APure Try.prog 32 [.agg (moduleC m)] (.agg (moduleC (dropM m))) := by
 refine apureG _ _ Try.func32 (by kernel_rfl) t_reach_Drop u_reach_Drop rfl rfl (fun _ => ?_)
 have hl := hm.len
 simp [c_reach_Drop, r_reach_Drop]
 refine call_plain (ds := [.agg (moduleC m)]) _ (by simp) (by simp) (fun _ => rfl) (fun _ => roots_pure m hl) ?_
 simp
 refine call_plain (ds := [.agg (moduleC m), strsD (rootsL m)]) _ (by simp) (by simp) (fun _ => rfl) (fun _ => from_pure m hm (rootsL m) (Nat.le_trans (rootsL_length m) hl)) ?_
 simp
 obtain ⟨R, hR⟩ : ∃ R, fromL m (rootsL m) = R := ⟨_, rfl⟩
 rw [hR]
 refine loop_s (κ := Nat) (fun k => k ≤ m.funcs.length) (fun k => m.funcs.length - k) (fun k => [(sl 16, .int k), (sl 4, .ptr 1 0), (sl 2, .ptr 2 0)])
  (fun k => [(0, .row 47 4 (flT (fun f => hasN R f.name) m.funcs k).length fun i => funcC ((flT (fun f => hasN R f.name) m.funcs k)[i]?.getD default)), (1, .box [.own 0 (flT (fun f => hasN R f.name) m.funcs k).length, .d (.lit (.slice none 0 0))]), (2, .box [.d (.lit (.slice none 0 0)), .d (.lit (.slice none 0 0))])]) 3 0 (srcs [(0, .nil), (1, .id 7), (2, .id 1)]) (by simp) ?_ ?_
 ·simp
 rintro k hk
 simp
 refine ⟨fun hlt => ⟨hlt, ?_⟩, fun hge => ?_⟩
 ·have hlm := flT_length (fun f : Func => hasN R f.name) m.funcs k
  have hs := flT_succ (fun f : Func => hasN R f.name) hlt
  rw [getD_some hlt]
  refine call_plain (ds := [strsD R, .str m.funcs[k].name]) _ (by simp) (by simp) (fun _ => rfl) (fun _ => containsS_pure R m.funcs[k].name) ?_
  simp
  refine ⟨fun h => ?_, fun h => ?_⟩
  ·rw [if_pos h] at hs
   refine ⟨by omega, k + 1, by omega, by omega, srcs [(0, .id 16), (1, .id 1), (2, .id 2)], ?_⟩
   simp [SLeK, hs]
   exact ⟨DLe_int (wrap_succ (by omega)), fun i hi => appRow_func hi⟩
  ·rw [if_neg (by simp [h])] at hs
   refine ⟨k + 1, by omega, by omega, srcs [(0, .id 0), (1, .id 1), (2, .id 2)], ?_⟩
   simp [SLeK, hs]
   exact DLe_int (wrap_succ (by omega))
 rw [flT_all _ hge]
 refine loop_s (κ := Nat) (fun k => k ≤ m.globs.length) (fun k => m.globs.length - k) (fun k => [(sl 34, .int k), (sl 4, .ptr 1 0), (sl 2, .ptr 2 0)])
  (fun k => [(0, .row 47 4 (m.funcs.filter fun f => hasN R f.name).length fun i => funcC ((m.funcs.filter fun f => hasN R f.name)[i]?.getD default)), (1, .box [.own 0 (m.funcs.filter fun f => hasN R f.name).length, .own 3 (flT (fun g => hasN R g.name) m.globs k).length]), (2, .box [.d (.lit (.slice none 0 0)), .d (.lit (.slice none 0 0))]),
   (3, .row 53 4 (flT (fun g => hasN R g.name) m.globs k).length fun i => globC ((flT (fun g => hasN R g.name) m.globs k)[i]?.getD default))]) 4 0 (srcs [(0, .id 0), (1, .id 1), (2, .id 2), (3, .nil)]) (by simp) ?_ ?_
 ·simp
 rintro j hj
 simp
 refine ⟨fun hlt => ⟨hlt, ?_⟩, fun hge => ?_⟩
 ·have hlm := flT_length (fun g : Glob => hasN R g.name) m.globs j
  have hs := flT_succ (fun g : Glob => hasN R g.name) hlt
  rw [getD_some hlt]
  refine call_plain (ds := [strsD R, .str m.globs[j].name]) _ (by simp) (by simp) (fun _ => rfl) (fun _ => containsS_pure R m.globs[j].name) ?_
  simp
  refine ⟨fun h => ?_, fun h => ?_⟩
  ·rw [if_pos h] at hs
   refine ⟨by omega, j + 1, by omega, by omega, srcs [(0, .id 0), (1, .id 1), (2, .id 2), (3, .id 17)], ?_⟩
   simp [SLeK, hs]
   exact ⟨DLe_int (wrap_succ (by omega)), fun i hi => appRow_glob hi⟩
  ·rw [if_neg (by simp [h])] at hs
   refine ⟨j + 1, by omega, by omega, srcs [(0, .id 0), (1, .id 1), (2, .id 2), (3, .id 3)], ?_⟩
   simp [SLeK, hs]
   exact DLe_int (wrap_succ (by omega))
 ·rw [flT_all _ hge]
  subst hR
  exact DLe.refl _
def callsI (l : List Inst) : List ByteArray := (l.filter fun i => decide (i.op = 14)).map (·.name)
def callsL (m : Module) (s : ByteArray) : List ByteArray := match findF m s with
 | some f => onceL (callsI (allIns f))
 | none => []




theorem mem_hasN {l : List ByteArray} {s : ByteArray} : hasN l s = true ↔ s ∈ l := hasN_iff _ _
def leads (m : Module) (s : ByteArray) : List ByteArray := match findF m s with
 | none => []
 | some f => namesOf (allIns f)
inductive Rch (m : Module) (R : List ByteArray) : ByteArray → Prop
 | root {s : ByteArray} (h : s ∈ R) : Rch m R s
 | step {s t : ByteArray} (h : Rch m R s) (ht : t ∈ leads m s) : Rch m R t
theorem Rch.mono {m : Module} {R R' : List ByteArray} (h : ∀ s ∈ R, Rch m R' s) {t : ByteArray} (ht : Rch m R t) : Rch m R' t := by
 induction ht with
 | root hs => exact h _ hs
 | step _ ht ih => exact .step ih ht
theorem dfs_sub (m : Module) : ∀ (n : Nat) (S : List ByteArray) (s t : ByteArray), t ∈ dfs m n S s → t ∈ S ∨ Rch m [s] t := by
  intro n
  induction n with
  | zero => intro S s t h; exact .inl h
  | succ n ih =>
    intro S s t h
    unfold dfs at h
    split at h
    · exact .inl h
    · split at h
      · rcases List.mem_append.1 h with h | h
        · exact .inl h
        · exact .inr (.root h)
      · rename_i f hf
        have key : ∀ (l : List ByteArray) (S : List ByteArray), (∀ x ∈ l, Rch m [s] x) → t ∈ l.foldl (dfs m n) S → t ∈ S ∨ Rch m [s] t := by
          intro l
          induction l with
          | nil => intro S _ h; exact .inl h
          | cons x l ihl =>
            intro S hl h
            rcases ihl _ (fun y hy => hl y (List.mem_cons_of_mem _ hy)) h with h1 | h1
            · rcases ih S x t h1 with h2 | h2
              · exact .inl h2
              · exact .inr (h2.mono fun y hy => by
                  obtain rfl : y = x := by simpa using hy
                  exact hl _ (by simp))
            · exact .inr h1
        have hs : ∀ x ∈ namesOf (allIns f), Rch m [s] x := fun x hx => .step (s := s) (.root (by simp)) (by unfold leads; rw [hf]; exact hx)
        rcases key _ _ hs h with h1 | h1
        · rcases List.mem_append.1 h1 with h1 | h1
          · exact .inl h1
          · exact .inr (.root h1)
        · exact .inr h1
def Closed (m : Module) (S S' : List ByteArray) : Prop := ∀ x ∈ S', x ∉ S → ∀ y ∈ leads m x, y ∈ S'
theorem dfs_has (m : Module) (n : Nat) (S : List ByteArray) (s t : ByteArray) (h : t ∈ S) : t ∈ dfs m n S s := mem_hasN.1 (dfs_mono m n S s t (mem_hasN.2 h))
theorem fold_has (m : Module) (n : Nat) (t : ByteArray) (l S : List ByteArray) (h : t ∈ S) : t ∈ l.foldl (dfs m n) S := mem_hasN.1 (fold_mono m n t l S (mem_hasN.2 h))
theorem left_sub {m : Module} {S S' : List ByteArray} (h : ∀ s ∈ S, s ∈ S') : left m S' ≤ left m S := left_mono fun s hs => mem_hasN.2 (h s (mem_hasN.1 hs))
theorem dfs_full (m : Module) : ∀ (n : Nat) (S : List ByteArray) (s : ByteArray), left m S < n → s ∈ dfs m n S s ∧ Closed m S (dfs m n S s) := by
  intro n
  induction n with
  | zero => intro S s h; omega
  | succ n ih =>
    intro S s hn
    have key : ∀ (l : List ByteArray) (S : List ByteArray), left m S < n → (∀ x ∈ l, x ∈ l.foldl (dfs m n) S) ∧ Closed m S (l.foldl (dfs m n) S) := by
      intro l
      induction l with
      | nil => intro S _; exact ⟨fun x hx => (by cases hx), fun x hx hn => absurd hx hn⟩
      | cons x l ihl =>
        intro S hS
        have hS' : left m (dfs m n S x) < n := Nat.lt_of_le_of_lt (left_sub fun t ht => dfs_has m n S x t ht) hS
        obtain ⟨h1, h2⟩ := ihl (dfs m n S x) hS'
        obtain ⟨h3, h4⟩ := ih S x hS
        refine ⟨fun y hy => ?_, fun y hy hyn z hz => ?_⟩
        · rcases List.mem_cons.1 hy with rfl | hy
          · exact fold_has m n _ l _ h3
          · exact h1 y hy
        · by_cases hyd : y ∈ dfs m n S x
          · exact fold_has m n _ l _ (h4 y hyd hyn z hz)
          · exact h2 y hy hyd z hz
    unfold dfs
    split
    · rename_i hs
      exact ⟨mem_hasN.1 hs, fun x hx hn => absurd hx hn⟩
    · rename_i hs
      have hs' : hasN S s = false := by simpa using hs
      split
      · rename_i hf
        refine ⟨by simp, fun x hx hxn y hy => ?_⟩
        have hx' : x = s := by
          rcases List.mem_append.1 hx with h | h
          · exact absurd h hxn
          · simpa using h
        subst hx'
        unfold leads at hy
        rw [hf] at hy
        cases hy
      · rename_i f hf
        have hl := left_lt hf hs'
        obtain ⟨h1, h2⟩ := key (namesOf (allIns f)) (S ++ [s]) (by omega)
        refine ⟨fold_has m n _ _ _ (by simp), fun x hx hxn y hy => ?_⟩
        by_cases hxs : x = s
        · subst hxs
          unfold leads at hy
          rw [hf] at hy
          exact h1 y hy
        · exact h2 x hx (by simp [hxn, hxs]) y hy
theorem reachL_iff (m : Module) (R : List ByteArray) (t : ByteArray) : t ∈ R.foldl (dfs m (m.funcs.length + 1)) [] ↔ Rch m R t := by
  have hlt : ∀ S, left m S < m.funcs.length + 1 := fun S => Nat.lt_succ_of_le (List.length_filter_le _ _)
  constructor
  · have key : ∀ (l S : List ByteArray), (∀ x ∈ l, Rch m R x) → t ∈ l.foldl (dfs m (m.funcs.length + 1)) S → t ∈ S ∨ Rch m R t := by
      intro l
      induction l with
      | nil => intro S _ h; exact .inl h
      | cons x l ih =>
        intro S hl h
        rcases ih _ (fun y hy => hl y (List.mem_cons_of_mem _ hy)) h with h1 | h1
        · rcases dfs_sub m _ _ _ _ h1 with h2 | h2
          · exact .inl h2
          · exact .inr (h2.mono fun y hy => by
              obtain rfl : y = x := by simpa using hy
              exact hl _ (by simp))
        · exact .inr h1
    intro h
    rcases key R [] (fun x hx => .root hx) h with h1 | h1
    · cases h1
    · exact h1
  · have key : ∀ (l S : List ByteArray), (∀ x ∈ l, x ∈ l.foldl (dfs m (m.funcs.length + 1)) S) ∧ Closed m S (l.foldl (dfs m (m.funcs.length + 1)) S) := by
      intro l
      induction l with
      | nil => intro S; exact ⟨fun x hx => (by cases hx), fun x hx hn => absurd hx hn⟩
      | cons x l ihl =>
        intro S
        obtain ⟨h1, h2⟩ := ihl (dfs m (m.funcs.length + 1) S x)
        obtain ⟨h3, h4⟩ := dfs_full m _ S x (hlt S)
        refine ⟨fun y hy => ?_, fun y hy hyn z hz => ?_⟩
        · rcases List.mem_cons.1 hy with rfl | hy
          · exact fold_has m _ _ l _ h3
          · exact h1 y hy
        · by_cases hyd : y ∈ dfs m (m.funcs.length + 1) S x
          · exact fold_has m _ _ l _ (h4 y hyd hyn z hz)
          · exact h2 y hy hyd z hz
    intro h
    obtain ⟨h1, h2⟩ := key R []
    induction h with
    | root hs => exact h1 _ hs
    | step _ ht ih => exact h2 _ ih (by simp) _ ht
theorem onceL_mem (l : List ByteArray) (s : ByteArray) : s ∈ onceL l ↔ s ∈ l := by
  have key : ∀ (l acc : List ByteArray), s ∈ l.foldl (fun acc x => if hasN acc x = true then acc else acc ++ [x]) acc ↔ s ∈ acc ∨ s ∈ l := by
    intro l
    induction l with
    | nil => intro acc; simp
    | cons x l ih =>
      intro acc
      rw [List.foldl_cons, ih]
      split
      · rename_i h
        have hx := mem_hasN.1 h
        constructor
        · rintro (h | h)
          · exact .inl h
          · exact .inr (List.mem_cons_of_mem _ h)
        · rintro (h | h)
          · exact .inl h
          · rcases List.mem_cons.1 h with rfl | h
            · exact .inl hx
            · exact .inr h
      · simp only [List.mem_append, List.mem_cons, List.not_mem_nil, or_false]
        constructor
        · rintro ((h | h) | h)
          · exact .inl h
          · exact .inr (.inl h)
          · exact .inr (.inr h)
        · rintro (h | h | h)
          · exact .inl (.inl h)
          · exact .inl (.inr h)
          · exact .inr h
  have := key l []
  unfold onceL
  rw [this]
  simp
theorem fromL_mem {m : Module} {R : List ByteArray} {s : ByteArray} : s ∈ fromL m R ↔ s ∈ namesM m ∧ Rch m R s := by
 unfold fromL reachL
 rw [List.mem_filter, onceL_mem]
 exact and_congr_right fun _ => by rw [mem_hasN]; exact reachL_iff m R s
theorem find?_filter {α : Type} (p q : α → Bool) : ∀ l : List α, (∀ x ∈ l, q x = true → p x = true) → (l.filter p).find? q = l.find? q
  | [], _ => rfl
  | x :: l, h => by
    have ih := find?_filter p q l fun y hy => h y (List.mem_cons_of_mem _ hy)
    by_cases hq : q x = true
    · have hp := h x (by simp) hq
      simp [hp, hq]
    · have hq' : q x = false := by simpa using hq
      by_cases hp : p x = true
      · simp [hp, hq', ih]
      · have hp' : p x = false := by simpa using hp
        simp [hp', hq', ih]
theorem fname_mem {m : Module} {f : Func} (h : f ∈ m.funcs) : f.name ∈ namesM m := List.mem_append_left _ (List.mem_map.2 ⟨f, h, rfl⟩)
theorem gname_mem {m : Module} {g : Glob} (h : g ∈ m.globs) : g.name ∈ namesM m := List.mem_append_right _ (List.mem_map.2 ⟨g, h, rfl⟩)
theorem mem_dropF {m : Module} {f : Func} : f ∈ (dropM m).funcs ↔ f ∈ m.funcs ∧ Rch m (rootsL m) f.name := by
 unfold dropM
 simp only [List.mem_filter]
 exact and_congr_right fun h => by rw [mem_hasN, fromL_mem]; exact and_iff_right (fname_mem h)
theorem mem_dropG {m : Module} {g : Glob} : g ∈ (dropM m).globs ↔ g ∈ m.globs ∧ Rch m (rootsL m) g.name := by
 unfold dropM
 simp only [List.mem_filter]
 exact and_congr_right fun h => by rw [mem_hasN, fromL_mem]; exact and_iff_right (gname_mem h)
theorem findF_drop {m : Module} {s : ByteArray} (h : Rch m (rootsL m) s) : findF (dropM m) s = findF m s := by
 unfold findF dropM
 refine find?_filter _ _ _ fun f hf hs => ?_
 obtain rfl : f.name = s := by simpa using hs
 exact mem_hasN.2 (fromL_mem.2 ⟨fname_mem hf, h⟩)
theorem leads_drop {m : Module} {s : ByteArray} (h : Rch m (rootsL m) s) : leads (dropM m) s = leads m s := by
 unfold leads
 rw [findF_drop h]
theorem rootsL_mem {m : Module} {s : ByteArray} : s ∈ rootsL m ↔ (∃ f ∈ m.funcs, rootF f = true ∧ f.name = s) ∨ ∃ g ∈ m.globs, rootG g = true ∧ g.name = s := by
 unfold rootsL
 simp only [List.mem_append, List.mem_map, List.mem_filter]
 constructor
 ·rintro (⟨f, ⟨h1, h2⟩, h3⟩ | ⟨g, ⟨h1, h2⟩, h3⟩)
  ·exact .inl ⟨f, h1, h2, h3⟩
  ·exact .inr ⟨g, h1, h2, h3⟩
 ·rintro (⟨f, h1, h2, h3⟩ | ⟨g, h1, h2, h3⟩)
  ·exact .inl ⟨f, ⟨h1, h2⟩, h3⟩
  ·exact .inr ⟨g, ⟨h1, h2⟩, h3⟩
theorem rootsL_drop {m : Module} {s : ByteArray} (h : s ∈ rootsL m) : s ∈ rootsL (dropM m) := by
 have hr : Rch m (rootsL m) s := .root h
 rw [rootsL_mem] at h ⊢
 rcases h with ⟨f, h1, h2, rfl⟩ | ⟨g, h1, h2, rfl⟩
 ·exact .inl ⟨f, mem_dropF.2 ⟨h1, hr⟩, h2, rfl⟩
 ·exact .inr ⟨g, mem_dropG.2 ⟨h1, hr⟩, h2, rfl⟩
theorem rch_drop {m : Module} {s : ByteArray} (h : Rch m (rootsL m) s) : Rch (dropM m) (rootsL (dropM m)) s := by
 induction h with
 | root h => exact .root (rootsL_drop h)
 | step hs ht ih => exact .step ih (by rw [leads_drop hs]; exact ht)
theorem drop_drop (m : Module) : dropM (dropM m) = dropM m := by
 have hF : (dropM (dropM m)).funcs = (dropM m).funcs := by
  rw [show (dropM (dropM m)).funcs = (dropM m).funcs.filter fun f => hasN (fromL (dropM m) (rootsL (dropM m))) f.name from rfl]
  rw [List.filter_eq_self]
  exact fun f hf => mem_hasN.2 (fromL_mem.2 ⟨fname_mem hf, rch_drop (mem_dropF.1 hf).2⟩)
 have hG : (dropM (dropM m)).globs = (dropM m).globs := by
  rw [show (dropM (dropM m)).globs = (dropM m).globs.filter fun g => hasN (fromL (dropM m) (rootsL (dropM m))) g.name from rfl]
  rw [List.filter_eq_self]
  exact fun g hg => mem_hasN.2 (fromL_mem.2 ⟨gname_mem hg, rch_drop (mem_dropG.1 hg).2⟩)
 cases h1 : dropM (dropM m)
 cases h2 : dropM m
 rw [h1, h2] at hF hG
 simp only at hF hG
 rw [hF, hG]
theorem drop_funcs_le (m : Module) : (dropM m).funcs.length ≤ m.funcs.length := List.length_filter_le _ _
theorem drop_globs_le (m : Module) : (dropM m).globs.length ≤ m.globs.length := List.length_filter_le _ _
theorem Small.drop {m : Module} (h : Small m) : Small (dropM m) where
 len := by have h1 := drop_funcs_le m; have h2 := drop_globs_le m; have := h.len; omega
 ins := fun f hf => h.ins f (mem_dropF.1 hf).1
 blks := fun f hf => h.blks f (mem_dropF.1 hf).1
 args := fun f hf => h.args f (mem_dropF.1 hf).1
theorem leads_of {m : Module} (h : ModOk m) {f : Func} (hf : f ∈ m.funcs) : leads m f.name = namesOf (allIns f) := by
 unfold leads
 rw [findF_uniq h hf]
theorem drop_ok {m : Module} (h : ModOk m) : ModOk (dropM m) := by
 have hnm : ∀ f ∈ (dropM m).funcs, ∀ i ∈ allIns f, isNamed i.op = true → Rch m (rootsL m) i.name := fun f hf i hi hn => by
  obtain ⟨h1, h2⟩ := mem_dropF.1 hf
  exact .step h2 (by rw [leads_of h h1]; exact List.mem_map.2 ⟨i, List.mem_filter.2 ⟨hi, hn⟩, rfl⟩)
 refine .mk' (Nat.le_trans (drop_funcs_le m) h.nf) (Nat.le_trans (drop_globs_le m) h.ng) (fun f hf => h.funcs f (mem_dropF.1 hf).1) (fun g hg => h.globs g (mem_dropG.1 hg).1) ?_ (fun f hf i hi h14 => ?_) (fun f hf i hi h12 => ?_)
 ·have : (namesM (dropM m)).Sublist (namesM m) := List.Sublist.append (List.filter_sublist.map _) (List.filter_sublist.map _)
  exact h.names.sublist this
 ·obtain ⟨g, hg1, hg2, hg3⟩ := h.call (mem_insM (mem_dropF.1 hf).1 hi) h14
  exact ⟨g, mem_dropF.2 ⟨hg1, by rw [hg2]; exact hnm f hf i hi (isNamed_iff.2 (.inr (.inr h14)))⟩, hg2, hg3⟩
 ·obtain ⟨g, hg1, hg2⟩ := hasG_iff.1 ((missI_false (h.miss i (mem_insM (mem_dropF.1 hf).1 hi))).2 h12)
  refine ⟨g, mem_dropG.2 ⟨hg1, ?_⟩, hg2⟩
  rw [hg2]
  exact hnm f hf i hi (isNamed_iff.2 (by rcases h12 with h | h <;> simp [h]))

theorem nodup_le {α : Type} [DecidableEq α] : ∀ {l l' : List α}, l.Nodup → (∀ x ∈ l, x ∈ l') → l.length ≤ l'.length
  | [], _, _, _ => Nat.zero_le _
  | x :: l, l', hn, hs => by
    have hx := hs x (by simp)
    have h1 := List.nodup_cons.1 hn
    have h2 := nodup_le (l := l) (l' := l'.erase x) h1.2 fun y hy => by
      have hne : y ≠ x := fun e => h1.1 (e ▸ hy)
      exact (List.mem_erase_of_ne hne).2 (hs y (by simp [hy]))
    have h3 := List.length_erase_of_mem hx
    have h4 := List.length_pos_of_mem hx
    simp only [List.length_cons]
    omega
def VS (m : Module) (p q : List ByteArray × List ByteArray) : Prop :=
 ∃ N : List ByteArray, q.2 = p.2 ++ N ∧ N.Nodup ∧ (∀ x ∈ N, x ∉ p.1 ∧ (findF m x).isSome = true) ∧ (∀ x, x ∈ q.1 ↔ x ∈ p.1 ∨ x ∈ N) ∧
  ∀ i (h : i < N.length), ∀ v ∈ callsL m N[i], (findF m v).isSome = true → v ∈ p.2 ∨ v ∈ N.take i ∨ Rch m [v] N[i]
theorem VS.refl (m : Module) (p : List ByteArray × List ByteArray) : VS m p p := ⟨[], by simp, List.nodup_nil, fun x hx => (by cases hx), fun x => by simp, fun i h => by cases h⟩
theorem VS.trans {m : Module} {p q r : List ByteArray × List ByteArray} (h : VS m p q) (k : VS m q r) : VS m p r := by
 obtain ⟨N, h1, h2, h3, h4, h5⟩ := h
 obtain ⟨M, k1, k2, k3, k4, k5⟩ := k
 refine ⟨N ++ M, by rw [k1, h1, List.append_assoc], List.nodup_append.2 ⟨h2, k2, fun a ha b hb e => (k3 b hb).1 ((h4 b).2 (.inr (e ▸ ha)))⟩, fun x hx => ?_, fun x => ?_, fun i hi v hv hs => ?_⟩
 ·rcases List.mem_append.1 hx with hx | hx
  ·exact h3 x hx
  ·exact ⟨fun h' => (k3 x hx).1 ((h4 x).2 (.inl h')), (k3 x hx).2⟩
 ·rw [k4, h4, List.mem_append, or_assoc]
 ·by_cases hlt : i < N.length
  ·rw [List.getElem_append_left hlt] at hv ⊢
   rw [List.take_append_of_le_length (Nat.le_of_lt hlt)]
   exact h5 i hlt v hv hs
  ·have hge : N.length ≤ i := by omega
   have hi' : i - N.length < M.length := by simp at hi; omega
   rw [List.getElem_append_right hge] at hv ⊢
   rcases k5 (i - N.length) hi' v hv hs with h6 | h6 | h6
   ·rw [h1] at h6
    rcases List.mem_append.1 h6 with h6 | h6
    ·exact .inl h6
    ·refine .inr (.inl ?_)
     rw [List.take_append]
     rw [List.take_of_length_le hge]
     exact List.mem_append_left _ h6
   ·refine .inr (.inl ?_)
    rw [List.take_append]
    exact List.mem_append_right _ h6
   ·exact .inr (.inr h6)
structure BInv (m : Module) (r : ByteArray) (i : Nat) (l : List ByteArray) : Prop where
 le : i ≤ l.length
 root : r ∈ l
 nodup : l.Nodup
 sub : ∀ x ∈ l, x = r ∨ x ∈ namesM m
 rch : ∀ x ∈ l, Rch m [r] x
 out : ∀ j (h : j < l.length), j < i → ∀ y ∈ leads m l[j], y ∈ l
theorem BInv.len {m : Module} {r : ByteArray} {i : Nat} {l : List ByteArray} (h : BInv m r i l) : l.length ≤ m.funcs.length + m.globs.length + 1 := by
 have h1 := nodup_le (l' := r :: namesM m) h.nodup fun x hx => by
  rcases h.sub x hx with rfl | h'
  ·simp
  ·simp [h']
 rw [List.length_cons, namesM_length] at h1
 exact h1
theorem BInv.start (m : Module) (r : ByteArray) : BInv m r 0 [r] := ⟨by simp, by simp, by simp, fun x hx => .inl (by simpa using hx), fun x hx => .root hx, fun j h hj => by omega⟩
theorem BInv.add {m : Module} {r : ByteArray} {i : Nat} {l : List ByteArray} (h : BInv m r i l) {x : ByteArray} (hx : hasN l x = false) (hn : x ∈ namesM m) (hr : Rch m [r] x) : BInv m r i (l ++ [x]) := by
 have hxl : x ∉ l := fun h' => by rw [mem_hasN.2 h'] at hx; cases hx
 refine ⟨by simp; have := h.le; omega, by simp [h.root], List.nodup_append.2 ⟨h.nodup, by simp, fun a ha b hb e => ?_⟩, fun y hy => ?_, fun y hy => ?_, fun j hj hji y hy => ?_⟩
 ·rw [List.mem_singleton.1 hb] at e
  exact hxl (e ▸ ha)
 ·rcases List.mem_append.1 hy with hy | hy
  ·exact h.sub y hy
  ·rw [List.mem_singleton.1 hy]; exact .inr hn
 ·rcases List.mem_append.1 hy with hy | hy
  ·exact h.rch y hy
  ·rw [List.mem_singleton.1 hy]; exact hr
 ·have hjl : j < l.length := by have := h.le; omega
  rw [List.getElem_append_left hjl] at hy
  exact List.mem_append_left _ (h.out j hjl hji y hy)
theorem BInv.next {m : Module} {r : ByteArray} {i : Nat} {l : List ByteArray} (h : BInv m r i l) (hi : i < l.length) (ho : ∀ y ∈ leads m l[i], y ∈ l) : BInv m r (i + 1) l :=
 ⟨hi, h.root, h.nodup, h.sub, h.rch, fun j hj hji y hy => by
  by_cases e : j = i
  ·subst e; exact ho y hy
  ·exact h.out j hj (by omega) y hy⟩
theorem BInv.done {m : Module} {r : ByteArray} {l : List ByteArray} (h : BInv m r l.length l) (s : ByteArray) : s ∈ l ↔ Rch m [r] s := by
  refine ⟨h.rch s, fun hs => ?_⟩
  induction hs with
  | root hx => rw [List.mem_singleton.1 hx]; exact h.root
  | step _ ht ih =>
    obtain ⟨j, hj, rfl⟩ := List.getElem_of_mem ih
    exact h.out j hj hj _ ht
def flO (l : List ByteArray) (m : Module) (k : Nat) : List ByteArray := onceL (((namesM m).take k).filter fun s => hasN l s)
@[simp] theorem flO_zero (l : List ByteArray) (m : Module) : flO l m 0 = [] := rfl


structure SimD (m : Module) (w w' : Wd) : Prop where
 same : w' = { w with globs := w'.globs }
 globs : ∀ s, Rch m (rootsL m) s → (∃ g ∈ m.globs, g.name = s) → valAt w'.globs (globI (dropM m) s) = valAt w.globs (globI m s)
 len : w.globs.length = m.globs.length
 len' : w'.globs.length = (dropM m).globs.length
theorem SimD.step {m : Module} {w w' : Wd} (h : SimD m w w') (fuel : Nat) : SimD m (stepW fuel w) (stepW fuel w') := by
 have hs := h.same
 unfold stepW
 rw [show w'.steps = w.steps from by rw [hs]]
 split <;> exact ⟨by rw [hs], h.globs, h.len, h.len'⟩
theorem SimD.enter {m : Module} {w w' : Wd} (h : SimD m w w') (n : Nat) : SimD m (enterW n w) (enterW n w') := by
 have hs := h.same
 unfold enterW
 rw [show w'.deep = w.deep from by rw [hs]]
 split <;> exact ⟨by rw [hs], h.globs, h.len, h.len'⟩
theorem SimD.gives {m : Module} (hok : ModOk m) {w w' : Wd} (h : SimD m w w') (inp : ByteArray) (x : Inst) (vals : List Int) (hr : x.op = 12 ∨ x.op = 13 → Rch m (rootsL m) x.name ∧ ∃ g ∈ m.globs, g.name = x.name) :
  SimD m (givesW m inp x vals w).1 (givesW (dropM m) inp x vals w').1 ∧ (givesW (dropM m) inp x vals w').2 = (givesW m inp x vals w).2 := by
 have hs := h.same
 have hrd : w'.read = w.read := by rw [hs]
 unfold givesW
 split
 ·exact ⟨h, rfl⟩
 split
 ·rename_i h12
  obtain ⟨h1, h2⟩ := hr (.inl h12)
  exact ⟨h, h.globs _ h1 h2⟩
 split
 ·rename_i h13
  obtain ⟨h1, h2⟩ := hr (.inr h13)
  refine ⟨⟨by simp only; rw [hs], fun s hs1 hs2 => ?_, by simp only [List.length_set]; exact h.len, by simp only [List.length_set]; exact h.len'⟩, rfl⟩
  simp only [valAt_set]
  have hdrop : ∀ t, Rch m (rootsL m) t → (∃ g ∈ m.globs, g.name = t) → ∃ g ∈ (dropM m).globs, g.name = t := fun t ht ⟨g, hg, hn⟩ => ⟨g, mem_dropG.2 ⟨hg, by rw [hn]; exact ht⟩, hn⟩
  obtain ⟨k, hk, e1, e2, e3⟩ := globI_at h2
  obtain ⟨j, hj, f1, f2, f3⟩ := globI_at hs2
  obtain ⟨k', hk', e1', e2', e3'⟩ := globI_at (hdrop _ h1 h2)
  obtain ⟨j', hj', f1', f2', f3'⟩ := globI_at (hdrop _ hs1 hs2)
  rw [h.globs s hs1 hs2, e1, f1, e1', f1', h.len, h.len']
  simp only [Int.toNat_natCast]
  by_cases e : s = x.name
  ·subst e
   rw [f1] at e1
   rw [f1'] at e1'
   rw [if_pos ⟨by omega, by omega⟩, if_pos ⟨by omega, by omega⟩]
  ·rw [if_neg, if_neg]
   ·rintro ⟨rfl, _⟩
    exact e (f3.symm.trans e3)
   ·rintro ⟨rfl, _⟩
    exact e (f3'.symm.trans e3')
 split
 ·rw [hrd]
  split
  ·exact ⟨h, rfl⟩
  ·exact ⟨⟨by simp only; rw [hs], h.globs, h.len, h.len'⟩, rfl⟩
 split
 ·exact ⟨⟨by simp only; rw [hs], h.globs, h.len, h.len'⟩, rfl⟩
 ·exact ⟨h, rfl⟩

def u64C (x : Int) : List DV := [.lit (.int .u64 x)]
@[simp] theorem u64C_length (x : Int) : (u64C x).length = 1 := rfl
@[simp] theorem u64C_0 (x : Int) : (u64C x)[0]? = some (.lit (.int .u64 x)) := rfl
@[simp] theorem u64C_len? (x : Int) : (u64C x)[1]? = none := rfl
@[simp] theorem u64C_map (x : Int) : (u64C x).map AV.d = [.d (.lit (.int .u64 x))] := rfl
@[reducible] def u64sD (xs : List Int) : DV := .sl 1 xs.length fun k => u64C (xs[k]?.getD 0)
@[simp high] theorem u64sD_cell (xs : List Int) : DV.cell (u64sD xs) = true := rfl
@[simp high] theorem u64sD_isLit (xs : List Int) : DV.isLit (u64sD xs) = false := rfl
@[simp high] theorem u64sD_lenV (xs : List Int) : lenV (.d (u64sD xs)) = .int xs.length := rfl
@[simp high] theorem u64sD_lenOk (H : Heap) (s : Bool) (xs : List Int) : lenOk H s (.d (u64sD xs)) = (s = false) := rfl
@[simp high] theorem u64sD_slLen (xs : List Int) : slLen (.d (u64sD xs)) = xs.length := rfl
@[simp high] theorem u64sD_idxV (H : Heap) (xs : List Int) (k : IntKind) (i : Int) : idxH H (.d (u64sD xs)) (.d (.lit (.int k i))) = .d (.cref (u64C (xs[i.toNat]?.getD 0)) 0) := rfl
@[simp high] theorem u64sD_idxOk (H : Heap) (n : Nat) (xs : List Int) (k : IntKind) (i : Int) : idxHOk H n (.d (u64sD xs)) (.d (.lit (.int k i))) = (1 = n ∧ 0 ≤ i ∧ i < xs.length) := rfl
@[simp high] theorem u64sD_moreV (n : Nat) (xs : List Int) : moreV n (.d (u64sD xs)) = if 1 = n then some (xs.length, fun k => u64C (xs[k]?.getD 0)) else none := rfl
@[simp high] theorem u64sD_slcV (xs : List Int) (lo hi : Int) : slcV (.d (u64sD xs)) lo hi = .d (.sl 1 (hi.toNat - lo.toNat) fun i => u64C (xs[lo.toNat + i]?.getD 0)) := rfl
@[simp high] theorem u64sD_slcOk (n : Nat) (xs : List Int) (lo hi : Int) : slcOk n (.d (u64sD xs)) lo hi = (1 = n ∧ 0 ≤ lo ∧ lo ≤ hi ∧ hi ≤ xs.length) := rfl
abbrev DV.u64 (n : Int) : DV := .lit (.int .u64 n)
def worldC (w : Wd) : List DV := [.bool w.ended, .u64 w.code, .str w.out, .int w.read, .int w.steps, .int w.deep, u64sD w.globs, .int w.bad]
@[simp] theorem worldC_length (x : Wd) : (worldC x).length = 8 := rfl
@[simp] theorem worldC_len? (x : Wd) : (worldC x)[8]? = none := rfl
@[simp] theorem worldC_map (w : Wd) : (worldC w).map AV.d = [.d (.bool w.ended), .d (.u64 w.code), .d (.str w.out), .d (.int w.read), .d (.int w.steps), .d (.int w.deep), .d (u64sD w.globs), .d (.int w.bad)] := rfl
theorem wrapU_id {n : Int} (h : 0 ≤ n) (h' : n < 18446744073709551616) : IntKind.u64.wrap n = n := by
 unfold IntKind.wrap
 simp only [show IntKind.u64.signed = false from rfl, Bool.false_and, if_neg (by simp : ¬ false = true)]
 exact Int.emod_eq_of_lt h h'

structure CallIn (m : Module) (fuel deep : Nat) (w : Wd) (name : ByteArray) (args : List Int) (n : Nat) (f : Func) : Prop where
 good : Good m fuel w
 pos : ∀ v ∈ args, 0 ≤ v
 n1 : 1 ≤ n
 nd : n ≤ deep
 found : findF m name = some f
 has : 0 < f.blocks.length
 len : (args.length : Int) = f.params
def traceC (w : Wd) : List DV := [.bool w.ended, .u64 w.code, .str w.out, .int w.read, .int w.steps, .int w.deep]
@[simp] theorem traceC_length (x : Wd) : (traceC x).length = 6 := rfl
@[simp] theorem traceC_len? (x : Wd) : (traceC x)[6]? = none := rfl
@[simp] theorem traceC_map (w : Wd) : (traceC w).map AV.d = [.d (.bool w.ended), .d (.u64 w.code), .d (.str w.out), .d (.int w.read), .d (.int w.steps), .d (.int w.deep)] := rfl
def oneP (m : Module) (tag budget : Int) : Module := if tag = 1 then foldM m else if tag = 2 then trimM m else if tag = 3 then dropM m else if tag = 4 then inlM m budget else m
def runP (m : Module) (tags : List Int) (budget : Int) : Module := tags.foldl (fun m t => oneP m t budget) m
def tagOk (t : Int) : Bool := decide (1 ≤ t) && decide (t ≤ 4)
def passE (m : Module) (tags : List Int) : Int := if tags.length ≤ 16 ∧ tags.all tagOk = true then wholeE m else 1
def sizeM (m : Module) : Nat := (m.funcs.map fun f => (f.blocks.map fun b => b.ins.length + 1).sum).sum
theorem tagOk_iff {t : Int} : tagOk t = true ↔ t = 1 ∨ t = 2 ∨ t = 3 ∨ t = 4 := by
 unfold tagOk
 simp only [Bool.and_eq_true, decide_eq_true_eq]
 omega
theorem oneP_ok {m : Module} (h : ModOk m) (t budget : Int) : ModOk (oneP m t budget) := by
 unfold oneP
 repeat' split
 ·exact fold_ok h
 ·exact trim_ok h
 ·exact drop_ok h
 ·exact inl_ok h budget
 ·exact h
theorem runP_ok {budget : Int} : ∀ (tags : List Int) {m : Module}, ModOk m → ModOk (runP m tags budget)
 | [], _, h => h
 | t :: tags, m, h => runP_ok tags (oneP_ok h t budget)
theorem runP_append (m : Module) (a b : List Int) (budget : Int) : runP m (a ++ b) budget = runP (runP m a budget) b budget := List.foldl_append
theorem runP_take {m : Module} {tags : List Int} {budget : Int} {k : Nat} (hk : k < tags.length) : runP m (tags.take (k + 1)) budget = oneP (runP m (tags.take k) budget) tags[k] budget := by
 rw [List.take_succ_eq_append_getElem hk, runP_append]
 rfl
theorem fold_size (m : Module) : sizeM (foldM m) = sizeM m := by
 unfold sizeM foldM mapM foldF
 simp only [List.map_map, Function.comp_def, foldB_ins, foldIns_length]
theorem trim_size (m : Module) : sizeM (trimM m) ≤ sizeM m := by
  unfold sizeM trimM mapM trimF
  simp only [List.map_map, Function.comp_def, endT_ins]
  have key : ∀ f : Func, ((sel (inBL f) f.blocks).map fun b => (trimIns b).length + 1).sum ≤ (f.blocks.map fun b => b.ins.length + 1).sum := fun f => by
    refine Nat.le_trans (sel_sum (fun b => (trimIns b).length + 1) (inBL f) f.blocks) ?_
    have : ∀ l : List Block, (l.map fun b => (trimIns b).length + 1).sum ≤ (l.map fun b => b.ins.length + 1).sum := by
      intro l
      induction l with
      | nil => exact Nat.le_refl _
      | cons b l ih =>
        have := trimIns_le b
        simp only [List.map_cons, List.sum_cons]
        omega
    exact this _
  have : ∀ l : List Func, (l.map fun f => ((sel (inBL f) f.blocks).map fun b => (trimIns b).length + 1).sum).sum ≤ (l.map fun f => (f.blocks.map fun b => b.ins.length + 1).sum).sum := by
    intro l
    induction l with
    | nil => exact Nat.le_refl _
    | cons f l ih =>
      have := key f
      simp only [List.map_cons, List.sum_cons]
      omega
  exact this _
theorem drop_size (m : Module) : sizeM (dropM m) ≤ sizeM m := by
  unfold sizeM dropM
  have : ∀ (p : Func → Bool) (l : List Func), ((l.filter p).map fun f => (f.blocks.map fun b => b.ins.length + 1).sum).sum ≤ (l.map fun f => (f.blocks.map fun b => b.ins.length + 1).sum).sum := by
    intro p l
    induction l with
    | nil => exact Nat.le_refl _
    | cons f l ih =>
      rw [List.filter_cons]
      split
      · simp only [List.map_cons, List.sum_cons]; omega
      · simp only [List.map_cons, List.sum_cons]; omega
  exact this _ _
theorem oneP_size {m : Module} {t budget : Int} (h : ¬ t = 4) : sizeM (oneP m t budget) ≤ sizeM m := by
 unfold oneP
 rw [if_neg h]
 repeat' split
 ·exact Nat.le_of_eq (fold_size m)
 ·exact trim_size m
 ·exact drop_size m
 ·exact Nat.le_refl _
theorem runP_size {budget : Int} : ∀ (tags : List Int) {m : Module}, (∀ t ∈ tags, ¬ t = 4) → sizeM (runP m tags budget) ≤ sizeM m
 | [], _, _ => Nat.le_refl _
 | t :: tags, m, h => Nat.le_trans (runP_size tags fun t' ht => h t' (by simp [ht])) (oneP_size (h t (by simp)))
theorem passE_zero {m : Module} {tags : List Int} : passE m tags = 0 ↔ (tags.length ≤ 16 ∧ tags.all tagOk = true) ∧ wholeE m = 0 := by
 unfold passE
 split
 ·rename_i h
  exact ⟨fun h' => ⟨h, h'⟩, fun h' => h'.2⟩
 ·rename_i h
  exact ⟨fun h' => by omega, fun h' => absurd h'.1 h⟩
def KOk' (m : Module) : Prop := ∀ f ∈ m.funcs, ∀ b ∈ f.blocks, ∀ i ∈ b.ins, i.k < 18446744073709551616
def c_pass_Size : ACode :=
 (.seq (.reg [Ro 1 (.box true (Sv 0)), Ro 2 (.mv (Ci 0))])
 (.seq (.reg [Ro 3 (.mv (Ci 0))])
 (.seq (.seq (.reg [Ro 8 (Fd 1 0), Ro 9 (Ld 8), Ro 10 (.len false (Sv 9)), Ro 11 (.mv (Ci 0))])
 (.block 0
 (.loop (.seq (.reg [Ro 12 (.bin .lss (Sv 11) (Sv 10))])
 (.seq (.cond (Sv 12)
 .skip
 (.exit 0))
 (.seq (.block 1
 (.seq (.seq (.reg [Ro 13 (.idx true (Sv 9) (Sv 11) 4), Ro 14 (Lk 13 4), Ro 5 (.new [(.string ⟨#[]⟩), (.int .i64 0), (.int .i64 0), (.slice none 0 0)]), Rn (.ini 1 (Sv 5) (Sv 14) 4)])
 (.frz (sl 5)))
 (.seq (.reg [Ro 15 (Fd 5 3), Ro 16 (Ld 15), Ro 17 (.len false (Sv 16)), Ro 18 (.mv (Ci 0))])
 (.block 2
 (.loop (.seq (.reg [Ro 19 (.bin .lss (Sv 18) (Sv 17))])
 (.seq (.cond (Sv 19)
 .skip
 (.exit 2))
 (.seq (.block 3
 (.seq (.seq (.reg [Ro 20 (.idx true (Sv 16) (Sv 18) 8), Ro 21 (Lk 20 8), Ro 7 (.new [(.int .i64 0), (.slice none 0 0), (.int .i64 0), (.int .i64 0), (.int .i64 0), (.slice none 0 0), (.int .i64 0), (.slice none 0 0)]), Rn (.ini 1 (Sv 7) (Sv 21) 8)])
 (.frz (sl 7)))
 (.reg [Ro 22 (Mv 3), Ro 23 (Fd 7 1), Ro 24 (Ld 23), Ro 25 (.len false (Sv 24)), Ro 26 (.bin .add (Sv 25) (Ci 1)), Ro 27 (.bin .add (Sv 22) (Sv 26)), Ro 3 (Mv 27)])))
 (.reg [Ro 28 (.bin .add (Sv 18) (Ci 1)), Ro 18 (Mv 28)])))))))))
 (.reg [Ro 29 (.bin .add (Sv 11) (Ci 1)), Ro 11 (Mv 29)])))))))
 (.seq (.reg [Ro 30 (Mv 3), Ro 2 (Mv 30)])
 .ret))))
def r_pass_Size : List ARes := [(.tmp (sl 2))]
theorem t_pass_Size : (Try.f7).body.bind (trCode Try.prog 8 (Try.f7).ntmps [] [] (drOk 8)) = some c_pass_Size := by kernel_rfl
theorem u_pass_Size : trRess Try.prog 8 (Try.f7).results.toList = some r_pass_Size := by kernel_rfl
def c_fold_two : ACode :=
 (.seq (.reg [Ro 2 (.mv (.c (.bool false)))])
 (.seq (.reg [Ro 3 (Mv 0), Ro 4 (.bin .geq (Sv 3) (Ci 2)), Ro 5 (Mv 4), Rg 6 5 true (Mv 0), Rg 7 5 true (.bin .leq (Sv 6) (Ci 11)), Ro 8 (.pick (Sv 5) (Sv 7) (.c (.bool false))), Ro 2 (Mv 8)])
 .ret))
def r_fold_two : List ARes := [(.tmp (sl 2))]
theorem t_fold_two : (Try.f86).body.bind (trCode Try.prog 8 (Try.f86).ntmps [] [] (drOk 8)) = some c_fold_two := by kernel_rfl
theorem u_fold_two : trRess Try.prog 8 (Try.f86).results.toList = some r_fold_two := by kernel_rfl
def c_fold_values : ACode :=
 (.seq (.reg [Ro 1 (.box true (Sv 0)), Ro 2 (.mv (.c (.slice none 0 0)))])
 (.seq (.reg [Ro 10 (Fd 1 0), Ro 11 (Ld 10), Ro 12 (.mx (Sv 11) (Ci 0)), Ro 13 (.vop 4 111 2 16 (Sv 12) (.c (.agg #[(.int .u64 0), (.bool false)]))), Ro 3 (.new [(.slice none 0 0)]), Rn (.st (Sv 3) (Sv 13) 1)])
 (.seq (.reg [Ro 14 (.mkfn 85 [Sv 3]), Ro 4 (Mv 14)])
 (.seq (.seq (.reg [Ro 15 (Fd 1 1), Ro 16 (Ld 15), Ro 17 (.len false (Sv 16)), Ro 18 (.mv (Ci 0))])
 (.block 0
 (.loop (.seq (.reg [Ro 19 (.bin .lss (Sv 18) (Sv 17))])
 (.seq (.cond (Sv 19)
 .skip
 (.exit 0))
 (.seq (.block 1
 (.seq (.seq (.reg [Ro 20 (.idx true (Sv 16) (Sv 18) 6), Ro 21 (Lk 20 6), Ro 6 (.new [(.int .i64 0), (.int .i64 0), (.int .i64 0), (.int .u64 0), (.string ⟨#[]⟩), (.slice none 0 0)]), Rn (.ini 1 (Sv 6) (Sv 21) 6)])
 (.frz (sl 6)))
 (.seq (.reg [Ro 22 (.bld [(.int .u64 0), (.bool false)] []), Ro 7 (.new [(.int .u64 0), (.bool false)]), Rn (.ini 1 (Sv 7) (Sv 22) 2)])
 (.seq (.seq (.seq (.seq (.reg [Rl 23 (Mv 4) 0, Rl 24 (Fd 6 1) 1, Rl 25 (Ld 24) 2, Rl 26 (.call false (Sv 23) [Sv 25]) 3, Rl 27 (Mv 4) 4, Rl 28 (Fd 6 2) 5, Rl 29 (Ld 28) 6, Rl 30 (.call false (Sv 27) [Sv 29]) 7, Rl 8 (.new [(.int .u64 0), (.bool false)]) 8, Rl 9 (.new [(.int .u64 0), (.bool false)]) 9, Rn (.ini 2 (Sv 8) (Sv 26) 2), Rn (.ini 2 (Sv 9) (Sv 30) 2)])
 (.frz (sl 8)))
 (.frz (sl 9)))
 (.block 2
 (.seq (.reg [Ro 32 (Fd 6 0), Ro 33 (Ld 32), Ro 34 (.bin .eql (Sv 33) (Ci 1)), Ro 31 (Mv 34)])
 (.cond (Sv 31)
 (.reg [Ro 35 (Fd 6 3), Ro 36 (Ld 35), Ro 37 (.bld [(.int .u64 0), (.bool false)] [(0, 1, (Sv 36)), (1, 1, (.c (.bool true)))]), Rn (.st (Sv 7) (Sv 37) 2)])
 (.seq (.reg [Ro 39 (Fd 6 0), Ro 40 (Ld 39), Ro 41 (.call true (.f 86) [Sv 40]), Ro 42 (Mv 41), Rg 43 42 true (Fd 8 1), Rg 44 42 true (Ld 43), Ro 45 (.pick (Sv 42) (Sv 44) (.c (.bool false))), Ro 46 (Mv 45), Rg 47 46 true (Fd 9 1), Rg 48 46 true (Ld 47), Ro 49 (.pick (Sv 46) (Sv 48) (.c (.bool false))), Ro 38 (Mv 49)])
 (.cond (Sv 38)
 (.reg [Ro 50 (Fd 6 0), Ro 51 (Ld 50), Ro 52 (Fd 8 0), Ro 53 (Ld 52), Ro 54 (Fd 9 0), Ro 55 (Ld 54), Ro 56 (.call true (.f 87) [Sv 51, Sv 53, Sv 55]), Ro 57 (.bld [(.int .u64 0), (.bool false)] [(0, 1, (Sv 56)), (1, 1, (.c (.bool true)))]), Rn (.st (Sv 7) (Sv 57) 2)])
 .skip))))))
 (.reg [Ro 58 (.ld false (Sv 3) none), Ro 59 (.ld false (Sv 7) (some 2)), Ro 60 (.mksl 2 1 [(.int .u64 0), (.bool false)] [(0, 2, (Sv 59))]), Ro 61 (.app 111 2 16 (Sv 58) (Sv 60)), Rn (.st (Sv 3) (Sv 61) 1)])))))
 (.reg [Ro 62 (.bin .add (Sv 18) (Ci 1)), Ro 18 (Mv 62)])))))))
 (.seq (.reg [Ro 63 (.ld false (Sv 3) none), Ro 2 (Mv 63)])
 .ret)))))
def r_fold_values : List ARes := [(.tmp (sl 2))]
theorem t_fold_values : (Try.f67).body.bind (trCode Try.prog 8 (Try.f67).ntmps [2, 3, 4, 7, 14, 23, 27, 58, 59, 60, 61, 63] [(6000013, 0, 4), (8000003, 0, 1)] (drOk 8)) = some c_fold_values := by kernel_rfl
theorem u_fold_values : trRess Try.prog 8 (Try.f67).results.toList = some r_fold_values := by kernel_rfl
def c_fold_values_1 : ACode :=
 (.seq (.reg [Ro 3 (.new [(.int .u64 0), (.bool false)])])
 (.seq (.seq (.reg [Ro 4 (Mv 0), Ro 5 (.bin .lss (Sv 4) (Ci 0)), Ro 6 (Mv 5), Rg 7 6 false (Mv 0), Rg 8 6 false (Ld 1), Rg 9 6 false (.len false (Sv 8)), Rg 10 6 false (.bin .geq (Sv 7) (Sv 9)), Ro 11 (.pick (Sv 6) (.c (.bool true)) (Sv 10))])
 (.cond (Sv 11)
 (.seq (.reg [Ro 12 (.bld [(.int .u64 0), (.bool false)] []), Rn (.st (Sv 3) (Sv 12) 2)])
 .ret)
 .skip))
 (.seq (.reg [Ro 13 (Ld 1), Ro 14 (Mv 0), Ro 15 (.idx true (Sv 13) (Sv 14) 2), Ro 16 (Lk 15 2), Rn (.st (Sv 3) (Sv 16) 2)])
 .ret)))
def r_fold_values_1 : List ARes := [(.cell (sl 3) (some 2))]
theorem t_fold_values_1 : (Try.f85).body.bind (trCode Try.prog 8 (Try.f85).ntmps [3] [] (drOk 8)) = some c_fold_values_1 := by kernel_rfl
theorem u_fold_values_1 : trRess Try.prog 8 (Try.f85).results.toList = some r_fold_values_1 := by kernel_rfl
def c_fold_each_api_Func_api_Func_ : ACode :=
 (.seq (.reg [Ro 4 (.mv (.c (.slice none 0 0)))])
 (.seq (.reg [Ro 5 (.mv (.c (.slice none 0 0)))])
 (.seq (.seq (.reg [Ro 8 (Mv 0), Ro 9 (.len false (Sv 8)), Ro 10 (.mv (Ci 0))])
 (.block 0
 (.loop (.seq (.reg [Ro 11 (.bin .lss (Sv 10) (Sv 9))])
 (.seq (.cond (Sv 11)
 .skip
 (.exit 0))
 (.seq (.block 1
 (.seq (.seq (.reg [Ro 12 (.idx true (Sv 8) (Sv 10) 4), Ro 13 (Lk 12 4), Ro 7 (.new [(.string ⟨#[]⟩), (.int .i64 0), (.int .i64 0), (.slice none 0 0)]), Rn (.ini 1 (Sv 7) (Sv 13) 4)])
 (.frz (sl 7)))
 (.reg [Ro 14 (Mv 5), Ro 15 (Mv 1), Ro 16 (Lk 7 4), Ro 17 (.call true (Sv 15) [Sv 16]), Ro 18 (.mksl 4 1 [(.string ⟨#[]⟩), (.int .i64 0), (.int .i64 0), (.slice none 0 0)] [(0, 4, (Sv 17))]), Ro 19 (.app 47 4 56 (Sv 14) (Sv 18)), Ro 5 (Mv 19)])))
 (.reg [Ro 20 (.bin .add (Sv 10) (Ci 1)), Ro 10 (Mv 20)])))))))
 (.seq (.reg [Ro 21 (Mv 5), Ro 4 (Mv 21)])
 .ret))))
def r_fold_each_api_Func_api_Func_ : List ARes := [(.tmp (sl 4))]
theorem t_fold_each_api_Func_api_Func_ : (Try.f40).body.bind (trCode Try.prog 8 (Try.f40).ntmps [4, 5, 14, 19, 21] [] (drOk 8)) = some c_fold_each_api_Func_api_Func_ := by kernel_rfl
theorem u_fold_each_api_Func_api_Func_ : trRess Try.prog 8 (Try.f40).results.toList = some r_fold_each_api_Func_api_Func_ := by kernel_rfl
def c_fold_each_api_Block_api_Block_ : ACode :=
 (.seq (.reg [Ro 4 (.mv (.c (.slice none 0 0)))])
 (.seq (.reg [Ro 5 (.mv (.c (.slice none 0 0)))])
 (.seq (.seq (.reg [Ro 8 (Mv 0), Ro 9 (.len false (Sv 8)), Ro 10 (.mv (Ci 0))])
 (.block 0
 (.loop (.seq (.reg [Ro 11 (.bin .lss (Sv 10) (Sv 9))])
 (.seq (.cond (Sv 11)
 .skip
 (.exit 0))
 (.seq (.block 1
 (.seq (.seq (.reg [Ro 12 (.idx true (Sv 8) (Sv 10) 8), Ro 13 (Lk 12 8), Ro 7 (.new [(.int .i64 0), (.slice none 0 0), (.int .i64 0), (.int .i64 0), (.int .i64 0), (.slice none 0 0), (.int .i64 0), (.slice none 0 0)]), Rn (.ini 1 (Sv 7) (Sv 13) 8)])
 (.frz (sl 7)))
 (.reg [Ro 14 (Mv 5), Ro 15 (Mv 1), Ro 16 (Lk 7 8), Ro 17 (.call true (Sv 15) [Sv 16]), Ro 18 (.mksl 8 1 [(.int .i64 0), (.slice none 0 0), (.int .i64 0), (.int .i64 0), (.int .i64 0), (.slice none 0 0), (.int .i64 0), (.slice none 0 0)] [(0, 8, (Sv 17))]), Ro 19 (.app 44 8 112 (Sv 14) (Sv 18)), Ro 5 (Mv 19)])))
 (.reg [Ro 20 (.bin .add (Sv 10) (Ci 1)), Ro 10 (Mv 20)])))))))
 (.seq (.reg [Ro 21 (Mv 5), Ro 4 (Mv 21)])
 .ret))))
def r_fold_each_api_Block_api_Block_ : List ARes := [(.tmp (sl 4))]
theorem t_fold_each_api_Block_api_Block_ : (Try.f51).body.bind (trCode Try.prog 8 (Try.f51).ntmps [4, 5, 14, 19, 21] [] (drOk 8)) = some c_fold_each_api_Block_api_Block_ := by kernel_rfl
theorem u_fold_each_api_Block_api_Block_ : trRess Try.prog 8 (Try.f51).results.toList = some r_fold_each_api_Block_api_Block_ := by kernel_rfl
def c_fold_Block : ACode :=
 (.seq (.reg [Ro 1 (.box false (Sv 0)), Ro 2 (.new [(.int .i64 0), (.slice none 0 0), (.int .i64 0), (.int .i64 0), (.int .i64 0), (.slice none 0 0), (.int .i64 0), (.slice none 0 0)])])
 (.seq (.reg [Ro 8 (.ld false (Sv 1) (some 8)), Ro 9 (.call false (.f 67) [Sv 8]), Ro 3 (Mv 9)])
 (.seq (.reg [Ro 10 (Mv 3), Ro 11 (.len false (Sv 10)), Ro 12 (Fd 1 1), Ro 13 (.ld false (Sv 12) none), Ro 14 (.len false (Sv 13)), Ro 15 (.bin .sub (Sv 11) (Sv 14)), Ro 4 (Mv 15)])
 (.seq (.reg [Ro 16 (Fd 1 1), Ro 17 (.ld false (Sv 16) none), Ro 18 (.callv 39 6 (.f 68) [Sv 17]), Ro 19 (Fd 1 1), Rn (.st (Sv 19) (Sv 18) 1)])
 (.seq (.seq (.reg [Ro 20 (Fd 1 1), Ro 21 (.ld false (Sv 20) none), Ro 22 (.len false (Sv 21)), Ro 23 (.mv (Ci 0))])
 (.block 0
 (.loop (.seq (.reg [Ro 24 (.bin .lss (Sv 23) (Sv 22))])
 (.seq (.cond (Sv 24)
 .skip
 (.exit 0))
 (.seq (.block 1
 (.seq (.reg [Ro 25 (Mv 23), Ro 5 (Mv 25)])
 (.seq (.seq (.reg [Ro 26 (Mv 3), Ro 27 (Mv 4), Ro 28 (Mv 5), Ro 29 (.bin .add (Sv 27) (Sv 28)), Ro 30 (.idx true (Sv 26) (Sv 29) 2), Ro 31 (Lk 30 2), Ro 6 (.new [(.int .u64 0), (.bool false)]), Rn (.ini 1 (Sv 6) (Sv 31) 2)])
 (.frz (sl 6)))
 (.seq (.reg [Ro 32 (Fd 6 1), Ro 33 (Ld 32)])
 (.cond (Sv 33)
 (.reg [Ro 34 (Fd 1 1), Ro 35 (.ld false (Sv 34) none), Ro 36 (Mv 5), Ro 37 (Fd 6 0), Ro 38 (Ld 37), Ro 39 (.bld [(.int .i64 0), (.int .i64 0), (.int .i64 0), (.int .u64 0), (.string ⟨#[]⟩), (.slice none 0 0)] [(0, 1, (Ci 1)), (3, 1, (Sv 38))]), Ro 40 (.idx false (Sv 35) (Sv 36) 6), Rn (.st (Sv 40) (Sv 39) 6)])
 .skip)))))
 (.reg [Ro 41 (.bin .add (Sv 23) (Ci 1)), Ro 23 (Mv 41)])))))))
 (.seq (.reg [Ro 42 (Fd 1 2), Ro 43 (.ld false (Sv 42) (some 6)), Ro 7 (.new [(.int .i64 0), (.int .i64 0), (.int .i64 0), (.slice none 0 0), (.int .i64 0), (.slice none 0 0)]), Rn (.ini 1 (Sv 7) (Sv 43) 6)])
 (.seq (.block 2
 (.seq (.block 5
 (.seq (.block 4
 (.seq (.block 3
 (.seq (.seq (.seq (.reg [Ro 45 (Fd 7 0), Ro 46 (.ld false (Sv 45) none), Ro 47 (.bin .neq (Sv 46) (Ci 2)), Ro 48 (Mv 47), Rg 49 48 false (Fd 7 1), Rg 50 48 false (.ld false (Sv 49) none), Rg 51 48 false (.bin .lss (Sv 50) (Ci 0)), Ro 52 (.pick (Sv 48) (.c (.bool true)) (Sv 51)), Ro 53 (Mv 52), Rg 54 53 false (Fd 7 1), Rg 55 53 false (.ld false (Sv 54) none), Rg 56 53 false (Mv 3), Rg 57 53 false (.len false (Sv 56)), Rg 58 53 false (.bin .geq (Sv 55) (Sv 57)), Ro 59 (.pick (Sv 53) (.c (.bool true)) (Sv 58)), Ro 60 (Mv 59), Rg 61 60 false (Mv 3), Rg 62 60 false (Fd 7 1), Rg 63 60 false (.ld false (Sv 62) none), Rg 64 60 false (.idx true (Sv 61) (Sv 63) 2), Rg 65 60 false (Fd 64 1), Rg 66 60 false (.ld false (Sv 65) none), Rg 67 60 false (.not (Sv 66)), Ro 68 (.pick (Sv 60) (.c (.bool true)) (Sv 67)), Ro 44 (Mv 68)])
 (.cond (Sv 44)
 (.exit 3)
 .skip))
 (.seq (.reg [Ro 70 (Mv 3), Ro 71 (Fd 7 1), Ro 72 (.ld false (Sv 71) none), Ro 73 (.idx true (Sv 70) (Sv 72) 2), Ro 74 (Fd 73 0), Ro 75 (.ld false (Sv 74) none), Ro 76 (.bin .eql (Sv 75) (.c (.int .u64 0))), Ro 69 (Mv 76)])
 (.cond (Sv 69)
 (.exit 4)
 .skip)))
 (.exit 5)))
 (.seq (.seq (.reg [Ro 77 (.ld false (Sv 1) (some 8)), Rn (.st (Sv 2) (Sv 77) 8)])
 .ret)
 (.exit 2))))
 (.reg [Ro 78 (Fd 7 4), Ro 79 (.ld false (Sv 78) none), Ro 80 (Fd 7 5), Ro 81 (.ld false (Sv 80) none), Ro 82 (Fd 7 2), Rn (.st (Sv 82) (Sv 79) 1), Ro 83 (Fd 7 3), Rn (.st (Sv 83) (Sv 81) 1)])))
 (.seq (.reg [Ro 84 (Fd 7 2), Ro 85 (.ld false (Sv 84) none), Ro 86 (Fd 7 3), Ro 87 (.ld false (Sv 86) none), Ro 88 (.bld [(.int .i64 0), (.int .i64 0), (.int .i64 0), (.slice none 0 0), (.int .i64 0), (.slice none 0 0)] [(0, 1, (Ci 1)), (2, 1, (Sv 85)), (3, 1, (Sv 87))]), Ro 89 (Fd 1 2), Rn (.st (Sv 89) (Sv 88) 6)])
 (.exit 2))))
 (.seq (.reg [Ro 90 (.ld false (Sv 1) (some 8)), Rn (.st (Sv 2) (Sv 90) 8)])
 .ret))))))))
def r_fold_Block : List ARes := [(.cell (sl 2) (some 8))]
theorem t_fold_Block : (Try.f52).body.bind (trCode Try.prog 8 (Try.f52).ntmps [1, 2, 7, 8, 12, 13, 16, 17, 18, 19, 20, 21, 34, 35, 40, 42, 43, 45, 46, 49, 50, 54, 55, 62, 63, 64, 65, 66, 71, 72, 73, 74, 75, 77, 78, 79, 80, 81, 82, 83, 84, 85, 86, 87, 88, 89, 90] [(68, 39, 1006)] (drOk 8)) = some c_fold_Block := by kernel_rfl
theorem u_fold_Block : trRess Try.prog 8 (Try.f52).results.toList = some r_fold_Block := by kernel_rfl
def c_fold_Func : ACode :=
 (.seq (.reg [Ro 1 (.box false (Sv 0)), Ro 2 (.new [(.string ⟨#[]⟩), (.int .i64 0), (.int .i64 0), (.slice none 0 0)])])
 (.seq (.reg [Ro 3 (Fd 1 3), Ro 4 (.ld false (Sv 3) none), Ro 5 (.call false (.f 51) [Sv 4, (.f 52)]), Ro 6 (Fd 1 3), Rn (.st (Sv 6) (Sv 5) 1)])
 (.seq (.reg [Ro 7 (.ld false (Sv 1) (some 4)), Rn (.st (Sv 2) (Sv 7) 4)])
 .ret)))
def r_fold_Func : List ARes := [(.cell (sl 2) (some 4))]
theorem t_fold_Func : (Try.f41).body.bind (trCode Try.prog 8 (Try.f41).ntmps [1, 2, 3, 4, 6, 7] [] (drOk 8)) = some c_fold_Func := by kernel_rfl
theorem u_fold_Func : trRess Try.prog 8 (Try.f41).results.toList = some r_fold_Func := by kernel_rfl
def c_fold_Module : ACode :=
 (.seq (.reg [Ro 1 (.box false (Sv 0)), Ro 2 (.new [(.slice none 0 0), (.slice none 0 0)])])
 (.seq (.reg [Ro 3 (Fd 1 0), Ro 4 (.ld false (Sv 3) none), Ro 5 (.call false (.f 40) [Sv 4, (.f 41)]), Ro 6 (Fd 1 0), Rn (.st (Sv 6) (Sv 5) 1)])
 (.seq (.reg [Ro 7 (.ld false (Sv 1) (some 2)), Rn (.st (Sv 2) (Sv 7) 2)])
 .ret)))
def r_fold_Module : List ARes := [(.cell (sl 2) (some 2))]
theorem t_fold_Module : (Try.f30).body.bind (trCode Try.prog 8 (Try.f30).ntmps [1, 2, 3, 4, 6, 7] [] (drOk 8)) = some c_fold_Module := by kernel_rfl
theorem u_fold_Module : trRess Try.prog 8 (Try.f30).results.toList = some r_fold_Module := by kernel_rfl
def c_slices_Clone___api_Inst_api_Inst_ : ACode :=
 (.seq (.reg [Ro 2 (.mv (.c (.slice none 0 0)))])
 (.seq (.seq (.reg [Ro 3 (Mv 0), Ro 4 (.isnil false (Sv 3))])
 (.cond (Sv 4)
 (.seq (.reg [Ro 2 (.mv (.c (.slice none 0 0)))])
 .ret)
 .skip))
 (.seq (.reg [Ro 5 (.nrow 39 6), Ro 6 (Mv 0), Ro 7 (.vapp 39 6 72 (Sv 5) (Sv 6)), Ro 2 (Mv 7)])
 .ret)))
def r_slices_Clone___api_Inst_api_Inst_ : List ARes := [(.tmp (sl 2))]
theorem t_slices_Clone___api_Inst_api_Inst_ : (Try.f68).body.bind (trCode Try.prog 8 (Try.f68).ntmps [2, 7] [(2000007, 39, 6)] (drOk 8)) = some c_slices_Clone___api_Inst_api_Inst_ := by kernel_rfl
theorem u_slices_Clone___api_Inst_api_Inst_ : trRess Try.prog 8 (Try.f68).results.toList = some r_slices_Clone___api_Inst_api_Inst_ := by kernel_rfl
def knC (x : Option Int) : List DV := [.lit (.int .u64 (x.getD 0)), .bool x.isSome]
@[simp] theorem knC_length (x : Option Int) : (knC x).length = 2 := rfl
@[simp] theorem knC_0 (x : Option Int) : (knC x)[0]? = some (.lit (.int .u64 (x.getD 0))) := rfl
@[simp] theorem knC_1 (x : Option Int) : (knC x)[1]? = some (.bool x.isSome) := rfl
@[simp] theorem knC_cells (x : Option Int) : (∀ d, d ∈ knC x → d.cell = true) ↔ True := by unfold knC; simp
@[simp] theorem knC_len? (x : Option Int) : (knC x)[2]? = none := rfl
@[simp] theorem knC_map (x : Option Int) : (knC x).map AV.d = [.d (.lit (.int .u64 (x.getD 0))), .d (.bool x.isSome)] := rfl
def boolC (x : Bool) : List DV := [.bool x]
@[simp] theorem boolC_length (x : Bool) : (boolC x).length = 1 := rfl
@[simp] theorem boolC_0 (x : Bool) : (boolC x)[0]? = some (.bool x) := rfl
@[simp] theorem boolC_len? (x : Bool) : (boolC x)[1]? = none := rfl
@[simp] theorem boolC_map (x : Bool) : (boolC x).map AV.d = [.d (.bool x)] := rfl
@[simp] theorem knC_all (x : Option Int) : (knC x).take 2 = knC x := rfl
theorem appRow_snocG {α : Type} (C : α → List DV) (d : α) {acc : List α} {x : α} {more : Nat → List DV} (h0 : more 0 = C x) {i : Nat} (hi : i < acc.length + 1) : appRow acc.length (fun i => C (acc[i]?.getD d)) more i = C ((acc ++ [x])[i]?.getD d) := by
 unfold appRow
 split
 ·rename_i h; rw [List.getElem?_append_left h]
 ·rename_i h
  obtain rfl : i = acc.length := by omega
  rw [Nat.sub_self, h0, List.getElem?_append_right (Nat.le_refl _), Nat.sub_self]
  rfl
@[reducible] def knsD (xs : List (Option Int)) : DV := .sl 2 xs.length fun k => knC (xs[k]?.getD none)
@[simp high] theorem knsD_cell (xs : List (Option Int)) : DV.cell (knsD xs) = true := rfl
@[simp high] theorem knsD_isLit (xs : List (Option Int)) : DV.isLit (knsD xs) = false := rfl
@[simp high] theorem knsD_lenV (xs : List (Option Int)) : lenV (.d (knsD xs)) = .int xs.length := rfl
@[simp high] theorem knsD_lenOk (H : Heap) (s : Bool) (xs : List (Option Int)) : lenOk H s (.d (knsD xs)) = (s = false) := rfl
@[simp high] theorem knsD_slLen (xs : List (Option Int)) : slLen (.d (knsD xs)) = xs.length := rfl
@[simp high] theorem knsD_idxV (H : Heap) (xs : List (Option Int)) (k : IntKind) (i : Int) : idxH H (.d (knsD xs)) (.d (.lit (.int k i))) = .d (.cref (knC (xs[i.toNat]?.getD none)) 0) := rfl
@[simp high] theorem knsD_idxOk (H : Heap) (n : Nat) (xs : List (Option Int)) (k : IntKind) (i : Int) : idxHOk H n (.d (knsD xs)) (.d (.lit (.int k i))) = (2 = n ∧ 0 ≤ i ∧ i < xs.length) := rfl
@[simp high] theorem knsD_moreV (n : Nat) (xs : List (Option Int)) : moreV n (.d (knsD xs)) = if 2 = n then some (xs.length, fun k => knC (xs[k]?.getD none)) else none := rfl
@[simp high] theorem knsD_slcV (xs : List (Option Int)) (lo hi : Int) : slcV (.d (knsD xs)) lo hi = .d (.sl 2 (hi.toNat - lo.toNat) fun i => knC (xs[lo.toNat + i]?.getD none)) := rfl
@[simp high] theorem knsD_slcOk (n : Nat) (xs : List (Option Int)) (lo hi : Int) : slcOk n (.d (knsD xs)) lo hi = (2 = n ∧ 0 ≤ lo ∧ lo ≤ hi ∧ hi ≤ xs.length) := rfl
@[reducible] def boolsD (xs : List Bool) : DV := .sl 1 xs.length fun k => boolC (xs[k]?.getD false)
@[simp high] theorem boolsD_cell (xs : List Bool) : DV.cell (boolsD xs) = true := rfl
@[simp high] theorem boolsD_isLit (xs : List Bool) : DV.isLit (boolsD xs) = false := rfl
@[simp high] theorem boolsD_lenV (xs : List Bool) : lenV (.d (boolsD xs)) = .int xs.length := rfl
@[simp high] theorem boolsD_lenOk (H : Heap) (s : Bool) (xs : List Bool) : lenOk H s (.d (boolsD xs)) = (s = false) := rfl
@[simp high] theorem boolsD_slLen (xs : List Bool) : slLen (.d (boolsD xs)) = xs.length := rfl
@[simp high] theorem boolsD_idxV (H : Heap) (xs : List Bool) (k : IntKind) (i : Int) : idxH H (.d (boolsD xs)) (.d (.lit (.int k i))) = .d (.cref (boolC (xs[i.toNat]?.getD false)) 0) := rfl
@[simp high] theorem boolsD_idxOk (H : Heap) (n : Nat) (xs : List Bool) (k : IntKind) (i : Int) : idxHOk H n (.d (boolsD xs)) (.d (.lit (.int k i))) = (1 = n ∧ 0 ≤ i ∧ i < xs.length) := rfl
@[simp high] theorem boolsD_moreV (n : Nat) (xs : List Bool) : moreV n (.d (boolsD xs)) = if 1 = n then some (xs.length, fun k => boolC (xs[k]?.getD false)) else none := rfl
@[simp high] theorem boolsD_slcV (xs : List Bool) (lo hi : Int) : slcV (.d (boolsD xs)) lo hi = .d (.sl 1 (hi.toNat - lo.toNat) fun i => boolC (xs[lo.toNat + i]?.getD false)) := rfl
@[simp high] theorem boolsD_slcOk (n : Nat) (xs : List Bool) (lo hi : Int) : slcOk n (.d (boolsD xs)) lo hi = (1 = n ∧ 0 ≤ lo ∧ lo ≤ hi ∧ hi ≤ xs.length) := rfl

def c_eval_Reckon : ACode :=
 (.seq (.reg [Ro 6 (.mv (.c (.int .u64 0)))])
 (.seq (.seq (.reg [Ro 7 (Mv 0)])
 (.block 0
 (.seq (.block 10
 (.seq (.block 9
 (.seq (.block 8
 (.seq (.block 7
 (.seq (.block 6
 (.seq (.block 5
 (.seq (.block 4
 (.seq (.block 3
 (.seq (.block 2
 (.seq (.block 1
 (.seq (.seq (.seq (.reg [Ro 9 (.bin .eql (Sv 7) (Ci 3)), Ro 8 (Mv 9)])
 (.cond (Sv 8)
 (.exit 1)
 .skip))
 (.seq (.seq (.reg [Ro 11 (.bin .eql (Sv 7) (Ci 2)), Ro 10 (Mv 11)])
 (.cond (Sv 10)
 (.exit 2)
 .skip))
 (.seq (.seq (.reg [Ro 13 (.bin .eql (Sv 7) (Ci 4)), Ro 12 (Mv 13)])
 (.cond (Sv 12)
 (.exit 3)
 .skip))
 (.seq (.seq (.reg [Ro 15 (.bin .eql (Sv 7) (Ci 5)), Ro 14 (Mv 15)])
 (.cond (Sv 14)
 (.exit 4)
 .skip))
 (.seq (.seq (.reg [Ro 17 (.bin .eql (Sv 7) (Ci 6)), Ro 16 (Mv 17)])
 (.cond (Sv 16)
 (.exit 5)
 .skip))
 (.seq (.seq (.reg [Ro 19 (.bin .eql (Sv 7) (Ci 7)), Ro 18 (Mv 19)])
 (.cond (Sv 18)
 (.exit 6)
 .skip))
 (.seq (.seq (.reg [Ro 21 (.bin .eql (Sv 7) (Ci 8)), Ro 20 (Mv 21)])
 (.cond (Sv 20)
 (.exit 7)
 .skip))
 (.seq (.seq (.reg [Ro 23 (.bin .eql (Sv 7) (Ci 9)), Ro 22 (Mv 23)])
 (.cond (Sv 22)
 (.exit 8)
 .skip))
 (.seq (.seq (.reg [Ro 25 (.bin .eql (Sv 7) (Ci 10)), Ro 24 (Mv 25)])
 (.cond (Sv 24)
 (.exit 9)
 .skip))
 (.seq (.reg [Ro 27 (.bin .eql (Sv 7) (Ci 11)), Ro 26 (Mv 27)])
 (.cond (Sv 26)
 (.exit 10)
 .skip)))))))))))
 (.exit 0)))
 (.reg [Ro 28 (Mv 2), Ro 29 (.bin .sub (.c (.int .u64 0)) (Sv 28)), Ro 2 (Mv 29)])))
 (.seq (.seq (.reg [Ro 30 (Mv 1), Ro 31 (Mv 2), Ro 32 (.bin .add (Sv 30) (Sv 31)), Ro 6 (Mv 32)])
 .ret)
 (.exit 0))))
 (.seq (.seq (.reg [Ro 33 (Mv 1), Ro 34 (Mv 2), Ro 35 (.bin .mul (Sv 33) (Sv 34)), Ro 6 (Mv 35)])
 .ret)
 (.exit 0))))
 (.seq (.seq (.reg [Ro 36 (Mv 1), Ro 37 (Mv 2), Ro 38 (.bin .and (Sv 36) (Sv 37)), Ro 6 (Mv 38)])
 .ret)
 (.exit 0))))
 (.seq (.seq (.reg [Ro 39 (Mv 1), Ro 40 (Mv 2), Ro 41 (.bin .or (Sv 39) (Sv 40)), Ro 6 (Mv 41)])
 .ret)
 (.exit 0))))
 (.seq (.seq (.reg [Ro 42 (Mv 1), Ro 43 (Mv 2), Ro 44 (.bin .xor (Sv 42) (Sv 43)), Ro 6 (Mv 44)])
 .ret)
 (.exit 0))))
 (.seq (.seq (.reg [Ro 45 (Mv 1), Ro 46 (Mv 2), Ro 47 (.bin .rem (Sv 46) (.c (.int .u64 64))), Ro 48 (.bin .shl (Sv 45) (Sv 47)), Ro 6 (Mv 48)])
 .ret)
 (.exit 0))))
 (.seq (.seq (.reg [Ro 49 (Mv 1), Ro 50 (Mv 2), Ro 51 (.bin .rem (Sv 50) (.c (.int .u64 64))), Ro 52 (.bin .shr (Sv 49) (Sv 51)), Ro 6 (Mv 52)])
 .ret)
 (.exit 0))))
 (.seq (.seq (.reg [Ro 53 (Mv 1), Ro 54 (Mv 2), Ro 55 (.bin .lss (Sv 53) (Sv 54)), Ro 56 (.call true (.f 96) [Sv 55]), Ro 6 (Mv 56)])
 .ret)
 (.exit 0))))
 (.seq (.seq (.reg [Ro 57 (Mv 1), Ro 58 (Mv 2), Ro 59 (.bin .eql (Sv 57) (Sv 58)), Ro 60 (.call true (.f 96) [Sv 59]), Ro 6 (Mv 60)])
 .ret)
 (.exit 0)))))
 (.seq (.reg [Ro 6 (.mv (.c (.int .u64 0)))])
 .ret)))
def r_eval_Reckon : List ARes := [(.tmp (sl 6))]
theorem t_eval_Reckon : (Try.f87).body.bind (trCode Try.prog 8 (Try.f87).ntmps [] [] (drOk 8)) = some c_eval_Reckon := by kernel_rfl
theorem u_eval_Reckon : trRess Try.prog 8 (Try.f87).results.toList = some r_eval_Reckon := by kernel_rfl
def c_eval_one : ACode :=
 (.seq (.reg [Ro 2 (.mv (.c (.int .u64 0)))])
 (.seq (.seq (.reg [Ro 3 (Mv 0)])
 (.cond (Sv 3)
 (.seq (.reg [Ro 2 (.mv (.c (.int .u64 1)))])
 .ret)
 .skip))
 (.seq (.reg [Ro 2 (.mv (.c (.int .u64 0)))])
 .ret)))
def r_eval_one : List ARes := [(.tmp (sl 2))]
theorem t_eval_one : (Try.f96).body.bind (trCode Try.prog 8 (Try.f96).ntmps [] [] (drOk 8)) = some c_eval_one := by kernel_rfl
theorem u_eval_one : trRess Try.prog 8 (Try.f96).results.toList = some r_eval_one := by kernel_rfl
def c_eval_find : ACode :=
 (.seq (.reg [Ro 2 (.box true (Sv 0)), Ro 3 (.box true (Sv 1)), Ro 4 (.new [(.string ⟨#[]⟩), (.int .i64 0), (.int .i64 0), (.slice none 0 0)]), Ro 5 (.mv (.c (.bool false)))])
 (.seq (.reg [Ro 7 (Fd 2 0), Ro 8 (Ld 7), Ro 9 (.mkfn 24 [Sv 3]), Ro 10 (.call true (.f 23) [Sv 8, Sv 9]), Ro 6 (Mv 10)])
 (.seq (.seq (.reg [Ro 11 (Mv 6), Ro 12 (.bin .lss (Sv 11) (Ci 0))])
 (.cond (Sv 12)
 (.seq (.reg [Ro 13 (.bld [(.string ⟨#[]⟩), (.int .i64 0), (.int .i64 0), (.slice none 0 0)] []), Rn (.st (Sv 4) (Sv 13) 4), Ro 5 (.mv (.c (.bool false)))])
 .ret)
 .skip))
 (.seq (.reg [Ro 14 (Fd 2 0), Ro 15 (Ld 14), Ro 16 (Mv 6), Ro 17 (.idx true (Sv 15) (Sv 16) 4), Ro 18 (Lk 17 4), Rn (.st (Sv 4) (Sv 18) 4), Ro 5 (.mv (.c (.bool true)))])
 .ret))))
def r_eval_find : List ARes := [(.cell (sl 4) (some 4)), (.tmp (sl 5))]
theorem t_eval_find : (Try.f14).body.bind (trCode Try.prog 8 (Try.f14).ntmps [4] [] (drOk 8)) = some c_eval_find := by kernel_rfl
theorem u_eval_find : trRess Try.prog 8 (Try.f14).results.toList = some r_eval_find := by kernel_rfl
def c_eval_find_1 : ACode :=
 (.seq (.reg [Ro 2 (.box true (Sv 0)), Ro 3 (.mv (.c (.bool false)))])
 (.seq (.reg [Ro 4 (Fd 2 0), Ro 5 (Ld 4), Ro 6 (Ld 1), Ro 7 (.bin .eql (Sv 5) (Sv 6)), Ro 3 (Mv 7)])
 .ret))
def r_eval_find_1 : List ARes := [(.tmp (sl 3))]
theorem t_eval_find_1 : (Try.f24).body.bind (trCode Try.prog 8 (Try.f24).ntmps [] [] (drOk 8)) = some c_eval_find_1 := by kernel_rfl
theorem u_eval_find_1 : trRess Try.prog 8 (Try.f24).results.toList = some r_eval_find_1 := by kernel_rfl
set_option maxRecDepth 10000 in
theorem one_pure (b : Bool) : APure Try.prog 96 [.bool b] (.u64 (if b then 1 else 0)) := by
 refine apureG _ _ Try.func96 (by kernel_rfl) t_eval_one u_eval_one rfl rfl (fun _ => ?_)
 simp [c_eval_one, r_eval_one]
 cases b <;> simp <;> exact DLe.refl _
theorem powI_eq : ∀ q, q < 64 → powI q = 2 ^ q := by decide
theorem wrap_u64 (n : Int) : IntKind.u64.wrap n = n % 18446744073709551616 := by
 unfold IntKind.wrap
 simp only [show IntKind.u64.signed = false from rfl, Bool.false_and, if_neg (by simp : ¬ false = true)]
 rfl
theorem wrap_neg (a b : Int) : IntKind.u64.wrap (a + IntKind.u64.wrap (-b)) = IntKind.u64.wrap (a - b) := by
 simp only [wrap_u64]
 omega
set_option maxRecDepth 10000 in
theorem ereckon_pure (op a b : Int) (ha : 0 ≤ a ∧ a < 18446744073709551616) (hb : 0 ≤ b) : APure Try.prog 87 [.int op, .u64 a, .u64 b] (.u64 (reckI op a b)) := by
 refine apureG _ _ Try.func87 (by kernel_rfl) t_eval_Reckon u_eval_Reckon rfl rfl (fun _ => ?_)
 simp [c_eval_Reckon, r_eval_Reckon]
 have hm : 0 ≤ b.tmod 64 ∧ b.tmod 64 < 64 := ⟨Int.tmod_nonneg _ hb, Int.tmod_lt_of_pos _ (by decide)⟩
 obtain ⟨q, hq⟩ := Int.eq_ofNat_of_zero_le hm.1
 have hb64 : min q IntKind.u64.bits = q := Nat.min_eq_left (by show q ≤ 64; omega)
 have hp := powI_eq q (by omega)
 refine ⟨fun h => DLe.of_eq ?_, fun h3 => ⟨fun h => DLe.of_eq ?_, fun h2 => ⟨fun h => DLe.of_eq ?_, fun h4 => ⟨fun h => DLe.of_eq ?_, fun h5 => ⟨fun h => DLe.of_eq ?_, fun h6 => ⟨fun h => DLe.of_eq ?_, fun h7 => ⟨fun h => ⟨hm.1, DLe.of_eq ?_⟩, fun h8 => ⟨fun h => ⟨hm.1, DLe.of_eq ?_⟩, fun h9 => ⟨fun h => ?_, fun h10 => ⟨fun h => ?_, fun h11 => DLe.of_eq ?_⟩⟩⟩⟩⟩⟩⟩⟩⟩⟩
 ·rw [wrap_neg]
  simp [reckI, wrapU, h]
 ·simp [reckI, wrapU, h]
 ·simp [reckI, wrapU, h]
 ·simp [reckI, wrapU, h]
 ·simp [reckI, wrapU, h]
 ·simp [reckI, wrapU, h]
 ·simp [reckI, wrapU, h, hq, hb64, hp]
 ·simp only [hq, Int.toNat_natCast, hb64]
  have hpos : (0 : Int) < 2 ^ q := Int.pow_pos (by decide)
  have e1 : a.fdiv (2 ^ q) = a / 2 ^ q := Int.fdiv_eq_ediv_of_nonneg _ (Int.le_of_lt hpos)
  have e2 : a.tdiv (2 ^ q) = a / 2 ^ q := Int.tdiv_eq_ediv_of_nonneg ha.1
  have h0 : 0 ≤ a / 2 ^ q := Int.ediv_nonneg ha.1 (Int.le_of_lt hpos)
  have h1 : a / 2 ^ q ≤ a := Int.ediv_le_self _ ha.1
  have e3 : reckI op a b = a / 2 ^ q := by
   simp only [reckI, h, hq, Int.toNat_natCast, hp, e2]
   exact wrapU_id h0 (by omega)
  rw [e3, e1]
 ·refine call_plain (ds := [.bool (decide (a < b))]) _ (by simp) (by simp) (fun _ => rfl) (fun _ => one_pure _) ?_
  simp
  refine DLe.of_eq ?_
  by_cases hlt : a < b <;> simp [reckI, h, hlt]
 ·refine call_plain (ds := [.bool (decide (a = b))]) _ (by simp) (by simp) (fun _ => rfl) (fun _ => one_pure _) ?_
  simp
  refine DLe.of_eq ?_
  by_cases hlt : a = b <;> simp [reckI, h, hlt]
 ·simp [reckI, *]
set_option maxRecDepth 10000 in
theorem efind1_pure (f : Func) (s : ByteArray) : APure Try.prog 24 [.agg (funcC f), .cref [.str s] 0] (.bool (decide (f.name = s))) := by
 refine apureG _ _ Try.func24 (by kernel_rfl) t_eval_find_1 u_eval_find_1 rfl rfl (fun _ => ?_)
 simp [c_eval_find_1, r_eval_find_1]
def efindR (m : Module) (s : ByteArray) : DV := match findF m s with | some f => .tup [.agg (funcC f), .bool true] | none => .tup [.agg [.str ⟨#[]⟩, .int 0, .int 0, .lit (.slice none 0 0)], .bool false]
set_option maxRecDepth 10000 in
theorem efind_pure (m : Module) (s : ByteArray) : APure Try.prog 14 [.agg (moduleC m), .str s] (efindR m s) := by
 refine apureG _ _ Try.func14 (by kernel_rfl) t_eval_find u_eval_find rfl rfl (fun _ => ?_)
 simp [c_eval_find, r_eval_find]
 refine call_plain (ds := [funcsD m.funcs, .fn 24 [.cref [.str s] 0]]) _ (by simp) (by simp) (fun _ => by simp) (fun _ => indexF_pure m.funcs _ _ _ (fun f _ => efind1_pure f s)) ?_
 simp
 unfold efindR findF
 rcases find_idx (fun f : Func => decide (f.name = s)) m.funcs with ⟨k, hk, h1, h2⟩ | ⟨h1, h2⟩
 ·rw [h1, h2]
  refine ⟨fun h => by omega, fun _ => ⟨⟨by omega, by omega⟩, ?_⟩⟩
  simp only [Int.toNat_natCast, getD_some hk]
  exact DLe.refl _
 ·rw [h1, h2]
  exact ⟨fun _ => DLe.refl _, fun h => by omega⟩
theorem reckI_lt (op a b : Int) : 0 ≤ reckI op a b ∧ reckI op a b < 18446744073709551616 := by
 have hw : ∀ n, 0 ≤ wrapU n ∧ wrapU n < 18446744073709551616 := fun n => by
  unfold wrapU
  rw [wrap_u64]
  omega
 unfold reckI
 repeat' split
 all_goals first | exact hw _ | exact ⟨by omega, by omega⟩
def KnOk (l : List (Option Int)) : Prop := ∀ v, some v ∈ l → 0 ≤ v ∧ v < 18446744073709551616
theorem KnOk.at {l : List (Option Int)} (h : KnOk l) {i v : Int} (hv : atO l i = some v) : 0 ≤ v ∧ v < 18446744073709551616 := by
  unfold atO at hv
  split at hv
  · cases hl : l[i.toNat]? with
    | none => rw [hl] at hv; cases hv
    | some o =>
      rw [hl] at hv
      simp only [Option.getD_some] at hv
      subst hv
      exact h _ (List.mem_of_getElem? hl)
  · cases hv
theorem KnOk.foldV {l : List (Option Int)} {x : Inst} (hx : x.k < 18446744073709551616) {v : Int} (hv : foldV l x = some v) : 0 ≤ v ∧ v < 18446744073709551616 := by
 unfold Proofs.Ytgadlpdbkohlbaa.foldV at hv
 repeat' split at hv
 all_goals first | (injection hv with hv; subst hv; exact reckI_lt _ _ _) | (injection hv with hv; omega) | cases hv
theorem KnOk.foldL : ∀ (xs : List Inst) {l : List (Option Int)}, (∀ x ∈ xs, x.k < 18446744073709551616) → KnOk l → KnOk (foldL l xs)
  | [], _, _, h => h
  | x :: xs, l, hx, h => by
    show KnOk (Proofs.Ytgadlpdbkohlbaa.foldL (l ++ [Proofs.Ytgadlpdbkohlbaa.foldV l x]) xs)
    refine KnOk.foldL xs (fun y hy => hx y (List.mem_cons_of_mem _ hy)) fun v hv => ?_
    rcases List.mem_append.1 hv with hv | hv
    · exact h v hv
    · exact KnOk.foldV (hx x (List.mem_cons_self ..)) (List.mem_singleton.1 hv).symm
theorem KnOk.none (b : Block) : KnOk (noneL b) := fun v hv => by
 unfold noneL at hv
 have := List.eq_of_mem_replicate hv
 cases this
theorem ftwo_pure (op : Int) : APure Try.prog 86 [.int op] (.bool (decide (2 ≤ op ∧ op ≤ 11))) := by
 refine apureG _ _ Try.func86 (by kernel_rfl) t_fold_two u_fold_two rfl rfl (fun _ => ?_)
 simp [c_fold_two, r_fold_two]
theorem fvalues1_pure (l : List (Option Int)) (i : Int) : APure Try.prog 85 [.int i, .cref [knsD l] 0] (.agg (knC (atO l i))) := by
 refine apureG _ _ Try.func85 (by kernel_rfl) t_fold_values_1 u_fold_values_1 rfl rfl (fun _ => ?_)
 simp [c_fold_values_1, r_fold_values_1]
 refine ⟨fun h => ?_, fun h0 h => ⟨⟨h0, h⟩, ?_⟩⟩
 ·have e : atO l i = none := by
   unfold atO
   split
   ·rw [List.getElem?_eq_none (by omega)]
    rfl
   ·rfl
  rw [e]
  exact DLe.refl _
 ·have e : atO l i = l[i.toNat]?.getD none := by unfold atO; rw [if_pos h0]
  rw [e]
  exact DLe.refl _
set_option maxRecDepth 10000 in
theorem fvalues_pure (b : Block) (hp : 0 ≤ b.params ∧ b.params ≤ 1000) (hn : b.ins.length ≤ 1000) (hk : ∀ x ∈ b.ins, x.k < 18446744073709551616) : APure Try.prog 67 [.agg (blockC b)] (knsD (foldVals b)) := by
 refine apureG _ _ Try.func67 (by kernel_rfl) t_fold_values u_fold_values rfl rfl (fun _ => ?_)
 have hmx : (if b.params < 0 then 0 else b.params) = b.params := if_neg (by omega)
 simp [c_fold_values, r_fold_values, hmx]
 refine ⟨by omega, ?_⟩
 refine loop_s (κ := Nat) (fun k => k ≤ b.ins.length) (fun k => b.ins.length - k) (fun k => [(sl 18, .int k)]) (fun k => [(6, .box [.own 0 (foldL (noneL b) (b.ins.take k)).length]), (0, .row 111 2 (foldL (noneL b) (b.ins.take k)).length fun i => knC ((foldL (noneL b) (b.ins.take k))[i]?.getD none))]) 10 0 (srcs [(0, .id 5), (6, .id 6)]) (by simp) (by
  simp [noneL, foldL]
  intro i hi
  rw [List.getElem?_replicate]
  split <;> rfl) ?_
 rintro k hk1
 simp
 obtain ⟨l, hl⟩ : ∃ l, foldL (noneL b) (b.ins.take k) = l := ⟨_, rfl⟩
 have hlen : l.length ≤ 2000 := by rw [← hl, foldL_length, noneL_length]; simp; omega
 have hkn : KnOk l := by
  rw [← hl]
  exact KnOk.foldL _ (fun x hx => hk x (List.mem_of_mem_take hx)) (.none b)
 simp only [hl]
 refine ⟨fun hlt => ⟨hlt, ?_⟩, fun hge => ?_⟩
 ·rw [getD_some hlt]
  have hsucc : foldL (noneL b) (b.ins.take (k + 1)) = l ++ [foldV l b.ins[k]] := by rw [foldL_snoc (List.getElem?_eq_getElem hlt), hl]
  obtain ⟨x, hx⟩ : ∃ x, b.ins[k] = x := ⟨_, rfl⟩
  simp only [hx] at hsucc ⊢
  refine call_read (ds := [.int x.a, .cref [knsD l] 0]) _ rfl (by simp) (by simp) (fun _ => by simp) (fun _ => fvalues1_pure l x.a) ?_
  simp
  refine call_read (ds := [.int x.b, .cref [knsD l] 0]) _ rfl (by simp) (by simp) (fun _ => by simp) (fun _ => fvalues1_pure l x.b) ?_
  simp
  have hno : foldV l x = none → (l.length + 1) * 16 ≤ 140737488355328 ∧ ∀ i, i < l.length + 1 → appRow l.length (fun i => knC (l[i]?.getD none)) (fun i => List.take 2 (List.drop (i * 2) [DV.lit (Value.int IntKind.u64 0), DV.lit (Value.bool false)])) i = knC ((l ++ [foldV l x])[i]?.getD none) := fun h => by
   rw [h]
   exact ⟨by omega, fun i hi => appRow_snocG knC none rfl hi⟩
  refine ⟨fun h1 => ?_, fun h1 => ?_⟩
  ·refine ⟨by omega, k + 1, by omega, by omega, srcs [(0, .id 41), (6, .id 6)], ?_⟩
   have hv : foldV l x = some (x.k : Int) := by unfold foldV; rw [if_pos h1]
   simp [SLeK, hsucc]
   refine ⟨DLe_int (wrap_succ (by omega)), fun i hi => ?_⟩
   rw [hv]
   exact appRow_snocG knC none rfl hi
  ·refine call_plain (ds := [.int x.op]) _ (by simp) (by simp) (fun _ => by simp) (fun _ => ftwo_pure x.op) ?_
   cases ha : atO l x.a <;> cases hb : atO l x.b <;> simp [ha, hb]
   ·obtain ⟨q1, q2⟩ := hno (by unfold foldV; rw [if_neg h1, ha, hb]; split <;> rfl)
    refine ⟨q1, k + 1, by omega, by omega, srcs [(0, .id 49), (6, .id 6)], ?_⟩
    simp [SLeK, hsucc]
    exact ⟨DLe_int (wrap_succ (by omega)), q2⟩
   ·obtain ⟨q1, q2⟩ := hno (by unfold foldV; rw [if_neg h1, ha, hb]; split <;> rfl)
    refine ⟨q1, k + 1, by omega, by omega, srcs [(0, .id 49), (6, .id 6)], ?_⟩
    simp [SLeK, hsucc]
    exact ⟨DLe_int (wrap_succ (by omega)), q2⟩
   ·obtain ⟨q1, q2⟩ := hno (by unfold foldV; rw [if_neg h1, ha, hb]; split <;> rfl)
    refine ⟨q1, k + 1, by omega, by omega, srcs [(0, .id 49), (6, .id 6)], ?_⟩
    simp [SLeK, hsucc]
    exact ⟨DLe_int (wrap_succ (by omega)), q2⟩
   ·rename_i p q
    refine ⟨fun h2 h11 => ?_, fun h2 => ?_⟩
    ·refine call_plain (ds := [.int x.op, .lit (.int .u64 p), .lit (.int .u64 q)]) _ (by simp) (by simp) (fun _ => by simp) (fun _ => ereckon_pure x.op p q (hkn.at ha) (hkn.at hb).1) ?_
     simp
     refine ⟨by omega, k + 1, by omega, by omega, srcs [(0, .id 58), (6, .id 6)], ?_⟩
     have hv : foldV l x = some (reckI x.op p q) := by unfold foldV; rw [if_neg h1, if_pos ⟨h2, h11⟩, ha, hb]
     simp [SLeK, hsucc]
     refine ⟨DLe_int (wrap_succ (by omega)), fun i hi => ?_⟩
     rw [hv]
     exact appRow_snocG knC none rfl hi
    ·obtain ⟨q1, q2⟩ := hno (by unfold foldV; rw [if_neg h1, if_neg (by omega)])
     refine ⟨q1, k + 1, by omega, by omega, srcs [(0, .id 49), (6, .id 6)], ?_⟩
     simp [SLeK, hsucc]
     exact ⟨DLe_int (wrap_succ (by omega)), q2⟩
 ·rw [List.take_of_length_le hge] at hl
  rw [← hl]
  exact DLe.refl _
def c_inline_Put : ACode :=
 (.seq (.reg [Ro 3 (.box true (Sv 0)), Ro 4 (.box true (Sv 1)), Ro 6 (.new [(.int .i64 0), (.slice none 0 0), (.int .i64 0), (.int .i64 0), (.int .i64 0), (.slice none 0 0), (.int .i64 0), (.slice none 0 0)]), Ro 7 (.mv (.c (.bool false)))])
 (.seq (.seq (.reg [Rl 13 (Mv 2) 0, Rl 14 (.bin .lss (Sv 13) (Ci 0)) 1, Rl 15 (Mv 14) 2, Rh 16 15 false (Mv 2) 3, Rh 17 15 false (Fd 3 1) 4, Rh 18 15 false (Ld 17) 5, Rh 19 15 false (.len false (Sv 18)) 6, Rh 20 15 false (.bin .geq (Sv 16) (Sv 19)) 7, Rl 21 (.pick (Sv 15) (.c (.bool true)) (Sv 20)) 8, Rl 22 (Mv 21) 9, Rh 23 22 false (Fd 3 1) 10, Rh 24 22 false (Ld 23) 11, Rh 25 22 false (Mv 2) 12, Rh 26 22 false (.idx true (Sv 24) (Sv 25) 6) 13, Rh 27 22 false (Fd 26 0) 14, Rh 28 22 false (Ld 27) 15, Rh 29 22 false (.bin .neq (Sv 28) (Ci 14)) 16, Rl 30 (.pick (Sv 22) (.c (.bool true)) (Sv 29)) 17, Rl 31 (Mv 30) 18, Rh 32 31 false (Fd 3 1) 19, Rh 33 31 false (Ld 32) 20, Rh 34 31 false (Mv 2) 21, Rh 35 31 false (.idx true (Sv 33) (Sv 34) 6) 22, Rh 36 31 false (Fd 35 5) 23, Rh 37 31 false (Ld 36) 24, Rh 38 31 false (.len false (Sv 37)) 25, Rh 39 31 false (Fd 4 0) 26, Rh 40 31 false (Ld 39) 27, Rh 41 31 false (.bin .neq (Sv 38) (Sv 40)) 28, Rl 42 (.pick (Sv 31) (.c (.bool true)) (Sv 41)) 29, Rl 43 (Mv 42) 30, Rh 44 43 false (Fd 4 2) 31, Rh 45 43 false (Fd 44 0) 32, Rh 46 43 false (Ld 45) 33, Rh 47 43 false (.bin .neq (Sv 46) (Ci 3)) 34, Rl 48 (.pick (Sv 43) (.c (.bool true)) (Sv 47)) 35, Rl 49 (Mv 48) 36, Rh 50 49 false (Fd 3 1) 37, Rh 51 49 false (Ld 50) 38, Rh 52 49 false (.len false (Sv 51)) 39, Rh 53 49 false (.bin .sub (Sv 52) (Ci 1)) 40, Rh 54 49 false (Fd 4 1) 41, Rh 55 49 false (Ld 54) 42, Rh 56 49 false (.len false (Sv 55)) 43, Rh 57 49 false (.bin .add (Sv 53) (Sv 56)) 44, Rh 58 49 false (.bin .gtr (Sv 57) (Ci 32)) 45, Rl 59 (.pick (Sv 49) (.c (.bool true)) (Sv 58)) 46])
 (.cond (Sv 59)
 (.seq (.reg [Ro 60 (Lk 3 8), Rn (.st (Sv 6) (Sv 60) 8), Ro 7 (.mv (.c (.bool false)))])
 .ret)
 .skip))
 (.seq (.seq (.reg [Ro 61 (Fd 3 1), Ro 62 (Ld 61), Ro 63 (Mv 2), Ro 64 (.idx true (Sv 62) (Sv 63) 6), Ro 65 (Fd 64 5), Ro 66 (Ld 65), Ro 8 (.new [(.slice none 0 0)]), Rn (.ini 1 (Sv 8) (Sv 66) 1)])
 (.frz (sl 8)))
 (.seq (.seq (.reg [Ro 67 (Fd 3 0), Ro 68 (Ld 67), Ro 69 (Mv 2), Ro 70 (.bin .add (Sv 68) (Sv 69)), Ro 9 (.new [(.int .i64 0)]), Rn (.ini 1 (Sv 9) (Sv 70) 1)])
 (.frz (sl 9)))
 (.seq (.seq (.reg [Ro 71 (.mkfn 77 [Sv 4, Sv 8, Sv 9]), Ro 72 (.bld [.nilFunc] [(0, 1, (Sv 71))]), Ro 10 (.new [.nilFunc]), Rn (.ini 1 (Sv 10) (Sv 72) 1)])
 (.frz (sl 10)))
 (.seq (.seq (.reg [Ro 73 (.mkfn 78 [Sv 9, Sv 10, Sv 4]), Ro 74 (.bld [.nilFunc] [(0, 1, (Sv 73))]), Ro 11 (.new [.nilFunc]), Rn (.ini 1 (Sv 11) (Sv 74) 1)])
 (.frz (sl 11)))
 (.seq (.reg [Rl 75 (Fd 3 1) 0, Rl 76 (Ld 75) 1, Rl 77 (Mv 2) 2, Rl 78 (.slc (Sv 76) none (some (Sv 77)) 6) 3, Rl 79 (Lk 10 1) 4, Rl 80 (Fd 4 1) 5, Rl 81 (Ld 80) 6, Rl 82 (.call true (.f 80) [Sv 79, Sv 81]) 7, Rl 83 (Lk 11 1) 8, Rl 84 (Fd 3 1) 9, Rl 85 (Ld 84) 10, Rl 86 (Mv 2) 11, Rl 87 (.bin .add (Sv 86) (Ci 1)) 12, Rl 88 (.slc (Sv 85) (some (Sv 87)) none 6) 13, Rl 89 (.call true (.f 80) [Sv 83, Sv 88]) 14, Rl 90 (.mksl 1 3 [(.slice none 0 0), (.slice none 0 0), (.slice none 0 0)] [(0, 1, (Sv 78)), (1, 1, (Sv 82)), (2, 1, (Sv 89))]) 15, Rl 91 (.call true (.f 79) [Sv 90]) 16, Rl 12 (Mv 91) 17])
 (.seq (.reg [Rl 92 (Fd 3 0) 0, Rl 93 (Ld 92) 1, Rl 94 (Mv 12) 2, Rl 95 (Lk 11 1) 3, Rl 96 (Fd 3 2) 4, Rl 97 (Lk 96 6) 5, Rl 98 (.call true (.f 81) [Sv 95, Sv 97]) 6, Rl 99 (.bld [(.int .i64 0), (.slice none 0 0), (.int .i64 0), (.int .i64 0), (.int .i64 0), (.slice none 0 0), (.int .i64 0), (.slice none 0 0)] [(0, 1, (Sv 93)), (1, 1, (Sv 94)), (2, 6, (Sv 98))]) 7, ⟨none, none, (.st (Sv 6) (Sv 99) 8), (some (8, []))⟩, Rl 7 (.mv (.c (.bool true))) 9])
 .ret))))))))
def r_inline_Put : List ARes := [(.cell (sl 6) (some 8)), (.tmp (sl 7))]
theorem t_inline_Put : (Try.f62).body.bind (trCode Try.prog 8 (Try.f62).ntmps [6] [] (drOk 8)) = some c_inline_Put := by kernel_rfl
theorem u_inline_Put : trRess Try.prog 8 (Try.f62).results.toList = some r_inline_Put := by kernel_rfl
def c_inline_Put_1 : ACode :=
 (.seq (.reg [Ro 5 (.mv (Ci 0))])
 (.seq (.seq (.reg [Ro 6 (Mv 0), Ro 7 (Fd 1 0), Ro 8 (Ld 7), Ro 9 (.bin .lss (Sv 6) (Sv 8))])
 (.cond (Sv 9)
 (.seq (.reg [Ro 10 (Ld 2), Ro 11 (Mv 0), Ro 12 (.idx true (Sv 10) (Sv 11) 1), Ro 13 (Ld 12), Ro 5 (Mv 13)])
 .ret)
 .skip))
 (.seq (.reg [Ro 14 (Ld 3), Ro 15 (Mv 0), Ro 16 (.bin .add (Sv 14) (Sv 15)), Ro 17 (Fd 1 0), Ro 18 (Ld 17), Ro 19 (.bin .sub (Sv 16) (Sv 18)), Ro 5 (Mv 19)])
 .ret)))
def r_inline_Put_1 : List ARes := [(.tmp (sl 5))]
theorem t_inline_Put_1 : (Try.f77).body.bind (trCode Try.prog 8 (Try.f77).ntmps [] [] (drOk 8)) = some c_inline_Put_1 := by kernel_rfl
theorem u_inline_Put_1 : trRess Try.prog 8 (Try.f77).results.toList = some r_inline_Put_1 := by kernel_rfl
def c_inline_Put_2 : ACode :=
 (.seq (.reg [Ro 5 (.mv (Ci 0))])
 (.seq (.block 0
 (.seq (.reg [Ro 7 (Mv 0), Ro 8 (Ld 1), Ro 9 (.bin .lss (Sv 7) (Sv 8)), Ro 6 (Mv 9)])
 (.cond (Sv 6)
 (.seq (.reg [Ro 10 (Mv 0), Ro 5 (Mv 10)])
 .ret)
 (.seq (.reg [Ro 12 (Mv 0), Ro 13 (Ld 1), Ro 14 (.bin .eql (Sv 12) (Sv 13)), Ro 11 (Mv 14)])
 (.cond (Sv 11)
 (.seq (.reg [Ro 15 (Fd 2 0), Ro 16 (Ld 15), Ro 17 (Fd 3 2), Ro 18 (Fd 17 1), Ro 19 (Ld 18), Ro 20 (.call true (Sv 16) [Sv 19]), Ro 5 (Mv 20)])
 .ret)
 .skip)))))
 (.seq (.reg [Ro 21 (Mv 0), Ro 22 (.bin .sub (Sv 21) (Ci 1)), Ro 23 (Fd 3 1), Ro 24 (Ld 23), Ro 25 (.len false (Sv 24)), Ro 26 (.bin .add (Sv 22) (Sv 25)), Ro 5 (Mv 26)])
 .ret)))
def r_inline_Put_2 : List ARes := [(.tmp (sl 5))]
theorem t_inline_Put_2 : (Try.f78).body.bind (trCode Try.prog 8 (Try.f78).ntmps [] [] (drOk 8)) = some c_inline_Put_2 := by kernel_rfl
theorem u_inline_Put_2 : trRess Try.prog 8 (Try.f78).results.toList = some r_inline_Put_2 := by kernel_rfl
def c_inline_joined_api_Inst_ : ACode :=
 (.seq (.reg [Ro 2 (.mv (.c (.slice none 0 0)))])
 (.seq (.reg [Ro 3 (Mv 0), Ro 4 (.call true (.f 92) [Sv 3]), Ro 2 (Mv 4)])
 .ret))
def r_inline_joined_api_Inst_ : List ARes := [(.tmp (sl 2))]
theorem t_inline_joined_api_Inst_ : (Try.f79).body.bind (trCode Try.prog 8 (Try.f79).ntmps [] [] (drOk 8)) = some c_inline_joined_api_Inst_ := by kernel_rfl
theorem u_inline_joined_api_Inst_ : trRess Try.prog 8 (Try.f79).results.toList = some r_inline_joined_api_Inst_ := by kernel_rfl
def c__inline_numbers__insts : ACode :=
 (.seq (.reg [Ro 2 (.box true (Sv 0)), Ro 4 (.mv (.c (.slice none 0 0)))])
 (.seq (.reg [Ro 5 (.mv (.c (.slice none 0 0)))])
 (.seq (.seq (.reg [Ro 8 (Mv 1), Ro 9 (.len false (Sv 8)), Ro 10 (.mv (Ci 0))])
 (.block 0
 (.loop (.seq (.reg [Ro 11 (.bin .lss (Sv 10) (Sv 9))])
 (.seq (.cond (Sv 11)
 .skip
 (.exit 0))
 (.seq (.block 1
 (.seq (.seq (.reg [Ro 12 (.idx true (Sv 8) (Sv 10) 6), Ro 13 (Lk 12 6), Ro 7 (.new [(.int .i64 0), (.int .i64 0), (.int .i64 0), (.int .u64 0), (.string ⟨#[]⟩), (.slice none 0 0)]), Rn (.ini 1 (Sv 7) (Sv 13) 6)])
 (.frz (sl 7)))
 (.reg [Ro 14 (Mv 5), Ro 15 (Lk 2 1), Ro 16 (Lk 7 6), Ro 17 (.call true (.f 93) [Sv 15, Sv 16]), Ro 18 (.mksl 6 1 [(.int .i64 0), (.int .i64 0), (.int .i64 0), (.int .u64 0), (.string ⟨#[]⟩), (.slice none 0 0)] [(0, 6, (Sv 17))]), Ro 19 (.app 39 6 72 (Sv 14) (Sv 18)), Ro 5 (Mv 19)])))
 (.reg [Ro 20 (.bin .add (Sv 10) (Ci 1)), Ro 10 (Mv 20)])))))))
 (.seq (.reg [Ro 21 (Mv 5), Ro 4 (Mv 21)])
 .ret))))
def r__inline_numbers__insts : List ARes := [(.tmp (sl 4))]
theorem t__inline_numbers__insts : (Try.f80).body.bind (trCode Try.prog 8 (Try.f80).ntmps [4, 5, 14, 19, 21] [] (drOk 8)) = some c__inline_numbers__insts := by kernel_rfl
theorem u__inline_numbers__insts : trRess Try.prog 8 (Try.f80).results.toList = some r__inline_numbers__insts := by kernel_rfl
def c__inline_numbers__end : ACode :=
 (.seq (.reg [Ro 2 (.box true (Sv 0)), Ro 3 (.box false (Sv 1)), Ro 4 (.new [(.int .i64 0), (.int .i64 0), (.int .i64 0), (.slice none 0 0), (.int .i64 0), (.slice none 0 0)])])
 (.seq (.reg [Rl 5 (Lk 2 1) 0, Rl 6 (Fd 3 3) 1, Rl 7 (.ld false (Sv 6) none) 2, Rl 8 (.call false (.f 94) [Sv 5, Sv 7]) 3, Rl 9 (Lk 2 1) 4, Rl 10 (Fd 3 5) 5, Rl 11 (.ld false (Sv 10) none) 6, Rl 12 (.call false (.f 94) [Sv 9, Sv 11]) 7, Rl 13 (Fd 3 3) 8, ⟨none, none, (.st (Sv 13) (Sv 8) 1), (some (9, []))⟩, Rl 14 (Fd 3 5) 10, ⟨none, none, (.st (Sv 14) (Sv 12) 1), (some (11, []))⟩])
 (.seq (.seq (.reg [Ro 15 (Fd 3 0), Ro 16 (.ld false (Sv 15) none), Ro 17 (.bin .neq (Sv 16) (Ci 1))])
 (.cond (Sv 17)
 (.reg [Ro 18 (Fd 2 0), Ro 19 (Ld 18), Ro 20 (Fd 3 1), Ro 21 (.ld false (Sv 20) none), Ro 22 (.call false (Sv 19) [Sv 21]), Ro 23 (Fd 3 1), Rn (.st (Sv 23) (Sv 22) 1)])
 .skip))
 (.seq (.reg [Ro 24 (.ld false (Sv 3) (some 6)), Rn (.st (Sv 4) (Sv 24) 6)])
 .ret))))
def r__inline_numbers__end : List ARes := [(.cell (sl 4) (some 6))]
theorem t__inline_numbers__end : (Try.f81).body.bind (trCode Try.prog 8 (Try.f81).ntmps [3, 4, 6, 7, 10, 11, 13, 14, 15, 16, 20, 21, 23, 24] [] (drOk 8)) = some c__inline_numbers__end := by kernel_rfl
theorem u__inline_numbers__end : trRess Try.prog 8 (Try.f81).results.toList = some r__inline_numbers__end := by kernel_rfl
def c__inline_numbers__inst : ACode :=
 (.seq (.reg [Ro 2 (.box true (Sv 0)), Ro 3 (.box false (Sv 1)), Ro 4 (.new [(.int .i64 0), (.int .i64 0), (.int .i64 0), (.int .u64 0), (.string ⟨#[]⟩), (.slice none 0 0)])])
 (.seq (.reg [Ro 6 (Fd 3 0), Ro 7 (.ld false (Sv 6) none), Ro 8 (.bin .geq (Sv 7) (Ci 2)), Ro 9 (Mv 8), Rg 10 9 true (Fd 3 0), Rg 11 9 true (.ld false (Sv 10) none), Rg 12 9 true (.bin .leq (Sv 11) (Ci 11)), Ro 13 (.pick (Sv 9) (Sv 12) (.c (.bool false))), Ro 5 (Mv 13)])
 (.seq (.seq (.reg [Ro 14 (Mv 5), Ro 15 (Mv 14), Rg 16 15 false (Fd 3 0), Rg 17 15 false (.ld false (Sv 16) none), Rg 18 15 false (.bin .eql (Sv 17) (Ci 13)), Ro 19 (.pick (Sv 15) (.c (.bool true)) (Sv 18)), Ro 20 (Mv 19), Rg 21 20 false (Fd 3 0), Rg 22 20 false (.ld false (Sv 21) none), Rg 23 20 false (.bin .eql (Sv 22) (Ci 16)), Ro 24 (.pick (Sv 20) (.c (.bool true)) (Sv 23))])
 (.cond (Sv 24)
 (.reg [Ro 25 (Fd 2 0), Ro 26 (Ld 25), Ro 27 (Fd 3 1), Ro 28 (.ld false (Sv 27) none), Ro 29 (.call false (Sv 26) [Sv 28]), Ro 30 (Fd 3 1), Rn (.st (Sv 30) (Sv 29) 1)])
 .skip))
 (.seq (.seq (.reg [Ro 31 (Mv 5)])
 (.cond (Sv 31)
 (.reg [Ro 32 (Fd 2 0), Ro 33 (Ld 32), Ro 34 (Fd 3 2), Ro 35 (.ld false (Sv 34) none), Ro 36 (.call false (Sv 33) [Sv 35]), Ro 37 (Fd 3 2), Rn (.st (Sv 37) (Sv 36) 1)])
 .skip))
 (.seq (.reg [Ro 38 (Lk 2 1), Ro 39 (Fd 3 5), Ro 40 (.ld false (Sv 39) none), Ro 41 (.call false (.f 94) [Sv 38, Sv 40]), Ro 42 (Fd 3 5), Rn (.st (Sv 42) (Sv 41) 1)])
 (.seq (.reg [Ro 43 (.ld false (Sv 3) (some 6)), Rn (.st (Sv 4) (Sv 43) 6)])
 .ret))))))
def r__inline_numbers__inst : List ARes := [(.cell (sl 4) (some 6))]
theorem t__inline_numbers__inst : (Try.f93).body.bind (trCode Try.prog 8 (Try.f93).ntmps [3, 4, 6, 7, 10, 11, 16, 17, 21, 22, 27, 28, 30, 34, 35, 37, 39, 40, 42, 43] [] (drOk 8)) = some c__inline_numbers__inst := by kernel_rfl
theorem u__inline_numbers__inst : trRess Try.prog 8 (Try.f93).results.toList = some r__inline_numbers__inst := by kernel_rfl
def c__inline_numbers__all : ACode :=
 (.seq (.reg [Ro 2 (.box true (Sv 0)), Ro 4 (.mv (.c (.slice none 0 0)))])
 (.seq (.reg [Ro 5 (.mv (.c (.slice none 0 0)))])
 (.seq (.seq (.reg [Ro 8 (Mv 1), Ro 9 (.len false (Sv 8)), Ro 10 (.mv (Ci 0))])
 (.block 0
 (.loop (.seq (.reg [Ro 11 (.bin .lss (Sv 10) (Sv 9))])
 (.seq (.cond (Sv 11)
 .skip
 (.exit 0))
 (.seq (.block 1
 (.seq (.reg [Ro 12 (.idx true (Sv 8) (Sv 10) 1), Ro 13 (Ld 12), Ro 7 (Mv 13)])
 (.reg [Ro 14 (Mv 5), Ro 15 (Fd 2 0), Ro 16 (Ld 15), Ro 17 (Mv 7), Ro 18 (.call true (Sv 16) [Sv 17]), Ro 19 (.mksl 1 1 [(.int .i64 0)] [(0, 1, (Sv 18))]), Ro 20 (.app 3 1 8 (Sv 14) (Sv 19)), Ro 5 (Mv 20)])))
 (.reg [Ro 21 (.bin .add (Sv 10) (Ci 1)), Ro 10 (Mv 21)])))))))
 (.seq (.reg [Ro 22 (Mv 5), Ro 4 (Mv 22)])
 .ret))))
def r__inline_numbers__all : List ARes := [(.tmp (sl 4))]
theorem t__inline_numbers__all : (Try.f94).body.bind (trCode Try.prog 8 (Try.f94).ntmps [4, 5, 14, 20, 22] [] (drOk 8)) = some c__inline_numbers__all := by kernel_rfl
theorem u__inline_numbers__all : trRess Try.prog 8 (Try.f94).results.toList = some r__inline_numbers__all := by kernel_rfl

theorem appRow_int {ys : List Int} {k : Nat} {y : Int} (h : ys[k]?.getD 0 = y) : ∀ i, i < k + 1 → appRow k (fun i => intC (ys[i]?.getD 0)) (fun i => List.take 1 (List.drop i [DV.int y])) i = intC (ys[i]?.getD 0) := by
 intro i hi
 unfold appRow
 split
 ·rfl
 ·obtain rfl : i = k := by omega
  rw [h]
  simp [intC]
set_option maxRecDepth 10000 in
theorem mapInst_of (g : Int → Int) (x : Inst) {a b : Int} (ha : a = if isOne x.op then g x.a else x.a) (hb : b = if isTwo x.op then g x.b else x.b) : [DV.int x.op, DV.int a, DV.int b, DV.lit (Value.int IntKind.u64 x.k), DV.str x.name, intsD (x.args.map g)] = instC (mapInst g x) := by
 subst ha; subst hb
 rfl
theorem appRow_inst {ys : List Inst} {k : Nat} {y : Inst} (h : ys[k]?.getD default = y) : ∀ i, i < k + 1 → appRow k (fun i => instC (ys[i]?.getD default)) (fun i => List.take 6 (List.drop (i * 6) [DV.int y.op, DV.int y.a, DV.int y.b, DV.lit (Value.int IntKind.u64 y.k), DV.str y.name, intsD y.args])) i = instC (ys[i]?.getD default) := by
 intro i hi
 unfold appRow
 split
 ·rfl
 ·obtain rfl : i = k := by omega
  rw [h]
  simp [instC]
def Tells (F : FuncId) (caps : List DV) (dom : Int → Prop) (g : Int → Int) : Prop := ∀ v, dom v → APure Try.prog F (.int v :: caps) (.int (g v))
set_option maxRecDepth 10000 in
theorem numAll_pure {F : FuncId} {caps : List DV} {dom : Int → Prop} {g : Int → Int} (hF : Tells F caps dom g) (l : List Int) (hl : l.length ≤ 17592186044416) (hin : AllIn dom l) :
  APure Try.prog 94 [.agg [.fn F caps], intsD l] (intsD (l.map g)) := by
 refine apureG _ [] Try.func94 (by kernel_rfl) t__inline_numbers__all u__inline_numbers__all rfl rfl (fun _ => ?_)
 obtain ⟨ys, hys⟩ : ∃ ys, ys = l.map g := ⟨_, rfl⟩
 rw [← hys]
 have hyl : ys.length = l.length := by rw [hys]; simp
 have hyk : ∀ k (h : k < l.length), ys[k]?.getD 0 = g l[k] := fun k h => by rw [hys]; simp [h]
 clear hys
 simp [c__inline_numbers__all, r__inline_numbers__all]
 refine loop_c (κ := Nat) (fun k => k ≤ l.length) (fun k => l.length - k) (fun k => [(sl 10, .int k), (sl 5, .own 0 k)]) (fun k => [(0, .row 3 1 k (fun i => intC (ys[i]?.getD 0)))]) 1 0 (srcs [(0, .nil)]) (by simp) (by simp <;> (intros; omega)) ?_
 intro k hk
 simp
 refine ⟨fun hlt => ?_, fun hge => intsD_le (by omega) (fun i hi => by rw [getD_some hi])⟩
 have hc := hF _ (hin k hlt)
 rw [getD_some hlt]
 refine ⟨hlt, call_plain _ (by simp) (by simp) (fun _ => by simp) (fun _ => hc) ?_⟩
 simp
 refine ⟨by omega, k + 1, by omega, by omega, srcs [(0, .id 11)], ?_⟩
 simp
 exact ⟨DLe_int (wrap_succ (by omega)), appRow_int (hyk k hlt)⟩
set_option maxRecDepth 10000 in
theorem numInst_pure {F : FuncId} {caps : List DV} {dom : Int → Prop} {g : Int → Int} (hF : Tells F caps dom g) (x : Inst) (hl : x.args.length ≤ 17592186044416) (hin : InstIn dom x) :
  APure Try.prog 93 [.agg [.fn F caps], .agg (instC x)] (.agg (instC (mapInst g x))) := by
 refine apureG _ [] Try.func93 (by kernel_rfl) t__inline_numbers__inst u__inline_numbers__inst rfl rfl (fun _ => ?_)
 have hc := numAll_pure hF x.args hl hin.args
 have fin : ∀ a b : Int, (a = if isOne x.op then g x.a else x.a) → (b = if isTwo x.op then g x.b else x.b) → DLe (.agg [DV.int x.op, DV.int a, DV.int b, DV.lit (Value.int IntKind.u64 x.k), DV.str x.name, intsD (x.args.map g)]) (.agg (instC (mapInst g x))) := fun a b ha hb => by
  rw [← mapInst_of g x ha hb]; exact DLe.refl _
 by_cases h2 : isTwo x.op = true
 ·have h1 : isOne x.op = true := by simp [isOne, h2]
  have ha := hF _ (hin.a h1)
  have hb := hF _ (hin.b h2)
  have fin := fin (g x.a) (g x.b) (by rw [if_pos h1]) (by rw [if_pos h2])
  simp [isTwo] at h2
  simp [c__inline_numbers__inst, r__inline_numbers__inst, h2]
  refine call_plain _ (by simp) (by simp) (fun _ => by simp) (fun _ => ha) ?_
  simp
  refine call_plain _ (by simp) (by simp) (fun _ => by simp) (fun _ => hb) ?_
  simp
  refine call_plain _ (by simp) (by simp) (fun _ => rfl) (fun _ => hc) ?_
  simp
  exact fin
 ·have fin := fun a ha => fin a x.b ha (by rw [if_neg h2])
  by_cases h1 : isOne x.op = true
  ·have ha := hF _ (hin.a h1)
   have fin := fin (g x.a) (by rw [if_pos h1])
   have h1' := (isOne_iff _).1 h1
   rw [isTwo_iff] at h2
   rcases (by omega : x.op = 13 ∨ x.op = 16) with h | h
   all_goals
    simp [h] at fin
    simp [c__inline_numbers__inst, r__inline_numbers__inst, h]
    refine call_plain _ (by simp) (by simp) (fun _ => by simp) (fun _ => ha) ?_
    simp
    refine call_plain _ (by simp) (by simp) (fun _ => rfl) (fun _ => hc) ?_
    simp
    exact fin
  ·have fin := fin x.a (by rw [if_neg h1])
   rw [isOne_iff] at h1
   have h13 : ¬ x.op = 13 := by omega
   have h16 : ¬ x.op = 16 := by omega
   rcases (by omega : ¬ 2 ≤ x.op ∨ (2 ≤ x.op ∧ ¬ x.op ≤ 11)) with h | h
   all_goals
    simp [c__inline_numbers__inst, r__inline_numbers__inst, h13, h16, h]
    refine call_plain _ (by simp) (by simp) (fun _ => rfl) (fun _ => hc) ?_
    simp
    exact fin
set_option maxRecDepth 10000 in
theorem numInsts_pure {F : FuncId} {caps : List DV} {dom : Int → Prop} {g : Int → Int} (hF : Tells F caps dom g) (l : List Inst) (hl : l.length ≤ 1000) (hx : ∀ k (h : k < l.length), l[k].args.length ≤ 17592186044416 ∧ InstIn dom l[k]) :
  APure Try.prog 80 [.agg [.fn F caps], insD l] (insD (l.map (mapInst g))) := by
 refine apureG _ [] Try.func80 (by kernel_rfl) t__inline_numbers__insts u__inline_numbers__insts rfl rfl (fun _ => ?_)
 obtain ⟨ys, hys⟩ : ∃ ys, ys = l.map (mapInst g) := ⟨_, rfl⟩
 rw [← hys]
 have hyl : ys.length = l.length := by rw [hys]; simp
 have hyk : ∀ k (h : k < l.length), ys[k]?.getD default = mapInst g l[k] := fun k h => by rw [hys]; simp [h]
 clear hys
 simp [c__inline_numbers__insts, r__inline_numbers__insts]
 refine loop_c (κ := Nat) (fun k => k ≤ l.length) (fun k => l.length - k) (fun k => [(sl 10, .int k), (sl 5, .own 0 k)]) (fun k => [(0, .row 39 6 k (fun i => instC (ys[i]?.getD default)))]) 1 0 (srcs [(0, .nil)]) (by simp) (by simp <;> (intros; omega)) ?_
 intro k hk
 simp
 refine ⟨fun hlt => ?_, fun hge => insD_le (by omega) (fun i hi => by rw [getD_some hi])⟩
 have hc := numInst_pure hF l[k] (hx k hlt).1 (hx k hlt).2
 rw [getD_some hlt]
 refine ⟨hlt, call_plain _ (by simp) (by simp) (fun _ => rfl) (fun _ => hc) ?_⟩
 simp
 refine ⟨by omega, k + 1, by omega, by omega, srcs [(0, .id 11)], ?_⟩
 simp
 exact ⟨DLe_int (wrap_succ (by omega)), appRow_inst (hyk k hlt)⟩
set_option maxRecDepth 10000 in
theorem numEnd_pure {F : FuncId} {caps : List DV} {dom : Int → Prop} {g : Int → Int} (hF : Tells F caps dom g) (b : Block) (hl : b.args.length ≤ 17592186044416) (hl' : b.elses.length ≤ 17592186044416) (hin : AllIn dom b.args) (hin' : AllIn dom b.elses) (ht : ¬ b.kind = 1 → dom b.ta) :
  APure Try.prog 81 [.agg [.fn F caps], .agg (termC b)] (.agg [.int b.kind, .int (if b.kind = 1 then b.ta else g b.ta), .int b.to, intsD (b.args.map g), .int b.els, intsD (b.elses.map g)]) := by
 refine apureG _ [] Try.func81 (by kernel_rfl) t__inline_numbers__end u__inline_numbers__end rfl rfl (fun _ => ?_)
 have hc := numAll_pure hF b.args hl hin
 have hc' := numAll_pure hF b.elses hl' hin'
 simp [c__inline_numbers__end, r__inline_numbers__end]
 refine call_plain _ (by simp) (by simp) (fun _ => rfl) (fun _ => hc) ?_
 simp
 refine call_plain _ (by simp) (by simp) (fun _ => rfl) (fun _ => hc') ?_
 simp
 refine ⟨fun h => ?_, fun h => ?_⟩
 ·have hd := hF _ (ht h)
  refine call_plain _ (by simp) (by simp) (fun _ => by simp) (fun _ => hd) ?_
  simp [h]
 ·simp [h]
def c_slices_Concat___api_Inst_api_Inst_ : ACode :=
 (.seq (.reg [Ro 2 (.mv (.c (.slice none 0 0)))])
 (.seq (.reg [Ro 3 (.mv (Ci 0))])
 (.seq (.seq (.reg [Ro 9 (Mv 0), Ro 10 (.len false (Sv 9)), Ro 11 (.mv (Ci 0))])
 (.block 0
 (.loop (.seq (.reg [Ro 12 (.bin .lss (Sv 11) (Sv 10))])
 (.seq (.cond (Sv 12)
 .skip
 (.exit 0))
 (.seq (.block 1
 (.seq (.reg [Ro 13 (.idx true (Sv 9) (Sv 11) 1), Ro 14 (Ld 13), Ro 5 (Mv 14)])
 (.seq (.reg [Ro 15 (Mv 3), Ro 16 (Mv 5), Ro 17 (.len false (Sv 16)), Ro 18 (.bin .add (Sv 15) (Sv 17)), Ro 3 (Mv 18)])
 (.seq (.reg [Ro 19 (Mv 3), Ro 20 (.bin .lss (Sv 19) (Ci 0))])
 (.cond (Sv 20)
 (.reg [⟨(some (sl 21)), none, .bad, none⟩, ⟨none, none, .bad, none⟩])
 .skip)))))
 (.reg [Ro 22 (.bin .add (Sv 11) (Ci 1)), Ro 11 (Mv 22)])))))))
 (.seq (.reg [Ro 23 (Mv 3), Ro 24 (.callo 39 6 (.f 98) [(.c (.slice none 0 0)), Sv 23]), Ro 6 (Mv 24)])
 (.seq (.seq (.reg [Ro 25 (Mv 0), Ro 26 (.len false (Sv 25)), Ro 27 (.mv (Ci 0))])
 (.block 2
 (.loop (.seq (.reg [Ro 28 (.bin .lss (Sv 27) (Sv 26))])
 (.seq (.cond (Sv 28)
 .skip
 (.exit 2))
 (.seq (.block 3
 (.seq (.reg [Ro 29 (.idx true (Sv 25) (Sv 27) 1), Ro 30 (Ld 29), Ro 8 (Mv 30)])
 (.reg [Ro 31 (Mv 6), Ro 32 (Mv 8), Ro 33 (.app 39 6 72 (Sv 31) (Sv 32)), Ro 6 (Mv 33)])))
 (.reg [Ro 34 (.bin .add (Sv 27) (Ci 1)), Ro 27 (Mv 34)])))))))
 (.seq (.reg [Ro 35 (Mv 6), Ro 2 (Mv 35)])
 .ret))))))
def r_slices_Concat___api_Inst_api_Inst_ : List ARes := [(.tmp (sl 2))]
theorem t_slices_Concat___api_Inst_api_Inst_ : (Try.f92).body.bind (trCode Try.prog 8 (Try.f92).ntmps [2, 6, 24, 31, 33, 35] [(98, 39, 6)] (drOk 8)) = some c_slices_Concat___api_Inst_api_Inst_ := by kernel_rfl
theorem u_slices_Concat___api_Inst_api_Inst_ : trRess Try.prog 8 (Try.f92).results.toList = some r_slices_Concat___api_Inst_api_Inst_ := by kernel_rfl
theorem info_inst : (Try.prog.info? 39).map (fun i => (i.zero, i.size, i.bytes)) = some (some (.agg #[.int .i64 0, .int .i64 0, .int .i64 0, .int .u64 0, .string ⟨#[]⟩, .slice none 0 0]), 6, 72) := by kernel_rfl
theorem body_grow : HasBody Try.prog 98 := by
 cases hb : (Try.f98).body with
 | none => cases hb
 | some c => exact ⟨_, c, Try.func98, by kernel_rfl, hb⟩
set_option maxHeartbeats 1000000 in
set_option maxRecDepth 100000 in
theorem grow_own (n : Nat) (hn : n ≤ 1000) :
  AOwn Try.prog 98 [.lit (.slice none 0 0), .int n] 39 6 0 (fun _ => []) := by
 refine ⟨body_grow, fun X w vs _ hvs => ?_⟩
 obtain ⟨l⟩ := vs
 have hvs' : DReps X w l [.lit (.slice none 0 0), .int n] := hvs
 obtain ⟨v1, l1, rfl, h1, h2⟩ := hvs'.uncons
 obtain ⟨v2, l2, rfl, h3, h4⟩ := h2.uncons
 obtain rfl := h4.unnil
 cases h1
 cases h3
 clear h2 h4 hvs hvs'
 by_cases h0 : n = 0
 ·subst h0
  go_enter Try.func98, Try.ntmps98
  go_wp2_with fail
  go_ret
  exact ⟨Ext.refl _, _, rfl, fun _ => [], by simpa using World.ownsRow_nil _ _ _ _, fun i hi => by omega⟩
 ·obtain ⟨i0, hi, hz0, hz1, hz2⟩ := info_parts info_inst
  have hpos : 0 < n := by omega
  have hzr := Lib.run_append_nil_zeros (P := Try.prog) w 40 3 40 39 i0 _ .i64 .i64 Try.underlying40 Try.underlying3 hi hz0 n hpos (by omega) (by omega) (by rw [hz2]; omega)
  go_enter Try.func98, Try.ntmps98
  go_wp2_with (at_builtin; refine Lib.wpList_append_run _ rfl _ _ _ _ rfl _ _ rfl rfl _ _ hzr ?_)
  go_ret
  have hge := grownCap_ge w n 0 39
  have hle := grownCap_le_maxLen w n 0 39 (by unfold maxLen; omega)
  refine ⟨(Ext.drew w).trans (Ext.alloc _ _), _, rfl, fun _ => [], ?_, fun i hi => by omega⟩
  refine ⟨by simp, .inr ⟨w.heap.size, _, _, rfl, Nat.le_refl _, heap_alloc_new w.drew _, Nat.zero_le _, hle, ?_, by simp⟩⟩
  rw [Array.size_append, size_zeroCells, size_zeroCells]
  show n * 6 + (_ - n) * 6 = _ * 6
  omega
structure LeafOk (leaf : Block) (args : List Int) (first : Int) : Prop where
 p : (args.length : Int) = leaf.params
 p0 : 0 ≤ leaf.params
 p6 : leaf.params ≤ 6
 n : leaf.ins.length ≤ 32
 f0 : 0 ≤ first
 f1 : first ≤ 100
 t : upTo (leaf.params + leaf.ins.length) leaf.ta
def caps1 (leaf : Block) (args : List Int) (first : Int) : List DV := [.cref (blockC leaf) 0, .cref [intsD args] 0, .cref [.int first] 0]
def caps2 (leaf : Block) (args : List Int) (first : Int) : List DV := [.cref [.int first] 0, .cref [.fn 77 (caps1 leaf args first)] 0, .cref (blockC leaf) 0]
set_option maxRecDepth 10000 in
theorem put1_pure {leaf : Block} {args : List Int} {first : Int} (h : LeafOk leaf args first) : Tells 77 (caps1 leaf args first) (upTo 1000) (inNum leaf.params args first) := by
 intro v hv
 obtain ⟨hp, p0, p6, n, f0, f1, t⟩ := h
 refine apureG _ [] Try.func77 (by kernel_rfl) t_inline_Put_1 u_inline_Put_1 rfl rfl (fun _ => ?_)
 have hw : IntKind.i64.wrap (first + v) = first + v := wrap_in (by have := hv.1; have := hv.2; omega)
 have hw' : IntKind.i64.wrap (first + v - leaf.params) = first + v - leaf.params := wrap_in (by have := hv.1; have := hv.2; omega)
 simp [c_inline_Put_1, r_inline_Put_1, caps1, hw, hw']
 refine ⟨fun hlt => ⟨⟨hv.1, by omega⟩, DLe_int ?_⟩, fun hge => DLe_int ?_⟩
 ·unfold inNum; rw [if_pos hlt]
 ·unfold inNum; rw [if_neg (by omega)]
set_option maxRecDepth 10000 in
theorem put2_pure {leaf : Block} {args : List Int} {first : Int} (h : LeafOk leaf args first) : Tells 78 (caps2 leaf args first) (upTo 1000) (afterNum leaf.params args first leaf.ta leaf.ins.length) := by
 intro v hv
 have h1 := put1_pure h leaf.ta ⟨h.t.1, by have := h.t.2; have := h.p6; have := h.n; omega⟩
 obtain ⟨hp, p0, p6, n, f0, f1, t⟩ := h
 refine apureG _ [] Try.func78 (by kernel_rfl) t_inline_Put_2 u_inline_Put_2 rfl rfl (fun _ => ?_)
 have hw : IntKind.i64.wrap (v - 1) = v - 1 := wrap_in (by have := hv.1; have := hv.2; omega)
 have hw' : IntKind.i64.wrap (v - 1 + leaf.ins.length) = v - 1 + leaf.ins.length := wrap_in (by have := hv.1; have := hv.2; omega)
 simp [c_inline_Put_2, r_inline_Put_2, caps2, hw, hw']
 refine ⟨fun hlt => DLe_int ?_, fun hge => ⟨fun he => ?_, fun hne => DLe_int ?_⟩⟩
 ·unfold afterNum; rw [if_pos hlt]
 ·refine call_plain _ (by simp) (by simp) (fun _ => by simp) (fun _ => h1) ?_
  simp
  refine DLe_int ?_
  unfold afterNum; rw [if_neg (by omega), if_pos he]
 ·unfold afterNum; rw [if_neg (by omega), if_neg hne]
theorem flat_facts {α : Type} (ls : List (List α)) (htot : ls.flatten.length ≤ 1000) : ∃ (fl : List α) (sz : Nat → Nat), sz 0 = 0 ∧ (∀ k (h : k < ls.length), sz (k + 1) = sz k + ls[k].length) ∧ (∀ k, k ≤ ls.length → sz k ≤ 1000) ∧ (sz ls.length = fl.length ∧ fl = ls.flatten) ∧
  ∀ k (h : k < ls.length) j, j < ls[k].length → fl[sz k + j]? = ls[k][j]? := by
 refine ⟨ls.flatten, fun k => (ls.take k).flatten.length, by simp, fun k h => ?_, fun k h => ?_, ⟨by simp, rfl⟩, fun k h j hj => ?_⟩
 ·simp only []
  rw [List.take_succ_eq_append_getElem h, List.flatten_append, List.length_append]
  simp
 ·have e : ls.flatten = (ls.take k).flatten ++ (ls.drop k).flatten := by rw [← List.flatten_append, List.take_append_drop]
  rw [e, List.length_append] at htot
  simp only []
  omega
 ·have e : ls.flatten = (ls.take k).flatten ++ (ls[k] ++ (ls.drop (k + 1)).flatten) := by
   conv => lhs; rw [← List.take_append_drop k ls]
   rw [List.flatten_append, List.drop_eq_getElem_cons h, List.flatten_cons]
  rw [e, List.getElem?_append_right (by simp only []; omega)]
  simp only [Nat.add_sub_cancel_left]
  rw [List.getElem?_append_left hj]
theorem DLe_refl (x : DV) : DLe x x := DLe.refl x
set_option maxRecDepth 10000 in
theorem concat_pure (ls : List (List Inst)) (hn : ls.length ≤ 10) (htot : ls.flatten.length ≤ 1000) :
  APure Try.prog 92 [.sl 1 ls.length (fun k => [insD (ls[k]?.getD [])])] (insD ls.flatten) := by
 refine apureG _ _ Try.func92 (by kernel_rfl) t_slices_Concat___api_Inst_api_Inst_ u_slices_Concat___api_Inst_api_Inst_ rfl rfl (fun _ => ?_)
 obtain ⟨fl, sz, hs0, hsz, hs1, hsn, hfl⟩ := flat_facts ls htot
 simp [c_slices_Concat___api_Inst_api_Inst_, r_slices_Concat___api_Inst_api_Inst_]
 refine loop_c (κ := Nat) (fun k => k ≤ ls.length) (fun k => ls.length - k) (fun k => [(sl 11, .int k), (sl 3, .int (sz k))]) (fun k => []) 0 0 (srcs []) (by simp) (by simp [hs0]) ?_
 intro k hk
 simp
 refine ⟨fun hlt => ?_, fun hge => ?_⟩
 ·have hle := hsz k hlt
  rw [getD_some hlt]
  have hw : IntKind.i64.wrap ((sz k : Int) + (ls[k].length : Int)) = sz (k + 1) := by rw [wrap_in (by have := hs1 (k + 1) hlt; omega)]; omega
  rw [hw]
  exact ⟨hlt, by omega, fun _ => ⟨k + 1, by omega, by omega, ⟨DLe_refl _, DLe_int (wrap_succ (by omega))⟩, srcs [], by simp⟩⟩
 obtain rfl : k = ls.length := by omega
 refine callo_k 0 (fun _ => []) (by simp) (by simp) rfl (grow_own (sz ls.length) (hs1 _ (Nat.le_refl _))) ?_
 simp
 refine loop_c (κ := Nat) (fun k => k ≤ ls.length) (fun k => ls.length - k) (fun k => [(sl 27, .int k), (sl 6, .own 0 (sz k))]) (fun k => [(0, .row 39 6 (sz k) (fun i => instC (fl[i]?.getD default)))]) 1 0 (srcs [(0, .id 2)]) (by simp) (by simp [hs0] <;> (intros; omega)) ?_
 intro k hk
 simp
 refine ⟨fun hlt => ?_, fun hge => by
  obtain ⟨h1, rfl⟩ := hsn
  exact insD_le (by rw [← h1]; congr 1; omega) (fun i hi => by rw [getD_some hi])⟩
 have hle := hsz k hlt
 have h2 := hs1 (k + 1) hlt
 rw [getD_some hlt]
 refine ⟨hlt, by omega, k + 1, by omega, by omega, srcs [(0, .id 7)], ?_⟩
 simp
 refine ⟨⟨by omega, DLe_int (wrap_succ (by omega))⟩, ⟨by omega, fun i hi => ?_⟩⟩
 unfold appRow
 split
 ·rfl
 ·rename_i hni
  have := hfl k hlt (i - sz k) (by omega)
  rw [show sz k + (i - sz k) = i by omega] at this
  rw [this]
set_option maxRecDepth 10000 in
theorem joined_pure (ls : List (List Inst)) (hn : ls.length ≤ 10) (htot : ls.flatten.length ≤ 1000) :
  APure Try.prog 79 [.sl 1 ls.length (fun k => [insD (ls[k]?.getD [])])] (insD ls.flatten) := by
 refine apureG _ [] Try.func79 (by kernel_rfl) t_inline_joined_api_Inst_ u_inline_joined_api_Inst_ rfl rfl (fun _ => ?_)
 simp [c_inline_joined_api_Inst_, r_inline_joined_api_Inst_]
 refine call_plain _ (by simp) (by simp) (fun _ => rfl) (fun _ => concat_pure ls hn htot) ?_
 simp
set_option maxHeartbeats 2000000 in
set_option maxRecDepth 10000 in
theorem putI_pure (b leaf : Block) (at_ : Int) (hb : NumsOk b) (hl : NumsOk leaf) :
  APure Try.prog 62 [.agg (blockC b), .agg (blockC leaf), .int at_] (.tup [.agg (blockC (if putYes b leaf at_ then putB b leaf at_ else b)), .bool (putYes b leaf at_)]) := by
 refine apureG _ [] Try.func62 (by kernel_rfl) t_inline_Put u_inline_Put rfl rfl (fun _ => ?_)
 have hw : IntKind.i64.wrap ((b.ins.length : Int) - 1) = b.ins.length - 1 := wrap_in (by have := hb.n32; omega)
 have hw' : IntKind.i64.wrap ((b.ins.length : Int) - 1 + leaf.ins.length) = b.ins.length - 1 + leaf.ins.length := wrap_in (by have := hb.n32; have := hl.n32; omega)
 simp [c_inline_Put, r_inline_Put, hw, hw']
 refine ⟨fun h1 h2 h3 => ⟨⟨⟨h1, h2⟩, h3⟩, h1, h2⟩, fun h => ?_, fun h0 h1 h2 h3 h4 h5 => ⟨⟨h0, h1⟩, ⟨h0, by omega⟩, ?_⟩⟩
 ·have e : putYes b leaf at_ = false := by
   rw [← Bool.not_eq_true]
   intro hy
   simp [putYes, insAt] at hy
   obtain ⟨⟨⟨⟨⟨a1, a2⟩, a3⟩, a4⟩, a5⟩, a6⟩ := hy
   rcases h with (((((h | h) | h) | h) | h) | h)
   ·omega
   ·omega
   ·exact h (of_decide_eq_true a3)
   ·exact h (of_decide_eq_true a4)
   ·exact h a5
   ·omega
  rw [e]
  exact DLe.refl _
 have e : putYes b leaf at_ = true := by
  unfold putYes insAt
  rw [decide_eq_true h0, decide_eq_true h1, decide_eq_true h2, decide_eq_true h3, decide_eq_true h4, decide_eq_true h5]; rfl
 rw [e]
 obtain ⟨k, rfl⟩ := Int.eq_ofNat_of_zero_le h0
 have hk : k < b.ins.length := by omega
 have hn := hb.n32
 have hp := hb.p6
 have hp0 := hb.p0
 have hL : LeafOk leaf (b.ins[k]?.getD default).args (b.params + (k : Int)) := ⟨h3, hl.p0, hl.p6, hl.n32, by omega, by omega, hl.ta (by omega)⟩
 have hw3 : IntKind.i64.wrap (b.params + (k : Int)) = b.params + k := wrap_in (by omega)
 have hw4 : IntKind.i64.wrap ((k : Int) + 1) = (k : Int) + 1 := wrap_in (by omega)
 have T1 := put1_pure hL
 have T2 := put2_pure hL
 have hdom : ∀ v, upTo (leaf.params + leaf.ins.length) v → upTo 1000 v := fun v hv => ⟨hv.1, by have := hv.2; have := hl.p6; have := hl.n32; omega⟩
 have hdom' : ∀ v, upTo (b.params + b.ins.length) v → upTo 1000 v := fun v hv => ⟨hv.1, by have := hv.2; omega⟩
 have c1 := numInsts_pure T1 leaf.ins (by have := hl.n32; omega) (fun j hj => ⟨by have := hl.args6 j hj; omega, (hl.ins j hj).mono (fun v hv => hdom v ⟨hv.1, by have := hv.2; omega⟩)⟩)
 have c2 := numInsts_pure T2 (b.ins.drop (k + 1)) (by simp; omega) (fun j hj => by
  simp at hj ⊢
  exact ⟨by have := hb.args6 (k + 1 + j) (by omega); omega, (hb.ins (k + 1 + j) (by omega)).mono (fun v hv => hdom' v ⟨hv.1, by have := hv.2; omega⟩)⟩)
 have c3 := numEnd_pure T2 b (by have := hb.args17; omega) (by have := hb.elses17; omega) (hb.args.mono hdom') (hb.elses.mono hdom') (fun h => hdom' _ (hb.ta h))
 rw [hw3]
 refine call_plain _ (by simp) (by simp) (fun _ => rfl) (fun _ => c1) ?_
 simp [hw4]
 refine ⟨⟨by omega, by omega⟩, call_arg c2 (by simp) (by simp) (fun _ => rfl) (fun _ => ?_) ?_⟩
 ·exact ⟨DLe.refl _, insD_le (by simp) (fun j hj => by simp at hj; simp; rw [getD_some (by omega)]), trivial⟩
 simp
 have c4 := joined_pure [b.ins.take k, leaf.ins.map (mapInst (inNum leaf.params (b.ins[k]?.getD default).args (b.params + (k : Int)))), (b.ins.drop (k + 1)).map (mapInst (afterNum leaf.params (b.ins[k]?.getD default).args (b.params + (k : Int)) leaf.ta leaf.ins.length))] (by simp) (by simp; have := hl.n32; omega)
 refine call_arg c4 (by simp) (by simp) (fun _ => rfl) (fun _ => ⟨DLe_cells fun i hi => ?_, trivial⟩) ?_
 ·rcases (by omega : i = 0 ∨ i = 1 ∨ i = 2) with rfl | rfl | rfl
  ·exact ⟨insD_le (by simp; omega) (fun j hj => by simp at hj; simp; rw [getD_some (by omega)]), trivial⟩
  ·exact ⟨DLe.refl _, trivial⟩
  ·exact ⟨DLe.of_eq (by simp [List.map_drop]), trivial⟩
 simp
 refine call_plain _ (by simp) (by simp) (fun _ => rfl) (fun _ => c3) ?_
 simp
 exact DLe.of_eq (by simp [blockC, putB, inG, afterG, insAt, List.map_drop])
@[simp] def zB : List AV := [.d (.int 0), .d (.lit (.slice none 0 0)), .d (.int 0), .d (.int 0), .d (.int 0), .d (.lit (.slice none 0 0)), .d (.int 0), .d (.lit (.slice none 0 0))]
def b0 : Block := ⟨0, [⟨1, 0, 0, 2, ⟨#[]⟩, []⟩, ⟨14, 0, 0, 0, ⟨#[102]⟩, [0]⟩], 3, 1, 0, [], 0, []⟩
def l0 : Block := ⟨1, [], 3, 0, 0, [], 0, []⟩
def r0 : Block := ⟨0, [⟨1, 0, 0, 2, ⟨#[]⟩, []⟩], 3, 0, 0, [], 0, []⟩
end Go.Proofs.Ytgadlpdbkohlbaa
