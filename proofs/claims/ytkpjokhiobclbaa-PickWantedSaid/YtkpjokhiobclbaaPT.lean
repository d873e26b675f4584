/- Plain layer 8: which modules are taken, round by round. -/
import Derived.Test.YtkpjokhiobclbaaQ6
namespace Go.Proofs.Ytkpjokhiobclbaa
open Go.RowKit

/-- The places of all modules, in order. -/
def posF (i : Nat) (f : File) : List (Nat × Nat × Module) := f.mods.zipIdx.map fun p => (i, p.2, p.1)
def posL (l : List File) : List (Nat × Nat × Module) := l.zipIdx.flatMap fun p => posF p.2 p.1
/-- What is taken, and where it stood. -/
abbrev TS := List Module × List (Nat × Nat)
def hadP (h : List (Nat × Nat)) (i k : Nat) : Bool := h.any fun p => decide (p = (i, k))
def goodP (s : TS) (p : Nat × Nat × Module) : Bool := !hadP s.2 p.1 p.2.1 && openL s.1 p.2.2
def nextP (l : List File) (s : TS) : Option (Nat × Nat × Module) := (posL l).find? (goodP s)
def addP (s : TS) (p : Nat × Nat × Module) : TS := (s.1 ++ [p.2.2], s.2 ++ [(p.1, p.2.1)])
def rounds (l : List File) : Nat → TS → TS
  | 0, s => s
  | n + 1, s => match nextP l s with
    | none => s
    | some p => rounds l n (addP s p)
/-- The objects. -/
def startT (l : List File) (k : Nat) : TS := ((l.take k).zipIdx).foldl (fun s p => if p.1.archive = true then s else addP s (p.2, 0, p.1.mods.headD default)) ([], [])
def leftP (l : List File) (s : TS) : Nat := ((posL l).filter fun p => !hadP s.2 p.1 p.2.1).length
def takeT (l : List File) : TS := rounds l (leftP l (startT l l.length) + 1) (startT l l.length)
def takeL (l : List File) : List Module := (takeT l).1

@[simp] theorem startT_zero (l : List File) : startT l 0 = ([], []) := rfl
theorem startT_succ {l : List File} {k : Nat} (hk : k < l.length) : startT l (k + 1) = if l[k].archive = true then startT l k else addP (startT l k) (k, 0, l[k].mods.headD default) := by
  unfold startT
  rw [List.take_succ_eq_append_getElem hk, List.zipIdx_append, List.foldl_append]
  simp [List.length_take, Nat.min_eq_left (Nat.le_of_lt hk)]

theorem mem_posF {i : Nat} {f : File} {p : Nat × Nat × Module} : p ∈ posF i f ↔ ∃ k, ∃ hk : k < f.mods.length, p = (i, k, f.mods[k]) := by
  unfold posF
  rw [List.mem_map]
  constructor
  · rintro ⟨⟨m, k⟩, hm, rfl⟩
    obtain ⟨h1, h2⟩ := List.mem_zipIdx' hm
    exact ⟨k, h1, by simp [h2]⟩
  · rintro ⟨k, hk, rfl⟩
    exact ⟨(f.mods[k], k), List.mem_zipIdx_iff_getElem?.2 (by simp [hk]), rfl⟩
theorem mem_posL {l : List File} {p : Nat × Nat × Module} : p ∈ posL l ↔ ∃ i, ∃ hi : i < l.length, p ∈ posF i l[i] := by
  unfold posL
  rw [List.mem_flatMap]
  constructor
  · rintro ⟨⟨f, i⟩, hm, hp⟩
    obtain ⟨h1, h2⟩ := List.mem_zipIdx' hm
    exact ⟨i, h1, by simpa [h2] using hp⟩
  · rintro ⟨i, hi, hp⟩
    exact ⟨(l[i], i), List.mem_zipIdx_iff_getElem?.2 (by simp [hi]), hp⟩
theorem nextP_none {l : List File} {s : TS} (h : ∀ i (hi : i < l.length), ∀ p ∈ posF i l[i], goodP s p = false) : nextP l s = none := by
  unfold nextP
  rw [List.find?_eq_none]
  intro p hp
  obtain ⟨i, hi, hp⟩ := mem_posL.1 hp
  simp [h i hi p hp]
theorem find_split {α : Type} {p : α → Bool} {x : α} {b : List α} : ∀ {a : List α}, (∀ y ∈ a, p y = false) → p x = true → (a ++ x :: b).find? p = some x
  | [], _, h => by simp [h]
  | y :: a, ha, h => by
    have h1 := ha y (by simp)
    have h2 := find_split (b := b) (a := a) (fun z hz => ha z (by simp [hz])) h
    simp [h1]
    simpa using h2
theorem nextP_hit {l : List File} {s : TS} {k j : Nat} (hk : k < l.length) (hj : j < l[k].mods.length) (hb : ∀ i (hi : i < l.length), i < k → ∀ p ∈ posF i l[i], goodP s p = false)
    (hbj : ∀ i (hi : i < l[k].mods.length), i < j → goodP s (k, i, l[k].mods[i]) = false) (h : goodP s (k, j, l[k].mods[j]) = true) : nextP l s = some (k, j, l[k].mods[j]) := by
  have e1 : posL l = (l.take k).zipIdx.flatMap (fun p => posF p.2 p.1) ++ (posF k l[k] ++ ((l.drop (k + 1)).zipIdx (k + 1)).flatMap fun p => posF p.2 p.1) := by
    conv => lhs; rw [← List.take_append_drop k l, List.drop_eq_getElem_cons hk]
    unfold posL
    rw [List.zipIdx_append, List.flatMap_append, List.zipIdx_cons, List.flatMap_cons]
    simp [List.length_take, Nat.min_eq_left (Nat.le_of_lt hk)]
  have e2 : posF k l[k] = ((l[k].mods.take j).zipIdx.map fun p => (k, p.2, p.1)) ++ (k, j, l[k].mods[j]) :: (((l[k].mods.drop (j + 1)).zipIdx (j + 1)).map fun p => (k, p.2, p.1)) := by
    unfold posF
    conv => lhs; rw [← List.take_append_drop j l[k].mods, List.drop_eq_getElem_cons hj]
    rw [List.zipIdx_append, List.map_append, List.zipIdx_cons, List.map_cons]
    simp [List.length_take, Nat.min_eq_left (Nat.le_of_lt hj)]
  unfold nextP
  rw [e1, e2, List.append_assoc, ← List.append_assoc, List.cons_append]
  refine find_split (fun y hy => ?_) h
  rcases List.mem_append.1 hy with hy | hy
  · obtain ⟨⟨f, i⟩, hm, hp⟩ := List.mem_flatMap.1 hy
    obtain ⟨h1, h2⟩ := List.mem_zipIdx' hm
    have hik : i < k := by simp at h1; omega
    have hil : i < l.length := by omega
    refine hb i hil hik y ?_
    simpa [h2] using hp
  · obtain ⟨⟨m, i⟩, hm, rfl⟩ := List.mem_map.1 hy
    obtain ⟨h1, h2⟩ := List.mem_zipIdx' hm
    have hij : i < j := by simp at h1; omega
    have := hbj i (by omega) hij
    simpa [h2] using this
theorem rounds_none {l : List File} {s : TS} (h : nextP l s = none) (n : Nat) : rounds l n s = s := by
  cases n with
  | zero => rfl
  | succ n => simp [rounds, h]
theorem filter_le {α : Type} {A B : α → Bool} (h : ∀ q, A q = true → B q = true) : ∀ L : List α, (L.filter A).length ≤ (L.filter B).length
  | [] => Nat.le_refl _
  | q :: L => by
    have ih := filter_le h L
    cases hA : A q with
    | true => simp [List.filter_cons, hA, h q hA, ih]
    | false => cases hB : B q <;> simp [List.filter_cons, hA, hB] <;> omega
theorem filter_lt {α : Type} {A B : α → Bool} {p : α} (h : ∀ q, A q = true → B q = true) (hA : A p = false) (hB : B p = true) : ∀ L : List α, p ∈ L → (L.filter A).length < (L.filter B).length
  | [], hp => by cases hp
  | q :: L, hp => by
    have hle := filter_le h L
    rcases List.mem_cons.1 hp with rfl | hp
    · simp [List.filter_cons, hA, hB]; omega
    · have ih := filter_lt h hA hB L hp
      cases hq : A q with
      | true => simp [List.filter_cons, hq, h q hq, ih]
      | false => cases hq2 : B q <;> simp [List.filter_cons, hq, hq2] <;> omega
theorem leftP_lt {l : List File} {s : TS} {p : Nat × Nat × Module} (hp : p ∈ posL l) (hg : goodP s p = true) : leftP l (addP s p) < leftP l s := by
  simp only [goodP, Bool.and_eq_true, Bool.not_eq_true'] at hg
  refine filter_lt (p := p) (fun q hq => ?_) (by simp [addP, hadP]) (by simp [hg.1]) _ hp
  simp only [addP, hadP, List.any_append, Bool.not_eq_true', Bool.or_eq_false_iff] at hq ⊢
  exact hq.1
/-- The map of the places. -/
def keyP (p : Nat × Nat) : Value := .agg #[.int .i64 p.1, .int .i64 p.2]
def putP (s : MapS) (p : Nat × Nat) : MapS := (if (s.2 (keyP p)).isSome then s.1 else s.1 + 1, mset s.2 (keyP p) (.bool true))
def mapT (h : List (Nat × Nat)) : MapS := h.foldl putP (0, fun _ => none)
theorem mapT_add (h : List (Nat × Nat)) (p : Nat × Nat) : mapT (h ++ [p]) = putP (mapT h) p := by
  unfold mapT
  rw [List.foldl_append]
  rfl
theorem keq_P (i k : Nat) (p : Nat × Nat) : keq (keyP (i, k)) (keyP p) = decide (p = (i, k)) := by
  obtain ⟨a, b⟩ := p
  rw [Bool.eq_iff_iff, keq_iff (kd := .two .i64 .i64) (by simp [kdOk, keyP]) (by simp [kdOk, keyP])]
  simp [keyP]
  omega
theorem foldP_get : ∀ (h : List (Nat × Nat)) (s : MapS) (i k : Nat), (h.foldl putP s).2 (keyP (i, k)) = if hadP h i k = true then some (.bool true) else s.2 (keyP (i, k))
  | [], s, i, k => by simp [hadP]
  | p :: h, s, i, k => by
    rw [List.foldl_cons, foldP_get h]
    simp only [putP, mset, keq_P]
    by_cases hp : p = (i, k) <;> by_cases h2 : hadP h i k = true <;> simp_all [hadP]
theorem mapT_get (h : List (Nat × Nat)) (i k : Nat) : (mapT h).2 (keyP (i, k)) = if hadP h i k = true then some (.bool true) else none := foldP_get h _ i k

/-- The map of what is wanted, and not defined. -/
theorem keq_S (x y : ByteArray) : keq (.string y) (.string x) = decide (x = y) := by
  rw [Bool.eq_iff_iff, keq_iff (kd := .string) rfl rfl]
  simp [eq_comm]
theorem putS_get (s : MapS) (x y : ByteArray) : (putS s x).2 (.string y) = if x = y then some (.bool true) else s.2 (.string y) := by
  simp only [putS, mset, keq_S]
  by_cases h : x = y <;> simp [h]
theorem delS_get (s : MapS) (x y : ByteArray) : (delS s x).2 (.string y) = if x = y then none else s.2 (.string y) := by
  simp only [delS, mdel, keq_S]
  by_cases h : x = y <;> simp [h]
theorem putL_get : ∀ (l : List ByteArray) (s : MapS) (y : ByteArray), (putL s l).2 (.string y) = if hasN l y = true then some (.bool true) else s.2 (.string y)
  | [], s, y => by simp [hasN]
  | x :: l, s, y => by
    show (putL (putS s x) l).2 _ = _
    rw [putL_get l, putS_get]
    by_cases h : x = y <;> by_cases h2 : hasN l y = true <;> simp [hasN, h] at h2 ⊢ <;> simp_all
theorem delL_get : ∀ (l : List ByteArray) (s : MapS) (y : ByteArray), (delL s l).2 (.string y) = if hasN l y = true then none else s.2 (.string y)
  | [], s, y => by simp [hasN]
  | x :: l, s, y => by
    show (delL (delS s x) l).2 _ = _
    rw [delL_get l, delS_get]
    by_cases h : x = y <;> by_cases h2 : hasN l y = true <;> simp [hasN, h] at h2 ⊢ <;> simp_all

theorem foldW_get : ∀ (l : List Module) (s : MapS) (y : ByteArray), (l.foldl (fun s m => putL s (wantsM m)) s).2 (.string y) = if wantedL l y = true then some (.bool true) else s.2 (.string y)
  | [], s, y => by simp [wantedL]
  | m :: l, s, y => by
    rw [List.foldl_cons, foldW_get l, putL_get]
    by_cases h : hasN (wantsM m) y = true <;> by_cases h2 : wantedL l y = true <;> simp_all [wantedL]
theorem foldD_get : ∀ (l : List Module) (s : MapS) (y : ByteArray), (l.foldl (fun s m => delL s (definesM m)) s).2 (.string y) = if definedL l y = true then none else s.2 (.string y)
  | [], s, y => by simp [definedL]
  | m :: l, s, y => by
    rw [List.foldl_cons, foldD_get l, delL_get]
    by_cases h : hasN (definesM m) y = true <;> by_cases h2 : definedL l y = true <;> simp_all [definedL]
theorem openS_get (l : List Module) (y : ByteArray) : (openS l).2 (.string y) = if definedL l y = true then none else if wantedL l y = true then some (.bool true) else none := by
  unfold openS
  rw [foldD_get]
  unfold wantS
  rw [foldW_get]

theorem AllT.put {s : MapS} (h : AllT s.2) (x : ByteArray) : AllT (putS s x).2 := by
  intro v u hu
  simp only [putS, mset] at hu
  split at hu
  · injection hu with hu; exact hu.symm
  · exact h v u hu
theorem AllT.del {s : MapS} (h : AllT s.2) (x : ByteArray) : AllT (delS s x).2 := by
  intro v u hu
  simp only [delS, mdel] at hu
  split at hu
  · cases hu
  · exact h v u hu
theorem AllT.puts : ∀ (l : List ByteArray) {s : MapS}, AllT s.2 → AllT (putL s l).2
  | [], _, h => h
  | x :: l, s, h => AllT.puts l (s := putS s x) (h.put x)
theorem AllT.dels : ∀ (l : List ByteArray) {s : MapS}, AllT s.2 → AllT (delL s l).2
  | [], _, h => h
  | x :: l, s, h => AllT.dels l (s := delS s x) (h.del x)
theorem AllT.wants : ∀ (l : List Module) {s : MapS}, AllT s.2 → AllT (l.foldl (fun s m => putL s (wantsM m)) s).2
  | [], _, h => h
  | m :: l, s, h => AllT.wants l (s := putL s (wantsM m)) (h.puts _)
theorem AllT.defs : ∀ (l : List Module) {s : MapS}, AllT s.2 → AllT (l.foldl (fun s m => delL s (definesM m)) s).2
  | [], _, h => h
  | m :: l, s, h => AllT.defs l (s := delL s (definesM m)) (h.dels _)
theorem openS_all (l : List Module) : AllT (openS l).2 := AllT.defs l (AllT.wants l fun v u hu => by cases hu)
theorem openS_isT (l : List Module) (y : ByteArray) : isT (openS l).2 y = (!definedL l y && wantedL l y) := by
  unfold isT
  rw [openS_get]
  by_cases h : definedL l y = true <;> by_cases h2 : wantedL l y = true <;> simp [h, h2]
theorem openS_any (l : List Module) (m : Module) : (definesM m).any (isT (openS l).2) = openL l m := by
  unfold openL
  congr 1
  funext y
  exact openS_isT l y

end Go.Proofs.Ytkpjokhiobclbaa
