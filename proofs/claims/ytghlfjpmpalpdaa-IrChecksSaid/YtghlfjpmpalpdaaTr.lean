/- The translation of a body into the evaluator's own code, by a function; that it is right. -/
import Derived.Test.YtghlfjpmpalpdaaFn
namespace Go.Proofs.Ytghlfjpmpalpdaa
open Go.RowKit

def trOpd (D : Nat) : Operand → Option Opd
  | .tmp t => if t < 2 ^ D then some (.s (bits D t)) else none
  | .const v => some (.c v)
  | .func f => some (.f f)
  | .global _ => none
theorem trOpd_sound {D : Nat} {o : Operand} {x : Opd} (h : trOpd D o = some x) : TrOpd D o x := by
  cases o with
  | tmp t =>
    simp only [trOpd] at h
    split at h
    · rename_i ht
      injection h with h
      subst h
      have := TrOpd.s (D := D) (bits D t) (bits_length D t)
      rw [idx_bits D t ht] at this
      exact this
    · cases h
  | const v => injection h with h; subst h; exact .c v
  | func f => injection h with h; subst h; exact .f f
  | _ => cases h

def trOpds (D : Nat) : List Operand → Option (List Opd)
  | [] => some []
  | o :: os => match trOpd D o, trOpds D os with
    | some x, some xs => some (x :: xs)
    | _, _ => none
theorem trOpds_sound {D : Nat} : ∀ {os : List Operand} {xs : List Opd}, trOpds D os = some xs → TrOpds D os xs
  | [], xs, h => by injection h with h; subst h; exact ⟨rfl, fun i hi => by simp at hi⟩
  | o :: os, xs, h => by
    simp only [trOpds] at h
    split at h
    · rename_i x ys h1 h2
      injection h with h
      subst h
      obtain ⟨h3, h4⟩ := trOpds_sound h2
      refine ⟨by simp [h3], fun i hi hi' => ?_⟩
      cases i with
      | zero => exact trOpd_sound h1
      | succ i => exact h4 i (by simpa using hi) (by simpa using hi')
    · cases h

def trMaybe (D : Nat) : Option Operand → Option (Option Opd)
  | none => some none
  | some o => match trOpd D o with
    | some x => some (some x)
    | none => none
theorem trMaybe_sound {D : Nat} {o : Option Operand} {x : Option Opd} (h : trMaybe D o = some x) : o = none ∧ x = none ∨ ∃ a b, o = some a ∧ x = some b ∧ TrOpd D a b := by
  cases o with
  | none => injection h with h; exact .inl ⟨rfl, h.symm⟩
  | some o =>
    simp only [trMaybe] at h
    split at h
    · rename_i y hy
      injection h with h
      exact .inr ⟨o, y, rfl, h.symm, trOpd_sound hy⟩
    · cases h

/-- A slice's parts: offset, size, what. -/
def trParts (D n : Nat) : List (Nat × Operand) → Option (List (Nat × Nat × Opd))
  | [] => some []
  | (i, o) :: r => match trOpd D o, trParts D n r with
    | some x, some l => some ((i * n, n, x) :: l)
    | _, _ => none
theorem trParts_sound {D n : Nat} : ∀ {ps : List (Nat × Operand)} {qs : List (Nat × Nat × Opd)}, trParts D n ps = some qs → ps.length = qs.length ∧ ∀ i (h : i < ps.length) (h' : i < qs.length), ps[i].1 * n = qs[i].1 ∧ qs[i].2.1 = n ∧ TrOpd D ps[i].2 qs[i].2.2
  | [], qs, h => by injection h with h; subst h; exact ⟨rfl, fun i hi => by simp at hi⟩
  | (j, o) :: r, qs, h => by
    simp only [trParts] at h
    split at h
    · rename_i x l h1 h2
      injection h with h
      subst h
      obtain ⟨h3, h4⟩ := trParts_sound h2
      refine ⟨by simp [h3], fun i hi hi' => ?_⟩
      cases i with
      | zero => exact ⟨rfl, rfl, trOpd_sound h1⟩
      | succ i => exact h4 i (by simpa using hi) (by simpa using hi')
    · cases h

/-- Where a struct's fields lie, and their sizes. -/
def fieldPlaces (P : Program) : List Field → Option (List (Nat × Nat))
  | [] => some []
  | f :: r => match P.info? f.type, fieldPlaces P r with
    | some i, some l => some ((f.offset, i.size) :: l)
    | _, _ => none
theorem fieldPlaces_sound {P : Program} : ∀ {fs : List Field} {l : List (Nat × Nat)}, fieldPlaces P fs = some l → fs.length = l.length ∧ ∀ w i (h : i < fs.length) (h' : i < l.length), ((do pure (fs[i].offset, ← sizeOf fs[i].type) : Sem (Nat × Nat)).run P w) = .ok l[i] w
  | [], l, h => by injection h with h; subst h; exact ⟨rfl, fun w i hi => by simp at hi⟩
  | f :: r, l, h => by
    simp only [fieldPlaces] at h
    split at h
    · rename_i x ys h1 h2
      injection h with h
      subst h
      obtain ⟨h3, h4⟩ := fieldPlaces_sound h2
      refine ⟨by simp [h3], fun w i hi hi' => ?_⟩
      cases i with
      | zero => simp [sizeOf, typeInfo, h1]
      | succ i => exact h4 w i (by simpa using hi) (by simpa using hi')
    · cases h

/-- A struct's parts. -/
def trFields (D : Nat) (pl : List (Nat × Nat)) : List (Nat × Operand) → Option (List (Nat × Nat × Opd))
  | [] => some []
  | (i, o) :: r => match pl[i]?, trOpd D o, trFields D pl r with
    | some p, some x, some l => some ((p.1, p.2, x) :: l)
    | _, _, _ => none
theorem trFields_sound {D : Nat} {pl : List (Nat × Nat)} : ∀ {ps : List (Nat × Operand)} {qs : List (Nat × Nat × Opd)}, trFields D pl ps = some qs → ps.length = qs.length ∧ ∀ i (h : i < ps.length) (h' : i < qs.length), pl[ps[i].1]? = some (qs[i].1, qs[i].2.1) ∧ TrOpd D ps[i].2 qs[i].2.2
  | [], qs, h => by injection h with h; subst h; exact ⟨rfl, fun i hi => by simp at hi⟩
  | (j, o) :: r, qs, h => by
    simp only [trFields] at h
    split at h
    · rename_i p x l h0 h1 h2
      injection h with h
      subst h
      obtain ⟨h3, h4⟩ := trFields_sound h2
      refine ⟨by simp [h3], fun i hi hi' => ?_⟩
      cases i with
      | zero => exact ⟨h0, trOpd_sound h1⟩
      | succ i => exact h4 i (by simpa using hi) (by simpa using hi')
    · cases h

def isAggD : TypeDesc → Bool
  | .struct _ | .array _ _ => true
  | _ => false
theorem isAggD_yes {d : TypeDesc} (h : isAggD d = true) : (∃ fs, d = .struct fs) ∨ (∃ n e, d = .array n e) := by
  cases d <;> simp [isAggD] at h
  · exact .inr ⟨_, _, rfl⟩
  · exact .inl ⟨_, rfl⟩

def isBoolD : Option TypeDesc → Bool
  | some .bool => true
  | _ => false

/-- Is an operand none of the slots that may lead to what turns? -/
def stays (ms : List Nat) : Operand → Bool
  | .tmp t => !ms.contains t
  | _ => true

def trLoad (P : Program) (D : Nat) (ms : List Nat) (t : TypeId) (o : Operand) : Option AOp :=
  match P.underlying t, P.info? t, trOpd D o with
  | some d, some i, some x => if isAggD d then some (.ld (stays ms o) x (some i.size)) else some (.ld (stays ms o) x none)
  | _, _, _ => none
def trFld (P : Program) (D : Nat) (t : TypeId) (o : Operand) (i : Nat) : Option AOp :=
  match P.underlying t, trOpd D o with
  | some (.struct fs), some x => match fs[i]? with
    | some f => match P.info? f.type with
      | some inf => if inf.size = 0 then none else some (.fld x f.offset)
      | none => none
    | none => none
  | _, _ => none
def trSl (P : Program) (t : TypeId) : Option (TypeId × TypeInfo) :=
  match P.underlying t with
  | some (.slice e) => match P.info? e with
    | some i => some (e, i)
    | none => none
  | _ => none
theorem trSl_sound {P : Program} {t e : TypeId} {i : TypeInfo} (h : trSl P t = some (e, i)) : P.underlying t = some (.slice e) ∧ P.info? e = some i := by
  unfold trSl at h
  split at h
  · rename_i e' hu
    split at h
    · rename_i i' hi
      injection h with h; injection h with h1 h2
      subst h1; subst h2
      exact ⟨hu, hi⟩
    · cases h
  · cases h

def trMksl (P : Program) (D : Nat) (t : TypeId) (len : Nat) (ps : List (Nat × Operand)) : Option AOp :=
  match trSl P t with
  | some (_, ie) => match ie.zero, trParts D ie.size ps with
    | some z, some qs => if len * ie.size = 0 then none else if len * ie.size > 2 ^ 24 then none else
      some (.mksl ie.size len ((Array.range (len * ie.size)).map (z.cells[· % z.cells.size]!)).toList qs)
    | _, _ => none
  | none => none
def trBld (P : Program) (D : Nat) (t : TypeId) (ps : List (Nat × Operand)) : Option AOp :=
  match P.underlying t, P.info? t with
  | some (.struct fs), some it => match it.zero, fieldPlaces P fs.toList with
    | some z, some pl => match trFields D pl ps with
      | some qs => some (.bld z.cells.toList qs)
      | none => none
    | _, _ => none
  | _, _ => none
def trLen (P : Program) (D : Nat) (t : TypeId) (o : Operand) : Option AOp :=
  match P.underlying t, trOpd D o with
  | some (.slice _), some x => some (.len false x)
  | some .string, some x => some (.len true x)
  | some (.map _ _), some x => some (.mlen x)
  | _, _ => none

/-- A struct's fields, as plain kinds. -/
def trKinds (P : Program) : Nat → List Field → Option (List TypeDesc)
  | _, [] => some []
  | i, f :: fs => if f.name = "_" then none else if f.offset = i then match P.underlying f.type, trKinds P (i + 1) fs with
    | some (.int k), some ks => some (.int k :: ks)
    | some .bool, some ks => some (.bool :: ks)
    | some .string, some ks => some (.string :: ks)
    | _, _ => none
    else none
theorem trKinds_sound {P : Program} : ∀ {i : Nat} {fs : List Field} {ks : List TypeDesc}, trKinds P i fs = some ks → FieldsOk P i fs ks
  | i, [], ks, h => by injection h with h; subst h; trivial
  | i, f :: fs, ks, h => by
    simp only [trKinds] at h
    split at h
    · cases h
    · rename_i hn
      split at h
      · rename_i ho
        split at h
        · rename_i hu hk; injection h with h; subst h; exact ⟨hn, ho, hu, trivial, trKinds_sound hk⟩
        · rename_i hu hk; injection h with h; subst h; exact ⟨hn, ho, hu, trivial, trKinds_sound hk⟩
        · rename_i hu hk; injection h with h; subst h; exact ⟨hn, ho, hu, trivial, trKinds_sound hk⟩
        · cases h
      · cases h
/-- An equality, or its contrary. -/
def trEq : BinOp → Option Bool
  | .eql => some false
  | .neq => some true
  | _ => none
theorem trEq_sound {b : BinOp} {neg : Bool} (h : trEq b = some neg) : (b = .eql ∧ neg = false) ∨ (b = .neq ∧ neg = true) := by
  cases b <;> simp [trEq] at h <;> subst h <;> simp
def trBin (P : Program) (D : Nat) (b : BinOp) (t : TypeId) (o i : Operand) : Option AOp :=
  match trOpd D o, trOpd D i with
  | some x, some y => match trEq b, P.underlying t with
    | some neg, some (.slice _) => match i with
      | .const (.slice none 0 0) => some (.isnil neg x)
      | _ => none
    | some neg, some (.struct fs) => match trKinds P 0 fs.toList with
      | some ks => if P.stoodInHeld t then none else if P.eqGuardType P.depth t then none else some (.eqs neg x y ks)
      | none => none
    | _, _ => if isBoolD (P.underlying t) then some (.binb b x y) else some (.bin b x y)
  | _, _ => none

def trVal (P : Program) (D : Nat) (ms : List Nat) : Op → Option AOp
  | .move o => match trOpd D o with | some x => some (.mv x) | none => none
  | .assign o => match trOpd D o with | some x => some (.mv x) | none => none
  | .pick c a b => match trOpd D c, trOpd D a, trOpd D b with | some x, some y, some z => some (.pick x y z) | _, _, _ => none
  | .fieldAddr t o i => trFld P D t o i
  | .load t o => trLoad P D ms t o
  | .indexAddr t o i => match trSl P t, trOpd D o, trOpd D i with | some (_, inf), some x, some y => some (.idx (stays ms o) x y inf.size) | _, _, _ => none
  | .binOp b t o i _ => trBin P D b t o i
  | .unOp .not _ o => match trOpd D o with | some x => some (.not x) | none => none
  | .call { callee := .builtin .len, args := ⟨[o]⟩, argTypes := ⟨[t]⟩ } => trLen P D t o
  | .makeFunc (.func F) ⟨[]⟩ ⟨cs⟩ => match trOpds D cs with | some xs => some (.mkfn F xs) | none => none
  | .buildSlice t len ⟨ps⟩ => trMksl P D t len ps
  | .build t ⟨ps⟩ => trBld P D t ps
  | .extract o i => match trOpd D o with | some x => some (.ext x i) | none => none
  | .slice t o lo hi none => match trSl P t, trOpd D o, trMaybe D lo, trMaybe D hi with | some (_, inf), some x, some l, some h => some (.slc x l h inf.size) | _, _, _, _ => none
  | _ => none

theorem isBoolD_yes {d : Option TypeDesc} (h : isBoolD d = true) : d = some .bool := by
  unfold isBoolD at h
  split at h
  · rfl
  · cases h

theorem trVal_sound {P : Program} {D : Nat} {ms : List Nat} {op : Op} {ao : AOp} (h : trVal P D ms op = some ao) : TrVal P D op ao := by
  unfold trVal at h
  split at h
  · split at h
    · rename_i hx; injection h with h; subst h; exact .mv (trOpd_sound hx)
    · cases h
  · split at h
    · rename_i hx; injection h with h; subst h; exact .asg (trOpd_sound hx)
    · cases h
  · split at h
    · rename_i hx hy hz; injection h with h; subst h; exact .pick (trOpd_sound hx) (trOpd_sound hy) (trOpd_sound hz)
    · cases h
  · unfold trFld at h
    split at h
    · rename_i fs x hu hx
      split at h
      · rename_i f hf
        split at h
        · rename_i inf hi
          split at h
          · cases h
          · rename_i hz; injection h with h; subst h; exact .fld (trOpd_sound hx) hu hf hi hz
        · cases h
      · cases h
    · cases h
  · unfold trLoad at h
    split at h
    · rename_i d i x hu hi hx
      split at h
      · rename_i hd; injection h with h; subst h; exact .ldk (trOpd_sound hx) hu (isAggD_yes hd) hi _
      · rename_i hd; injection h with h; subst h; exact .ld1 (trOpd_sound hx) hu (by cases d <;> simp [isAggD] at hd ⊢) _
    · cases h
  · split at h
    · rename_i hs hx hy; injection h with h; subst h
      obtain ⟨h1, h2⟩ := trSl_sound hs
      exact .idx (trOpd_sound hx) (trOpd_sound hy) h1 h2 _
    · cases h
  · unfold trBin at h
    split at h
    · rename_i hx hy
      split at h
      · rename_i hq hu
        split at h
        · injection h with h; subst h; exact .isnil (trEq_sound hq) (trOpd_sound hx) hu
        · cases h
      · rename_i hq hu
        split at h
        · rename_i hk
          split at h
          · cases h
          · rename_i hst
            split at h
            · cases h
            · rename_i hg
              injection h with h; subst h
              exact .eqs (trEq_sound hq) (trOpd_sound hx) (trOpd_sound hy) hu (by simpa using hst) (by simpa using hg) (trKinds_sound hk)
        · cases h
      · split at h
        · rename_i hb; injection h with h; subst h; exact .binb (trOpd_sound hx) (trOpd_sound hy) (isBoolD_yes hb)
        · injection h with h; subst h; exact .bin (trOpd_sound hx) (trOpd_sound hy)
    · cases h
  · split at h
    · rename_i hx; injection h with h; subst h; exact .not (trOpd_sound hx)
    · cases h
  · unfold trLen at h
    split at h
    · rename_i hu hx; injection h with h; subst h; exact .lens (trOpd_sound hx) hu
    · rename_i hu hx; injection h with h; subst h; exact .lenb (trOpd_sound hx) hu
    · rename_i hu hx; injection h with h; subst h; exact .mlen (trOpd_sound hx) hu
    · cases h
  · split at h
    · rename_i hx; injection h with h; subst h; exact .mkfn (trOpds_sound hx)
    · cases h
  · unfold trMksl at h
    split at h
    · rename_i hs
      split at h
      · rename_i z qs hz hq
        split at h
        · cases h
        · rename_i h1
          split at h
          · cases h
          · rename_i h2
            injection h with h
            subst h
            obtain ⟨h3, h4⟩ := trSl_sound hs
            obtain ⟨h5, h6⟩ := trParts_sound hq
            exact .mksl h3 h4 hz h1 h2 rfl h5 h6
      · cases h
    · cases h
  · unfold trBld at h
    split at h
    · rename_i fs it hu hi
      split at h
      · rename_i z pl hz hpl
        split at h
        · rename_i qs hq
          injection h with h
          subst h
          obtain ⟨h1, h2⟩ := fieldPlaces_sound hpl
          obtain ⟨h3, h4⟩ := trFields_sound hq
          refine .bld (pl := pl.toArray) hu hi hz (fun w => ?_) h3 (fun i hi hi' => by simpa using h4 i hi hi')
          exact run_mapM_array fs pl (by simpa using h1) (fun i hi hi' => h2 w i hi hi')
        · cases h
      · cases h
    · cases h
  · split at h
    · rename_i hx; injection h with h; subst h; exact .ext (trOpd_sound hx)
    · cases h
  · split at h
    · rename_i hs hx hl hh; injection h with h; subst h
      obtain ⟨h1, h2⟩ := trSl_sound hs
      exact .slc (trOpd_sound hx) h1 h2 (trMaybe_sound hl) (trMaybe_sound hh)
    · cases h
  · cases h

/-- ms: the slots that may lead to what turns; ows: functions that hand back rows of their own making, with the elements' type and cells. -/
def trOp0 (P : Program) (D : Nat) (ms : List Nat) (ows : List (FuncId × TypeId × Nat)) (dst : Option Tmp) : Op → Option AOp
  | .box _ o => match trOpd D o with
    | some x => some (.box (match dst with | some d => !ms.contains d | none => false) x)
    | none => none
  | .alloc t => match P.info? t with
    | some i => match i.zero with
      | some z => some (.new z.cells.toList)
      | none => none
    | none => none
  | .buildSlice t 0 ⟨[]⟩ => match trSl P t with
    | some (e, ie) => some (.nrow e ie.size)
    | none => none
  | .store t a x => match P.info? t, trOpd D a, trOpd D x with
    | some i, some a', some x' => some (.st a' x' i.size)
    | _, _, _ => none
  | .call { callee := .value f, args := ⟨args⟩, argTypes := _ } => match trOpd D f, trOpds D args with
    | some f', some args' => match f with
      | .func F => match ows.find? (·.1 == F) with
        | some (_, e, n) => some (.callo e n f' args')
        | none => some (.call (args.all (stays ms)) f' args')
      | f => some (.call (stays ms f && args.all (stays ms)) f' args')
    | _, _ => none
  | .call { callee := .builtin .append, args := ⟨[s, x]⟩, argTypes := ⟨[t, t']⟩ } => if t = t' then match trSl P t, trOpd D s, trOpd D x with
    | some (e, i), some s', some x' => match i.zero with
      | some z => if z.cells.size = i.size ∧ 0 < i.size ∧ 0 < i.bytes then some (.app e i.size i.bytes s' x') else none
      | none => none
    | _, _, _ => none
    else none
  | .makeMap t none => match P.underlying t with
    | some (.map kt _) => match P.underlying kt with
      | some kd => some (.mmk kd)
      | none => none
    | _ => none
  | .mapUpdate t m k v => match P.underlying t with
    | some (.map kt _) => match P.underlying kt, trOpd D m, trOpd D k, trOpd D v with
      | some kd, some m', some k', some v' => some (.mset m' k' v' kd)
      | _, _, _, _ => none
    | _ => none
  | .lookup t m k ok => match P.underlying t with
    | some (.map kt et) => match P.underlying kt, P.info? et, trOpd D m, trOpd D k with
      | some kd, some i, some m', some k' => match i.zero with
        | some z => some (.mget m' k' ok kd z)
        | none => none
      | _, _, _, _ => none
    | _ => none
  | op => trVal P D ms op

theorem trOp0_sound {P : Program} {D : Nat} {ms : List Nat} {ows : List (FuncId × TypeId × Nat)} {dst : Option Tmp} {op : Op} {ao : AOp} (h : trOp0 P D ms ows dst op = some ao) : TrOp P D op ao := by
  unfold trOp0 at h
  split at h
  · split at h
    · rename_i hx; injection h with h; subst h; exact .box _ (trOpd_sound hx)
    · cases h
  · split at h
    · rename_i hi
      split at h
      · rename_i hz; injection h with h; subst h; exact .new hi hz
      · cases h
    · cases h
  · split at h
    · rename_i hs; injection h with h; subst h
      obtain ⟨h1, h2⟩ := trSl_sound hs
      exact .nrow h1 h2
    · cases h
  · split at h
    · rename_i hi ha hx; injection h with h; subst h; exact .st hi (trOpd_sound ha) (trOpd_sound hx)
    · cases h
  · split at h
    · rename_i hf ha
      split at h
      · split at h
        · injection h with h; subst h; exact .callo (trOpd_sound hf) (trOpds_sound ha) _ _
        · injection h with h; subst h; exact .call (trOpd_sound hf) (trOpds_sound ha) _
      · injection h with h; subst h; exact .call (trOpd_sound hf) (trOpds_sound ha) _
    · cases h
  · split at h
    · rename_i ht
      subst ht
      split at h
      · rename_i hs hx hy
        split at h
        · rename_i hz
          split at h
          · rename_i hc; injection h with h; subst h
            obtain ⟨h1, h2⟩ := trSl_sound hs
            exact .app h1 h2 hz hc.1 hc.2.1 hc.2.2 (trOpd_sound hx) (trOpd_sound hy)
          · cases h
        · cases h
      · cases h
    · cases h
  · split at h
    · rename_i hu
      split at h
      · rename_i hk; injection h with h; subst h; exact .mmk hu hk
      · cases h
    · cases h
  · split at h
    · rename_i hu
      split at h
      · rename_i hk hm hk' hv; injection h with h; subst h; exact .mset hu hk (trOpd_sound hm) (trOpd_sound hk') (trOpd_sound hv)
      · cases h
    · cases h
  · split at h
    · rename_i hu
      split at h
      · rename_i hk hi hm hk'
        split at h
        · rename_i hz; injection h with h; subst h
          exact .val (.mget (trOpd_sound hm) (trOpd_sound hk') hu hk (fun w => by simp [zeroValue, typeInfo, hi, hz]) _)
        · cases h
      · cases h
    · cases h
  · exact .val (trVal_sound h)

/-- Where, ahead of place i, the region makes the object that a slot holds. -/
def madeAt (ops : Array Oper) (t : Tmp) : Nat → Option Nat
  | 0 => none
  | i + 1 => match ops[i]? with
    | some o => match o.op with
      | .alloc _ => if o.dst = some t then some i else madeAt ops t i
      | _ => madeAt ops t i
    | none => madeAt ops t i
/-- A store into an object that the region itself makes; else as it is; what is not known is told as such. -/
def trOp (P : Program) (D : Nat) (ms : List Nat) (ows : List (FuncId × TypeId × Nat)) (ops : Array Oper) (i : Nat) (dst : Option Tmp) (op : Op) : AOp :=
  match op with
  | .store t (.tmp a) x => match madeAt ops a i with
    | some k => match P.info? t, trOpd D (.tmp a), trOpd D x with
      | some inf, some a', some x' => .ini (i - k) a' x' inf.size
      | _, _, _ => .bad
    | none => (trOp0 P D ms ows dst (.store t (.tmp a) x)).getD .bad
  | op => (trOp0 P D ms ows dst op).getD .bad
theorem trOp_sound {P : Program} {D : Nat} {ms : List Nat} {ows : List (FuncId × TypeId × Nat)} {ops : Array Oper} {i : Nat} {dst : Option Tmp} {op : Op} : TrOp P D op (trOp P D ms ows ops i dst op) := by
  have base : ∀ op, TrOp P D op ((trOp0 P D ms ows dst op).getD .bad) := by
    intro op
    cases h : trOp0 P D ms ows dst op with
    | none => exact .bad
    | some ao => exact trOp0_sound h
  unfold trOp
  split
  · split
    · split
      · rename_i hi ha hx; exact .ini hi (trOpd_sound ha) (trOpd_sound hx) _
      · exact .bad
    · exact base _
  · exact base _

def trDst (D N : Nat) : Option Tmp → Option (Option Slot)
  | none => some none
  | some d => if d < 2 ^ D ∧ d < N then some (some (bits D d)) else none
def trGuard (D N : Nat) (ops : Array Oper) : Option (Nat × Bool) → Option (Option (Slot × Bool))
  | none => some none
  | some (j, want) => match (ops[j]?).bind (·.dst) with
    | some d => if d < 2 ^ D ∧ d < N then some (some (bits D d, want)) else none
    | none => none
/-- Does an operation read no object that its region makes? (To be sure of it is the proof's part.) -/
def inRegion (ops : Array Oper) (t : Tmp) : Nat → Nat → Bool
  | 0, _ => false
  | f + 1, i => (List.range i).any fun k => match ops[k]? with
    | some o => o.dst == some t && (match o.op with
      | .alloc _ => true
      | .buildSlice _ 0 _ => true
      | op => op.operands.toList.any fun x => match x with | .tmp u => inRegion ops u f k | _ => false)
    | none => false
def reads (ops : Array Oper) (i : Nat) (op : Op) : Option Nat := if op.operands.toList.any fun x => match x with | .tmp u => inRegion ops u 8 i | _ => false then none else some i
def trOper (P : Program) (D N : Nat) (ms : List Nat) (ows : List (FuncId × TypeId × Nat)) (ops : Array Oper) (dw : Bool) (i : Nat) (o : Oper) : Option AOper :=
  match trDst D N o.dst, trGuard D N ops o.guard with
  | some d, some g => some ⟨d, g, trOp P D ms ows ops i o.dst o.op, if dw then reads ops i o.op else none⟩
  | _, _ => none

theorem trOper_sound {P : Program} {D N : Nat} {ms : List Nat} {ows : List (FuncId × TypeId × Nat)} {ops : Array Oper} {dw : Bool} {i : Nat} {o : Oper} {ao : AOper} (h : trOper P D N ms ows ops dw i o = some ao) : TrOper P D N ops o ao := by
  unfold trOper at h
  split at h
  · rename_i d g hd hg
    injection h with h
    subst h
    have h1 : o.dst = d.map Slot.idx ∧ ∀ p, d = some p → p.length = D ∧ p.idx < N := by
      cases hdst : o.dst with
      | none => rw [hdst] at hd; injection hd with hd; subst hd; exact ⟨rfl, fun p h => by cases h⟩
      | some t =>
        rw [hdst] at hd
        simp only [trDst] at hd
        split at hd
        · rename_i ht
          injection hd with hd
          subst hd
          exact ⟨by simp [idx_bits D t ht.1], fun p hp => by injection hp with hp; subst hp; exact ⟨bits_length D t, by rw [idx_bits D t ht.1]; exact ht.2⟩⟩
        · cases hd
    refine ⟨h1.1, h1.2, ?_, trOp_sound⟩
    cases hgd : o.guard with
    | none => rw [hgd] at hg; injection hg with hg; subst hg; exact .inl ⟨rfl, rfl⟩
    | some jw =>
      obtain ⟨j, want⟩ := jw
      rw [hgd] at hg
      simp only [trGuard] at hg
      split at hg
      · rename_i t ht
        split at hg
        · rename_i hlt
          injection hg with hg
          subst hg
          exact .inr ⟨j, want, bits D t, rfl, rfl, bits_length D t, by rw [idx_bits D t hlt.1]; exact hlt.2, by rw [idx_bits D t hlt.1]; exact ht⟩
        · cases hg
      · cases hg
  · cases h

def trOpers (P : Program) (D N : Nat) (ms : List Nat) (ows : List (FuncId × TypeId × Nat)) (ops : Array Oper) (dw : Bool) : Nat → List Oper → Option (List AOper)
  | _, [] => some []
  | i, o :: os => match trOper P D N ms ows ops dw i o, trOpers P D N ms ows ops dw (i + 1) os with
    | some x, some xs => some (x :: xs)
    | _, _ => none
theorem trOpers_sound {P : Program} {D N : Nat} {ms : List Nat} {ows : List (FuncId × TypeId × Nat)} {ops : Array Oper} {dw : Bool} : ∀ {j : Nat} {os : List Oper} {xs : List AOper}, trOpers P D N ms ows ops dw j os = some xs → os.length = xs.length ∧ ∀ (i : Nat) (o : Oper) (ao : AOper), os[i]? = some o → xs[i]? = some ao → TrOper P D N ops o ao
  | _, [], xs, h => by injection h with h; subst h; exact ⟨rfl, fun i o ao hi => by simp at hi⟩
  | _, o :: os, xs, h => by
    simp only [trOpers] at h
    split at h
    · rename_i x ys h1 h2
      injection h with h
      subst h
      obtain ⟨h3, h4⟩ := trOpers_sound h2
      refine ⟨by simp [h3], fun i o' ao hi hi' => ?_⟩
      cases i with
      | zero =>
        simp at hi hi'
        subst hi; subst hi'
        exact trOper_sound h1
      | succ i => exact h4 i o' ao (by simpa using hi) (by simpa using hi')
    · cases h

/-- The slots of boxes that a region makes and fills, and that nothing turns later (by ms). -/
def frzs (D : Nat) (ms : List Nat) (os : List AOper) : List Slot := os.filterMap fun o => match o.op with
  | .ini _ (.s p) _ _ => if ms.contains p.idx || !(p.length == D) then none else some p
  | _ => none
def wrapF (c : ACode) : List Slot → ACode
  | [] => c
  | p :: ps => wrapF (.seq c (.frz p)) ps
theorem wrapF_sound {P : Program} {D N : Nat} {ms : List Nat} {c : Code} {os : List AOper} {ac : ACode} (h : TrCode P D N c ac) : TrCode P D N c (wrapF ac (frzs D ms os)) := by
  have key : ∀ (ps : List Slot) (ac : ACode), (∀ p ∈ ps, p.length = D) → TrCode P D N c ac → TrCode P D N c (wrapF ac ps) := by
    intro ps
    induction ps with
    | nil => intro ac _ h; exact h
    | cons p ps ih => intro ac hp h; exact ih _ (fun q hq => hp q (List.mem_cons_of_mem _ hq)) (.frz h (hp p (by simp)))
  refine key _ _ (fun p hp => ?_) h
  obtain ⟨o, _, ho⟩ := List.mem_filterMap.1 hp
  split at ho
  · split at ho
    · cases ho
    · rename_i hc
      injection ho with ho
      subst ho
      simp at hc
      exact hc.2
  · cases ho

/-- Code without regions that draw their order. -/
def trCode (P : Program) (D N : Nat) (ms : List Nat) (ows : List (FuncId × TypeId × Nat)) (dr : Array Oper → List AOper → Bool) : Code → Option ACode
  | .skip => some .skip
  | .region _ ops draw => match trOpers P D N ms ows ops draw 0 ops.toList with
    | some os => if noDefer ops && (!draw || dr ops os) then some (wrapF (.reg os) (frzs D ms os)) else none
    | none => none
  | .seq a b => match trCode P D N ms ows dr a, trCode P D N ms ows dr b with
    | some a', some b' => some (.seq a' b')
    | _, _ => none
  | .cond c t f => match trOpd D c, trCode P D N ms ows dr t, trCode P D N ms ows dr f with
    | some c', some t', some f' => some (.cond c' t' f')
    | _, _, _ => none
  | .block id b => match trCode P D N ms ows dr b with
    | some b' => some (.block id b')
    | none => none
  | .loop b => match trCode P D N ms ows dr b with
    | some b' => some (.loop b')
    | none => none
  | .exit id => some (.exit id)
  | .ret => some .ret
  | .rangeFunc g ps asn body => match trOpd D g, trCode P D N ms ows dr asn, trCode P D N ms ows dr body with
    | some g', some asn', some body' => if plainB asn' && plainB body' && ps.toList.all (fun t => decide (t < 2 ^ D) && decide (t < N)) then some (.rng g' (ps.toList.map (bits D)) asn' body') else some .bad
    | _, _, _ => some .bad
  | _ => some .bad

theorem trCode_sound {P : Program} {D N : Nat} {ms : List Nat} {ows : List (FuncId × TypeId × Nat)} {dr : Array Oper → List AOper → Bool} (hdr : ∀ id ops os, noDefer ops = true → ops.size = os.length → (∀ (i : Nat) (o : Oper) (ao : AOper), ops[i]? = some o → os[i]? = some ao → TrOper P D N ops o ao) → dr ops os = true → RegOk P D N id ops true os) :
    ∀ {c : Code} {ac : ACode}, trCode P D N ms ows dr c = some ac → TrCode P D N c ac := by
  intro c
  induction c with
  | skip => intro ac h; injection h with h; subst h; exact .skip
  | region id ops draw =>
    intro ac h
    simp only [trCode] at h
    split at h
    · rename_i os hos
      split at h
      · rename_i hd
        obtain ⟨hnd, hd⟩ := (Bool.and_eq_true _ _).mp hd
        injection h with h
        subst h
        obtain ⟨h1, h2⟩ := trOpers_sound hos
        have h2' : ∀ (i : Nat) (o : Oper) (ao : AOper), ops[i]? = some o → os[i]? = some ao → TrOper P D N ops o ao := fun i o ao hi hi' => h2 i o ao (by simpa using hi) hi'
        cases draw with
        | false => exact wrapF_sound (.reg (regOk_seq hnd (by simpa using h1) h2'))
        | true => exact wrapF_sound (.reg (hdr id ops os hnd (by simpa using h1) h2' (by simpa using hd)))
      · cases h
    · cases h
  | seq a b iha ihb =>
    intro ac h
    simp only [trCode] at h
    split at h
    · rename_i ha hb; injection h with h; subst h; exact .seq (iha ha) (ihb hb)
    · cases h
  | cond c t f iht ihf =>
    intro ac h
    simp only [trCode] at h
    split at h
    · rename_i hc ht hf; injection h with h; subst h; exact .cond (trOpd_sound hc) (iht ht) (ihf hf)
    · cases h
  | block id b ih =>
    intro ac h
    simp only [trCode] at h
    split at h
    · rename_i hb; injection h with h; subst h; exact .block (ih hb)
    · cases h
  | loop b ih =>
    intro ac h
    simp only [trCode] at h
    split at h
    · rename_i hb; injection h with h; subst h; exact .loop (ih hb)
    · cases h
  | exit id => intro ac h; injection h with h; subst h; exact .exit
  | ret => intro ac h; injection h with h; subst h; exact .ret
  | rangeFunc g ps asn body iha ihb =>
    intro ac h
    simp only [trCode] at h
    split at h
    · rename_i hg ha hb
      split at h
      · rename_i hc
        injection h with h
        subst h
        simp only [Bool.and_eq_true, List.all_eq_true, decide_eq_true_eq] at hc
        obtain ⟨⟨h1, h2⟩, h3⟩ := hc
        refine .rng _ (trOpd_sound hg) ?_ ?_ (iha ha) (ihb hb) h1 h2
        · rw [List.map_map]
          have : ps.toList.map (Slot.idx ∘ bits D) = ps.toList := by
            conv => rhs; rw [← List.map_id ps.toList]
            exact List.map_congr_left fun t ht => idx_bits D t (h3 t ht).1
          rw [this]
        · intro p hp
          obtain ⟨t, ht, rfl⟩ := List.mem_map.1 hp
          exact ⟨bits_length D t, by rw [idx_bits D t (h3 t ht).1]; exact (h3 t ht).2⟩
      · injection h with h; subst h; exact .bad
    · injection h with h; subst h; exact .bad
  | _ => intro ac h; simp only [trCode] at h; injection h with h; subst h; exact .bad

def trRes (P : Program) (D : Nat) : ResultVar → Option ARes
  | .tmp t => if t < 2 ^ D then some (.tmp (bits D t)) else none
  | .cell t ty => if t < 2 ^ D then match P.underlying ty, P.info? ty with
    | some d, some i => if isAggD d then some (.cell (bits D t) (some i.size)) else some (.cell (bits D t) none)
    | _, _ => none
    else none
def trRess (P : Program) (D : Nat) : List ResultVar → Option (List ARes)
  | [] => some []
  | o :: os => match trRes P D o, trRess P D os with
    | some x, some xs => some (x :: xs)
    | _, _ => none
theorem trRes_sound {P : Program} {D : Nat} {o : ResultVar} {x : ARes} (h : trRes P D o = some x) : TrRes P D o x := by
  cases o with
  | tmp t =>
    simp only [trRes] at h
    split at h
    · rename_i ht
      injection h with h
      subst h
      have := TrRes.tmp (P := P) (D := D) (bits D t) (bits_length D t)
      rwa [idx_bits D t ht] at this
    · cases h
  | cell t ty =>
    simp only [trRes] at h
    split at h
    · rename_i ht
      split at h
      · rename_i d i hu hi
        split at h
        · rename_i hd
          injection h with h
          subst h
          have := TrRes.cellk (P := P) (D := D) (bits D t) (bits_length D t) hu (isAggD_yes hd) hi
          rwa [idx_bits D t ht] at this
        · rename_i hd
          injection h with h
          subst h
          have := TrRes.cell1 (P := P) (D := D) (bits D t) (bits_length D t) hu (by cases d <;> simp [isAggD] at hd ⊢)
          rwa [idx_bits D t ht] at this
      · cases h
    · cases h
theorem trRess_sound {P : Program} {D : Nat} : ∀ {os : List ResultVar} {xs : List ARes}, trRess P D os = some xs → os.length = xs.length ∧ ∀ i (h : i < os.length) (h' : i < xs.length), TrRes P D os[i] xs[i]
  | [], xs, h => by injection h with h; subst h; exact ⟨rfl, fun i hi => by simp at hi⟩
  | o :: os, xs, h => by
    simp only [trRess] at h
    split at h
    · rename_i x ys h1 h2
      injection h with h
      subst h
      obtain ⟨h3, h4⟩ := trRess_sound h2
      refine ⟨by simp [h3], fun i hi hi' => ?_⟩
      cases i with
      | zero => exact trRes_sound h1
      | succ i => exact h4 i (by simpa using hi) (by simpa using hi')
    · cases h

end Go.Proofs.Ytghlfjpmpalpdaa
