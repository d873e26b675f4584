/- Some texts of one kind, one behind the other. -/
import Derived.Test.YtndpejmebhcaaaaKC
import Derived.Orders
/- The translation of a body into the evaluator's own code, by a function; that it is right. -/
namespace Go.Proofs.Ytndpejmebhcaaaa
open Go.RowKit

def trOpd (D : Nat) : Operand → Option Opd
  | .tmp t => if t < 2 ^ D then some (.s (bits D t)) else none
  | .const v => some (.c v)
  | .func f => some (.f f)
  | .global _ => none
theorem trOpd_sound {D : Nat} {o : Operand} {x : Opd} (h : trOpd D o = some x) : TrOpd D o x := by
  cases o with
  | tmp t =>
    simp only [trOpd] at h
    split at h
    · rename_i ht
      injection h with h
      subst h
      have := TrOpd.s (D := D) (bits D t) (bits_length D t)
      rw [idx_bits D t ht] at this
      exact this
    · cases h
  | const v => injection h with h; subst h; exact .c v
  | func f => injection h with h; subst h; exact .f f
  | _ => cases h

def trOpds (D : Nat) : List Operand → Option (List Opd)
  | [] => some []
  | o :: os => match trOpd D o, trOpds D os with
    | some x, some xs => some (x :: xs)
    | _, _ => none
theorem trOpds_sound {D : Nat} : ∀ {os : List Operand} {xs : List Opd}, trOpds D os = some xs → TrOpds D os xs
  | [], xs, h => by injection h with h; subst h; exact ⟨rfl, fun i hi => by simp at hi⟩
  | o :: os, xs, h => by
    simp only [trOpds] at h
    split at h
    · rename_i x ys h1 h2
      injection h with h
      subst h
      obtain ⟨h3, h4⟩ := trOpds_sound h2
      refine ⟨by simp [h3], fun i hi hi' => ?_⟩
      cases i with
      | zero => exact trOpd_sound h1
      | succ i => exact h4 i (by simpa using hi) (by simpa using hi')
    · cases h

def trMaybe (D : Nat) : Option Operand → Option (Option Opd)
  | none => some none
  | some o => match trOpd D o with
    | some x => some (some x)
    | none => none
theorem trMaybe_sound {D : Nat} {o : Option Operand} {x : Option Opd} (h : trMaybe D o = some x) : o = none ∧ x = none ∨ ∃ a b, o = some a ∧ x = some b ∧ TrOpd D a b := by
  cases o with
  | none => injection h with h; exact .inl ⟨rfl, h.symm⟩
  | some o =>
    simp only [trMaybe] at h
    split at h
    · rename_i y hy
      injection h with h
      exact .inr ⟨o, y, rfl, h.symm, trOpd_sound hy⟩
    · cases h

/-- A slice's parts: offset, size, what. -/
def trParts (D n : Nat) : List (Nat × Operand) → Option (List (Nat × Nat × Opd))
  | [] => some []
  | (i, o) :: r => match trOpd D o, trParts D n r with
    | some x, some l => some ((i * n, n, x) :: l)
    | _, _ => none
theorem trParts_sound {D n : Nat} : ∀ {ps : List (Nat × Operand)} {qs : List (Nat × Nat × Opd)}, trParts D n ps = some qs → ps.length = qs.length ∧ ∀ i (h : i < ps.length) (h' : i < qs.length), ps[i].1 * n = qs[i].1 ∧ qs[i].2.1 = n ∧ TrOpd D ps[i].2 qs[i].2.2
  | [], qs, h => by injection h with h; subst h; exact ⟨rfl, fun i hi => by simp at hi⟩
  | (j, o) :: r, qs, h => by
    simp only [trParts] at h
    split at h
    · rename_i x l h1 h2
      injection h with h
      subst h
      obtain ⟨h3, h4⟩ := trParts_sound h2
      refine ⟨by simp [h3], fun i hi hi' => ?_⟩
      cases i with
      | zero => exact ⟨rfl, rfl, trOpd_sound h1⟩
      | succ i => exact h4 i (by simpa using hi) (by simpa using hi')
    · cases h

/-- Where a struct's fields lie, and their sizes. -/
def fieldPlaces (P : Program) : List Field → Option (List (Nat × Nat))
  | [] => some []
  | f :: r => match P.info? f.type, fieldPlaces P r with
    | some i, some l => some ((f.offset, i.size) :: l)
    | _, _ => none
theorem fieldPlaces_sound {P : Program} : ∀ {fs : List Field} {l : List (Nat × Nat)}, fieldPlaces P fs = some l → fs.length = l.length ∧ ∀ w i (h : i < fs.length) (h' : i < l.length), ((do pure (fs[i].offset, ← sizeOf fs[i].type) : Sem (Nat × Nat)).run P w) = .ok l[i] w
  | [], l, h => by injection h with h; subst h; exact ⟨rfl, fun w i hi => by simp at hi⟩
  | f :: r, l, h => by
    simp only [fieldPlaces] at h
    split at h
    · rename_i x ys h1 h2
      injection h with h
      subst h
      obtain ⟨h3, h4⟩ := fieldPlaces_sound h2
      refine ⟨by simp [h3], fun w i hi hi' => ?_⟩
      cases i with
      | zero => simp [sizeOf, typeInfo, h1]
      | succ i => exact h4 w i (by simpa using hi) (by simpa using hi')
    · cases h

/-- A struct's parts. -/
def trFields (D : Nat) (pl : List (Nat × Nat)) : List (Nat × Operand) → Option (List (Nat × Nat × Opd))
  | [] => some []
  | (i, o) :: r => match pl[i]?, trOpd D o, trFields D pl r with
    | some p, some x, some l => some ((p.1, p.2, x) :: l)
    | _, _, _ => none
theorem trFields_sound {D : Nat} {pl : List (Nat × Nat)} : ∀ {ps : List (Nat × Operand)} {qs : List (Nat × Nat × Opd)}, trFields D pl ps = some qs → ps.length = qs.length ∧ ∀ i (h : i < ps.length) (h' : i < qs.length), pl[ps[i].1]? = some (qs[i].1, qs[i].2.1) ∧ TrOpd D ps[i].2 qs[i].2.2
  | [], qs, h => by injection h with h; subst h; exact ⟨rfl, fun i hi => by simp at hi⟩
  | (j, o) :: r, qs, h => by
    simp only [trFields] at h
    split at h
    · rename_i p x l h0 h1 h2
      injection h with h
      subst h
      obtain ⟨h3, h4⟩ := trFields_sound h2
      refine ⟨by simp [h3], fun i hi hi' => ?_⟩
      cases i with
      | zero => exact ⟨h0, trOpd_sound h1⟩
      | succ i => exact h4 i (by simpa using hi) (by simpa using hi')
    · cases h

def isAggD : TypeDesc → Bool
  | .struct _ | .array _ _ => true
  | _ => false
theorem isAggD_yes {d : TypeDesc} (h : isAggD d = true) : (∃ fs, d = .struct fs) ∨ (∃ n e, d = .array n e) := by
  cases d <;> simp [isAggD] at h
  · exact .inr ⟨_, _, rfl⟩
  · exact .inl ⟨_, rfl⟩

def isBoolD : Option TypeDesc → Bool
  | some .bool => true
  | _ => false

/-- Is an operand none of the slots that may lead to what turns? -/
def stays (ms : List Nat) : Operand → Bool
  | .tmp t => !ms.contains t
  | _ => true

def trLoad (P : Program) (D : Nat) (ms : List Nat) (t : TypeId) (o : Operand) : Option AOp :=
  match P.underlying t, P.info? t, trOpd D o with
  | some d, some i, some x => if isAggD d then some (.ld (stays ms o) x (some i.size)) else some (.ld (stays ms o) x none)
  | _, _, _ => none
def trFld (P : Program) (D : Nat) (t : TypeId) (o : Operand) (i : Nat) : Option AOp :=
  match P.underlying t, trOpd D o with
  | some (.struct fs), some x => match fs[i]? with
    | some f => match P.info? f.type with
      | some inf => if inf.size = 0 then none else some (.fld x f.offset)
      | none => none
    | none => none
  | _, _ => none
def trSl (P : Program) (t : TypeId) : Option (TypeId × TypeInfo) :=
  match P.underlying t with
  | some (.slice e) => match P.info? e with
    | some i => some (e, i)
    | none => none
  | _ => none
theorem trSl_sound {P : Program} {t e : TypeId} {i : TypeInfo} (h : trSl P t = some (e, i)) : P.underlying t = some (.slice e) ∧ P.info? e = some i := by
  unfold trSl at h
  split at h
  · rename_i e' hu
    split at h
    · rename_i i' hi
      injection h with h; injection h with h1 h2
      subst h1; subst h2
      exact ⟨hu, hi⟩
    · cases h
  · cases h

def trMksl (P : Program) (D : Nat) (t : TypeId) (len : Nat) (ps : List (Nat × Operand)) : Option AOp :=
  match trSl P t with
  | some (_, ie) => match ie.zero, trParts D ie.size ps with
    | some z, some qs => if len * ie.size = 0 then none else if len * ie.size > 2 ^ 24 then none else
      some (.mksl ie.size len ((Array.range (len * ie.size)).map (z.cells[· % z.cells.size]!)).toList qs)
    | _, _ => none
  | none => none
def trBld (P : Program) (D : Nat) (t : TypeId) (ps : List (Nat × Operand)) : Option AOp :=
  match P.underlying t, P.info? t with
  | some (.struct fs), some it => match it.zero, fieldPlaces P fs.toList with
    | some z, some pl => match trFields D pl ps with
      | some qs => some (.bld z.cells.toList qs)
      | none => none
    | _, _ => none
  | _, _ => none
def trLen (P : Program) (D : Nat) (t : TypeId) (o : Operand) : Option AOp :=
  match P.underlying t, trOpd D o with
  | some (.slice _), some x => some (.len false x)
  | some .string, some x => some (.len true x)
  | some (.map _ _), some x => some (.mlen x)
  | _, _ => none

/-- A struct's fields, as plain kinds. -/
def trKinds (P : Program) : Nat → List Field → Option (List TypeDesc)
  | _, [] => some []
  | i, f :: fs => if f.name = "_" then none else if f.offset = i then match P.underlying f.type, trKinds P (i + 1) fs with
    | some (.int k), some ks => some (.int k :: ks)
    | some .bool, some ks => some (.bool :: ks)
    | some .string, some ks => some (.string :: ks)
    | _, _ => none
    else none
theorem trKinds_sound {P : Program} : ∀ {i : Nat} {fs : List Field} {ks : List TypeDesc}, trKinds P i fs = some ks → FieldsOk P i fs ks
  | i, [], ks, h => by injection h with h; subst h; trivial
  | i, f :: fs, ks, h => by
    simp only [trKinds] at h
    split at h
    · cases h
    · rename_i hn
      split at h
      · rename_i ho
        split at h
        · rename_i hu hk; injection h with h; subst h; exact ⟨hn, ho, hu, trivial, trKinds_sound hk⟩
        · rename_i hu hk; injection h with h; subst h; exact ⟨hn, ho, hu, trivial, trKinds_sound hk⟩
        · rename_i hu hk; injection h with h; subst h; exact ⟨hn, ho, hu, trivial, trKinds_sound hk⟩
        · cases h
      · cases h
/-- An equality, or its contrary. -/
def trEq : BinOp → Option Bool
  | .eql => some false
  | .neq => some true
  | _ => none
theorem trEq_sound {b : BinOp} {neg : Bool} (h : trEq b = some neg) : (b = .eql ∧ neg = false) ∨ (b = .neq ∧ neg = true) := by
  cases b <;> simp [trEq] at h <;> subst h <;> simp
def trBin (P : Program) (D : Nat) (b : BinOp) (t : TypeId) (o i : Operand) : Option AOp :=
  match trOpd D o, trOpd D i with
  | some x, some y => match trEq b, P.underlying t with
    | some neg, some (.slice _) => match i with
      | .const (.slice none 0 0) => some (.isnil neg x)
      | _ => none
    | some neg, some (.struct fs) => match trKinds P 0 fs.toList with
      | some ks => if P.stoodInHeld t then none else if P.eqGuardType P.depth t then none else some (.eqs neg x y ks)
      | none => none
    | _, _ => if isBoolD (P.underlying t) then some (.binb b x y) else some (.bin b x y)
  | _, _ => none

/-- A conversion. -/
def trCnv (P : Program) (D : Nat) (s t : TypeId) (o : Operand) : Option AOp :=
  match P.underlying s, P.underlying t, trOpd D o with
  | some (.int _), some (.int k), some x => some (.cnv k x)
  | some (.slice el), some .string, some x => match P.underlying el with
    | some (.int .u8) => some (.cnvs x)
    | _ => none
  | _, _, _ => none
theorem trCnv_sound {P : Program} {D : Nat} {s t : TypeId} {o : Operand} {ao : AOp} (h : trCnv P D s t o = some ao) : TrVal P D (.convert s t o) ao := by
  unfold trCnv at h
  split at h
  · rename_i h1 h2 h3; injection h with h; subst h; exact .cnv (trOpd_sound h3) h1 h2
  · rename_i h1 h2 h3
    split at h
    · rename_i h4; injection h with h; subst h; exact .cnvs (trOpd_sound h3) h1 h4 h2
    · cases h
  · cases h
/-- A byte of a text. -/
def trSidx (P : Program) (D : Nat) (t : TypeId) (o i : Operand) : Option AOp :=
  match P.underlying t, trOpd D o, trOpd D i with
  | some .string, some x, some y => some (.sidx x y)
  | _, _, _ => none
theorem trSidx_sound {P : Program} {D : Nat} {t : TypeId} {o i : Operand} {ao : AOp} (h : trSidx P D t o i = some ao) : TrVal P D (.index t o i) ao := by
  unfold trSidx at h
  split at h
  · rename_i h1 h2 h3; injection h with h; subst h; exact .sidx (trOpd_sound h2) (trOpd_sound h3) h1
  · cases h

def trVal (P : Program) (D : Nat) (ms : List Nat) : Op → Option AOp
  | .convert s t o => trCnv P D s t o
  | .index t o i => trSidx P D t o i
  | .move o => match trOpd D o with | some x => some (.mv x) | none => none
  | .assign o => match trOpd D o with | some x => some (.mv x) | none => none
  | .pick c a b => match trOpd D c, trOpd D a, trOpd D b with | some x, some y, some z => some (.pick x y z) | _, _, _ => none
  | .fieldAddr t o i => trFld P D t o i
  | .load t o => trLoad P D ms t o
  | .indexAddr t o i => match trSl P t, trOpd D o, trOpd D i with | some (_, inf), some x, some y => some (.idx (stays ms o) x y inf.size) | _, _, _ => none
  | .binOp b t o i _ => trBin P D b t o i
  | .unOp .not _ o => match trOpd D o with | some x => some (.not x) | none => none
  | .call { callee := .builtin .len, args := ⟨[o]⟩, argTypes := ⟨[t]⟩ } => trLen P D t o
  | .makeFunc (.func F) ⟨[]⟩ ⟨cs⟩ => match trOpds D cs with | some xs => some (.mkfn F xs) | none => none
  | .buildSlice t len ⟨ps⟩ => trMksl P D t len ps
  | .build t ⟨ps⟩ => trBld P D t ps
  | .extract o i => match trOpd D o with | some x => some (.ext x i) | none => none
  | .slice t o lo hi none => match trSl P t, trOpd D o, trMaybe D lo, trMaybe D hi with | some (_, inf), some x, some l, some h => some (.slc x l h inf.size) | _, _, _, _ => none
  | _ => none

theorem isBoolD_yes {d : Option TypeDesc} (h : isBoolD d = true) : d = some .bool := by
  unfold isBoolD at h
  split at h
  · rfl
  · cases h

theorem trVal_sound {P : Program} {D : Nat} {ms : List Nat} {op : Op} {ao : AOp} (h : trVal P D ms op = some ao) : TrVal P D op ao := by
  unfold trVal at h
  split at h
  · exact trCnv_sound h
  · exact trSidx_sound h
  · split at h
    · rename_i hx; injection h with h; subst h; exact .mv (trOpd_sound hx)
    · cases h
  · split at h
    · rename_i hx; injection h with h; subst h; exact .asg (trOpd_sound hx)
    · cases h
  · split at h
    · rename_i hx hy hz; injection h with h; subst h; exact .pick (trOpd_sound hx) (trOpd_sound hy) (trOpd_sound hz)
    · cases h
  · unfold trFld at h
    split at h
    · rename_i fs x hu hx
      split at h
      · rename_i f hf
        split at h
        · rename_i inf hi
          split at h
          · cases h
          · rename_i hz; injection h with h; subst h; exact .fld (trOpd_sound hx) hu hf hi hz
        · cases h
      · cases h
    · cases h
  · unfold trLoad at h
    split at h
    · rename_i d i x hu hi hx
      split at h
      · rename_i hd; injection h with h; subst h; exact .ldk (trOpd_sound hx) hu (isAggD_yes hd) hi _
      · rename_i hd; injection h with h; subst h; exact .ld1 (trOpd_sound hx) hu (by cases d <;> simp [isAggD] at hd ⊢) _
    · cases h
  · split at h
    · rename_i hs hx hy; injection h with h; subst h
      obtain ⟨h1, h2⟩ := trSl_sound hs
      exact .idx (trOpd_sound hx) (trOpd_sound hy) h1 h2 _
    · cases h
  · unfold trBin at h
    split at h
    · rename_i hx hy
      split at h
      · rename_i hq hu
        split at h
        · injection h with h; subst h; exact .isnil (trEq_sound hq) (trOpd_sound hx) hu
        · cases h
      · rename_i hq hu
        split at h
        · rename_i hk
          split at h
          · cases h
          · rename_i hst
            split at h
            · cases h
            · rename_i hg
              injection h with h; subst h
              exact .eqs (trEq_sound hq) (trOpd_sound hx) (trOpd_sound hy) hu (by simpa using hst) (by simpa using hg) (trKinds_sound hk)
        · cases h
      · split at h
        · rename_i hb; injection h with h; subst h; exact .binb (trOpd_sound hx) (trOpd_sound hy) (isBoolD_yes hb)
        · injection h with h; subst h; exact .bin (trOpd_sound hx) (trOpd_sound hy)
    · cases h
  · split at h
    · rename_i hx; injection h with h; subst h; exact .not (trOpd_sound hx)
    · cases h
  · unfold trLen at h
    split at h
    · rename_i hu hx; injection h with h; subst h; exact .lens (trOpd_sound hx) hu
    · rename_i hu hx; injection h with h; subst h; exact .lenb (trOpd_sound hx) hu
    · rename_i hu hx; injection h with h; subst h; exact .mlen (trOpd_sound hx) hu
    · cases h
  · split at h
    · rename_i hx; injection h with h; subst h; exact .mkfn (trOpds_sound hx)
    · cases h
  · unfold trMksl at h
    split at h
    · rename_i hs
      split at h
      · rename_i z qs hz hq
        split at h
        · cases h
        · rename_i h1
          split at h
          · cases h
          · rename_i h2
            injection h with h
            subst h
            obtain ⟨h3, h4⟩ := trSl_sound hs
            obtain ⟨h5, h6⟩ := trParts_sound hq
            exact .mksl h3 h4 hz h1 h2 rfl h5 h6
      · cases h
    · cases h
  · unfold trBld at h
    split at h
    · rename_i fs it hu hi
      split at h
      · rename_i z pl hz hpl
        split at h
        · rename_i qs hq
          injection h with h
          subst h
          obtain ⟨h1, h2⟩ := fieldPlaces_sound hpl
          obtain ⟨h3, h4⟩ := trFields_sound hq
          refine .bld (pl := pl.toArray) hu hi hz (fun w => ?_) h3 (fun i hi hi' => by simpa using h4 i hi hi')
          exact run_mapM_array fs pl (by simpa using h1) (fun i hi hi' => h2 w i hi hi')
        · cases h
      · cases h
    · cases h
  · split at h
    · rename_i hx; injection h with h; subst h; exact .ext (trOpd_sound hx)
    · cases h
  · split at h
    · rename_i hs hx hl hh; injection h with h; subst h
      obtain ⟨h1, h2⟩ := trSl_sound hs
      exact .slc (trOpd_sound hx) h1 h2 (trMaybe_sound hl) (trMaybe_sound hh)
    · cases h
  · cases h

/-- ms: the slots that may lead to what turns; ows: functions that hand back rows of their own making, with the elements' type and cells. -/
def trOp0 (P : Program) (D : Nat) (ms : List Nat) (ows : List (FuncId × TypeId × Nat)) (dst : Option Tmp) : Op → Option AOp
  | .box _ o => match trOpd D o with
    | some x => some (.box (match dst with | some d => !ms.contains d | none => false) x)
    | none => none
  | .alloc t => match P.info? t with
    | some i => match i.zero with
      | some z => some (.new z.cells.toList)
      | none => none
    | none => none
  | .buildSlice t 0 ⟨[]⟩ => match trSl P t with
    | some (e, ie) => some (.nrow e ie.size)
    | none => none
  | .store t a x => match P.info? t, trOpd D a, trOpd D x with
    | some i, some a', some x' => some (.st a' x' i.size)
    | _, _, _ => none
  | .call { callee := .value f, args := ⟨args⟩, argTypes := _ } => match trOpd D f, trOpds D args with
    | some f', some args' => match f with
      | .func F => match ows.find? (·.1 == F) with
        | some (_, _, 0) => some (.calle f' args')
        | some (_, e, n) => if n < 1000 then some (.callo e n f' args') else some (.callv e (n - 1000) f' args')
        | none => some (.call (args.all (stays ms)) f' args')
      | .tmp t => match ows.find? (·.1 == 1000000 + t) with
        | some (_, _, 0) => some (.calle f' args')
        | _ => some (.call (stays ms (.tmp t) && args.all (stays ms)) f' args')
      | f => some (.call (stays ms f && args.all (stays ms)) f' args')
    | _, _ => none
  | .call { callee := .builtin .append, args := ⟨[s, x]⟩, argTypes := ⟨[t, t']⟩ } => if t = t' then match trSl P t, trOpd D s, trOpd D x with
    | some (e, i), some s', some x' => match i.zero with
      | some z => if z.cells.size = i.size ∧ 0 < i.size ∧ 0 < i.bytes then some (if (match dst with | some d => (ows.find? (·.1 == 2000000 + d)).isSome | none => false) = true then .vapp e i.size i.bytes s' x' else .app e i.size i.bytes s' x') else none
      | none => none
    | _, _, _ => none
    else none
  | .makeMap t none => match P.underlying t with
    | some (.map kt _) => match P.underlying kt with
      | some kd => some (.mmk kd)
      | none => none
    | _ => none
  | .mapUpdate t m k v => match P.underlying t with
    | some (.map kt _) => match P.underlying kt, trOpd D m, trOpd D k, trOpd D v with
      | some kd, some m', some k', some v' => some (.mset m' k' v' kd)
      | _, _, _, _ => none
    | _ => none
  | .lookup t m k ok => match P.underlying t with
    | some (.map kt et) => match P.underlying kt, P.info? et, trOpd D m, trOpd D k with
      | some kd, some i, some m', some k' => match i.zero with
        | some z => some (.mget m' k' ok kd z)
        | none => none
      | _, _, _, _ => none
    | _ => none
  | op => trVal P D ms op

theorem trOp0_sound {P : Program} {D : Nat} {ms : List Nat} {ows : List (FuncId × TypeId × Nat)} {dst : Option Tmp} {op : Op} {ao : AOp} (h : trOp0 P D ms ows dst op = some ao) : TrOp P D op ao := by
  unfold trOp0 at h
  split at h
  · split at h
    · rename_i hx; injection h with h; subst h; exact .box _ (trOpd_sound hx)
    · cases h
  · split at h
    · rename_i hi
      split at h
      · rename_i hz; injection h with h; subst h; exact .new hi hz
      · cases h
    · cases h
  · split at h
    · rename_i hs; injection h with h; subst h
      obtain ⟨h1, h2⟩ := trSl_sound hs
      exact .nrow h1 h2
    · cases h
  · split at h
    · rename_i hi ha hx; injection h with h; subst h; exact .st hi (trOpd_sound ha) (trOpd_sound hx)
    · cases h
  · split at h
    · rename_i hf ha
      split at h
      · split at h
        · injection h with h; subst h; exact .calle (trOpd_sound hf) (trOpds_sound ha)
        · split at h
          · injection h with h; subst h; exact .callo (trOpd_sound hf) (trOpds_sound ha) _ _
          · injection h with h; subst h; exact .callv (trOpd_sound hf) (trOpds_sound ha) _ _
        · injection h with h; subst h; exact .call (trOpd_sound hf) (trOpds_sound ha) _
      · split at h
        · injection h with h; subst h; exact .calle (trOpd_sound hf) (trOpds_sound ha)
        · injection h with h; subst h; exact .call (trOpd_sound hf) (trOpds_sound ha) _
      · injection h with h; subst h; exact .call (trOpd_sound hf) (trOpds_sound ha) _
    · cases h
  · split at h
    · rename_i ht
      subst ht
      split at h
      · rename_i hs hx hy
        split at h
        · rename_i hz
          split at h
          · rename_i hc; injection h with h; subst h
            obtain ⟨h1, h2⟩ := trSl_sound hs
            have key : ∀ c : Bool, TrOp P D _ (if c = true then _ else _) := fun c => by
              cases c with
              | true => exact TrOp.vapp h1 h2 hz hc.1 hc.2.1 hc.2.2 (trOpd_sound hx) (trOpd_sound hy)
              | false => exact TrOp.app h1 h2 hz hc.1 hc.2.1 hc.2.2 (trOpd_sound hx) (trOpd_sound hy)
            exact key _
          · cases h
        · cases h
      · cases h
    · cases h
  · split at h
    · rename_i hu
      split at h
      · rename_i hk; injection h with h; subst h; exact .mmk hu hk
      · cases h
    · cases h
  · split at h
    · rename_i hu
      split at h
      · rename_i hk hm hk' hv; injection h with h; subst h; exact .mset hu hk (trOpd_sound hm) (trOpd_sound hk') (trOpd_sound hv)
      · cases h
    · cases h
  · split at h
    · rename_i hu
      split at h
      · rename_i hk hi hm hk'
        split at h
        · rename_i hz; injection h with h; subst h
          exact .val (.mget (trOpd_sound hm) (trOpd_sound hk') hu hk (fun w => by simp [zeroValue, typeInfo, hi, hz]) _)
        · cases h
      · cases h
    · cases h
  · exact .val (trVal_sound h)

/-- Where, ahead of place i, the region makes the object that a slot holds. -/
def madeAt (ops : Array Oper) (t : Tmp) : Nat → Option Nat
  | 0 => none
  | i + 1 => match ops[i]? with
    | some o => match o.op with
      | .alloc _ => if o.dst = some t then some i else madeAt ops t i
      | _ => madeAt ops t i
    | none => madeAt ops t i
/-- A store into an object that the region itself makes; else as it is; what is not known is told as such. -/
def trOp (P : Program) (D : Nat) (ms : List Nat) (ows : List (FuncId × TypeId × Nat)) (ops : Array Oper) (i : Nat) (dst : Option Tmp) (op : Op) : AOp :=
  match op with
  | .store t (.tmp a) x => match madeAt ops a i with
    | some k => match P.info? t, trOpd D (.tmp a), trOpd D x with
      | some inf, some a', some x' => .ini (i - k) a' x' inf.size
      | _, _, _ => .bad
    | none => (trOp0 P D ms ows dst (.store t (.tmp a) x)).getD .bad
  | op => (trOp0 P D ms ows dst op).getD .bad
theorem trOp_sound {P : Program} {D : Nat} {ms : List Nat} {ows : List (FuncId × TypeId × Nat)} {ops : Array Oper} {i : Nat} {dst : Option Tmp} {op : Op} : TrOp P D op (trOp P D ms ows ops i dst op) := by
  have base : ∀ op, TrOp P D op ((trOp0 P D ms ows dst op).getD .bad) := by
    intro op
    cases h : trOp0 P D ms ows dst op with
    | none => exact .bad
    | some ao => exact trOp0_sound h
  unfold trOp
  split
  · split
    · split
      · rename_i hi ha hx; exact .ini hi (trOpd_sound ha) (trOpd_sound hx) _
      · exact .bad
    · exact base _
  · exact base _

def trDst (D N : Nat) : Option Tmp → Option (Option Slot)
  | none => some none
  | some d => if d < 2 ^ D ∧ d < N then some (some (bits D d)) else none
def trGuard (D N : Nat) (ops : Array Oper) : Option (Nat × Bool) → Option (Option (Slot × Bool))
  | none => some none
  | some (j, want) => match (ops[j]?).bind (·.dst) with
    | some d => if d < 2 ^ D ∧ d < N then some (some (bits D d, want)) else none
    | none => none
/-- Does an operation read no object that its region makes? (To be sure of it is the proof's part.) -/
def inRegion (ops : Array Oper) (t : Tmp) : Nat → Nat → Bool
  | 0, _ => false
  | f + 1, i => (List.range i).any fun k => match ops[k]? with
    | some o => o.dst == some t && (match o.op with
      | .alloc _ => true
      | .buildSlice _ 0 _ => true
      | op => op.operands.toList.any fun x => match x with | .tmp u => inRegion ops u f k | _ => false)
    | none => false
def reads (ops : Array Oper) (i : Nat) (op : Op) : Option Nat := if op.operands.toList.any fun x => match x with | .tmp u => inRegion ops u 8 i | _ => false then none else some i
def trOper (P : Program) (D N : Nat) (ms : List Nat) (ows : List (FuncId × TypeId × Nat)) (ops : Array Oper) (dw : Option (List Slot)) (i : Nat) (o : Oper) : Option AOper :=
  match trDst D N o.dst, trGuard D N ops o.guard with
  | some d, some g => some ⟨d, g, trOp P D ms ows ops i o.dst o.op, match dw with | some ps => (reads ops i o.op).map fun i => (i, ps) | none => none⟩
  | _, _ => none

theorem trOper_sound {P : Program} {D N : Nat} {ms : List Nat} {ows : List (FuncId × TypeId × Nat)} {ops : Array Oper} {dw : Option (List Slot)} {i : Nat} {o : Oper} {ao : AOper} (h : trOper P D N ms ows ops dw i o = some ao) : TrOper P D N ops o ao := by
  unfold trOper at h
  split at h
  · rename_i d g hd hg
    injection h with h
    subst h
    have h1 : o.dst = d.map Slot.idx ∧ ∀ p, d = some p → p.length = D ∧ p.idx < N := by
      cases hdst : o.dst with
      | none => rw [hdst] at hd; injection hd with hd; subst hd; exact ⟨rfl, fun p h => by cases h⟩
      | some t =>
        rw [hdst] at hd
        simp only [trDst] at hd
        split at hd
        · rename_i ht
          injection hd with hd
          subst hd
          exact ⟨by simp [idx_bits D t ht.1], fun p hp => by injection hp with hp; subst hp; exact ⟨bits_length D t, by rw [idx_bits D t ht.1]; exact ht.2⟩⟩
        · cases hd
    refine ⟨h1.1, h1.2, ?_, trOp_sound⟩
    cases hgd : o.guard with
    | none => rw [hgd] at hg; injection hg with hg; subst hg; exact .inl ⟨rfl, rfl⟩
    | some jw =>
      obtain ⟨j, want⟩ := jw
      rw [hgd] at hg
      simp only [trGuard] at hg
      split at hg
      · rename_i t ht
        split at hg
        · rename_i hlt
          injection hg with hg
          subst hg
          exact .inr ⟨j, want, bits D t, rfl, rfl, bits_length D t, by rw [idx_bits D t hlt.1]; exact hlt.2, by rw [idx_bits D t hlt.1]; exact ht⟩
        · cases hg
      · cases hg
  · cases h

def trOpers (P : Program) (D N : Nat) (ms : List Nat) (ows : List (FuncId × TypeId × Nat)) (ops : Array Oper) (dw : Option (List Slot)) : Nat → List Oper → Option (List AOper)
  | _, [] => some []
  | i, o :: os => match trOper P D N ms ows ops dw i o, trOpers P D N ms ows ops dw (i + 1) os with
    | some x, some xs => some (x :: xs)
    | _, _ => none
theorem trOpers_sound {P : Program} {D N : Nat} {ms : List Nat} {ows : List (FuncId × TypeId × Nat)} {ops : Array Oper} {dw : Option (List Slot)} : ∀ {j : Nat} {os : List Oper} {xs : List AOper}, trOpers P D N ms ows ops dw j os = some xs → os.length = xs.length ∧ ∀ (i : Nat) (o : Oper) (ao : AOper), os[i]? = some o → xs[i]? = some ao → TrOper P D N ops o ao
  | _, [], xs, h => by injection h with h; subst h; exact ⟨rfl, fun i o ao hi => by simp at hi⟩
  | _, o :: os, xs, h => by
    simp only [trOpers] at h
    split at h
    · rename_i x ys h1 h2
      injection h with h
      subst h
      obtain ⟨h3, h4⟩ := trOpers_sound h2
      refine ⟨by simp [h3], fun i o' ao hi hi' => ?_⟩
      cases i with
      | zero =>
        simp at hi hi'
        subst hi; subst hi'
        exact trOper_sound h1
      | succ i => exact h4 i o' ao (by simpa using hi) (by simpa using hi')
    · cases h

/-- The slots of boxes that a region makes and fills, and that nothing turns later (by ms); and of rows that are let go (by ows). -/
def frzs (D : Nat) (ms : List Nat) (ows : List (FuncId × TypeId × Nat)) (os : List AOper) : List Slot := os.filterMap fun o => match o.op with
  | .ini _ (.s p) _ _ => if ms.contains p.idx || !(p.length == D) then none else some p
  | _ => match o.dst with
    | some p => if (ows.find? (·.1 == 3000000 + p.idx)).isSome && p.length == D then some p else none
    | none => none
def wrapF (c : ACode) : List Slot → ACode
  | [] => c
  | p :: ps => wrapF (.seq c (.frz p)) ps
theorem wrapF_sound {P : Program} {D N : Nat} {ms : List Nat} {ows : List (FuncId × TypeId × Nat)} {c : Code} {os : List AOper} {ac : ACode} (h : TrCode P D N c ac) : TrCode P D N c (wrapF ac (frzs D ms ows os)) := by
  have key : ∀ (ps : List Slot) (ac : ACode), (∀ p ∈ ps, p.length = D) → TrCode P D N c ac → TrCode P D N c (wrapF ac ps) := by
    intro ps
    induction ps with
    | nil => intro ac _ h; exact h
    | cons p ps ih => intro ac hp h; exact ih _ (fun q hq => hp q (List.mem_cons_of_mem _ hq)) (.frz h (hp p (by simp)))
  refine key _ _ (fun p hp => ?_) h
  obtain ⟨o, _, ho⟩ := List.mem_filterMap.1 hp
  split at ho
  · split at ho
    · cases ho
    · rename_i hc
      injection ho with ho
      subst ho
      simp at hc
      exact hc.2
  · split at ho
    · split at ho
      · rename_i hc
        injection ho with ho
        subst ho
        simp at hc
        exact hc.2
      · cases ho
    · cases ho

/-- The slots of boxes that a region loads whole and that read as data from then on (by ows). -/
def frzsB (D : Nat) (ows : List (FuncId × TypeId × Nat)) (os : List AOper) : List Slot := os.filterMap fun o => match o.op with
  | .ld _ (.s p) (some _) => if (ows.find? (·.1 == 4000000 + p.idx)).isSome && p.length == D then some p else none
  | _ => none
def wrapB (c : ACode) : List Slot → ACode
  | [] => c
  | p :: ps => .seq (.frz p) (wrapB c ps)
theorem wrapB_sound {P : Program} {D N : Nat} {ows : List (FuncId × TypeId × Nat)} {c : Code} {os : List AOper} {ac : ACode} (h : TrCode P D N c ac) : TrCode P D N c (wrapB ac (frzsB D ows os)) := by
  have key : ∀ (ps : List Slot), (∀ p ∈ ps, p.length = D) → TrCode P D N c (wrapB ac ps) := by
    intro ps
    induction ps with
    | nil => intro _; exact h
    | cons p ps ih => intro hp; exact .frzb (ih fun q hq => hp q (List.mem_cons_of_mem _ hq)) (hp p (by simp))
  refine key _ (fun p hp => ?_)
  obtain ⟨o, _, ho⟩ := List.mem_filterMap.1 hp
  split at ho
  · split at ho
    · rename_i hc
      injection ho with ho
      subst ho
      simp at hc
      exact hc.2
    · cases ho
  · cases ho

/-- The slots through which a region stores, and which it does not set. -/
def storesTo (D : Nat) (ops : Array Oper) : List Slot := ops.toList.filterMap fun o => match o.op with
  | .store _ (.tmp t) _ => if ops.toList.any (fun q => q.dst == some t) then none else some (bits D t)
  | _ => none
def trReg1 (P : Program) (D N : Nat) (ms : List Nat) (ows : List (FuncId × TypeId × Nat)) (dr : Array Oper → List AOper → Bool) (ops : Array Oper) (dw : Option (List Slot)) : Option ACode :=
  match trOpers P D N ms ows ops dw 0 ops.toList with
  | some os => if noDefer ops && (dw.isNone || dr ops os) then some (wrapB (wrapF (.reg os) (frzs D ms ows os)) (frzsB D ows os)) else none
  | none => none
def trReg (P : Program) (D N : Nat) (ms : List Nat) (ows : List (FuncId × TypeId × Nat)) (dr : Array Oper → List AOper → Bool) (ops : Array Oper) (draw : Bool) : Option ACode :=
  match draw with
  | false => trReg1 P D N ms ows dr ops none
  | true => match trReg1 P D N ms ows dr ops (some []) with
    | some c => some c
    | none => match trReg1 P D N ms ows dr ops (some (storesTo D ops)) with
      | some c => some c
      | none => trReg1 P D N ms ows dr ops (some ([] :: storesTo D ops))

/-- Code without regions that draw their order. -/
def trCode (P : Program) (D N : Nat) (ms : List Nat) (ows : List (FuncId × TypeId × Nat)) (dr : Array Oper → List AOper → Bool) : Code → Option ACode
  | .skip => some .skip
  | .region _ ops draw => trReg P D N ms ows dr ops draw
  | .seq a b => match trCode P D N ms ows dr a, trCode P D N ms ows dr b with
    | some a', some b' => some (.seq a' b')
    | _, _ => none
  | .cond c t f => match trOpd D c, trCode P D N ms ows dr t, trCode P D N ms ows dr f with
    | some c', some t', some f' => some (.cond c' t' f')
    | _, _, _ => none
  | .block id b => match trCode P D N ms ows dr b with
    | some b' => some (.block id b')
    | none => none
  | .loop b => match trCode P D N ms ows dr b with
    | some b' => some (.loop b')
    | none => none
  | .exit id => some (.exit id)
  | .ret => some .ret
  | .scope c => trCode P D N ms ows dr c
  | .label _ => some .skip
  | .rangeFunc g ps asn body => match trOpd D g, trCode P D N ms ows dr asn, trCode P D N ms ows dr body with
    | some g', some asn', some body' => if plainB asn' && plainB body' && ps.toList.all (fun t => decide (t < 2 ^ D) && decide (t < N)) then some (.rng g' (ps.toList.map (bits D)) asn' body') else some .bad
    | _, _, _ => some .bad
  | _ => some .bad

theorem trCode_sound {P : Program} {D N : Nat} {ms : List Nat} {ows : List (FuncId × TypeId × Nat)} {dr : Array Oper → List AOper → Bool} (hdr : ∀ id ops os, noDefer ops = true → ops.size = os.length → (∀ (i : Nat) (o : Oper) (ao : AOper), ops[i]? = some o → os[i]? = some ao → TrOper P D N ops o ao) → dr ops os = true → RegOk P D N id ops true os) :
    ∀ {c : Code} {ac : ACode}, trCode P D N ms ows dr c = some ac → TrCode P D N c ac := by
  intro c
  induction c with
  | skip => intro ac h; injection h with h; subst h; exact .skip
  | region id ops draw =>
    intro ac h
    simp only [trCode] at h
    have key : ∀ dw, (dw.isNone = true → draw = false) → (dw.isNone = false → draw = true) → trReg1 P D N ms ows dr ops dw = some ac → TrCode P D N (.region id ops draw) ac := by
      intro dw hd1 hd2 h
      unfold trReg1 at h
      split at h
      · rename_i os hos
        split at h
        · rename_i hd
          obtain ⟨hnd, hd⟩ := (Bool.and_eq_true _ _).mp hd
          injection h with h
          subst h
          obtain ⟨h1, h2⟩ := trOpers_sound hos
          have h2' : ∀ (i : Nat) (o : Oper) (ao : AOper), ops[i]? = some o → os[i]? = some ao → TrOper P D N ops o ao := fun i o ao hi hi' => h2 i o ao (by simpa using hi) hi'
          cases hdw : dw.isNone with
          | true => obtain rfl := hd1 hdw; exact wrapB_sound (wrapF_sound (.reg (regOk_seq hnd (by simpa using h1) h2')))
          | false => obtain rfl := hd2 hdw; exact wrapB_sound (wrapF_sound (.reg (hdr id ops os hnd (by simpa using h1) h2' (by simpa [hdw] using hd))))
        · cases h
      · cases h
    unfold trReg at h
    split at h
    · exact key none (fun _ => rfl) (fun h => by cases h) h
    · split at h
      · rename_i h1
        injection h with h
        subst h
        exact key _ (fun h => by cases h) (fun _ => rfl) h1
      · split at h
        · rename_i h1
          injection h with h
          subst h
          exact key _ (fun h => by cases h) (fun _ => rfl) h1
        · exact key _ (fun h => by cases h) (fun _ => rfl) h
  | seq a b iha ihb =>
    intro ac h
    simp only [trCode] at h
    split at h
    · rename_i ha hb; injection h with h; subst h; exact .seq (iha ha) (ihb hb)
    · cases h
  | cond c t f iht ihf =>
    intro ac h
    simp only [trCode] at h
    split at h
    · rename_i hc ht hf; injection h with h; subst h; exact .cond (trOpd_sound hc) (iht ht) (ihf hf)
    · cases h
  | block id b ih =>
    intro ac h
    simp only [trCode] at h
    split at h
    · rename_i hb; injection h with h; subst h; exact .block (ih hb)
    · cases h
  | loop b ih =>
    intro ac h
    simp only [trCode] at h
    split at h
    · rename_i hb; injection h with h; subst h; exact .loop (ih hb)
    · cases h
  | exit id => intro ac h; injection h with h; subst h; exact .exit
  | ret => intro ac h; injection h with h; subst h; exact .ret
  | rangeFunc g ps asn body iha ihb =>
    intro ac h
    simp only [trCode] at h
    split at h
    · rename_i hg ha hb
      split at h
      · rename_i hc
        injection h with h
        subst h
        simp only [Bool.and_eq_true, List.all_eq_true, decide_eq_true_eq] at hc
        obtain ⟨⟨h1, h2⟩, h3⟩ := hc
        refine .rng _ (trOpd_sound hg) ?_ ?_ (iha ha) (ihb hb) h1 h2
        · rw [List.map_map]
          have : ps.toList.map (Slot.idx ∘ bits D) = ps.toList := by
            conv => rhs; rw [← List.map_id ps.toList]
            exact List.map_congr_left fun t ht => idx_bits D t (h3 t ht).1
          rw [this]
        · intro p hp
          obtain ⟨t, ht, rfl⟩ := List.mem_map.1 hp
          exact ⟨bits_length D t, by rw [idx_bits D t (h3 t ht).1]; exact (h3 t ht).2⟩
      · injection h with h; subst h; exact .bad
    · injection h with h; subst h; exact .bad
  | scope c ih => intro ac h; simp only [trCode] at h; exact .scope (ih h)
  | label l => intro ac h; simp only [trCode] at h; injection h with h; subst h; exact .label
  | _ => intro ac h; simp only [trCode] at h; injection h with h; subst h; exact .bad

def trRes (P : Program) (D : Nat) : ResultVar → Option ARes
  | .tmp t => if t < 2 ^ D then some (.tmp (bits D t)) else none
  | .cell t ty => if t < 2 ^ D then match P.underlying ty, P.info? ty with
    | some d, some i => if isAggD d then some (.cell (bits D t) (some i.size)) else some (.cell (bits D t) none)
    | _, _ => none
    else none
def trRess (P : Program) (D : Nat) : List ResultVar → Option (List ARes)
  | [] => some []
  | o :: os => match trRes P D o, trRess P D os with
    | some x, some xs => some (x :: xs)
    | _, _ => none
theorem trRes_sound {P : Program} {D : Nat} {o : ResultVar} {x : ARes} (h : trRes P D o = some x) : TrRes P D o x := by
  cases o with
  | tmp t =>
    simp only [trRes] at h
    split at h
    · rename_i ht
      injection h with h
      subst h
      have := TrRes.tmp (P := P) (D := D) (bits D t) (bits_length D t)
      rwa [idx_bits D t ht] at this
    · cases h
  | cell t ty =>
    simp only [trRes] at h
    split at h
    · rename_i ht
      split at h
      · rename_i d i hu hi
        split at h
        · rename_i hd
          injection h with h
          subst h
          have := TrRes.cellk (P := P) (D := D) (bits D t) (bits_length D t) hu (isAggD_yes hd) hi
          rwa [idx_bits D t ht] at this
        · rename_i hd
          injection h with h
          subst h
          have := TrRes.cell1 (P := P) (D := D) (bits D t) (bits_length D t) hu (by cases d <;> simp [isAggD] at hd ⊢)
          rwa [idx_bits D t ht] at this
      · cases h
    · cases h
theorem trRess_sound {P : Program} {D : Nat} : ∀ {os : List ResultVar} {xs : List ARes}, trRess P D os = some xs → os.length = xs.length ∧ ∀ i (h : i < os.length) (h' : i < xs.length), TrRes P D os[i] xs[i]
  | [], xs, h => by injection h with h; subst h; exact ⟨rfl, fun i hi => by simp at hi⟩
  | o :: os, xs, h => by
    simp only [trRess] at h
    split at h
    · rename_i x ys h1 h2
      injection h with h
      subst h
      obtain ⟨h3, h4⟩ := trRess_sound h2
      refine ⟨by simp [h3], fun i hi hi' => ?_⟩
      cases i with
      | zero => exact trRes_sound h1
      | succ i => exact h4 i (by simpa using hi) (by simpa using hi')
    · cases h

end Go.Proofs.Ytndpejmebhcaaaa
/- Regions that draw their order: where operations that are not ordered do not see each other, any order does as the list. -/
namespace Go.Proofs.Ytndpejmebhcaaaa
open Go.RowKit

def Opd.slots : Opd → List Slot
  | .s p => [p]
  | _ => []
def optSlots : Option Opd → List Slot
  | some x => x.slots
  | none => []
def AOp.slots : AOp → List Slot
  | .mv x | .fld x _ | .ld _ x _ | .not x | .len _ x | .ext x _ | .box _ x => x.slots
  | .pick c a b => c.slots ++ (a.slots ++ b.slots)
  | .idx _ x i _ => x.slots ++ i.slots
  | .bin _ x y | .binb _ x y => x.slots ++ y.slots
  | .mkfn _ caps => caps.flatMap Opd.slots
  | .mksl _ _ _ ps => ps.flatMap fun p => p.2.2.slots
  | .bld _ ps => ps.flatMap fun p => p.2.2.slots
  | .slc x lo hi _ => x.slots ++ (optSlots lo ++ optSlots hi)
  | .call _ f args | .callo _ _ f args | .callv _ _ f args | .calle f args => f.slots ++ args.flatMap Opd.slots
  | .ini _ a x _ => a.slots ++ x.slots
  | .mget x k _ _ _ => x.slots ++ k.slots
  | .mlen x => x.slots
  | .isnil _ x => x.slots
  | .eqs _ x y _ => x.slots ++ y.slots
  | .cnv _ x => x.slots
  | .cnvs x => x.slots
  | .sidx x i => x.slots ++ i.slots
  | .vapp _ _ _ s x => s.slots ++ x.slots
  | .mmk _ => []
  | .mset x k v _ => x.slots ++ (k.slots ++ v.slots)
  | .bad => []
  | .new _ | .nrow _ _ => []
  | .st a x _ => a.slots ++ x.slots
  | .app _ _ _ s x => s.slots ++ x.slots
def lowSl : Option (Nat × List Slot) → List Slot
  | some (_, ps) => ps
  | none => []
/-- Those of them that are read. -/
def lowUse (lo : Option (Nat × List Slot)) : List Slot := (lowSl lo).filter fun p => !p.isEmpty
def AOper.uses (o : AOper) : List Slot := (match o.guard with | some (p, _) => [p] | none => []) ++ (o.op.slots ++ lowUse o.low)

inductive Cls where
  | P | L | O | A | I | S | M
  deriving DecidableEq
def AOp.cls : AOp → Cls
  | .ld false .. | .idx false .. | .len .. | .bld .. | .call false .. | .mget .. | .mlen .. => .L
  | .new _ | .nrow _ _ => .A
  | .ini .. => .I
  | .st (.s _) .. => .S
  | .st .. | .app .. | .vapp .. | .box false _ | .callo .. | .callv .. | .calle .. | .mmk .. | .mset .. => .M
  | _ => .P
def back : AOp → Nat
  | .ini b _ _ _ => b
  | _ => 0
/-- An operation's class; O: it reads only objects that were there whn the region began. -/
def AOper.cls (i : Nat) (o : AOper) : Cls :=
  match o.op.cls with
  | .L => if o.low = some (i, lowSl o.low) then .O else .L
  | c => c
/-- The slot through which an operation stores. -/
def stSlot : AOp → Slot
  | .st (.s p) _ _ => p
  | _ => []
/-- Does it append to a row? -/
def isApp : AOp → Bool
  | .app .. => true
  | _ => false
/-- May two operations, at places i and j, see each other's objects? -/
def conf (i : Nat) (a : AOper) (j : Nat) (b : AOper) : Bool :=
  match a.cls i, b.cls j with
  | .P, _ | _, .P | .L, .L | .O, .L | .L, .O | .O, .O | .A, .A | .O, .A | .A, .O => false
  | .S, .O => !((lowSl b.low).contains (stSlot a.op) && !(stSlot a.op).isEmpty)
  | .O, .S => !((lowSl a.low).contains (stSlot b.op) && !(stSlot b.op).isEmpty)
  | .M, .O => !(isApp a.op && (lowSl b.low).contains [])
  | .O, .M => !(isApp b.op && (lowSl a.low).contains [])
  | .O, .I => !decide (back b.op ≤ j)
  | .I, .O => !decide (back a.op ≤ i)
  | .A, .I => !(decide (back b.op ≤ j) && (j - back b.op != i))
  | .I, .A => !(decide (back a.op ≤ i) && (i - back a.op != j))
  | .I, .I => !(decide (back a.op ≤ i) && decide (back b.op ≤ j) && (i - back a.op != j - back b.op))
  | _, _ => true
theorem cls_op {i : Nat} {o : AOper} {c : Cls} (h : o.cls i = c) (h1 : c ≠ .L) (h2 : c ≠ .O) : o.op.cls = c := by
  unfold AOper.cls at h
  split at h
  · split at h
    · exact absurd h.symm h2
    · exact absurd h.symm h1
  · exact h
theorem cls_notO (op : AOp) : op.cls ≠ .O := by
  cases op with
  | box imm x => cases imm <;> simp [AOp.cls]
  | ld c x k => cases c <;> simp [AOp.cls]
  | idx c x i n => cases c <;> simp [AOp.cls]
  | call c f a => cases c <;> simp [AOp.cls]
  | st a x k => cases a <;> simp [AOp.cls]
  | _ => simp [AOp.cls]
theorem cls_low {i : Nat} {o : AOper} (h : o.cls i = .O) : o.op.cls = .L ∧ o.low = some (i, lowSl o.low) := by
  unfold AOper.cls at h
  split at h
  · rename_i hL
    split at h
    · rename_i hl; exact ⟨hL, hl⟩
    · cases h
  · exact absurd h (cls_notO _)
theorem cls_read {i : Nat} {o : AOper} (h : o.cls i = .L) : o.op.cls = .L := by
  unfold AOper.cls at h
  split at h
  · rename_i hL; exact hL
  · exact h

def noDst : AOper → Bool
  | ⟨some _, _, .st .., _⟩ => false
  | ⟨some _, _, .ini .., _⟩ => false
  | ⟨some _, _, .mset .., _⟩ => false
  | _ => true

def stpV (r : Rz) (id : Nat) (ao : AOper) (e : T) (H : Heap) : AV :=
  match ao.op with
  | .call _ _ _ => wrap e ao.guard (.d r.x)
  | .callo _ _ _ _ => .own id (lenOf r.x)
  | .callv _ _ _ _ => .own id (lenOf r.x)
  | .calle _ _ => .d r.x
  | .ini _ _ _ _ => .d .top
  | .box true x => match allD (x.av e).strip.cells with | some ds => .d (.cref ds 0) | none => .d .top
  | .box false _ => .ptr id 0
  | .new _ => .ptr id 0
  | .nrow _ _ => .own id 0
  | .st _ _ _ => .d .top
  | .app t n _ s x => (appV H t n id (s.av e).strip (x.av e).strip).1
  | .vapp t n _ s x => (appG true H t n id (s.av e).strip (x.av e).strip).1
  | .mmk _ => .mp id
  | .mset _ _ _ _ => .d .top
  | op => wrap e ao.guard (op.val e (ao.hv e id H))
def stpH (r : Rz) (id : Nat) (ao : AOper) (e : T) (H : Heap) : Heap :=
  match ao.op with
  | .callo te _ _ _ => hadd id (ownOf te r.x) H
  | .callv te _ _ _ => hadd id (vecOf te r.x) H
  | .calle _ _ => effH r H
  | .ini back _ x _ => hset H (id - back) (.box (x.av e).strip.cells)
  | .box false x => hadd id (.box (x.av e).strip.cells) H
  | .new zs => hadd id (.box (zs.map fun z => .d (.lit z))) H
  | .nrow t n => hadd id (.row t n 0 fun _ => []) H
  | .st a x _ => stH H (a.av e).strip (x.av e).strip
  | .app t n _ s x => (appV H t n id (s.av e).strip (x.av e).strip).2
  | .vapp t n _ s x => (appG true H t n id (s.av e).strip (x.av e).strip).2
  | .mmk kd => hadd id (.map kd 0 fun _ => none) H
  | .mset x k v _ => msetH H (x.av e).strip (k.av e).strip (v.av e).strip
  | _ => H

theorem stp_eq {r : Rz} {id : Nat} {ao : AOper} (h : noDst ao = true) (e : T) (H : Heap) : stp r id ao e H = (setD e ao.dst (stpV r id ao e H), stpH r id ao e H) := by
  obtain ⟨dst, gd, op, lo⟩ := ao
  cases op with
  | box imm x => cases imm <;> rfl
  | st a x k =>
    cases dst with
    | none => rfl
    | some p => simp [noDst] at h
  | ini b a x k =>
    cases dst with
    | none => rfl
    | some p => simp [noDst] at h
  | mset x k v kd =>
    cases dst with
    | none => rfl
    | some p => simp [noDst] at h
  | _ => rfl

/-- Two trees say the same of some slots. -/
def Agree (e e' : T) (l : List Slot) : Prop := ∀ p ∈ l, e.get p = e'.get p
theorem Agree.left {e e' : T} {l m : List Slot} (h : Agree e e' (l ++ m)) : Agree e e' l := fun p hp => h p (by simp [hp])
theorem Agree.right {e e' : T} {l m : List Slot} (h : Agree e e' (l ++ m)) : Agree e e' m := fun p hp => h p (by simp [hp])
theorem Agree.av {e e' : T} {x : Opd} (h : Agree e e' x.slots) : x.av e = x.av e' := by
  cases x with
  | s p => exact h p (by simp [Opd.slots])
  | c v => rfl
  | f F => rfl
theorem Agree.avs {e e' : T} {xs : List Opd} (h : Agree e e' (xs.flatMap Opd.slots)) : ∀ x ∈ xs, x.av e = x.av e' := fun x hx => Agree.av fun p hp => h p (List.mem_flatMap.2 ⟨x, hx, hp⟩)
theorem Agree.parts {e e' : T} {ps : List (Nat × Nat × Opd)} (h : Agree e e' (ps.flatMap fun p => p.2.2.slots)) : ∀ x ∈ ps, x.2.2.av e = x.2.2.av e' := fun x hx => Agree.av fun p hp => h p (List.mem_flatMap.2 ⟨x, hx, hp⟩)
theorem partsV_congr {e e' : T} {ps : List (Nat × Nat × Opd)} (h : ∀ x ∈ ps, x.2.2.av e = x.2.2.av e') : partsV e ps = partsV e' ps := by
  unfold partsV
  exact List.map_congr_left fun x hx => by rw [h x hx]
theorem liveAll_congr {e e' : T} {xs : List Opd} (h : ∀ x ∈ xs, x.av e = x.av e') : liveAll e xs = liveAll e' xs := by
  unfold liveAll
  apply propext
  exact ⟨fun k x hx => by rw [← h x hx]; exact k x hx, fun k x hx => by rw [h x hx]; exact k x hx⟩
theorem liveParts_congr {e e' : T} {ps : List (Nat × Nat × Opd)} (h : ∀ x ∈ ps, x.2.2.av e = x.2.2.av e') : liveAll e (ps.map fun p => p.2.2) = liveAll e' (ps.map fun p => p.2.2) :=
  liveAll_congr fun x hx => by
    obtain ⟨p, hp, rfl⟩ := List.mem_map.1 hx
    exact h p hp
theorem bndV_congr {e e' : T} {lo : Option Opd} (h : Agree e e' (optSlots lo)) (d : Int) : bndV e d lo = bndV e' d lo := by
  cases lo with
  | none => rfl
  | some x => simp only [bndV, Agree.av (x := x) h]
theorem bndOk_congr {e e' : T} {lo : Option Opd} (h : Agree e e' (optSlots lo)) : bndOk e lo = bndOk e' lo := by
  cases lo with
  | none => rfl
  | some x => simp only [bndOk, Agree.av (x := x) h]

theorem val_congr {e e' : T} {op : AOp} (h : Agree e e' op.slots) (H : Heap) : op.val e H = op.val e' H := by
  cases op with
  | mv x => simp only [AOp.val, Agree.av (x := x) h]
  | pick c a b => simp only [AOp.val, Agree.av (x := c) h.left, Agree.av (x := a) h.right.left, Agree.av (x := b) h.right.right]
  | fld x off => simp only [AOp.val, Agree.av (x := x) h]
  | ld c x k => simp only [AOp.val, Agree.av (x := x) h]
  | idx c x i n => simp only [AOp.val, Agree.av (x := x) h.left, Agree.av (x := i) h.right]
  | bin o x y => simp only [AOp.val, Agree.av (x := x) h.left, Agree.av (x := y) h.right]
  | binb o x y => simp only [AOp.val, Agree.av (x := x) h.left, Agree.av (x := y) h.right]
  | not x => simp only [AOp.val, Agree.av (x := x) h]
  | len s x => simp only [AOp.val, Agree.av (x := x) h]
  | mkfn F caps =>
    simp only [AOp.val]
    congr 1
    exact List.map_congr_left fun x hx => by rw [Agree.avs h x hx]
  | mksl n m zs ps => simp only [AOp.val, partsV_congr (Agree.parts h)]
  | bld zs ps => simp only [AOp.val, partsV_congr (Agree.parts h)]
  | ext x i => simp only [AOp.val, Agree.av (x := x) h]
  | slc x lo hi n => simp only [AOp.val, Agree.av (x := x) h.left, bndV_congr h.right.left, bndV_congr h.right.right]
  | mget x k ok kd z => simp only [AOp.val, Agree.av (x := x) h.left, Agree.av (x := k) h.right]
  | mlen x => simp only [AOp.val, Agree.av (x := x) h]
  | isnil neg x => simp only [AOp.val, Agree.av (x := x) h]
  | eqs neg x y ks => simp only [AOp.val, Agree.av (x := x) h.left, Agree.av (x := y) h.right]
  | cnv k x => simp only [AOp.val, Agree.av (x := x) h]
  | cnvs x => simp only [AOp.val, Agree.av (x := x) h]
  | sidx x i => simp only [AOp.val, Agree.av (x := x) h.left, Agree.av (x := i) h.right]
  | _ => rfl
theorem ok_congr {e e' : T} {op : AOp} (h : Agree e e' op.slots) (H : Heap) : op.ok e H = op.ok e' H := by
  cases op with
  | mv x => simp only [AOp.ok, Agree.av (x := x) h]
  | pick c a b => simp only [AOp.ok, Agree.av (x := c) h.left, Agree.av (x := a) h.right.left, Agree.av (x := b) h.right.right]
  | fld x off => simp only [AOp.ok, Agree.av (x := x) h]
  | ld c x k => simp only [AOp.ok, Agree.av (x := x) h]
  | idx c x i n => simp only [AOp.ok, Agree.av (x := x) h.left, Agree.av (x := i) h.right]
  | bin o x y => simp only [AOp.ok, Agree.av (x := x) h.left, Agree.av (x := y) h.right]
  | binb o x y => simp only [AOp.ok, Agree.av (x := x) h.left, Agree.av (x := y) h.right]
  | not x => simp only [AOp.ok, Agree.av (x := x) h]
  | len s x => simp only [AOp.ok, Agree.av (x := x) h]
  | mkfn F caps => exact liveAll_congr (Agree.avs h)
  | mksl n m zs ps => simp only [AOp.ok, partsV_congr (Agree.parts h), liveParts_congr (Agree.parts h)]
  | bld zs ps => simp only [AOp.ok, partsV_congr (Agree.parts h), liveParts_congr (Agree.parts h)]
  | ext x i => simp only [AOp.ok, Agree.av (x := x) h]
  | slc x lo hi n => simp only [AOp.ok, Agree.av (x := x) h.left, bndV_congr h.right.left, bndV_congr h.right.right, bndOk_congr h.right.left, bndOk_congr h.right.right]
  | mget x k ok kd z => simp only [AOp.ok, Agree.av (x := x) h.left, Agree.av (x := k) h.right]
  | mlen x => simp only [AOp.ok, Agree.av (x := x) h]
  | isnil neg x => simp only [AOp.ok, Agree.av (x := x) h]
  | eqs neg x y ks => simp only [AOp.ok, Agree.av (x := x) h.left, Agree.av (x := y) h.right]
  | cnv k x => simp only [AOp.ok, Agree.av (x := x) h]
  | cnvs x => simp only [AOp.ok, Agree.av (x := x) h]
  | sidx x i => simp only [AOp.ok, Agree.av (x := x) h.left, Agree.av (x := i) h.right]
  | _ => rfl

theorem guard_congr {e e' : T} {gd : Option (Slot × Bool)} (h : Agree e e' (match gd with | some (p, _) => [p] | none => [])) : gval e gd = gval e' gd ∧ gok e gd = gok e' gd ∧ ∀ x, wrap e gd x = wrap e' gd x := by
  cases gd with
  | none => exact ⟨rfl, rfl, fun _ => rfl⟩
  | some g =>
    obtain ⟨p, want⟩ := g
    have hp : e.get p = e'.get p := h p (by simp)
    have h1 : gval e (some (p, want)) = gval e' (some (p, want)) := by simp only [gval, hp]
    exact ⟨h1, by simp only [gok, hp], fun x => by simp only [wrap, h1]⟩

theorem calloOk_congr {vc : Bool} {P : Program} {e e' : T} {f : Opd} {args : List Opd} (h : Agree e e' (f.slots ++ args.flatMap Opd.slots)) (H : Heap) (te : TypeId) (n : Nat) (r : DV) : calloOk vc P e H te n f args r = calloOk vc P e' H te n f args r := by
  unfold calloOk
  have h1 := Agree.av (x := f) h.left
  have h2 := Agree.avs h.right
  have h3 : (args.map fun x => (x.av e).strip) = args.map fun x => (x.av e').strip := List.map_congr_left fun x hx => by rw [h2 x hx]
  rw [h1, h3, liveAll_congr (e := e) (e' := e') (xs := f :: args) (fun x hx => by
    rcases List.mem_cons.1 hx with rfl | hx
    · exact h1
    · exact h2 x hx)]
theorem callOk_congr {P : Program} {e e' : T} {f : Opd} {args : List Opd} (h : Agree e e' (f.slots ++ args.flatMap Opd.slots)) (H : Heap) (r : DV) : callOk P e H f args r = callOk P e' H f args r := by
  unfold callOk
  have h1 := Agree.av (x := f) h.left
  have h2 := Agree.avs h.right
  have h3 : (args.map fun x => (x.av e).strip) = args.map fun x => (x.av e').strip := List.map_congr_left fun x hx => by rw [h2 x hx]
  rw [h1, h3, liveAll_congr (e := e) (e' := e') (xs := f :: args) (fun x hx => by
    rcases List.mem_cons.1 hx with rfl | hx
    · exact h1
    · exact h2 x hx)]

theorem effOk_congr {P : Program} {e e' : T} {f : Opd} {args : List Opd} (h : Agree e e' (f.slots ++ args.flatMap Opd.slots)) (H : Heap) (id : Nat) (r : Rz) : effOk P e H id f args r = effOk P e' H id f args r := by
  cases r with
  | d x => rfl
  | ef x τ L L' =>
    unfold effOk
    have h1 := Agree.av (x := f) h.left
    have h2 := Agree.avs h.right
    have h3 : (args.map fun x => (x.av e).strip) = args.map fun x => (x.av e').strip := List.map_congr_left fun x hx => by rw [h2 x hx]
    rw [h1, h3, liveAll_congr (e := e) (e' := e') (xs := f :: args) (fun x hx => by
      rcases List.mem_cons.1 hx with rfl | hx
      · exact h1
      · exact h2 x hx)]

section
variable {P : Program} {r : Rz} {id : Nat} {ao : AOper} {e e' : T}

theorem hnot_congr : ∀ {ps : List Slot}, Agree e e' (ps.filter fun p => !p.isEmpty) → ∀ H, hnot e ps H = hnot e' ps H
  | [], _, _ => rfl
  | [] :: ps, h, H => by
    simp only [hnot]
    exact hnot_congr (by simpa using h) _
  | (b :: p) :: ps, h, H => by
    simp only [hnot]
    rw [h (b :: p) (by simp), hnot_congr (fun q hq => h q (by simp at hq ⊢; exact .inr hq))]
theorem hv_congr (h : Agree e e' (lowUse ao.low)) (H : Heap) : ao.hv e id H = ao.hv e' id H := by
  unfold AOper.hv lowH
  split
  · rename_i i ps hl
    rw [hl] at h
    exact hnot_congr h _
  · rfl
theorem okS_congr (h : Agree e e' ao.uses) (H : Heap) : okS P r id ao e H = okS P r id ao e' H := by
  obtain ⟨dst, gd, op, lo⟩ := ao
  have hg := guard_congr (gd := gd) (h.left (m := op.slots ++ lowUse lo))
  have hw : ∀ H, AOper.hv ⟨dst, gd, op, lo⟩ e id H = AOper.hv ⟨dst, gd, op, lo⟩ e' id H := hv_congr h.right.right
  have ho : Agree e e' op.slots := h.right.left
  cases op with
  | call c f args => simp only [okS, hg.1, hg.2.1, hw, callOk_congr ho]
  | callo te n f args => simp only [okS, calloOk_congr ho]
  | callv te n f args => simp only [okS, calloOk_congr ho]
  | calle f args => simp only [okS, effOk_congr ho]
  | ini b a x k => simp only [okS, Agree.av (x := a) ho.left, Agree.av (x := x) ho.right]
  | bad => rfl
  | box imm x => simp only [okS, Agree.av (x := x) ho]
  | new zs => rfl
  | nrow t n => rfl
  | st a x k => simp only [okS, Agree.av (x := a) ho.left, Agree.av (x := x) ho.right]
  | app t n b s x => simp only [okS, Agree.av (x := s) ho.left, Agree.av (x := x) ho.right]
  | vapp t n b s x => simp only [okS, Agree.av (x := s) ho.left, Agree.av (x := x) ho.right]
  | mmk kd => rfl
  | mset x k v kd => simp only [okS, Agree.av (x := x) ho.left, Agree.av (x := k) ho.right.left, Agree.av (x := v) ho.right.right]
  | _ => simp only [okS, hg.1, hg.2.1, hw, ok_congr ho]
theorem stpV_congr (h : Agree e e' ao.uses) (H : Heap) : stpV r id ao e H = stpV r id ao e' H := by
  obtain ⟨dst, gd, op, lo⟩ := ao
  have hg := guard_congr (gd := gd) (h.left (m := op.slots ++ lowUse lo))
  have hw : ∀ H, AOper.hv ⟨dst, gd, op, lo⟩ e id H = AOper.hv ⟨dst, gd, op, lo⟩ e' id H := hv_congr h.right.right
  have ho : Agree e e' op.slots := h.right.left
  cases op with
  | call c f args => simp only [stpV, hg.2.2]
  | callo te n f args => rfl
  | callv te n f args => rfl
  | calle f args => rfl
  | ini b a x k => rfl
  | box imm x => cases imm <;> simp only [stpV, Agree.av (x := x) ho]
  | new zs => rfl
  | nrow t n => rfl
  | st a x k => rfl
  | app t n b s x => simp only [stpV, Agree.av (x := s) ho.left, Agree.av (x := x) ho.right]
  | vapp t n b s x => simp only [stpV, Agree.av (x := s) ho.left, Agree.av (x := x) ho.right]
  | mmk kd => rfl
  | mset x k v kd => rfl
  | _ => simp only [stpV, hg.2.2, hw, val_congr ho]
theorem stpH_congr (h : Agree e e' ao.uses) (H : Heap) : stpH r id ao e H = stpH r id ao e' H := by
  obtain ⟨dst, gd, op, lo⟩ := ao
  have ho : Agree e e' op.slots := h.right.left
  cases op with
  | box imm x => cases imm <;> simp only [stpH, Agree.av (x := x) ho]
  | st a x k => simp only [stpH, Agree.av (x := a) ho.left, Agree.av (x := x) ho.right]
  | ini b a x k => simp only [stpH, Agree.av (x := x) ho.right]
  | app t n b s x => simp only [stpH, Agree.av (x := s) ho.left, Agree.av (x := x) ho.right]
  | vapp t n b s x => simp only [stpH, Agree.av (x := s) ho.left, Agree.av (x := x) ho.right]
  | mset x k v kd => simp only [stpH, Agree.av (x := x) ho.left, Agree.av (x := k) ho.right.left, Agree.av (x := v) ho.right.right]
  | _ => rfl

theorem cls_ok (h : ao.op.cls = .P ∨ ao.op.cls = .A) (H H' : Heap) : okS P r id ao e H = okS P r id ao e H' := by
  obtain ⟨dst, gd, op, lo⟩ := ao
  cases op with
  | box imm x => cases imm <;> simp [AOp.cls] at h; rfl
  | ld c x k => cases c <;> simp [AOp.cls] at h; rfl
  | idx c x i n => cases c <;> simp [AOp.cls] at h; rfl
  | call c f args => cases c <;> simp [AOp.cls] at h; rfl
  | callo => simp [AOp.cls] at h
  | callv => simp [AOp.cls] at h
  | calle => simp [AOp.cls] at h
  | ini => simp [AOp.cls] at h
  | len => simp [AOp.cls] at h
  | bld => simp [AOp.cls] at h
  | st a x k => cases a <;> simp [AOp.cls] at h
  | app => simp [AOp.cls] at h
  | vapp => simp [AOp.cls] at h
  | mget => simp [AOp.cls] at h
  | mlen => simp [AOp.cls] at h
  | mmk => simp [AOp.cls] at h
  | mset => simp [AOp.cls] at h
  | _ => rfl
theorem cls_heapV (h : ao.op.cls = .P ∨ ao.op.cls = .A ∨ ao.op.cls = .I) (H H' : Heap) : stpV r id ao e H = stpV r id ao e H' := by
  obtain ⟨dst, gd, op, lo⟩ := ao
  cases op with
  | box imm x => cases imm <;> simp [AOp.cls] at h; rfl
  | ld c x k => cases c <;> simp [AOp.cls] at h; rfl
  | idx c x i n => cases c <;> simp [AOp.cls] at h; rfl
  | call c f args => cases c <;> simp [AOp.cls] at h; rfl
  | callo => simp [AOp.cls] at h
  | callv => simp [AOp.cls] at h
  | calle => simp [AOp.cls] at h
  | len => simp [AOp.cls] at h
  | bld => simp [AOp.cls] at h
  | st a x k => cases a <;> simp [AOp.cls] at h
  | app => simp [AOp.cls] at h
  | vapp => simp [AOp.cls] at h
  | mget => simp [AOp.cls] at h
  | mlen => simp [AOp.cls] at h
  | mmk => simp [AOp.cls] at h
  | mset => simp [AOp.cls] at h
  | _ => rfl
/-- What reads only old objects: the same where the old objects are the same. -/
theorem cls_old {H H' : Heap} (h : ao.hv e id H = ao.hv e id H') (hc : ao.op.cls = .L) : okS P r id ao e H = okS P r id ao e H' := by
  obtain ⟨dst, gd, op, lo⟩ := ao
  cases op with
  | box imm x => cases imm <;> simp [AOp.cls] at hc
  | callo => simp [AOp.cls] at hc
  | callv => simp [AOp.cls] at hc
  | calle => simp [AOp.cls] at hc
  | ini => simp [AOp.cls] at hc
  | new => simp [AOp.cls] at hc
  | nrow => simp [AOp.cls] at hc
  | st a x k => cases a <;> simp [AOp.cls] at hc
  | app => simp [AOp.cls] at hc
  | vapp => simp [AOp.cls] at hc
  | mmk => simp [AOp.cls] at hc
  | mset => simp [AOp.cls] at hc
  | bad => rfl
  | _ => simp only [okS, h]
theorem cls_oldV {H H' : Heap} (h : ao.hv e id H = ao.hv e id H') (hc : ao.op.cls = .L) : stpV r id ao e H = stpV r id ao e H' := by
  obtain ⟨dst, gd, op, lo⟩ := ao
  cases op with
  | box imm x => cases imm <;> simp [AOp.cls] at hc
  | callo => simp [AOp.cls] at hc
  | callv => simp [AOp.cls] at hc
  | calle => simp [AOp.cls] at hc
  | ini => simp [AOp.cls] at hc
  | new => simp [AOp.cls] at hc
  | nrow => simp [AOp.cls] at hc
  | st a x k => cases a <;> simp [AOp.cls] at hc
  | app => simp [AOp.cls] at hc
  | vapp => simp [AOp.cls] at hc
  | mmk => simp [AOp.cls] at hc
  | mset => simp [AOp.cls] at hc
  | bad => rfl
  | call => rfl
  | _ => simp only [stpV, h]
theorem cls_same (h : ao.op.cls = .P ∨ ao.op.cls = .L) (H : Heap) : stpH r id ao e H = H := by
  obtain ⟨dst, gd, op, lo⟩ := ao
  cases op with
  | box imm x => cases imm <;> simp [AOp.cls] at h; rfl
  | callo => simp [AOp.cls] at h
  | callv => simp [AOp.cls] at h
  | calle => simp [AOp.cls] at h
  | ini => simp [AOp.cls] at h
  | new => simp [AOp.cls] at h
  | nrow => simp [AOp.cls] at h
  | st a x k => cases a <;> simp [AOp.cls] at h
  | app => simp [AOp.cls] at h
  | vapp => simp [AOp.cls] at h
  | mmk => simp [AOp.cls] at h
  | mset => simp [AOp.cls] at h
  | _ => rfl
theorem cls_new (h : ao.op.cls = .A) : ∃ c, ∀ e H, stpH r id ao e H = hadd id c H := by
  obtain ⟨dst, gd, op, lo⟩ := ao
  cases op with
  | box imm x => cases imm <;> simp [AOp.cls] at h
  | ld c => cases c <;> simp [AOp.cls] at h
  | idx c => cases c <;> simp [AOp.cls] at h
  | call c => cases c <;> simp [AOp.cls] at h
  | st a x k => cases a <;> simp [AOp.cls] at h
  | new zs => exact ⟨_, fun _ _ => rfl⟩
  | nrow t n => exact ⟨_, fun _ _ => rfl⟩
  | _ => simp [AOp.cls] at h
theorem cls_iniH (h : ao.op.cls = .I) : ∃ c, ∀ H, stpH r id ao e H = hset H (id - back ao.op) c := by
  obtain ⟨dst, gd, op, lo⟩ := ao
  cases op with
  | box imm x => cases imm <;> simp [AOp.cls] at h
  | ld c => cases c <;> simp [AOp.cls] at h
  | idx c => cases c <;> simp [AOp.cls] at h
  | call c => cases c <;> simp [AOp.cls] at h
  | st a x k => cases a <;> simp [AOp.cls] at h
  | ini b a x k => exact ⟨_, fun _ => rfl⟩
  | _ => simp [AOp.cls] at h
theorem cls_iniO (h : ao.op.cls = .I) : ∀ H H', hget H (id - back ao.op) = hget H' (id - back ao.op) → okS P r id ao e H = okS P r id ao e H' := by
  obtain ⟨dst, gd, op, lo⟩ := ao
  cases op with
  | box imm x => cases imm <;> simp [AOp.cls] at h
  | ld c => cases c <;> simp [AOp.cls] at h
  | idx c => cases c <;> simp [AOp.cls] at h
  | call c => cases c <;> simp [AOp.cls] at h
  | st a x k => cases a <;> simp [AOp.cls] at h
  | ini b a x k =>
    intro H H' hh
    have hh' : hget H (id - b) = hget H' (id - b) := hh
    simp only [okS, iniOk, hh']
  | _ => simp [AOp.cls] at h
end

theorem hadd_comm {i j : Nat} (h : i ≠ j) (a b : AObj) (H : Heap) : hadd i a (hadd j b H) = hadd j b (hadd i a H) := by
  funext k
  unfold hadd
  by_cases h1 : i = k
  · subst h1; simp [Ne.symm h]
  · simp [h1]

theorem hset_comm {i j : Nat} (h : i ≠ j) (a b : AObj) (H : Heap) : hset (hset H j b) i a = hset (hset H i a) j b := by
  funext k
  unfold hset
  by_cases h1 : i = k
  · subst h1; simp [Ne.symm h]
  · simp [h1]
theorem hset_add {i j : Nat} (h : i ≠ j) (a b : AObj) (H : Heap) : hset (hadd i a H) j b = hadd i a (hset H j b) := by
  funext k
  unfold hset hadd
  by_cases h1 : i = k
  · subst h1; simp [Ne.symm h]
  · simp [h1]

/-- Slots of one length, and the one is not written, or read, by the other. -/
def free (D : Nat) (d : Option Slot) (l : List Slot) : Bool :=
  match d with
  | none => true
  | some p => p.length == D && l.all fun q => q.length == D && p != q
def apart2 (D i : Nat) (a : AOper) (j : Nat) (b : AOper) : Bool :=
  noDst a && noDst b && free D a.dst b.uses && free D b.dst a.uses && free D a.dst b.dst.toList && free D b.dst a.dst.toList && !conf i a j b

theorem agree_set {D : Nat} {d : Option Slot} {l : List Slot} (h : free D d l = true) (e : T) (x : AV) : Agree (setD e d x) e l := by
  intro q hq
  cases d with
  | none => rfl
  | some p =>
    simp only [free, Bool.and_eq_true, beq_iff_eq, List.all_eq_true, bne_iff_ne] at h
    obtain ⟨h1, h2⟩ := h.2 q hq
    exact T.get_set_ne x p q e (h.1.trans h1.symm) h2

theorem set_comm {D : Nat} {d d' : Option Slot} (h : free D d d'.toList = true) (e : T) (x y : AV) : setD (setD e d x) d' y = setD (setD e d' y) d x := by
  cases d with
  | none => rfl
  | some p =>
    cases d' with
    | none => rfl
    | some q =>
      simp only [free, Option.toList, List.all_cons, List.all_nil, Bool.and_true, Bool.and_eq_true, beq_iff_eq, bne_iff_ne] at h
      exact T.set_comm x y p q e (h.1.trans h.2.1.symm) h.2.2

section
variable {P : Program} {D : Nat} {a b : AOper}

theorem hlow_add {nx k : Nat} (hk : nx + k < 1000000) (o : AObj) (H : Heap) : hlow nx (hadd (nx + k) o H) = hlow nx H := by
  funext q
  unfold hlow hadd
  by_cases hq : q < nx ∨ 1000000 ≤ q
  · rw [if_pos hq, if_pos hq, if_neg (by omega)]
  · rw [if_neg hq, if_neg hq]
theorem hlow_set {nx k : Nat} (h : nx ≤ k) (hk : k < 1000000) (o : AObj) (H : Heap) : hlow nx (hset H k o) = hlow nx H := by
  funext q
  unfold hlow hset
  by_cases hq : q < nx ∨ 1000000 ≤ q
  · rw [if_pos hq, if_pos hq, if_neg (by omega)]
  · rw [if_neg hq, if_neg hq]
theorem hv_at {nx i : Nat} {o : AOper} {ps : List Slot} (h : o.low = some (i, ps)) (e : T) (H : Heap) : o.hv e (nx + i) H = hnot e ps (hlow nx H) := by
  unfold AOper.hv
  rw [h]
  simp [lowH]
theorem hdel_comm (H : Heap) (i j : Nat) : hdel (hdel H i) j = hdel (hdel H j) i := by
  funext k
  unfold hdel
  by_cases h : i = k <;> by_cases h' : j = k <;> simp [h, h']
theorem hdel_nr (H : Heap) (i : Nat) : hdel (hnr H) i = hnr (hdel H i) := by
  funext k
  unfold hdel hnr
  by_cases h : i = k <;> simp [h]
/-- Rows alone have turned: what is read without them is the same. -/
theorem hnot_row {e : T} : ∀ {ps : List Slot} {H1 H2 : Heap}, [] ∈ ps → hnr H1 = hnr H2 → hnot e ps H1 = hnot e ps H2
  | [] :: ps, H1, H2, _, h => by simp only [hnot]; rw [h]
  | (b :: p) :: ps, H1, H2, hp, h => by
    simp only [hnot]
    refine hnot_row (by simpa using hp) ?_
    split
    · rw [← hdel_nr, ← hdel_nr, h]
    · rw [← hdel_nr, ← hdel_nr, h]
    · exact h
theorem app_nr {r : Rz} {nx i : Nat} {ao : AOper} (h : isApp ao.op = true) (hb : nx + i < 1000000) (e : T) (H : Heap) : hnr (hlow nx (stpH r (nx + i) ao e H)) = hnr (hlow nx H) := by
  obtain ⟨dst, gd, op, lo⟩ := ao
  cases op with
  | app t n b s x =>
    simp only [stpH, appV]
    split
    · rename_i o len row m more hs _
      funext k
      unfold hnr hlow
      by_cases hk : k < nx ∨ 1000000 ≤ k
      · rw [if_pos hk, if_pos hk]
        have e1 : ¬ nx + i = k := by omega
        simp only [hadd, if_neg e1]
        cases o with
        | none => rfl
        | some o =>
          simp only [hdelO, hdel]
          by_cases ho : o = k
          · subst ho
            rw [if_pos rfl]
            unfold baseV at hs
            split at hs
            · rename_i id len' hid
              split at hs
              · rename_i hrow
                split at hs
                · injection hs with hs
                  injection hs with hs _
                  injection hs with hs
                  subst hs
                  have : H id = some _ := hrow
                  rw [this]
                · cases hs
              · cases hs
            · cases hs
            · cases hs
          · rw [if_neg ho]
      · rw [if_neg hk, if_neg hk]
    · rfl
  | _ => cases h
/-- What a store through a slot turns is not read. -/
theorem hnot_st {e : T} {p : Slot} {x : AV} {nx : Nat} (hne : p ≠ []) : ∀ {ps : List Slot} {H : Heap}, p ∈ ps → hnot e ps (hlow nx (stH H (e.get p).strip x)) = hnot e ps (hlow nx H) := by
  intro ps H hp
  have key : ∀ (id : Nat), (∀ (H1 : Heap) (qs : List Slot), hnot e (p :: qs) H1 = hnot e qs (hdel H1 id)) → ∀ (ps : List Slot) (H1 H2 : Heap), p ∈ ps → hdel H1 id = hdel H2 id → hnot e ps H1 = hnot e ps H2 := by
    intro id hid ps
    induction ps with
    | nil => intro _ _ h; cases h
    | cons q ps ih =>
      intro H1 H2 hq he
      rcases List.mem_cons.1 hq with rfl | hq2
      · rw [hid, hid, he]
      · cases q with
        | nil =>
          simp only [hnot]
          refine ih _ _ hq2 ?_
          rw [hdel_nr, hdel_nr, he]
        | cons b q =>
          simp only [hnot]
          refine ih _ _ hq2 ?_
          split
          · rw [hdel_comm, he, hdel_comm]
          · rw [hdel_comm, he, hdel_comm]
          · exact he
  obtain ⟨b, p, rfl⟩ : ∃ b q, p = b :: q := by
    cases p with
    | nil => exact absurd rfl hne
    | cons b q => exact ⟨b, q, rfl⟩
  unfold stH
  split
  · rename_i id off heq
    split
    · rename_i cs _
      refine key id (fun H1 qs => by simp only [hnot, heq]) ps _ _ hp ?_
      funext k
      unfold hdel hlow hset
      by_cases h : id = k
      · simp [h]
      · simp [h]
    · rfl
  · rename_i id n i off heq
    split
    · refine key id (fun H1 qs => by simp only [hnot, heq]) ps _ _ hp ?_
      funext k
      unfold hdel hlow hset
      by_cases h : id = k
      · simp [h]
      · simp [h]
    · rfl
  · rfl
theorem cls_stH {id : Nat} {ao : AOper} (h : ao.op.cls = .S) : ∃ x : T → AV, ∀ r e H, stpH r id ao e H = stH H (e.get (stSlot ao.op)).strip (x e) := by
  obtain ⟨dst, gd, op, lo⟩ := ao
  cases op with
  | st a x k =>
    cases a with
    | s p => exact ⟨fun e => (x.av e).strip, fun _ _ _ => rfl⟩
    | c v => simp [AOp.cls] at h
    | f F => simp [AOp.cls] at h
  | box imm x => cases imm <;> simp [AOp.cls] at h
  | ld c => cases c <;> simp [AOp.cls] at h
  | idx c => cases c <;> simp [AOp.cls] at h
  | call c => cases c <;> simp [AOp.cls] at h
  | _ => simp [AOp.cls] at h

theorem apart_ok {nx i j : Nat} (hbi : nx + i < 1000000) (h : apart2 D i a j b = true) {r r' : Rz} (e : T) (H : Heap) : okS P r (nx + j) b (stp r' (nx + i) a e H).1 (stp r' (nx + i) a e H).2 = okS P r (nx + j) b e H := by
  simp only [apart2, Bool.and_eq_true] at h
  obtain ⟨⟨⟨⟨⟨⟨h1, h2⟩, h3⟩, h4⟩, h5⟩, h6⟩, h7⟩ := h
  have h7' : conf i a j b = false := by simpa using h7
  rw [stp_eq h1]
  simp only
  rw [okS_congr (agree_set h3 e _)]
  unfold conf at h7'
  cases ha : a.cls i with
  | P => rw [cls_same (.inl (cls_op ha (by simp) (by simp)))]
  | L => rw [cls_same (.inr (cls_read ha))]
  | O => rw [cls_same (.inr (cls_low ha).1)]
  | A =>
    rw [ha] at h7'
    obtain ⟨c, hc⟩ := cls_new (r := r') (id := nx + i) (cls_op ha (by simp) (by simp))
    cases hb : b.cls j with
    | P => exact cls_ok (.inl (cls_op hb (by simp) (by simp))) _ _
    | A => exact cls_ok (.inr (cls_op hb (by simp) (by simp))) _ _
    | O =>
      obtain ⟨hbL, hlo⟩ := cls_low hb
      refine cls_old ?_ hbL
      rw [hc, hv_at hlo, hv_at hlo, hlow_add hbi]
    | I =>
      rw [hb] at h7'
      simp at h7'
      refine cls_iniO (cls_op hb (by simp) (by simp)) _ _ ?_
      rw [hc, hget_add, if_neg (by omega)]
    | L => rw [hb] at h7'; simp at h7'
    | S => rw [hb] at h7'; simp at h7'
    | M => rw [hb] at h7'; simp at h7'
  | I =>
    rw [ha] at h7'
    obtain ⟨c, hc⟩ := cls_iniH (r := r') (id := nx + i) (e := e) (cls_op ha (by simp) (by simp))
    cases hb : b.cls j with
    | P => exact cls_ok (.inl (cls_op hb (by simp) (by simp))) _ _
    | A => exact cls_ok (.inr (cls_op hb (by simp) (by simp))) _ _
    | O =>
      rw [hb] at h7'
      simp at h7'
      obtain ⟨hbL, hlo⟩ := cls_low hb
      refine cls_old ?_ hbL
      rw [hc, hv_at hlo, hv_at hlo, hlow_set (by omega) (by omega)]
    | I =>
      rw [hb] at h7'
      simp at h7'
      refine cls_iniO (cls_op hb (by simp) (by simp)) _ _ ?_
      rw [hc, hget_set, if_neg (by omega)]
    | L => rw [hb] at h7'; simp at h7'
    | S => rw [hb] at h7'; simp at h7'
    | M => rw [hb] at h7'; simp at h7'
  | S =>
    rw [ha] at h7'
    obtain ⟨x, hx⟩ := cls_stH (id := nx + i) (cls_op ha (by simp) (by simp))
    cases hb : b.cls j with
    | P => exact cls_ok (.inl (cls_op hb (by simp) (by simp))) _ _
    | O =>
      rw [hb] at h7'
      simp at h7'
      obtain ⟨hbL, hlo⟩ := cls_low hb
      refine cls_old ?_ hbL
      rw [hx, hv_at hlo, hv_at hlo, hnot_st h7'.2 h7'.1]
    | _ => rw [hb] at h7'; simp at h7'
  | M =>
    rw [ha] at h7'
    cases hb : b.cls j with
    | P => exact cls_ok (.inl (cls_op hb (by simp) (by simp))) _ _
    | O =>
      rw [hb] at h7'
      simp at h7'
      obtain ⟨hbL, hlo⟩ := cls_low hb
      refine cls_old ?_ hbL
      rw [hv_at hlo, hv_at hlo]
      exact hnot_row h7'.2 (app_nr h7'.1 hbi e H)
    | _ => rw [hb] at h7'; simp at h7'

/-- What two operations that do not see each other make of the objects, and hand back. -/
theorem apart_heap {nx i j : Nat} (hbi : nx + i < 1000000) (h7' : conf i a j b = false) {r r' : Rz} (hij : i ≠ j) (e : T) (H : Heap) :
    stpV r (nx + j) b e (stpH r' (nx + i) a e H) = stpV r (nx + j) b e H ∧ stpH r (nx + j) b e (stpH r' (nx + i) a e H) = stpH r' (nx + i) a e (stpH r (nx + j) b e H) := by
  unfold conf at h7'
  cases ha : a.cls i with
  | P => rw [cls_same (.inl (cls_op ha (by simp) (by simp))), cls_same (.inl (cls_op ha (by simp) (by simp)))]; exact ⟨rfl, rfl⟩
  | L => rw [cls_same (.inr (cls_read ha)), cls_same (.inr (cls_read ha))]; exact ⟨rfl, rfl⟩
  | O => rw [cls_same (.inr (cls_low ha).1), cls_same (.inr (cls_low ha).1)]; exact ⟨rfl, rfl⟩
  | A =>
    rw [ha] at h7'
    obtain ⟨ca, hca⟩ := cls_new (r := r') (id := nx + i) (cls_op ha (by simp) (by simp))
    cases hb : b.cls j with
    | P =>
      have hb' := cls_op hb (by simp) (by simp)
      rw [cls_same (.inl hb'), cls_same (.inl hb')]
      exact ⟨cls_heapV (.inl hb') _ _, rfl⟩
    | O =>
      obtain ⟨hbL, hlo⟩ := cls_low hb
      rw [cls_same (.inr hbL), cls_same (.inr hbL)]
      refine ⟨cls_oldV ?_ hbL, rfl⟩
      rw [hca, hv_at hlo, hv_at hlo, hlow_add hbi]
    | A =>
      have hb' := cls_op hb (by simp) (by simp)
      obtain ⟨cb, hcb⟩ := cls_new (r := r) (id := nx + j) hb'
      rw [hca, hcb, hcb, hca]
      exact ⟨cls_heapV (.inr (.inl hb')) _ _, hadd_comm (by omega) _ _ _⟩
    | I =>
      rw [hb] at h7'
      simp at h7'
      have hb' := cls_op hb (by simp) (by simp)
      obtain ⟨cb, hcb⟩ := cls_iniH (r := r) (id := nx + j) (e := e) hb'
      rw [hca, hcb, hcb, hca]
      exact ⟨cls_heapV (.inr (.inr hb')) _ _, hset_add (by omega) _ _ _⟩
    | L => rw [hb] at h7'; simp at h7'
    | S => rw [hb] at h7'; simp at h7'
    | M => rw [hb] at h7'; simp at h7'
  | I =>
    rw [ha] at h7'
    obtain ⟨ca, hca⟩ := cls_iniH (r := r') (id := nx + i) (e := e) (cls_op ha (by simp) (by simp))
    cases hb : b.cls j with
    | P =>
      have hb' := cls_op hb (by simp) (by simp)
      rw [cls_same (.inl hb'), cls_same (.inl hb')]
      exact ⟨cls_heapV (.inl hb') _ _, rfl⟩
    | O =>
      rw [hb] at h7'
      simp at h7'
      obtain ⟨hbL, hlo⟩ := cls_low hb
      rw [cls_same (.inr hbL), cls_same (.inr hbL)]
      refine ⟨cls_oldV ?_ hbL, rfl⟩
      rw [hca, hv_at hlo, hv_at hlo, hlow_set (by omega) (by omega)]
    | A =>
      rw [hb] at h7'
      simp at h7'
      have hb' := cls_op hb (by simp) (by simp)
      obtain ⟨cb, hcb⟩ := cls_new (r := r) (id := nx + j) hb'
      rw [hca, hcb, hcb, hca]
      exact ⟨cls_heapV (.inr (.inl hb')) _ _, (hset_add (by omega) _ _ _).symm⟩
    | I =>
      rw [hb] at h7'
      simp at h7'
      have hb' := cls_op hb (by simp) (by simp)
      obtain ⟨cb, hcb⟩ := cls_iniH (r := r) (id := nx + j) (e := e) hb'
      rw [hca, hcb, hcb, hca]
      exact ⟨cls_heapV (.inr (.inr hb')) _ _, hset_comm (by omega) _ _ _⟩
    | L => rw [hb] at h7'; simp at h7'
    | S => rw [hb] at h7'; simp at h7'
    | M => rw [hb] at h7'; simp at h7'
  | S =>
    rw [ha] at h7'
    obtain ⟨x, hx⟩ := cls_stH (id := nx + i) (cls_op ha (by simp) (by simp))
    cases hb : b.cls j with
    | P =>
      have hb' := cls_op hb (by simp) (by simp)
      rw [cls_same (.inl hb'), cls_same (.inl hb')]
      exact ⟨cls_heapV (.inl hb') _ _, rfl⟩
    | O =>
      rw [hb] at h7'
      simp at h7'
      obtain ⟨hbL, hlo⟩ := cls_low hb
      rw [cls_same (.inr hbL), cls_same (.inr hbL)]
      refine ⟨cls_oldV ?_ hbL, rfl⟩
      rw [hx, hv_at hlo, hv_at hlo, hnot_st h7'.2 h7'.1]
    | _ => rw [hb] at h7'; simp at h7'
  | M =>
    rw [ha] at h7'
    cases hb : b.cls j with
    | P =>
      have hb' := cls_op hb (by simp) (by simp)
      rw [cls_same (.inl hb'), cls_same (.inl hb')]
      exact ⟨cls_heapV (.inl hb') _ _, rfl⟩
    | O =>
      rw [hb] at h7'
      simp at h7'
      obtain ⟨hbL, hlo⟩ := cls_low hb
      rw [cls_same (.inr hbL), cls_same (.inr hbL)]
      refine ⟨cls_oldV ?_ hbL, rfl⟩
      rw [hv_at hlo, hv_at hlo]
      exact hnot_row h7'.2 (app_nr h7'.1 hbi e H)
    | _ => rw [hb] at h7'; simp at h7'

theorem conf_symm {i j : Nat} (h : conf i a j b = false) : conf j b i a = false := by
  unfold conf at h ⊢
  cases ha : a.cls i <;> cases hb : b.cls j <;> rw [ha, hb] at h <;> simp at h ⊢ <;> omega

theorem apart_comm {nx i j : Nat} (hbi : nx + i < 1000000) (hbj : nx + j < 1000000) (h : apart2 D i a j b = true) {r r' : Rz} (hij : i ≠ j) (e : T) (H : Heap) :
    stp r (nx + j) b (stp r' (nx + i) a e H).1 (stp r' (nx + i) a e H).2 = stp r' (nx + i) a (stp r (nx + j) b e H).1 (stp r (nx + j) b e H).2 := by
  simp only [apart2, Bool.and_eq_true] at h
  obtain ⟨⟨⟨⟨⟨⟨h1, h2⟩, h3⟩, h4⟩, h5⟩, h6⟩, h7⟩ := h
  have h7' : conf i a j b = false := by simpa using h7
  rw [stp_eq h1 e H, stp_eq h2 e H]
  simp only
  rw [stp_eq h2, stp_eq h1]
  rw [stpV_congr (agree_set h3 e _), stpH_congr (agree_set h3 e _), stpV_congr (agree_set h4 e _), stpH_congr (agree_set h4 e _)]
  have m1 := apart_heap (nx := nx) hbi h7' (r := r) (r' := r') hij e H
  have m2 := apart_heap (nx := nx) hbj (conf_symm h7') (r := r') (r' := r) (Ne.symm hij) e H
  rw [m1.1, m2.1, m1.2, set_comm h5]

end

end Go.Proofs.Ytndpejmebhcaaaa
/- Regions that draw their order: any order does as the list, where all that is not ordered is apart. -/
namespace Go.Proofs.Ytndpejmebhcaaaa
open Go.RowKit

def bindsOn (o : Oper) : List Nat := (o.after.toList.filter fun e => Region.binds .any e).map (·.on)
/-- The operations that must come ahead of each, as far as a table says. -/
def closure : List Oper → List (List Nat) → List (List Nat)
  | [], acc => acc
  | o :: os, acc => closure os (acc ++ [((bindsOn o).flatMap fun k => k :: acc.getD k []).eraseDups])
/-- The table says nothing but what the edges say. -/
def closed (ops : List Oper) (rows : List (List Nat)) : Bool :=
  (List.range ops.length).all fun j => match ops[j]? with
    | some o => (bindsOn o).all (fun k => decide (k < j)) && (rows.getD j []).all fun i => (bindsOn o).any fun k => k == i || (rows.getD k []).contains i
    | none => false
def drOk (D : Nat) (ops : Array Oper) (os : List AOper) : Bool :=
  let rows := closure ops.toList []
  closed ops.toList rows && (List.range os.length).all fun j => (List.range j).all fun i => (rows.getD j []).contains i || (match os[i]?, os[j]? with | some a, some b => apart2 D i a j b | _, _ => false)

section
variable {P : Program} {D N : Nat} {X0 : Nat → Nat → Prop} {W0 : World} {ops : Array Oper} {os : List AOper} {nx : Nat} {ρ : Nat → Rz}

/-- Operation number i, done. -/
def stpI (os : List AOper) (ρ : Nat → Rz) (nx i : Nat) (s : T × Heap) : T × Heap :=
  match os[i]? with
  | some ao => stp (ρ i) (nx + i) ao s.1 s.2
  | none => s
def okI (P : Program) (os : List AOper) (ρ : Nat → Rz) (nx i : Nat) (s : T × Heap) : Prop :=
  match os[i]? with
  | some ao => okS P (ρ i) (nx + i) ao s.1 s.2
  | none => True
def runL (os : List AOper) (ρ : Nat → Rz) (nx : Nat) : List Nat → T × Heap → T × Heap
  | [], s => s
  | i :: l, s => runL os ρ nx l (stpI os ρ nx i s)

theorem runL_append (l m : List Nat) (s : T × Heap) : runL os ρ nx (l ++ m) s = runL os ρ nx m (runL os ρ nx l s) := by
  induction l generalizing s with
  | nil => rfl
  | cons i l ih => exact ih _

/-- Two operations do not see each other. -/
def Ind (P : Program) (os : List AOper) (ρ : Nat → Rz) (nx i j : Nat) : Prop :=
  (∀ s, stpI os ρ nx j (stpI os ρ nx i s) = stpI os ρ nx i (stpI os ρ nx j s)) ∧ (∀ s, okI P os ρ nx j (stpI os ρ nx i s) = okI P os ρ nx j s) ∧ (∀ s, okI P os ρ nx i (stpI os ρ nx j s) = okI P os ρ nx i s)

theorem free_symm {D i j : Nat} {a b : AOper} (h : apart2 D i a j b = true) : apart2 D j b i a = true := by
  simp only [apart2, Bool.and_eq_true] at h ⊢
  obtain ⟨⟨⟨⟨⟨⟨h1, h2⟩, h3⟩, h4⟩, h5⟩, h6⟩, h7⟩ := h
  exact ⟨⟨⟨⟨⟨⟨h2, h1⟩, h4⟩, h3⟩, h6⟩, h5⟩, by rw [conf_symm (by simpa using h7)]; rfl⟩

theorem ind_of {i j : Nat} {a b : AOper} (hbi : nx + i < 1000000) (hbj : nx + j < 1000000) (hij : i ≠ j) (ha : os[i]? = some a) (hb : os[j]? = some b) (h : apart2 D i a j b = true) : Ind P os ρ nx i j := by
  refine ⟨fun s => ?_, fun s => ?_, fun s => ?_⟩
  · simp only [stpI, ha, hb]
    exact apart_comm hbi hbj h hij s.1 s.2
  · simp only [stpI, okI, ha, hb]
    exact apart_ok hbi h s.1 s.2
  · simp only [stpI, okI, ha, hb]
    exact apart_ok hbj (free_symm h) s.1 s.2

theorem Ind.symm {i j : Nat} (h : Ind P os ρ nx i j) : Ind P os ρ nx j i := ⟨fun s => (h.1 s).symm, h.2.2, h.2.1⟩

theorem run_through {i : Nat} : ∀ (l : List Nat), (∀ j ∈ l, Ind P os ρ nx i j) → ∀ s, runL os ρ nx l (stpI os ρ nx i s) = stpI os ρ nx i (runL os ρ nx l s)
  | [], _, s => rfl
  | j :: l, h, s => by
    simp only [runL]
    rw [(h j (by simp)).1 s]
    exact run_through l (fun k hk => h k (by simp [hk])) _
theorem ok_through {i : Nat} : ∀ (l : List Nat), (∀ j ∈ l, Ind P os ρ nx i j) → ∀ s, okI P os ρ nx i (runL os ρ nx l s) = okI P os ρ nx i s
  | [], _, s => rfl
  | j :: l, h, s => by
    simp only [runL]
    rw [ok_through l (fun k hk => h k (by simp [hk])) _]
    exact (h j (by simp)).2.2 s

/-- What is listed may come first. -/
theorem run_split (S : Nat → Bool) : ∀ (l : List Nat), (∀ k ∈ l, ∀ m ∈ l, S k = false → S m = true → k < m → Ind P os ρ nx k m) → l.Pairwise (· < ·) → ∀ s,
    runL os ρ nx l s = runL os ρ nx (l.filter fun k => !S k) (runL os ρ nx (l.filter S) s)
  | [], _, _, s => rfl
  | x :: l, h, hp, s => by
    have hp' := (List.pairwise_cons.1 hp)
    have ih := run_split S l (fun k hk m hm => h k (by simp [hk]) m (by simp [hm])) hp'.2
    cases hx : S x with
    | true =>
      simp only [List.filter_cons, hx, Bool.not_true, if_true, Bool.false_eq_true, if_false, runL]
      exact ih _
    | false =>
      simp only [List.filter_cons, hx, Bool.not_false, if_true, Bool.false_eq_true, if_false, runL]
      rw [ih, run_through (P := P) (l.filter S) (fun m hm => by
        have hm' := List.mem_filter.1 hm
        exact h x (by simp) m (by simp [hm'.1]) hx hm'.2 (hp'.1 m hm'.1)) s]

theorem range_pair (n : Nat) : (List.range n).Pairwise (· < ·) := List.pairwise_lt_range

theorem range_cut {i n : Nat} (h : i < n) : List.range n = List.range i ++ i :: (List.range (n - i - 1)).map (fun k => i + 1 + k) := by
  have e : List.range n = List.range (i + (n - i)) := by congr 1; omega
  rw [e, List.range_add]
  congr 1
  have e2 : n - i = (n - i - 1) + 1 := by omega
  rw [e2, List.range_succ_eq_map]
  simp only [List.map_cons, Nat.add_zero, List.map_map, Nat.add_sub_cancel, List.cons.injEq, true_and]
  apply List.map_congr_left
  intro k _
  simp only [Function.comp]; omega

/-- The state behind the listed ones, in the list's own order. -/
def stS (os : List AOper) (ρ : Nat → Rz) (nx : Nat) (S : Nat → Bool) (s : T × Heap) : T × Heap := runL os ρ nx ((List.range os.length).filter S) s

theorem pick_next {S : Nat → Bool} {i : Nat} {s0 : T × Heap} (hi : i < os.length) (hS : S i = false)
    (hind : ∀ k m, k < m → m < os.length → S k = false → (S m = true ∨ m = i) → Ind P os ρ nx k m)
    (hok : okI P os ρ nx i (runL os ρ nx (List.range i) s0)) :
    okI P os ρ nx i (stS os ρ nx S s0) ∧ stS os ρ nx (fun k => S k || k == i) s0 = stpI os ρ nx i (stS os ρ nx S s0) := by
  have hcut := range_cut hi
  let F2 := ((List.range (os.length - i - 1)).map (fun k => i + 1 + k)).filter S
  have hF2 : ∀ m ∈ F2, m < os.length ∧ i < m ∧ S m = true := by
    intro m hm
    obtain ⟨h1, h2⟩ := List.mem_filter.1 hm
    obtain ⟨k, hk, rfl⟩ := List.mem_map.1 h1
    have := List.mem_range.1 hk
    exact ⟨by omega, by omega, h2⟩
  have hI2 : ∀ m ∈ F2, Ind P os ρ nx i m := fun m hm => by
    obtain ⟨h1, h2, h3⟩ := hF2 m hm
    exact hind i m h2 h1 hS (.inl h3)
  have e1 : (List.range os.length).filter S = (List.range i).filter S ++ F2 := by
    rw [hcut, List.filter_append, List.filter_cons_of_neg (by simp [hS])]
  have e2 : (List.range os.length).filter (fun k => S k || k == i) = (List.range i).filter S ++ i :: F2 := by
    rw [hcut, List.filter_append, List.filter_cons_of_pos (by simp)]
    congr 1
    · apply List.filter_congr
      intro k hk
      have := List.mem_range.1 hk
      have : ¬ k = i := by omega
      simp [this]
    · congr 1
      apply List.filter_congr
      intro k hk
      obtain ⟨q, _, rfl⟩ := List.mem_map.1 hk
      have : ¬ i + 1 + q = i := by omega
      simp [this]
  constructor
  · unfold stS
    rw [e1, runL_append, ok_through F2 hI2]
    have hsp := run_split (P := P) S (List.range i) (fun k hk m hm h1 h2 h3 => hind k m h3 (by have := List.mem_range.1 hm; omega) h1 (.inl h2)) (range_pair i) s0
    rw [hsp, ok_through _ (fun k hk => ?_)] at hok
    · exact hok
    · obtain ⟨h1, h2⟩ := List.mem_filter.1 hk
      have := List.mem_range.1 h1
      exact (hind k i (by omega) hi (by simpa using h2) (.inr rfl)).symm
  · unfold stS
    rw [e1, e2, runL_append, runL_append]
    simp only [runL]
    exact run_through F2 hI2 _

/-- One by one, in the list's own order: what each shows. -/
theorem awpOps_run {K : T → Heap → Prop} : ∀ (r i : Nat) (s : T × Heap), i + r = os.length → awpOps P nx i (os.drop i) K s.1 s.2 →
    ∃ ρ : Nat → Rz, (∀ k, k < r → okI P os ρ nx (i + k) (runL os ρ nx ((List.range k).map (i + ·)) s)) ∧ K (runL os ρ nx ((List.range r).map (i + ·)) s).1 (runL os ρ nx ((List.range r).map (i + ·)) s).2 := by
  intro r
  induction r with
  | zero =>
    intro i s hi h
    rw [List.drop_eq_nil_of_le (by omega)] at h
    exact ⟨fun _ => .d .top, fun k hk => by omega, h⟩
  | succ r ih =>
    intro i s hi h
    have hi2 : i < os.length := by omega
    rw [List.drop_eq_getElem_cons hi2] at h
    have hoi : os[i]? = some os[i] := List.getElem?_eq_getElem hi2
    have go : ∀ r', okS P r' (nx + i) os[i] s.1 s.2 → awpOps P nx (i + 1) (os.drop (i + 1)) K (stp r' (nx + i) os[i] s.1 s.2).1 (stp r' (nx + i) os[i] s.1 s.2).2 →
        ∃ ρ : Nat → Rz, (∀ k, k < r + 1 → okI P os ρ nx (i + k) (runL os ρ nx ((List.range k).map (i + ·)) s)) ∧ K (runL os ρ nx ((List.range (r + 1)).map (i + ·)) s).1 (runL os ρ nx ((List.range (r + 1)).map (i + ·)) s).2 := by
      intro r' h1 h2
      obtain ⟨ρ, h3, h4⟩ := ih (i + 1) _ (by omega) h2
      let ρ' : Nat → Rz := fun k => if k = i then r' else ρ k
      have hr : ∀ (l : List Nat), (∀ k ∈ l, k ≠ i) → ∀ s, runL os ρ' nx l s = runL os ρ nx l s := by
        intro l
        induction l with
        | nil => intro _ s; rfl
        | cons k l ihl =>
          intro hl s
          have hk : ρ' k = ρ k := if_neg (hl k (by simp))
          simp only [runL]
          rw [ihl (fun k hk => hl k (by simp [hk]))]
          simp only [stpI, hk]
      have e1 : ∀ k, (List.range (k + 1)).map (i + ·) = i :: (List.range k).map (i + 1 + ·) := by
        intro k
        rw [List.range_succ_eq_map, List.map_cons, List.map_map]
        simp only [Nat.add_zero, List.cons.injEq, true_and]
        apply List.map_congr_left
        intro q _
        simp only [Function.comp]; omega
      have e2 : stpI os ρ' nx i s = stp r' (nx + i) os[i] s.1 s.2 := by
        simp only [stpI, hoi, ρ', if_true]
      have e3 : ∀ k, runL os ρ' nx ((List.range (k + 1)).map (i + ·)) s = runL os ρ nx ((List.range k).map (i + 1 + ·)) (stp r' (nx + i) os[i] s.1 s.2) := by
        intro k
        rw [e1]
        simp only [runL]
        rw [e2, hr _ (fun q hq => by obtain ⟨z, _, rfl⟩ := List.mem_map.1 hq; omega)]
      refine ⟨ρ', fun k hk => ?_, ?_⟩
      · cases k with
        | zero =>
          simp only [Nat.add_zero, List.range_zero, List.map_nil, runL, okI, hoi, ρ', if_true]
          exact h1
        | succ k =>
          rw [e3]
          have := h3 k (by omega)
          have hne : ρ' (i + (k + 1)) = ρ (i + 1 + k) := by
            simp only [ρ']
            rw [if_neg (by omega), show i + (k + 1) = i + 1 + k by omega]
          simp only [okI] at this ⊢
          rw [hne, show i + (k + 1) = i + 1 + k by omega]
          exact this
      · rw [e3]; exact h4
    unfold awpOps at h
    split at h
    · obtain ⟨r', h1, h2⟩ := h
      exact go _ h1 h2
    · obtain ⟨r', h1, h2⟩ := h
      exact go _ h1 h2
    · obtain ⟨r', h1, h2⟩ := h
      exact go _ h1 h2
    · obtain ⟨r', h1, h2⟩ := h
      exact go _ h1 h2
    · exact go _ h.1 h.2

/-- The law of a region that draws its order. -/
theorem regOk_draw (hm : P.follows .mixedOrders = true) {id : Nat} (hnd : noDefer ops = true) (hl : ops.size = os.length) (htr : ∀ (i : Nat) (o : Oper) (ao : AOper), ops[i]? = some o → os[i]? = some ao → TrOper P D N ops o ao) (hd : drOk D ops os = true) : RegOk P D N id ops true os := by
  intro X0 W0 B γ a w e H nx K Q1 ro n hmk hF hbd hK hQ1
  let Q : Exit → Act → World → Prop := fun x a' w' => x = .normal ∧ ∃ γ' e' H', K e' H' ∧ FZ D N X0 W0 B γ' a' w' e' H' (nx + os.length)
  have hQ : ∀ γ' a' w' e' H', K e' H' → FZ D N X0 W0 B γ' a' w' e' H' (nx + os.length) → Q .normal a' w' := fun γ' a' w' e' H' h1 h2 => ⟨rfl, γ', e', H', h1, h2⟩
  have hlo : ¬ LetsOut Q := by rintro ⟨_, _, h, _⟩; cases h
  suffices hs : wpAny P .any ops Q ops.size (Array.replicate ops.size false) a { w with drawn := w.drawn + 1 } from wpIn_mono (wpIn_region_any hm (wpAnyIn_of (noDefer_at hnd) hlo _ _ _ _ hs)) (by
    rintro x a' w' ⟨rfl, γ', e', H', h1, h2⟩
    exact hQ1 γ' a' w' e' H' h1 h2)
  obtain ⟨ρ, hokl, hKf⟩ := awpOps_run (os := os) (nx := nx) (K := K) os.length 0 (e, H) (by simp) (by simpa using hK)
  simp only [Nat.zero_add, List.map_id'] at hokl hKf
  simp only [drOk, Bool.and_eq_true] at hd
  obtain ⟨hcl, hpair⟩ := hd
  generalize hrows : closure ops.toList [] = rows at hcl hpair
  -- the table
  have htab : ∀ j o, ops[j]? = some o → (∀ k ∈ bindsOn o, k < j) ∧ ∀ i ∈ rows.getD j [], ∃ k ∈ bindsOn o, k = i ∨ i ∈ rows.getD k [] := by
    intro j o ho
    have hj : j < ops.toList.length := by
      have := (Array.getElem?_eq_some_iff.1 ho).1
      simpa using this
    have h1 := List.all_eq_true.1 hcl j (List.mem_range.2 hj)
    have ho' : ops.toList[j]? = some o := by simpa using ho
    rw [ho'] at h1
    simp only [Bool.and_eq_true, List.all_eq_true, decide_eq_true_eq, List.any_eq_true, Bool.or_eq_true, beq_iff_eq, List.contains_iff_mem] at h1
    exact h1
  -- what is closed under the edges is closed under the table
  have hdown : ∀ (S : Nat → Bool), (∀ j o, ops[j]? = some o → S j = true → ∀ k ∈ bindsOn o, S k = true) → ∀ j, (∀ o, ops[j]? = some o → ∀ k ∈ bindsOn o, S k = true) → j < ops.size → ∀ i ∈ rows.getD j [], S i = true := by
    intro S hS j
    induction j using Nat.strongRecOn with
    | _ j ih =>
      intro hj hlt i hi
      obtain ⟨h1, h2⟩ := htab j ops[j] (Array.getElem?_eq_getElem hlt)
      obtain ⟨k, hk, hki⟩ := h2 i hi
      have hSk := hj _ (Array.getElem?_eq_getElem hlt) k hk
      rcases hki with rfl | hki
      · exact hSk
      · have hkj := h1 k hk
        exact ih k hkj (fun o ho q hq => hS k o ho hSk q hq) (by omega) i hki
  have hpr : ∀ i j, i < j → j < os.length → i ∈ rows.getD j [] ∨ Ind P os ρ nx i j := by
    intro i j hij hj
    have h1 := List.all_eq_true.1 (List.all_eq_true.1 hpair j (List.mem_range.2 hj)) i (List.mem_range.2 hij)
    rw [Bool.or_eq_true] at h1
    rcases h1 with h1 | h1
    · exact .inl (List.contains_iff_mem.1 h1)
    · have hoi : os[i]? = some os[i] := List.getElem?_eq_getElem (by omega)
      have hoj : os[j]? = some os[j] := List.getElem?_eq_getElem hj
      rw [hoi, hoj] at h1
      exact .inr (ind_of (by omega) (by omega) (by omega) hoi hoj h1)
  have key : ∀ (fuel : Nat) (listed : Array Bool) (γ : Nat → Option Value) (a : Act) (w : World), listed.size = ops.size →
      (∀ j o, ops[j]? = some o → listed.getD j false = true → ∀ k ∈ bindsOn o, listed.getD k false = true) →
      FR D N X0 W0 B γ a w (stS os ρ nx (fun k => listed.getD k false) (e, H)).1 (hjoin (stS os ρ nx (fun k => listed.getD k false) (e, H)).2 B.Hf) → HOk (stS os ρ nx (fun k => listed.getD k false) (e, H)).2 B.Hf →
      (∀ k, nx ≤ k → k < 1000000 → (∀ j, listed.getD j false = true → k ≠ nx + j) → γ k = none) →
      ((List.range ops.size).filter fun k => !listed.getD k false).length = fuel →
      wpAny P .any ops Q fuel listed a w := by
    intro fuel
    induction fuel with
    | zero =>
      intro listed γ a w hsz hcls hR hO hfr hcnt
      have hall : ∀ k, k < ops.size → listed.getD k false = true := by
        intro k hk
        cases hlk : listed.getD k false with
        | true => rfl
        | false =>
          have : k ∈ (List.range ops.size).filter fun k => !listed.getD k false := List.mem_filter.2 ⟨List.mem_range.2 hk, by simp [hlk]⟩
          rw [List.length_eq_zero_iff.1 hcnt] at this
          cases this
      refine ⟨?_, ?_⟩
      · apply List.eq_nil_iff_forall_not_mem.2
        intro j hj
        obtain ⟨h1, o, ho, _⟩ := mem_ready.1 hj
        have hlt := (Array.getElem?_eq_some_iff.1 ho).1
        have h2 := hall j hlt
        rw [Array.getD_eq_getD_getElem?] at h1 h2
        rw [Array.getElem?_eq_getElem (by omega)] at h1 h2
        simp at h1 h2
        rw [h1] at h2; cases h2
      · have hfull : stS os ρ nx (fun k => listed.getD k false) (e, H) = runL os ρ nx (List.range os.length) (e, H) := by
          unfold stS
          congr 1
          apply List.filter_eq_self.2
          intro k hk
          have := List.mem_range.1 hk
          exact hall k (by omega)
        rw [hfull] at hR hO
        refine hQ γ a w _ _ hKf ⟨⟨hR, fun k hk hk2 => hfr k (by omega) hk2 (fun j hj => ?_)⟩, hO⟩
        have hjlt : j < ops.size := by
          rcases Nat.lt_or_ge j ops.size with h | h
          · exact h
          · rw [Array.getD_eq_getD_getElem?, Array.getElem?_eq_none (by omega)] at hj
            cases hj
        omega
    | succ fuel ih =>
      intro listed γ a w hsz hcls hR hO hfr hcnt
      refine ⟨fun hnil => ?_, fun i hi => ?_⟩
      · -- something is left, and the first one left is ready
        exfalso
        have hne : ((List.range ops.size).filter fun k => !listed.getD k false) ≠ [] := by
          intro h; rw [h] at hcnt; cases hcnt
        obtain ⟨m, hm⟩ := exists_min (p := fun k => k < ops.size ∧ listed.getD k false = false) (by
          obtain ⟨k, hk⟩ := List.exists_mem_of_ne_nil _ hne
          obtain ⟨h1, h2⟩ := List.mem_filter.1 hk
          exact ⟨k, List.mem_range.1 h1, by simpa using h2⟩)
        obtain ⟨⟨hm1, hm2⟩, hmin⟩ := hm
        have hr : m ∈ Region.ready .any ops listed := by
          refine mem_ready.2 ⟨?_, ops[m], Array.getElem?_eq_getElem hm1, fun ed hed hb => ?_⟩
          · rw [Array.getD_eq_getD_getElem?, Array.getElem?_eq_getElem (by omega)] at hm2 ⊢
            simpa using hm2
          · have hmem : ed.on ∈ bindsOn ops[m] := List.mem_map.2 ⟨ed, List.mem_filter.2 ⟨by simpa using hed, hb⟩, rfl⟩
            have hlt := (htab m _ (Array.getElem?_eq_getElem hm1)).1 _ hmem
            cases hl2 : listed.getD ed.on false with
            | true => rfl
            | false => have := hmin ed.on ⟨by omega, hl2⟩; omega
        rw [hnil] at hr
        cases hr
      · obtain ⟨hun, o, ho, hpre⟩ := mem_ready.1 hi
        have hlt := (Array.getElem?_eq_some_iff.1 ho).1
        have hSi : listed.getD i false = false := by
          rw [Array.getD_eq_getD_getElem?, Array.getElem?_eq_getElem (by omega)] at hun ⊢
          simpa using hun
        have hpre' : ∀ k ∈ bindsOn o, listed.getD k false = true := by
          intro k hk
          obtain ⟨ed, hed, rfl⟩ := List.mem_map.1 hk
          obtain ⟨h1, h2⟩ := List.mem_filter.1 hed
          exact hpre ed (by simpa using h1) h2
        have hD := hdown (fun k => listed.getD k false) hcls
        have hno : ∀ k m, k < m → m < os.length → listed.getD k false = false → (listed.getD m false = true ∨ m = i) → Ind P os ρ nx k m := by
          intro k m hkm hm' hSk hSm
          rcases hpr k m hkm hm' with h | h
          · exfalso
            have : listed.getD k false = true := by
              rcases hSm with hSm | rfl
              · exact hD m (fun o' ho' => hcls m o' ho' hSm) (by omega) k h
              · exact hD m (fun o' ho' => by rw [ho] at ho'; injection ho' with ho'; subst ho'; exact hpre') (by omega) k h
            rw [hSk] at this; cases this
          · exact h
        have hi' : i < os.length := by omega
        obtain ⟨k1, k2⟩ := pick_next (P := P) (ρ := ρ) (nx := nx) (S := fun k => listed.getD k false) (s0 := (e, H)) hi' hSi hno (hokl i hi')
        have hoi : os[i]? = some os[i] := List.getElem?_eq_getElem hi'
        have tr := htr i o os[i] ho hoi
        have hok : okS P (ρ i) (nx + i) os[i] (stS os ρ nx (fun k => listed.getD k false) (e, H)).1 (stS os ρ nx (fun k => listed.getD k false) (e, H)).2 := by
          simpa only [okI, hoi] using k1
        have hst : stS os ρ nx (fun k => (listed.setIfInBounds i true).getD k false) (e, H) = stp (ρ i) (nx + i) os[i] (stS os ρ nx (fun k => listed.getD k false) (e, H)).1 (stS os ρ nx (fun k => listed.getD k false) (e, H)).2 := by
          have e1 : (fun k => (listed.setIfInBounds i true).getD k false) = fun k => listed.getD k false || k == i := by
            funext k
            rw [Array.getD_eq_getD_getElem?, Array.getD_eq_getD_getElem?]
            by_cases hk : k = i
            · subst hk
              simp [show k < listed.size by omega]
            · rw [Array.getElem?_setIfInBounds_ne (Ne.symm hk)]
              simp [hk]
          rw [e1, k2]
          simp only [stpI, hoi]
        have hstep := op_sound_f (Q := Q) (K := wpAny P .any ops Q fuel (listed.setIfInBounds i true)) tr hR hO (id := nx + i) (hfr _ (by omega) (by omega) (fun j hj e1 => by
          have : j = i := by omega
          subst this
          rw [hSi] at hj; cases hj)) (by omega) (ρ i) hok (noMk_at hmk hi') (fun γ' a' w' hR' hO' hkn hne => by
            refine ih _ γ' a' w' (by simpa using hsz) (fun j o' ho' hj k hk => ?_) (by rw [hst]; exact hR') (by rw [hst]; exact hO') (fun k hk hk2 hnot => ?_) ?_
            · rw [Array.getD_eq_getD_getElem?] at hj ⊢
              by_cases hki : k = i
              · subst hki; simp [show k < listed.size by omega]
              · rw [Array.getElem?_setIfInBounds_ne (Ne.symm hki), ← Array.getD_eq_getD_getElem?]
                by_cases hji : j = i
                · subst hji
                  rw [ho] at ho'
                  injection ho' with ho'
                  subst ho'
                  exact hpre' k hk
                · rw [Array.getElem?_setIfInBounds_ne (Ne.symm hji), ← Array.getD_eq_getD_getElem?] at hj
                  exact hcls j o' ho' hj k hk
            · have hki : k ≠ nx + i := hnot i (by rw [Array.getD_eq_getD_getElem?]; simp [show i < listed.size by omega])
              rw [hne k hki]
              refine hfr k hk hk2 (fun j hj => hnot j ?_)
              by_cases hji : j = i
              · subst hji; rw [hSi] at hj; cases hj
              · rw [Array.getD_eq_getD_getElem?, Array.getElem?_setIfInBounds_ne (Ne.symm hji), ← Array.getD_eq_getD_getElem?]
                exact hj
            · have hcut := range_cut hlt
              have same : ∀ k, k ≠ i → (listed.setIfInBounds i true).getD k false = listed.getD k false := fun k hk => by
                rw [Array.getD_eq_getD_getElem?, Array.getElem?_setIfInBounds_ne (Ne.symm hk), ← Array.getD_eq_getD_getElem?]
              have hi1 : (listed.setIfInBounds i true).getD i false = true := by
                rw [Array.getD_eq_getD_getElem?]; simp [show i < listed.size by omega]
              rw [hcut, List.filter_append, List.filter_cons_of_pos (by simp [hSi])] at hcnt
              rw [hcut, List.filter_append, List.filter_cons_of_neg (by simp [hi1])]
              have f1 : (List.range i).filter (fun k => !(listed.setIfInBounds i true).getD k false) = (List.range i).filter (fun k => !listed.getD k false) := by
                apply List.filter_congr
                intro k hk
                have := List.mem_range.1 hk
                rw [same k (by omega)]
              have f2 : ((List.range (ops.size - i - 1)).map (fun k => i + 1 + k)).filter (fun k => !(listed.setIfInBounds i true).getD k false) = ((List.range (ops.size - i - 1)).map (fun k => i + 1 + k)).filter (fun k => !listed.getD k false) := by
                apply List.filter_congr
                intro k hk
                obtain ⟨q, _, rfl⟩ := List.mem_map.1 hk
                rw [same _ (by omega)]
              rw [f1, f2]
              simp only [List.length_append, List.length_cons] at hcnt ⊢
              omega)
        unfold wpOp
        rw [ho]
        exact hstep
  have hdr : Ext w { w with drawn := w.drawn + 1 } := Ext.drew w
  have hF' := hF.1.1.mono (Knows.refl γ) (.of_ext hdr) (hF.1.1.st.stay hdr) (.refl _)
  have h0 : stS os ρ nx (fun k => (Array.replicate ops.size false).getD k false) (e, H) = (e, H) := by
    unfold stS
    have : (List.range os.length).filter (fun k => (Array.replicate ops.size false).getD k false) = [] := by
      apply List.filter_eq_nil_iff.2
      intro k hk
      have := List.mem_range.1 hk
      rw [Array.getD_eq_getD_getElem?]
      simp [show k < ops.size by omega]
    rw [this]; rfl
  have hlist : ∀ j, (Array.replicate ops.size false).getD j false = false := by
    intro j
    rw [Array.getD_eq_getD_getElem?]
    by_cases hj : j < ops.size
    · simp [hj]
    · rw [Array.getElem?_eq_none (by simpa using hj)]; rfl
  refine key ops.size _ γ a _ (by simp) (fun j o ho hj => by rw [hlist j] at hj; cases hj) (by rw [h0]; exact hF') (by rw [h0]; exact hF.2) (fun k hk hk2 _ => hF.1.2 k hk hk2) ?_
  have : (List.range ops.size).filter (fun k => !(Array.replicate ops.size false).getD k false) = List.range ops.size := by
    apply List.filter_eq_self.2
    intro k _
    rw [hlist k]; rfl
  rw [this]; simp

end

end Go.Proofs.Ytndpejmebhcaaaa
