/- Texts of one kind, one behind the other (merged by program; the bodies of functions are printed by program). -/
import Derived.Test.YtgadlpdbkohlbaaPQC
import Derived.Orders
import Derived.Test.YtgadlpdbkohlbaaRows
/- The translation of a body into the evaluator's own code, by a function; that it is right. -/
namespace Go.Proofs.Ytgadlpdbkohlbaa
open Go.RowKit
def trOpd (D : Nat) : Operand → Option Opd
 | .tmp t => if t < 2 ^ D then some (.s (bits D t)) else none
 | .const v => some (.c v)
 | .func f => some (.f f)
 | .global _ => none
theorem trOpd_sound {D : Nat} {o : Operand} {x : Opd} (h : trOpd D o = some x) : TrOpd D o x := by
  cases o with
  | tmp t =>
    simp only [trOpd] at h
    split at h
    · rename_i ht
      injection h with h
      subst h
      have := TrOpd.s (D := D) (bits D t) (bits_length D t)
      rw [idx_bits D t ht] at this
      exact this
    · cases h
  | const v => injection h with h; subst h; exact .c v
  | func f => injection h with h; subst h; exact .f f
  | _ => cases h
def trOpds (D : Nat) : List Operand → Option (List Opd)
  | [] => some []
  | o :: os => match trOpd D o, trOpds D os with
    | some x, some xs => some (x :: xs)
    | _, _ => none
theorem trOpds_sound {D : Nat} : ∀ {os : List Operand} {xs : List Opd}, trOpds D os = some xs → TrOpds D os xs
  | [], xs, h => by injection h with h; subst h; exact ⟨rfl, fun i hi => by simp at hi⟩
  | o :: os, xs, h => by
    simp only [trOpds] at h
    split at h
    · rename_i x ys h1 h2
      injection h with h
      subst h
      obtain ⟨h3, h4⟩ := trOpds_sound h2
      refine ⟨by simp [h3], fun i hi hi' => ?_⟩
      cases i with
      | zero => exact trOpd_sound h1
      | succ i => exact h4 i (by simpa using hi) (by simpa using hi')
    · cases h
def trMaybe (D : Nat) : Option Operand → Option (Option Opd)
  | none => some none
  | some o => match trOpd D o with
    | some x => some (some x)
    | none => none
theorem trMaybe_sound {D : Nat} {o : Option Operand} {x : Option Opd} (h : trMaybe D o = some x) : o = none ∧ x = none ∨ ∃ a b, o = some a ∧ x = some b ∧ TrOpd D a b := by
  cases o with
  | none => injection h with h; exact .inl ⟨rfl, h.symm⟩
  | some o =>
    simp only [trMaybe] at h
    split at h
    · rename_i y hy
      injection h with h
      exact .inr ⟨o, y, rfl, h.symm, trOpd_sound hy⟩
    · cases h
def trParts (D n : Nat) : List (Nat × Operand) → Option (List (Nat × Nat × Opd))
  | [] => some []
  | (i, o) :: r => match trOpd D o, trParts D n r with
    | some x, some l => some ((i * n, n, x) :: l)
    | _, _ => none
theorem trParts_sound {D n : Nat} : ∀ {ps : List (Nat × Operand)} {qs : List (Nat × Nat × Opd)}, trParts D n ps = some qs → ps.length = qs.length ∧ ∀ i (h : i < ps.length) (h' : i < qs.length), ps[i].1 * n = qs[i].1 ∧ qs[i].2.1 = n ∧ TrOpd D ps[i].2 qs[i].2.2
  | [], qs, h => by injection h with h; subst h; exact ⟨rfl, fun i hi => by simp at hi⟩
  | (j, o) :: r, qs, h => by
    simp only [trParts] at h
    split at h
    · rename_i x l h1 h2
      injection h with h
      subst h
      obtain ⟨h3, h4⟩ := trParts_sound h2
      refine ⟨by simp [h3], fun i hi hi' => ?_⟩
      cases i with
      | zero => exact ⟨rfl, rfl, trOpd_sound h1⟩
      | succ i => exact h4 i (by simpa using hi) (by simpa using hi')
    · cases h
def fieldPlaces (P : Program) : List Field → Option (List (Nat × Nat))
  | [] => some []
  | f :: r => match P.info? f.type, fieldPlaces P r with
    | some i, some l => some ((f.offset, i.size) :: l)
    | _, _ => none
theorem fieldPlaces_sound {P : Program} : ∀ {fs : List Field} {l : List (Nat × Nat)}, fieldPlaces P fs = some l → fs.length = l.length ∧ ∀ w i (h : i < fs.length) (h' : i < l.length), ((do pure (fs[i].offset, ← sizeOf fs[i].type) : Sem (Nat × Nat)).run P w) = .ok l[i] w
  | [], l, h => by injection h with h; subst h; exact ⟨rfl, fun w i hi => by simp at hi⟩
  | f :: r, l, h => by
    simp only [fieldPlaces] at h
    split at h
    · rename_i x ys h1 h2
      injection h with h
      subst h
      obtain ⟨h3, h4⟩ := fieldPlaces_sound h2
      refine ⟨by simp [h3], fun w i hi hi' => ?_⟩
      cases i with
      | zero => simp [sizeOf, typeInfo, h1]
      | succ i => exact h4 w i (by simpa using hi) (by simpa using hi')
    · cases h
def trFields (D : Nat) (pl : List (Nat × Nat)) : List (Nat × Operand) → Option (List (Nat × Nat × Opd))
  | [] => some []
  | (i, o) :: r => match pl[i]?, trOpd D o, trFields D pl r with
    | some p, some x, some l => some ((p.1, p.2, x) :: l)
    | _, _, _ => none
theorem trFields_sound {D : Nat} {pl : List (Nat × Nat)} : ∀ {ps : List (Nat × Operand)} {qs : List (Nat × Nat × Opd)}, trFields D pl ps = some qs → ps.length = qs.length ∧ ∀ i (h : i < ps.length) (h' : i < qs.length), pl[ps[i].1]? = some (qs[i].1, qs[i].2.1) ∧ TrOpd D ps[i].2 qs[i].2.2
  | [], qs, h => by injection h with h; subst h; exact ⟨rfl, fun i hi => by simp at hi⟩
  | (j, o) :: r, qs, h => by
    simp only [trFields] at h
    split at h
    · rename_i p x l h0 h1 h2
      injection h with h
      subst h
      obtain ⟨h3, h4⟩ := trFields_sound h2
      refine ⟨by simp [h3], fun i hi hi' => ?_⟩
      cases i with
      | zero => exact ⟨h0, trOpd_sound h1⟩
      | succ i => exact h4 i (by simpa using hi) (by simpa using hi')
    · cases h
def isAggD : TypeDesc → Bool
 | .struct _ | .array _ _ => true
 | _ => false
theorem isAggD_yes {d : TypeDesc} (h : isAggD d = true) : (∃ fs, d = .struct fs) ∨ (∃ n e, d = .array n e) := by
 cases d <;> simp [isAggD] at h
 ·exact .inr ⟨_, _, rfl⟩
 ·exact .inl ⟨_, rfl⟩
def isBoolD : Option TypeDesc → Bool
 | some .bool => true
 | _ => false
def stays (ms : List Nat) : Operand → Bool
 | .tmp t => !ms.contains t
 | _ => true
def trLoad (P : Program) (D : Nat) (ms : List Nat) (t : TypeId) (o : Operand) : Option AOp :=
 match P.underlying t, P.info? t, trOpd D o with
 | some d, some i, some x => if isAggD d then some (.ld (stays ms o) x (some i.size)) else some (.ld (stays ms o) x none)
 | _, _, _ => none
def trFld (P : Program) (D : Nat) (t : TypeId) (o : Operand) (i : Nat) : Option AOp :=
  match P.underlying t, trOpd D o with
  | some (.struct fs), some x => match fs[i]? with
    | some f => match P.info? f.type with
      | some inf => if inf.size = 0 then none else some (.fld x f.offset)
      | none => none
    | none => none
  | _, _ => none
def trSl (P : Program) (t : TypeId) : Option (TypeId × TypeInfo) :=
  match P.underlying t with
  | some (.slice e) => match P.info? e with
    | some i => some (e, i)
    | none => none
  | _ => none
theorem trSl_sound {P : Program} {t e : TypeId} {i : TypeInfo} (h : trSl P t = some (e, i)) : P.underlying t = some (.slice e) ∧ P.info? e = some i := by
 unfold trSl at h
 split at h
 ·rename_i e' hu
  split at h
  ·rename_i i' hi
   injection h with h; injection h with h1 h2
   subst h1; subst h2
   exact ⟨hu, hi⟩
  ·cases h
 ·cases h
def trMksl (P : Program) (D : Nat) (t : TypeId) (len : Nat) (ps : List (Nat × Operand)) : Option AOp :=
  match trSl P t with
  | some (_, ie) => match ie.zero, trParts D ie.size ps with
    | some z, some qs => if len * ie.size = 0 then none else if len * ie.size > 2 ^ 24 then none else
      some (.mksl ie.size len ((Array.range (len * ie.size)).map (z.cells[· % z.cells.size]!)).toList qs)
    | _, _ => none
  | none => none
def trBld (P : Program) (D : Nat) (t : TypeId) (ps : List (Nat × Operand)) : Option AOp :=
  match P.underlying t, P.info? t with
  | some (.struct fs), some it => match it.zero, fieldPlaces P fs.toList with
    | some z, some pl => match trFields D pl ps with
      | some qs => some (.bld z.cells.toList qs)
      | none => none
    | _, _ => none
  | _, _ => none
def trLen (P : Program) (D : Nat) (t : TypeId) (o : Operand) : Option AOp :=
 match P.underlying t, trOpd D o with
 | some (.slice _), some x => some (.len false x)
 | some .string, some x => some (.len true x)
 | some (.map _ _), some x => some (.mlen x)
 | _, _ => none
def trKinds (P : Program) : Nat → List Field → Option (List TypeDesc)
  | _, [] => some []
  | i, f :: fs => if f.name = "_" then none else if f.offset = i then match P.underlying f.type, trKinds P (i + 1) fs with
    | some (.int k), some ks => some (.int k :: ks)
    | some .bool, some ks => some (.bool :: ks)
    | some .string, some ks => some (.string :: ks)
    | _, _ => none
    else none
theorem trKinds_sound {P : Program} : ∀ {i : Nat} {fs : List Field} {ks : List TypeDesc}, trKinds P i fs = some ks → FieldsOk P i fs ks
  | i, [], ks, h => by injection h with h; subst h; trivial
  | i, f :: fs, ks, h => by
    simp only [trKinds] at h
    split at h
    · cases h
    · rename_i hn
      split at h
      · rename_i ho
        split at h
        · rename_i hu hk; injection h with h; subst h; exact ⟨hn, ho, hu, trivial, trKinds_sound hk⟩
        · rename_i hu hk; injection h with h; subst h; exact ⟨hn, ho, hu, trivial, trKinds_sound hk⟩
        · rename_i hu hk; injection h with h; subst h; exact ⟨hn, ho, hu, trivial, trKinds_sound hk⟩
        · cases h
      · cases h
def trEq : BinOp → Option Bool
 | .eql => some false
 | .neq => some true
 | _ => none
theorem trEq_sound {b : BinOp} {neg : Bool} (h : trEq b = some neg) : (b = .eql ∧ neg = false) ∨ (b = .neq ∧ neg = true) := by
 cases b <;> simp [trEq] at h <;> subst h <;> simp
def trBin (P : Program) (D : Nat) (b : BinOp) (t : TypeId) (o i : Operand) : Option AOp :=
  match trOpd D o, trOpd D i with
  | some x, some y => match trEq b, P.underlying t with
    | some neg, some (.slice _) => match i with
      | .const (.slice none 0 0) => some (.isnil neg x)
      | _ => none
    | some neg, some (.struct fs) => match trKinds P 0 fs.toList with
      | some ks => if P.stoodInHeld t then none else if P.eqGuardType P.depth t then none else some (.eqs neg x y ks)
      | none => none
    | _, _ => if isBoolD (P.underlying t) then some (.binb b x y) else some (.bin b x y)
  | _, _ => none
def kdOf (P : Program) (kt : TypeId) : Option KD := match P.underlying kt with
  | some .string => some .string
  | some (.int q) => some (.int q)
  | some (.struct fs) => match P.stoodInHeld kt, trKinds P 0 fs.toList with
    | false, some [.int p, .int q] => some (.two p q)
    | _, _ => none
  | _ => none
theorem kdOf_sound {P : Program} {kt : TypeId} {kd : KD} (h : kdOf P kt = some kd) : kdIs P kt kd := by
 unfold kdOf at h
 split at h
 ·rename_i hu; injection h with h; subst h; exact hu
 ·rename_i hu; injection h with h; subst h; exact hu
 ·rename_i fs hu
  split at h
  ·rename_i hst hks
   injection h with h
   subst h
   exact ⟨fs, hu, hst, trKinds_sound hks⟩
  ·cases h
 ·cases h
def trCnv (P : Program) (D : Nat) (s t : TypeId) (o : Operand) : Option AOp :=
  match P.underlying s, P.underlying t, trOpd D o with
  | some (.int _), some (.int k), some x => some (.cnv k x)
  | some (.slice el), some .string, some x => match P.underlying el with
    | some (.int .u8) => some (.cnvs x)
    | _ => none
  | _, _, _ => none
theorem trCnv_sound {P : Program} {D : Nat} {s t : TypeId} {o : Operand} {ao : AOp} (h : trCnv P D s t o = some ao) : TrVal P D (.convert s t o) ao := by
 unfold trCnv at h
 split at h
 ·rename_i h1 h2 h3; injection h with h; subst h; exact .cnv (trOpd_sound h3) h1 h2
 ·rename_i h1 h2 h3
  split at h
  ·rename_i h4; injection h with h; subst h; exact .cnvs (trOpd_sound h3) h1 h4 h2
  ·cases h
 ·cases h
def trSidx (P : Program) (D : Nat) (t : TypeId) (o i : Operand) : Option AOp :=
 match P.underlying t, trOpd D o, trOpd D i with
 | some .string, some x, some y => some (.sidx x y)
 | _, _, _ => none
theorem trSidx_sound {P : Program} {D : Nat} {t : TypeId} {o i : Operand} {ao : AOp} (h : trSidx P D t o i = some ao) : TrVal P D (.index t o i) ao := by
 unfold trSidx at h
 split at h
 ·rename_i h1 h2 h3; injection h with h; subst h; exact .sidx (trOpd_sound h2) (trOpd_sound h3) h1
 ·cases h
def trAidx (P : Program) (D : Nat) (t : TypeId) (o i : Operand) : Option AOp :=
  match P.underlying t, trOpd D o, trOpd D i with
  | some (.array m e), some x, some y => match P.info? e with
    | some inf => some (.aidx x y inf.size m)
    | none => none
  | _, _, _ => none
theorem trAidx_sound {P : Program} {D : Nat} {t : TypeId} {o i : Operand} {ao : AOp} (h : trAidx P D t o i = some ao) : TrVal P D (.indexAddr t o i) ao := by
 unfold trAidx at h
 split at h
 ·rename_i h1 h2 h3
  split at h
  ·rename_i h4; injection h with h; subst h; exact .aidx (trOpd_sound h2) (trOpd_sound h3) h1 h4
  ·cases h
 ·cases h
theorem tyOf_if (b : Bool) (t : TypeId) : tyOf (if b = true then some t else none) t = t := by cases b <;> rfl
def isStrD : Option TypeDesc → Bool
 | some .string => true
 | _ => false
theorem isStrD_yes {d : Option TypeDesc} (h : isStrD d = true) : d = some .string := by
 unfold isStrD at h
 split at h
 ·rfl
 ·cases h
def isZ8 : Option Value → Bool
 | some (.int .u8 n) => n == 0
 | _ => false
theorem isZ8_yes {d : Option Value} (h : isZ8 d = true) : d = some (.int .u8 0) := by
 unfold isZ8 at h
 split at h
 ·rw [beq_iff_eq.1 h]
 ·cases h
def trVal (P : Program) (D : Nat) (ms : List Nat) : Op → Option AOp
 | .convert s t o => trCnv P D s t o
 | .index t o i => trSidx P D t o i
 | .move o => match trOpd D o with | some x => some (.mv x) | none => none
 | .assign o => match trOpd D o with | some x => some (.mv x) | none => none
 | .pick c a b => match trOpd D c, trOpd D a, trOpd D b with | some x, some y, some z => some (.pick x y z) | _, _, _ => none
 | .fieldAddr t o i => trFld P D t o i
 | .load t o => trLoad P D ms t o
 | .indexAddr t o i => match trSl P t, trOpd D o, trOpd D i with | some (_, inf), some x, some y => some (.idx (stays ms o) x y inf.size) | _, _, _ => trAidx P D t o i
 | .binOp b t o i _ => trBin P D b t o i
 | .unOp .not _ o => match trOpd D o with | some x => some (.not x) | none => none
 | .call { callee := .builtin .len, args := ⟨[o]⟩, argTypes := ⟨[t]⟩ } => trLen P D t o
 | .makeFunc (.func F) ⟨[]⟩ ⟨cs⟩ => match trOpds D cs with | some xs => some (.mkfn F xs) | none => none
 | .makeFunc (.func F) ⟨[r]⟩ ⟨[]⟩ => match trOpd D r with | some x => some (.mkbm F x) | none => none
 | .nilCheck o => match trOpd D o with | some x => some (.nck x) | none => none
 | .buildSlice t len ⟨ps⟩ => trMksl P D t len ps
 | .build t ⟨ps⟩ => trBld P D t ps
 | .extract o i => match trOpd D o with | some x => some (.ext x i) | none => none
 | .slice t o lo hi none => if isStrD (P.underlying t) = true then (match trOpd D o, trMaybe D lo, trMaybe D hi with | some x, some l, some h => some (.sslc x l h) | _, _, _ => none) else match trSl P t, trOpd D o, trMaybe D lo, trMaybe D hi with | some (_, inf), some x, some l, some h => some (.slc x l h inf.size) | _, _, _, _ => none
 | _ => none
theorem isBoolD_yes {d : Option TypeDesc} (h : isBoolD d = true) : d = some .bool := by
 unfold isBoolD at h
 split at h
 ·rfl
 ·cases h
theorem trVal_sound {P : Program} {D : Nat} {ms : List Nat} {op : Op} {ao : AOp} (h : trVal P D ms op = some ao) : TrVal P D op ao := by
 unfold trVal at h
 split at h
 ·exact trCnv_sound h
 ·exact trSidx_sound h
 ·split at h
  ·rename_i hx; injection h with h; subst h; exact .mv (trOpd_sound hx)
  ·cases h
 ·split at h
  ·rename_i hx; injection h with h; subst h; exact .asg (trOpd_sound hx)
  ·cases h
 ·split at h
  ·rename_i hx hy hz; injection h with h; subst h; exact .pick (trOpd_sound hx) (trOpd_sound hy) (trOpd_sound hz)
  ·cases h
 ·unfold trFld at h
  split at h
  ·rename_i fs x hu hx
   split at h
   ·rename_i f hf
    split at h
    ·rename_i inf hi
     split at h
     ·cases h
     ·rename_i hz; injection h with h; subst h; exact .fld (trOpd_sound hx) hu hf hi hz
    ·cases h
   ·cases h
  ·cases h
 ·unfold trLoad at h
  split at h
  ·rename_i d i x hu hi hx
   split at h
   ·rename_i hd; injection h with h; subst h; exact .ldk (trOpd_sound hx) hu (isAggD_yes hd) hi _
   ·rename_i hd; injection h with h; subst h; exact .ld1 (trOpd_sound hx) hu (by cases d <;> simp [isAggD] at hd ⊢) _
  ·cases h
 ·split at h
  ·rename_i hs hx hy; injection h with h; subst h
   obtain ⟨h1, h2⟩ := trSl_sound hs
   exact .idx (trOpd_sound hx) (trOpd_sound hy) h1 h2 _
  ·exact trAidx_sound h
 ·unfold trBin at h
  split at h
  ·rename_i hx hy
   split at h
   ·rename_i hq hu
    split at h
    ·injection h with h; subst h; exact .isnil (trEq_sound hq) (trOpd_sound hx) hu
    ·cases h
   ·rename_i hq hu
    split at h
    ·rename_i hk
     split at h
     ·cases h
     ·rename_i hst
      split at h
      ·cases h
      ·rename_i hg
       injection h with h; subst h
       exact .eqs (trEq_sound hq) (trOpd_sound hx) (trOpd_sound hy) hu (by simpa using hst) (by simpa using hg) (trKinds_sound hk)
    ·cases h
   ·split at h
    ·rename_i hb; injection h with h; subst h; exact .binb (trOpd_sound hx) (trOpd_sound hy) (isBoolD_yes hb)
    ·injection h with h; subst h; exact .bin (trOpd_sound hx) (trOpd_sound hy)
  ·cases h
 ·split at h
  ·rename_i hx; injection h with h; subst h; exact .not (trOpd_sound hx)
  ·cases h
 ·unfold trLen at h
  split at h
  ·rename_i hu hx; injection h with h; subst h; exact .lens (trOpd_sound hx) hu
  ·rename_i hu hx; injection h with h; subst h; exact .lenb (trOpd_sound hx) hu
  ·rename_i hu hx; injection h with h; subst h; exact .mlen (trOpd_sound hx) hu
  ·cases h
 ·split at h
  ·rename_i hx; injection h with h; subst h; exact .mkfn (trOpds_sound hx)
  ·cases h
 ·split at h
  ·rename_i hx; injection h with h; subst h; exact .mkbm (trOpd_sound hx)
  ·cases h
 ·split at h
  ·rename_i hx; injection h with h; subst h; exact .nck (trOpd_sound hx)
  ·cases h
 ·unfold trMksl at h
  split at h
  ·rename_i hs
   split at h
   ·rename_i z qs hz hq
    split at h
    ·cases h
    ·rename_i h1
     split at h
     ·cases h
     ·rename_i h2
      injection h with h
      subst h
      obtain ⟨h3, h4⟩ := trSl_sound hs
      obtain ⟨h5, h6⟩ := trParts_sound hq
      exact .mksl h3 h4 hz h1 h2 rfl h5 h6
   ·cases h
  ·cases h
 ·unfold trBld at h
  split at h
  ·rename_i fs it hu hi
   split at h
   ·rename_i z pl hz hpl
    split at h
    ·rename_i qs hq
     injection h with h
     subst h
     obtain ⟨h1, h2⟩ := fieldPlaces_sound hpl
     obtain ⟨h3, h4⟩ := trFields_sound hq
     refine .bld (pl := pl.toArray) hu hi hz (fun w => ?_) h3 (fun i hi hi' => by simpa using h4 i hi hi')
     exact run_mapM_array fs pl (by simpa using h1) (fun i hi hi' => h2 w i hi hi')
    ·cases h
   ·cases h
  ·cases h
 ·split at h
  ·rename_i hx; injection h with h; subst h; exact .ext (trOpd_sound hx)
  ·cases h
 ·split at h
  ·rename_i hu
   split at h
   ·rename_i hx hl hh; injection h with h; subst h
    exact .sslc (trOpd_sound hx) (isStrD_yes hu) (trMaybe_sound hl) (trMaybe_sound hh)
   ·cases h
  ·split at h
   ·rename_i hs hx hl hh; injection h with h; subst h
    obtain ⟨h1, h2⟩ := trSl_sound hs
    exact .slc (trOpd_sound hx) h1 h2 (trMaybe_sound hl) (trMaybe_sound hh)
   ·cases h
 ·cases h
def sameTmp : Operand → Operand → Bool
 | .tmp a, .tmp b => a == b
 | _, _ => false
theorem sameTmp_eq {a b : Operand} (h : sameTmp a b = true) : a = b := by
 unfold sameTmp at h
 split at h
 ·rw [beq_iff_eq] at h
  rw [h]
 ·cases h
def trOpV (P : Program) (D : Nat) (rw : Bool) : Op → Option AOp
  | .buildSlice t 1 ⟨[(0, x)]⟩ => match trSl P t, trOpd D x with
    | some (e, i), some x' => match i.zero with
      | some _ => if i.size = 1 then some (.vop 2 e i.size i.bytes (.c (.bool false)) x') else none
      | none => none
    | _, _ => none
  | .slice t s none (some x) none => match trSl P t, trOpd D s, trOpd D x with
    | some (e, i), some s', some x' => some (.vop 0 e i.size i.bytes s' x')
    | _, _, _ => none
  | .makeSlice t l c => if sameTmp l c = true then match trSl P t, trOpd D l with
    | some (e, i), some l' => match i.zero with
      | some z => if z.cells.size = i.size then some (match rw with | true => .vop 4 e i.size i.bytes l' (.c (.agg z.cells)) | false => .vop 3 e i.size i.bytes l' (.c (.agg z.cells))) else none
      | none => none
    | _, _ => none
    else none
  | .call { callee := .builtin .append, args := ⟨[s, x]⟩, argTypes := ⟨[t, t']⟩ } => if t = t' then match trSl P t, trOpd D s, trOpd D x with
    | some (e, i), some s', some x' => match i.zero with
      | some z => if z.cells.size = i.size ∧ 0 < i.size ∧ 0 < i.bytes then some (.vop 1 e i.size i.bytes s' x') else none
      | none => none
    | _, _, _ => none
    else none
  | _ => none
theorem trOpV_sound {P : Program} {D : Nat} {op : Op} {ao : AOp} {rw : Bool} (h : trOpV P D rw op = some ao) : TrOp P D op ao := by
 unfold trOpV at h
 split at h
 ·split at h
  ·rename_i hs hx
   split at h
   ·rename_i hz
    split at h
    ·rename_i hc; injection h with h; subst h
     obtain ⟨h1, h2⟩ := trSl_sound hs
     exact .mkv h1 h2 hz hc (trOpd_sound hx) _
    ·cases h
   ·cases h
  ·cases h
 ·split at h
  ·rename_i hs hx hy; injection h with h; subst h
   obtain ⟨h1, h2⟩ := trSl_sound hs
   exact .cut h1 h2 (trOpd_sound hx) (trOpd_sound hy)
  ·cases h
 ·split at h
  ·rename_i hlc
   obtain rfl := sameTmp_eq hlc
   split at h
   ·rename_i hs hx
    split at h
    ·rename_i hz
     split at h
     ·rename_i hc; injection h with h; subst h
      obtain ⟨h1, h2⟩ := trSl_sound hs
      cases rw with
      | true => exact .mkr h1 h2 hz hc (trOpd_sound hx)
      | false => exact .mks h1 h2 hz hc (trOpd_sound hx)
     ·cases h
    ·cases h
   ·cases h
  ·cases h
 ·split at h
  ·rename_i ht
   subst ht
   split at h
   ·rename_i hs hx hy
    split at h
    ·rename_i hz
     split at h
     ·rename_i hc; injection h with h; subst h
      obtain ⟨h1, h2⟩ := trSl_sound hs
      exact .push h1 h2 hz hc.1 hc.2.1 hc.2.2 (trOpd_sound hx) (trOpd_sound hy)
     ·cases h
    ·cases h
   ·cases h
  ·cases h
 ·cases h
def trOp0 (P : Program) (D : Nat) (ms : List Nat) (ows : List (FuncId × TypeId × Nat)) (dst : Option Tmp) : Op → Option AOp
  | .box t o => match trOpd D o with
    | some x => some (.boxo (match dst with | some d => !ms.contains d | none => false) (if (match dst with | some d => (ows.find? (·.1 == 5000000 + d)).isSome | none => false) = true then some t else none) x)
    | none => none
  | .alloc t => match P.info? t with
    | some i => match i.zero with
      | some z => some (.new z.cells.toList)
      | none => none
    | none => none
  | .buildSlice t 0 ⟨[]⟩ => match trSl P t with
    | some (e, ie) => some (.nrow e ie.size)
    | none => none
  | .store t a x => match P.info? t, trOpd D a, trOpd D x with
    | some i, some a', some x' => some (.st a' x' i.size)
    | _, _, _ => none
  | .call { callee := .value f, args := ⟨args⟩, argTypes := _ } => match trOpd D f, trOpds D args with
    | some f', some args' => match f with
      | .func F => match ows.find? (·.1 == F) with
        | some (_, _, 0) => some (.calle f' args')
        | some (_, e, n) => if n < 1000 then some (.callo e n f' args') else if n < 2000 then some (.callv e (n - 1000) f' args') else (match kdOf P e with | some kd => some (.callm kd f' args') | none => none)
        | none => some (.call (args.all (stays ms)) f' args')
      | .tmp t => match ows.find? (·.1 == 1000000 + t) with
        | some (_, _, 0) => some (.calle f' args')
        | _ => some (.call (stays ms (.tmp t) && args.all (stays ms)) f' args')
      | f => some (.call (stays ms f && args.all (stays ms)) f' args')
    | _, _ => none
  | .call { callee := .builtin .append, args := ⟨[s, x]⟩, argTypes := ⟨[t, t']⟩ } => if t = t' then match trSl P t, trOpd D s, trOpd D x with
    | some (e, i), some s', some x' => match i.zero with
      | some z => if z.cells.size = i.size ∧ 0 < i.size ∧ 0 < i.bytes then some (if (match dst with | some d => (ows.find? (·.1 == 2000000 + d)).isSome | none => false) = true then .vapp e i.size i.bytes s' x' else .app e i.size i.bytes s' x') else none
      | none => none
    | _, _, _ => none
    else if isStrD (P.underlying t') = true then (match trSl P t, trOpd D s, trOpd D x with
    | some (e, i), some s', some x' => if isZ8 i.zero = true ∧ i.size = 1 ∧ i.bytes = 1 then some (.appo true e 1 1 s' x') else none
    | _, _, _ => none)
    else none
  | .makeMap t none => match P.underlying t with
    | some (.map kt _) => match kdOf P kt with
      | some kd => some (.mmk kd)
      | none => none
    | _ => none
  | .mapUpdate t m k v => match P.underlying t with
    | some (.map kt _) => match kdOf P kt, trOpd D m, trOpd D k, trOpd D v with
      | some kd, some m', some k', some v' => some (.mset false m' k' v' kd)
      | _, _, _, _ => none
    | _ => none
  | .call { callee := .builtin .delete, args := ⟨[m, k]⟩, argTypes := ⟨[t, t']⟩ } => match P.underlying t with
    | some (.map kt _) => match kdOf P kt, trOpd D m, trOpd D k with
      | some kd, some m', some k' => some (.mset true m' k' (.c (.bool false)) kd)
      | _, _, _ => none
    | _ => none
  | .lookup t m k ok => match P.underlying t with
    | some (.map kt et) => match kdOf P kt, P.info? et, trOpd D m, trOpd D k with
      | some kd, some i, some m', some k' => match i.zero with
        | some z => some (.mget m' k' ok kd z)
        | none => none
      | _, _, _, _ => none
    | _ => none
  | op => trVal P D ms op
theorem trOp0_sound {P : Program} {D : Nat} {ms : List Nat} {ows : List (FuncId × TypeId × Nat)} {dst : Option Tmp} {op : Op} {ao : AOp} (h : trOp0 P D ms ows dst op = some ao) : TrOp P D op ao := by
 unfold trOp0 at h
 split at h
 ·split at h
  ·rename_i hx; injection h with h; subst h; exact .box _ _ (tyOf_if _ _) (trOpd_sound hx)
  ·cases h
 ·split at h
  ·rename_i hi
   split at h
   ·rename_i hz; injection h with h; subst h; exact .new hi hz
   ·cases h
  ·cases h
 ·split at h
  ·rename_i hs; injection h with h; subst h
   obtain ⟨h1, h2⟩ := trSl_sound hs
   exact .nrow h1 h2
  ·cases h
 ·split at h
  ·rename_i hi ha hx; injection h with h; subst h; exact .st hi (trOpd_sound ha) (trOpd_sound hx)
  ·cases h
 ·split at h
  ·rename_i hf ha
   split at h
   ·split at h
    ·injection h with h; subst h; exact .calle (trOpd_sound hf) (trOpds_sound ha)
    ·split at h
     ·injection h with h; subst h; exact .callo (trOpd_sound hf) (trOpds_sound ha) _ _
     ·split at h
      ·injection h with h; subst h; exact .callv (trOpd_sound hf) (trOpds_sound ha) _ _
      ·split at h
       ·injection h with h; subst h; exact .callm (trOpd_sound hf) (trOpds_sound ha) _
       ·cases h
    ·injection h with h; subst h; exact .call (trOpd_sound hf) (trOpds_sound ha) _
   ·split at h
    ·injection h with h; subst h; exact .calle (trOpd_sound hf) (trOpds_sound ha)
    ·injection h with h; subst h; exact .call (trOpd_sound hf) (trOpds_sound ha) _
   ·injection h with h; subst h; exact .call (trOpd_sound hf) (trOpds_sound ha) _
  ·cases h
 ·split at h
  ·rename_i ht
   subst ht
   split at h
   ·rename_i hs hx hy
    split at h
    ·rename_i hz
     split at h
     ·rename_i hc; injection h with h; subst h
      obtain ⟨h1, h2⟩ := trSl_sound hs
      have key : ∀ c : Bool, TrOp P D _ (if c = true then _ else _) := fun c => by
       cases c with
       | true => exact TrOp.vapp h1 h2 hz hc.1 hc.2.1 hc.2.2 (trOpd_sound hx) (trOpd_sound hy)
       | false => exact TrOp.app h1 h2 hz hc.1 hc.2.1 hc.2.2 (trOpd_sound hx) (trOpd_sound hy)
      exact key _
     ·cases h
    ·cases h
   ·cases h
  ·split at h
   ·rename_i hu
    split at h
    ·rename_i hs hx hy
     split at h
     ·rename_i hc; injection h with h; subst h
      obtain ⟨h1, h2⟩ := trSl_sound hs
      exact TrOp.apps h1 (isStrD_yes hu) h2 (isZ8_yes hc.1) hc.2.1 hc.2.2 (trOpd_sound hx) (trOpd_sound hy)
     ·cases h
    ·cases h
   ·cases h
 ·split at h
  ·rename_i hu
   split at h
   ·rename_i hk; injection h with h; subst h; exact .mmk hu (kdOf_sound hk)
   ·cases h
  ·cases h
 ·split at h
  ·rename_i hu
   split at h
   ·rename_i hk hm hk' hv; injection h with h; subst h; exact .mset hu (kdOf_sound hk) (trOpd_sound hm) (trOpd_sound hk') (trOpd_sound hv)
   ·cases h
  ·cases h
 ·split at h
  ·rename_i hu
   split at h
   ·rename_i hk hm hk'; injection h with h; subst h; exact .mdel _ rfl hu (kdOf_sound hk) (trOpd_sound hm) (trOpd_sound hk') _
   ·cases h
  ·cases h
 ·split at h
  ·rename_i hu
   split at h
   ·rename_i hk hi hm hk'
    split at h
    ·rename_i hz; injection h with h; subst h
     exact .val (.mget (trOpd_sound hm) (trOpd_sound hk') hu (kdOf_sound hk) (fun w => by simp [zeroValue, typeInfo, hi, hz]) _)
    ·cases h
   ·cases h
  ·cases h
 ·exact .val (trVal_sound h)
def madeAt (ops : Array Oper) (t : Tmp) : Nat → Option Nat
  | 0 => none
  | i + 1 => match ops[i]? with
    | some o => match o.op with
      | .alloc _ => if o.dst = some t then some i else madeAt ops t i
      | _ => madeAt ops t i
    | none => madeAt ops t i
def madeAtM (ows : List (FuncId × TypeId × Nat)) (ops : Array Oper) (t : Tmp) (i : Nat) : Option Nat := if (ows.find? (fun q : FuncId × TypeId × Nat => q.1 == 8000000 + t)).isSome = true then none else madeAt ops t i
def trOpB (P : Program) (D : Nat) (ms : List Nat) (ows : List (FuncId × TypeId × Nat)) (ops : Array Oper) (i : Nat) (dst : Option Tmp) (op : Op) : AOp :=
  match op with
  | .store t (.tmp a) x => match madeAtM ows ops a i with
    | some k => match P.info? t, trOpd D (.tmp a), trOpd D x with
      | some inf, some a', some x' => .ini (i - k) a' x' inf.size
      | _, _, _ => .bad
    | none => (trOp0 P D ms ows dst (.store t (.tmp a) x)).getD .bad
  | op => (trOp0 P D ms ows dst op).getD .bad
theorem trOpB_sound {P : Program} {D : Nat} {ms : List Nat} {ows : List (FuncId × TypeId × Nat)} {ops : Array Oper} {i : Nat} {dst : Option Tmp} {op : Op} : TrOp P D op (trOpB P D ms ows ops i dst op) := by
 have base : ∀ op, TrOp P D op ((trOp0 P D ms ows dst op).getD .bad) := by
  intro op
  cases h : trOp0 P D ms ows dst op with
  | none => exact .bad
  | some ao => exact trOp0_sound h
 unfold trOpB
 split
 ·split
  ·split
   ·rename_i hi ha hx; exact .ini hi (trOpd_sound ha) (trOpd_sound hx) _
   ·exact .bad
  ·exact base _
 ·exact base _
def trMx (P : Program) (D : Nat) : Op → Option AOp
  | .call { callee := .builtin .max, args := ⟨[o, i]⟩, argTypes := _ } => match trOpd D o, trOpd D i with
    | some x, some y => some (.mx x y)
    | _, _ => none
  | .unOp .neg t o => match P.underlying t, trOpd D o with
    | some (.int k), some x => some (.bin .sub (.c (.int k 0)) x)
    | _, _ => none
  | _ => none
def trOpK (P : Program) (D : Nat) (ms : List Nat) (k : Nat) : Op → Option AOp
  | .load t o => match trVal P D ms (.load t o) with
    | some (.ld false x q) => some (.ldk k x q)
    | _ => none
  | .call { callee := .value f, args := ⟨args⟩, argTypes := _ } => match trOpd D f, trOpds D args with
    | some f', some args' => some (.callk k f' args')
    | _, _ => none
  | _ => none
theorem trOpK_sound {P : Program} {D : Nat} {ms : List Nat} {k : Nat} {op : Op} {ao : AOp} (h : trOpK P D ms k op = some ao) : TrOp P D op ao := by
 unfold trOpK at h
 split at h
 ·split at h
  ·rename_i hv; injection h with h; subst h; exact .ldk (trVal_sound hv) _
  ·cases h
 ·split at h
  ·rename_i hf ha; injection h with h; subst h; exact .callk (trOpd_sound hf) (trOpds_sound ha) _
  ·cases h
 ·cases h
def trOp (P : Program) (D : Nat) (ms : List Nat) (ows : List (FuncId × TypeId × Nat)) (ops : Array Oper) (i : Nat) (dst : Option Tmp) (op : Op) : AOp :=
  match (match dst with | some d => ows.find? (fun q : FuncId × TypeId × Nat => q.1 == 6000000 + d) | none => none) with
  | some (_, _, k) => (trOpV P D (k == 4) op).getD .bad
  | none => match (match dst with | some d => ows.find? (fun q : FuncId × TypeId × Nat => q.1 == 7000000 + d) | none => none) with
    | some (_, _, k) => (trOpK P D ms k op).getD .bad
    | none => match trMx P D op with
      | some ao => ao
      | none => trOpB P D ms ows ops i dst op
theorem trOp_sound {P : Program} {D : Nat} {ms : List Nat} {ows : List (FuncId × TypeId × Nat)} {ops : Array Oper} {i : Nat} {dst : Option Tmp} {op : Op} : TrOp P D op (trOp P D ms ows ops i dst op) := by
 unfold trOp
 split
 ·rename_i k _
  cases h : trOpV P D (k == 4) op with
  | none => exact .bad
  | some ao => exact trOpV_sound h
 ·split
  ·rename_i k _
   cases h : trOpK P D ms k op with
   | none => exact .bad
   | some ao => exact trOpK_sound h
  split
  ·rename_i h
   unfold trMx at h
   split at h
   ·split at h
    ·rename_i hx hy; injection h with h; subst h; exact .val (.mx _ (trOpd_sound hx) (trOpd_sound hy))
    ·cases h
   ·split at h
    ·rename_i hx; injection h with h; subst h; exact .val (.neg _ (trOpd_sound hx))
    ·cases h
   ·cases h
  ·exact trOpB_sound
def trDst (D N : Nat) : Option Tmp → Option (Option Slot)
 | none => some none
 | some d => if d < 2 ^ D ∧ d < N then some (some (bits D d)) else none
def trGuard (D N : Nat) (ops : Array Oper) : Option (Nat × Bool) → Option (Option (Slot × Bool))
  | none => some none
  | some (j, want) => match (ops[j]?).bind (·.dst) with
    | some d => if d < 2 ^ D ∧ d < N then some (some (bits D d, want)) else none
    | none => none
def inRegion (ops : Array Oper) (t : Tmp) : Nat → Nat → Bool
  | 0, _ => false
  | f + 1, i => (List.range i).any fun k => match ops[k]? with
    | some o => o.dst == some t && (match o.op with
      | .alloc _ => true
      | .buildSlice _ 0 _ => true
      | op => op.operands.toList.any fun x => match x with | .tmp u => inRegion ops u f k | _ => false)
    | none => false
def reads (ops : Array Oper) (i : Nat) (op : Op) : Option Nat := if op.operands.toList.any fun x => match x with | .tmp u => inRegion ops u 8 i | _ => false then none else some i
def trOper (P : Program) (D N : Nat) (ms : List Nat) (ows : List (FuncId × TypeId × Nat)) (ops : Array Oper) (dw : Option (List Slot)) (i : Nat) (o : Oper) : Option AOper :=
 match trDst D N o.dst, trGuard D N ops o.guard with
 | some d, some g => some ⟨d, g, trOp P D ms ows ops i o.dst o.op, match dw with | some ps => (reads ops i o.op).map fun i => (i, ps) | none => none⟩
 | _, _ => none
theorem trOper_sound {P : Program} {D N : Nat} {ms : List Nat} {ows : List (FuncId × TypeId × Nat)} {ops : Array Oper} {dw : Option (List Slot)} {i : Nat} {o : Oper} {ao : AOper} (h : trOper P D N ms ows ops dw i o = some ao) : TrOper P D N ops o ao := by
  unfold trOper at h
  split at h
  · rename_i d g hd hg
    injection h with h
    subst h
    have h1 : o.dst = d.map Slot.idx ∧ ∀ p, d = some p → p.length = D ∧ p.idx < N := by
      cases hdst : o.dst with
      | none => rw [hdst] at hd; injection hd with hd; subst hd; exact ⟨rfl, fun p h => by cases h⟩
      | some t =>
        rw [hdst] at hd
        simp only [trDst] at hd
        split at hd
        · rename_i ht
          injection hd with hd
          subst hd
          exact ⟨by simp [idx_bits D t ht.1], fun p hp => by injection hp with hp; subst hp; exact ⟨bits_length D t, by rw [idx_bits D t ht.1]; exact ht.2⟩⟩
        · cases hd
    refine ⟨h1.1, h1.2, ?_, trOp_sound⟩
    cases hgd : o.guard with
    | none => rw [hgd] at hg; injection hg with hg; subst hg; exact .inl ⟨rfl, rfl⟩
    | some jw =>
      obtain ⟨j, want⟩ := jw
      rw [hgd] at hg
      simp only [trGuard] at hg
      split at hg
      · rename_i t ht
        split at hg
        · rename_i hlt
          injection hg with hg
          subst hg
          exact .inr ⟨j, want, bits D t, rfl, rfl, bits_length D t, by rw [idx_bits D t hlt.1]; exact hlt.2, by rw [idx_bits D t hlt.1]; exact ht⟩
        · cases hg
      · cases hg
  · cases h
def trOpers (P : Program) (D N : Nat) (ms : List Nat) (ows : List (FuncId × TypeId × Nat)) (ops : Array Oper) (dw : Option (List Slot)) : Nat → List Oper → Option (List AOper)
  | _, [] => some []
  | i, o :: os => match trOper P D N ms ows ops dw i o, trOpers P D N ms ows ops dw (i + 1) os with
    | some x, some xs => some (x :: xs)
    | _, _ => none
theorem trOpers_sound {P : Program} {D N : Nat} {ms : List Nat} {ows : List (FuncId × TypeId × Nat)} {ops : Array Oper} {dw : Option (List Slot)} : ∀ {j : Nat} {os : List Oper} {xs : List AOper}, trOpers P D N ms ows ops dw j os = some xs → os.length = xs.length ∧ ∀ (i : Nat) (o : Oper) (ao : AOper), os[i]? = some o → xs[i]? = some ao → TrOper P D N ops o ao
  | _, [], xs, h => by injection h with h; subst h; exact ⟨rfl, fun i o ao hi => by simp at hi⟩
  | _, o :: os, xs, h => by
    simp only [trOpers] at h
    split at h
    · rename_i x ys h1 h2
      injection h with h
      subst h
      obtain ⟨h3, h4⟩ := trOpers_sound h2
      refine ⟨by simp [h3], fun i o' ao hi hi' => ?_⟩
      cases i with
      | zero =>
        simp at hi hi'
        subst hi; subst hi'
        exact trOper_sound h1
      | succ i => exact h4 i o' ao (by simpa using hi) (by simpa using hi')
    · cases h
def frzs (D : Nat) (ms : List Nat) (ows : List (FuncId × TypeId × Nat)) (os : List AOper) : List Slot := os.filterMap fun o => match o.op with
  | .ini _ (.s p) _ _ => if ms.contains p.idx || !(p.length == D) then none else some p
  | _ => match o.dst with
    | some p => if (ows.find? (·.1 == 3000000 + p.idx)).isSome && p.length == D then some p else none
    | none => none
def wrapF (c : ACode) : List Slot → ACode
 | [] => c
 | p :: ps => wrapF (.seq c (.frz p)) ps
theorem wrapF_sound {P : Program} {D N : Nat} {ms : List Nat} {ows : List (FuncId × TypeId × Nat)} {c : Code} {os : List AOper} {ac : ACode} (h : TrCode P D N c ac) : TrCode P D N c (wrapF ac (frzs D ms ows os)) := by
 have key : ∀ (ps : List Slot) (ac : ACode), (∀ p ∈ ps, p.length = D) → TrCode P D N c ac → TrCode P D N c (wrapF ac ps) := by
  intro ps
  induction ps with
  | nil => intro ac _ h; exact h
  | cons p ps ih => intro ac hp h; exact ih _ (fun q hq => hp q (List.mem_cons_of_mem _ hq)) (.frz h (hp p (by simp)))
 refine key _ _ (fun p hp => ?_) h
 obtain ⟨o, _, ho⟩ := List.mem_filterMap.1 hp
 split at ho
 ·split at ho
  ·cases ho
  ·rename_i hc
   injection ho with ho
   subst ho
   simp at hc
   exact hc.2
 ·split at ho
  ·split at ho
   ·rename_i hc
    injection ho with ho
    subst ho
    simp at hc
    exact hc.2
   ·cases ho
  ·cases ho
def frzsB (D : Nat) (ows : List (FuncId × TypeId × Nat)) (os : List AOper) : List Slot := os.filterMap fun o => match o.op with
 | .ld _ (.s p) (some _) => if (ows.find? (·.1 == 4000000 + p.idx)).isSome && p.length == D then some p else none
 | _ => none
def wrapB (c : ACode) : List Slot → ACode
 | [] => c
 | p :: ps => .seq (.frz p) (wrapB c ps)
theorem wrapB_sound {P : Program} {D N : Nat} {ows : List (FuncId × TypeId × Nat)} {c : Code} {os : List AOper} {ac : ACode} (h : TrCode P D N c ac) : TrCode P D N c (wrapB ac (frzsB D ows os)) := by
 have key : ∀ (ps : List Slot), (∀ p ∈ ps, p.length = D) → TrCode P D N c (wrapB ac ps) := by
  intro ps
  induction ps with
  | nil => intro _; exact h
  | cons p ps ih => intro hp; exact .frzb (ih fun q hq => hp q (List.mem_cons_of_mem _ hq)) (hp p (by simp))
 refine key _ (fun p hp => ?_)
 obtain ⟨o, _, ho⟩ := List.mem_filterMap.1 hp
 split at ho
 ·split at ho
  ·rename_i hc
   injection ho with ho
   subst ho
   simp at hc
   exact hc.2
  ·cases ho
 ·cases ho
def storesTo (D : Nat) (ops : Array Oper) : List Slot := ops.toList.filterMap fun o => match o.op with
 | .store _ (.tmp t) _ => if ops.toList.any (fun q => q.dst == some t) then none else some (bits D t)
 | _ => none
def trReg1 (P : Program) (D N : Nat) (ms : List Nat) (ows : List (FuncId × TypeId × Nat)) (dr : Array Oper → List AOper → Bool) (ops : Array Oper) (dw : Option (List Slot)) : Option ACode :=
 match trOpers P D N ms ows ops dw 0 ops.toList with
 | some os => if noDefer ops && (dw.isNone || dr ops os) then some (wrapB (wrapF (.reg os) (frzs D ms ows os)) (frzsB D ows os)) else none
 | none => none
def trReg (P : Program) (D N : Nat) (ms : List Nat) (ows : List (FuncId × TypeId × Nat)) (dr : Array Oper → List AOper → Bool) (ops : Array Oper) (draw : Bool) : Option ACode :=
  match draw with
  | false => trReg1 P D N ms ows dr ops none
  | true => match trReg1 P D N ms ows dr ops (some []) with
    | some c => some c
    | none => match trReg1 P D N ms ows dr ops (some (storesTo D ops)) with
      | some c => some c
      | none => trReg1 P D N ms ows dr ops (some ([] :: storesTo D ops))
def trCode (P : Program) (D N : Nat) (ms : List Nat) (ows : List (FuncId × TypeId × Nat)) (dr : Array Oper → List AOper → Bool) : Code → Option ACode
  | .skip => some .skip
  | .region _ ops draw => trReg P D N ms ows dr ops draw
  | .seq a b => match trCode P D N ms ows dr a, trCode P D N ms ows dr b with
    | some a', some b' => some (.seq a' b')
    | _, _ => none
  | .cond c t f => match trOpd D c, trCode P D N ms ows dr t, trCode P D N ms ows dr f with
    | some c', some t', some f' => some (.cond c' t' f')
    | _, _, _ => none
  | .block id b => match trCode P D N ms ows dr b with
    | some b' => some (.block id b')
    | none => none
  | .loop b => match trCode P D N ms ows dr b with
    | some b' => some (.loop b')
    | none => none
  | .exit id => some (.exit id)
  | .ret => some .ret
  | .scope c => trCode P D N ms ows dr c
  | .label _ => some .skip
  | .rangeFunc g ps asn body => match trOpd D g, trCode P D N ms ows dr asn, trCode P D N ms ows dr body with
    | some g', some asn', some body' => if plainB asn' && plainB body' && ps.toList.all (fun t => decide (t < 2 ^ D) && decide (t < N)) then some (.rng g' (ps.toList.map (bits D)) asn' body') else some .bad
    | _, _, _ => some .bad
  | _ => some .bad
theorem trCode_sound {P : Program} {D N : Nat} {ms : List Nat} {ows : List (FuncId × TypeId × Nat)} {dr : Array Oper → List AOper → Bool} (hdr : ∀ id ops os, noDefer ops = true → ops.size = os.length → (∀ (i : Nat) (o : Oper) (ao : AOper), ops[i]? = some o → os[i]? = some ao → TrOper P D N ops o ao) → dr ops os = true → RegOk P D N id ops true os) :
    ∀ {c : Code} {ac : ACode}, trCode P D N ms ows dr c = some ac → TrCode P D N c ac := by
  intro c
  induction c with
  | skip => intro ac h; injection h with h; subst h; exact .skip
  | region id ops draw =>
    intro ac h
    simp only [trCode] at h
    have key : ∀ dw, (dw.isNone = true → draw = false) → (dw.isNone = false → draw = true) → trReg1 P D N ms ows dr ops dw = some ac → TrCode P D N (.region id ops draw) ac := by
      intro dw hd1 hd2 h
      unfold trReg1 at h
      split at h
      · rename_i os hos
        split at h
        · rename_i hd
          obtain ⟨hnd, hd⟩ := (Bool.and_eq_true _ _).mp hd
          injection h with h
          subst h
          obtain ⟨h1, h2⟩ := trOpers_sound hos
          have h2' : ∀ (i : Nat) (o : Oper) (ao : AOper), ops[i]? = some o → os[i]? = some ao → TrOper P D N ops o ao := fun i o ao hi hi' => h2 i o ao (by simpa using hi) hi'
          cases hdw : dw.isNone with
          | true => obtain rfl := hd1 hdw; exact wrapB_sound (wrapF_sound (.reg (regOk_seq hnd (by simpa using h1) h2')))
          | false => obtain rfl := hd2 hdw; exact wrapB_sound (wrapF_sound (.reg (hdr id ops os hnd (by simpa using h1) h2' (by simpa [hdw] using hd))))
        · cases h
      · cases h
    unfold trReg at h
    split at h
    · exact key none (fun _ => rfl) (fun h => by cases h) h
    · split at h
      · rename_i h1
        injection h with h
        subst h
        exact key _ (fun h => by cases h) (fun _ => rfl) h1
      · split at h
        · rename_i h1
          injection h with h
          subst h
          exact key _ (fun h => by cases h) (fun _ => rfl) h1
        · exact key _ (fun h => by cases h) (fun _ => rfl) h
  | seq a b iha ihb =>
    intro ac h
    simp only [trCode] at h
    split at h
    · rename_i ha hb; injection h with h; subst h; exact .seq (iha ha) (ihb hb)
    · cases h
  | cond c t f iht ihf =>
    intro ac h
    simp only [trCode] at h
    split at h
    · rename_i hc ht hf; injection h with h; subst h; exact .cond (trOpd_sound hc) (iht ht) (ihf hf)
    · cases h
  | block id b ih =>
    intro ac h
    simp only [trCode] at h
    split at h
    · rename_i hb; injection h with h; subst h; exact .block (ih hb)
    · cases h
  | loop b ih =>
    intro ac h
    simp only [trCode] at h
    split at h
    · rename_i hb; injection h with h; subst h; exact .loop (ih hb)
    · cases h
  | exit id => intro ac h; injection h with h; subst h; exact .exit
  | ret => intro ac h; injection h with h; subst h; exact .ret
  | rangeFunc g ps asn body iha ihb =>
    intro ac h
    simp only [trCode] at h
    split at h
    · rename_i hg ha hb
      split at h
      · rename_i hc
        injection h with h
        subst h
        simp only [Bool.and_eq_true, List.all_eq_true, decide_eq_true_eq] at hc
        obtain ⟨⟨h1, h2⟩, h3⟩ := hc
        refine .rng _ (trOpd_sound hg) ?_ ?_ (iha ha) (ihb hb) h1 h2
        · rw [List.map_map]
          have : ps.toList.map (Slot.idx ∘ bits D) = ps.toList := by
            conv => rhs; rw [← List.map_id ps.toList]
            exact List.map_congr_left fun t ht => idx_bits D t (h3 t ht).1
          rw [this]
        · intro p hp
          obtain ⟨t, ht, rfl⟩ := List.mem_map.1 hp
          exact ⟨bits_length D t, by rw [idx_bits D t (h3 t ht).1]; exact (h3 t ht).2⟩
      · injection h with h; subst h; exact .bad
    · injection h with h; subst h; exact .bad
  | scope c ih => intro ac h; simp only [trCode] at h; exact .scope (ih h)
  | label l => intro ac h; simp only [trCode] at h; injection h with h; subst h; exact .label
  | _ => intro ac h; simp only [trCode] at h; injection h with h; subst h; exact .bad
def trRes (P : Program) (D : Nat) : ResultVar → Option ARes
  | .tmp t => if t < 2 ^ D then some (.tmp (bits D t)) else none
  | .cell t ty => if t < 2 ^ D then match P.underlying ty, P.info? ty with
    | some d, some i => if isAggD d then some (.cell (bits D t) (some i.size)) else some (.cell (bits D t) none)
    | _, _ => none
    else none
def trRess (P : Program) (D : Nat) : List ResultVar → Option (List ARes)
  | [] => some []
  | o :: os => match trRes P D o, trRess P D os with
    | some x, some xs => some (x :: xs)
    | _, _ => none
theorem trRes_sound {P : Program} {D : Nat} {o : ResultVar} {x : ARes} (h : trRes P D o = some x) : TrRes P D o x := by
  cases o with
  | tmp t =>
    simp only [trRes] at h
    split at h
    · rename_i ht
      injection h with h
      subst h
      have := TrRes.tmp (P := P) (D := D) (bits D t) (bits_length D t)
      rwa [idx_bits D t ht] at this
    · cases h
  | cell t ty =>
    simp only [trRes] at h
    split at h
    · rename_i ht
      split at h
      · rename_i d i hu hi
        split at h
        · rename_i hd
          injection h with h
          subst h
          have := TrRes.cellk (P := P) (D := D) (bits D t) (bits_length D t) hu (isAggD_yes hd) hi
          rwa [idx_bits D t ht] at this
        · rename_i hd
          injection h with h
          subst h
          have := TrRes.cell1 (P := P) (D := D) (bits D t) (bits_length D t) hu (by cases d <;> simp [isAggD] at hd ⊢)
          rwa [idx_bits D t ht] at this
      · cases h
    · cases h
theorem trRess_sound {P : Program} {D : Nat} : ∀ {os : List ResultVar} {xs : List ARes}, trRess P D os = some xs → os.length = xs.length ∧ ∀ i (h : i < os.length) (h' : i < xs.length), TrRes P D os[i] xs[i]
  | [], xs, h => by injection h with h; subst h; exact ⟨rfl, fun i hi => by simp at hi⟩
  | o :: os, xs, h => by
    simp only [trRess] at h
    split at h
    · rename_i x ys h1 h2
      injection h with h
      subst h
      obtain ⟨h3, h4⟩ := trRess_sound h2
      refine ⟨by simp [h3], fun i hi hi' => ?_⟩
      cases i with
      | zero => exact trRes_sound h1
      | succ i => exact h4 i (by simpa using hi) (by simpa using hi')
    · cases h
end Go.Proofs.Ytgadlpdbkohlbaa
/- Regions that draw their order: where operations that are not ordered do not see each other, any order does as the list. -/
namespace Go.Proofs.Ytgadlpdbkohlbaa
open Go.RowKit
def Opd.slots : Opd → List Slot
 | .s p => [p]
 | _ => []
def optSlots : Option Opd → List Slot
 | some x => x.slots
 | none => []
def AOp.slots : AOp → List Slot
 | .mv x | .fld x _ | .ld _ x _ | .ldk _ x _ | .not x | .len _ x | .ext x _ | .boxo _ _ x | .nck x | .mkbm _ x => x.slots
 | .sslc x lo hi => x.slots ++ (optSlots lo ++ optSlots hi)
 | .pick c a b => c.slots ++ (a.slots ++ b.slots)
 | .idx _ x i _ => x.slots ++ i.slots
 | .bin _ x y | .binb _ x y => x.slots ++ y.slots
 | .mkfn _ caps => caps.flatMap Opd.slots
 | .mksl _ _ _ ps => ps.flatMap fun p => p.2.2.slots
 | .bld _ ps => ps.flatMap fun p => p.2.2.slots
 | .slc x lo hi _ => x.slots ++ (optSlots lo ++ optSlots hi)
 | .call _ f args | .callo _ _ f args | .callv _ _ f args | .calle f args | .callk _ f args | .callm _ f args => f.slots ++ args.flatMap Opd.slots
 | .ini _ a x _ => a.slots ++ x.slots
 | .mget x k _ _ _ => x.slots ++ k.slots
 | .mlen x => x.slots
 | .isnil _ x => x.slots
 | .eqs _ x y _ => x.slots ++ y.slots
 | .cnv _ x => x.slots
 | .cnvs x => x.slots
 | .sidx x i => x.slots ++ i.slots
 | .mx x i => x.slots ++ i.slots
 | .aidx x i _ _ => x.slots ++ i.slots
 | .vapp _ _ _ s x => s.slots ++ x.slots
 | .vop _ _ _ _ s x => s.slots ++ x.slots
 | .mmk _ => []
 | .mset _ x k v _ => x.slots ++ (k.slots ++ v.slots)
 | .bad => []
 | .new _ | .nrow _ _ => []
 | .st a x _ => a.slots ++ x.slots
 | .appo _ _ _ _ s x => s.slots ++ x.slots
def lowSl : Option (Nat × List Slot) → List Slot
 | some (_, ps) => ps
 | none => []
def lowUse (lo : Option (Nat × List Slot)) : List Slot := (lowSl lo).filter fun p => !p.isEmpty
def AOper.uses (o : AOper) : List Slot := (match o.guard with | some (p, _) => [p] | none => []) ++ (o.op.slots ++ lowUse o.low)
inductive Cls where
 | P | L | O | A | I | S | M
 deriving DecidableEq
def AOp.cls : AOp → Cls
 | .ld false .. | .ldk .. | .idx false .. | .len .. | .bld .. | .call false .. | .mget .. | .mlen .. => .L
 | .new _ | .nrow _ _ => .A
 | .ini .. => .I
 | .st (.s _) .. => .S
 | .st .. | .appo .. | .vapp .. | .vop .. | .boxo false _ _ | .callo .. | .callv .. | .calle .. | .callk .. | .callm .. | .mmk .. | .mset .. => .M
 | _ => .P
def back : AOp → Nat
 | .ini b _ _ _ => b
 | _ => 0
def AOper.cls (i : Nat) (o : AOper) : Cls :=
 match o.op.cls with
 | .L => if o.low = some (i, lowSl o.low) then .O else .L
 | c => c
def stSlot : AOp → Slot
 | .st (.s p) _ _ => p
 | _ => []
def isApp : AOp → Bool
 | .appo .. => true
 | _ => false
def isMade : AOp → Bool
 | .boxo false _ _ => true
 | .callo .. => true
 | .vop (_ + 2) _ _ _ _ _ => true
 | _ => false
def conf (i : Nat) (a : AOper) (j : Nat) (b : AOper) : Bool :=
 match a.cls i, b.cls j with
 | .P, _ | _, .P | .L, .L | .O, .L | .L, .O | .O, .O | .A, .A | .O, .A | .A, .O => false
 | .S, .O => !((lowSl b.low).contains (stSlot a.op) && !(stSlot a.op).isEmpty)
 | .O, .S => !((lowSl a.low).contains (stSlot b.op) && !(stSlot b.op).isEmpty)
 | .M, .O => !((isApp a.op && (lowSl b.low).contains []) || isMade a.op)
 | .O, .M => !((isApp b.op && (lowSl a.low).contains []) || isMade b.op)
 | .O, .I => !decide (back b.op ≤ j)
 | .I, .O => !decide (back a.op ≤ i)
 | .A, .I => !(decide (back b.op ≤ j) && (j - back b.op != i))
 | .I, .A => !(decide (back a.op ≤ i) && (i - back a.op != j))
 | .I, .I => !(decide (back a.op ≤ i) && decide (back b.op ≤ j) && (i - back a.op != j - back b.op))
 | _, _ => true
theorem cls_op {i : Nat} {o : AOper} {c : Cls} (h : o.cls i = c) (h1 : c ≠ .L) (h2 : c ≠ .O) : o.op.cls = c := by
 unfold AOper.cls at h
 split at h
 ·split at h
  ·exact absurd h.symm h2
  ·exact absurd h.symm h1
 ·exact h
theorem cls_notO (op : AOp) : op.cls ≠ .O := by
 cases op with
 | boxo imm ty x => cases imm <;> simp [AOp.cls]
 | ld c x k => cases c <;> simp [AOp.cls]
 | idx c x i n => cases c <;> simp [AOp.cls]
 | call c f a => cases c <;> simp [AOp.cls]
 | st a x k => cases a <;> simp [AOp.cls]
 | _ => simp [AOp.cls]
theorem cls_low {i : Nat} {o : AOper} (h : o.cls i = .O) : o.op.cls = .L ∧ o.low = some (i, lowSl o.low) := by
 unfold AOper.cls at h
 split at h
 ·rename_i hL
  split at h
  ·rename_i hl; exact ⟨hL, hl⟩
  ·cases h
 ·exact absurd h (cls_notO _)
theorem cls_read {i : Nat} {o : AOper} (h : o.cls i = .L) : o.op.cls = .L := by
 unfold AOper.cls at h
 split at h
 ·rename_i hL; exact hL
 ·exact h
def noDst : AOper → Bool
 | ⟨some _, _, .st .., _⟩ => false
 | ⟨some _, _, .ini .., _⟩ => false
 | ⟨some _, _, .mset .., _⟩ => false
 | _ => true
def stpV (r : Rz) (id : Nat) (ao : AOper) (e : T) (H : Heap) : AV :=
 match ao.op with
 | .call _ _ _ => wrap e ao.guard (.d r.x)
 | .callo _ _ _ _ => .own id (lenOf r.x)
 | .callv _ _ _ _ => .own id (lenOf r.x)
 | .calle _ _ => .d r.x
 | .callk _ _ _ => .d r.x
 | .callm _ _ _ => .mp id
 | .ini _ _ _ _ => .d .top
 | .boxo true _ x => match allD (x.av e).strip.cells with | some ds => .d (.cref ds 0) | none => .d .top
 | .boxo false _ _ => .ptr id 0
 | .new _ => .ptr id 0
 | .nrow _ _ => .own id 0
 | .st _ _ _ => .d .top
 | .appo str t n _ s x => (appV H t n id (s.av e).strip (strIf str (x.av e).strip)).1
 | .vapp t n _ s x => (appG true H t n id (s.av e).strip (x.av e).strip).1
 | .vop k t n _ s x => (vopG k H t n id (s.av e).strip (x.av e).strip).1
 | .mmk _ => .mp id
 | .mset _ _ _ _ _ => .d .top
 | op => wrap e ao.guard (op.val e (ao.hv e id H))
def stpH (r : Rz) (id : Nat) (ao : AOper) (e : T) (H : Heap) : Heap :=
 match ao.op with
 | .callo te _ _ _ => hadd id (ownOf te r.x) H
 | .callv te _ _ _ => hadd id (vecOf te r.x) H
 | .calle _ _ => effH r H
 | .callk k _ _ => effK k r H
 | .callm kd _ _ => hadd id (mpOf kd r) H
 | .ini back _ x _ => hset H (id - back) (.box (x.av e).strip.cells)
 | .boxo false ty x => hadd id (.boxT ty (x.av e).strip.cells) H
 | .new zs => hadd id (.box (zs.map fun z => .d (.lit z))) H
 | .nrow t n => hadd id (.row t n 0 fun _ => []) H
 | .st a x _ => stH H (a.av e).strip (x.av e).strip
 | .appo str t n _ s x => (appV H t n id (s.av e).strip (strIf str (x.av e).strip)).2
 | .vapp t n _ s x => (appG true H t n id (s.av e).strip (x.av e).strip).2
 | .vop k t n _ s x => (vopG k H t n id (s.av e).strip (x.av e).strip).2
 | .mmk kd => hadd id (.map kd 0 fun _ => none) H
 | .mset dl x k v _ => msetH dl H (x.av e).strip (k.av e).strip (v.av e).strip
 | _ => H
theorem stp_eq {r : Rz} {id : Nat} {ao : AOper} (h : noDst ao = true) (e : T) (H : Heap) : stp r id ao e H = (setD e ao.dst (stpV r id ao e H), stpH r id ao e H) := by
  obtain ⟨dst, gd, op, lo⟩ := ao
  cases op with
  | boxo imm ty x => cases imm <;> rfl
  | st a x k =>
    cases dst with
    | none => rfl
    | some p => simp [noDst] at h
  | ini b a x k =>
    cases dst with
    | none => rfl
    | some p => simp [noDst] at h
  | mset dl x k v kd =>
    cases dst with
    | none => rfl
    | some p => simp [noDst] at h
  | _ => rfl
def Agree (e e' : T) (l : List Slot) : Prop := ∀ p ∈ l, e.get p = e'.get p
theorem Agree.left {e e' : T} {l m : List Slot} (h : Agree e e' (l ++ m)) : Agree e e' l := fun p hp => h p (by simp [hp])
theorem Agree.right {e e' : T} {l m : List Slot} (h : Agree e e' (l ++ m)) : Agree e e' m := fun p hp => h p (by simp [hp])
theorem Agree.av {e e' : T} {x : Opd} (h : Agree e e' x.slots) : x.av e = x.av e' := by
 cases x with
 | s p => exact h p (by simp [Opd.slots])
 | c v => rfl
 | f F => rfl
theorem Agree.avs {e e' : T} {xs : List Opd} (h : Agree e e' (xs.flatMap Opd.slots)) : ∀ x ∈ xs, x.av e = x.av e' := fun x hx => Agree.av fun p hp => h p (List.mem_flatMap.2 ⟨x, hx, hp⟩)
theorem Agree.parts {e e' : T} {ps : List (Nat × Nat × Opd)} (h : Agree e e' (ps.flatMap fun p => p.2.2.slots)) : ∀ x ∈ ps, x.2.2.av e = x.2.2.av e' := fun x hx => Agree.av fun p hp => h p (List.mem_flatMap.2 ⟨x, hx, hp⟩)
theorem partsV_congr {e e' : T} {ps : List (Nat × Nat × Opd)} (h : ∀ x ∈ ps, x.2.2.av e = x.2.2.av e') : partsV e ps = partsV e' ps := by
 unfold partsV
 exact List.map_congr_left fun x hx => by rw [h x hx]
theorem liveAll_congr {e e' : T} {xs : List Opd} (h : ∀ x ∈ xs, x.av e = x.av e') : liveAll e xs = liveAll e' xs := by
 unfold liveAll
 apply propext
 exact ⟨fun k x hx => by rw [← h x hx]; exact k x hx, fun k x hx => by rw [h x hx]; exact k x hx⟩
theorem liveParts_congr {e e' : T} {ps : List (Nat × Nat × Opd)} (h : ∀ x ∈ ps, x.2.2.av e = x.2.2.av e') : liveAll e (ps.map fun p => p.2.2) = liveAll e' (ps.map fun p => p.2.2) :=
 liveAll_congr fun x hx => by
  obtain ⟨p, hp, rfl⟩ := List.mem_map.1 hx
  exact h p hp
theorem bndV_congr {e e' : T} {lo : Option Opd} (h : Agree e e' (optSlots lo)) (d : Int) : bndV e d lo = bndV e' d lo := by
 cases lo with
 | none => rfl
 | some x => simp only [bndV, Agree.av (x := x) h]
theorem bndOk_congr {e e' : T} {lo : Option Opd} (h : Agree e e' (optSlots lo)) : bndOk e lo = bndOk e' lo := by
 cases lo with
 | none => rfl
 | some x => simp only [bndOk, Agree.av (x := x) h]
theorem val_congr {e e' : T} {op : AOp} (h : Agree e e' op.slots) (H : Heap) : op.val e H = op.val e' H := by
  cases op with
  | mv x => simp only [AOp.val, Agree.av (x := x) h]
  | pick c a b => simp only [AOp.val, Agree.av (x := c) h.left, Agree.av (x := a) h.right.left, Agree.av (x := b) h.right.right]
  | fld x off => simp only [AOp.val, Agree.av (x := x) h]
  | ld c x k => simp only [AOp.val, Agree.av (x := x) h]
  | ldk c x k => simp only [AOp.val, Agree.av (x := x) h]
  | idx c x i n => simp only [AOp.val, Agree.av (x := x) h.left, Agree.av (x := i) h.right]
  | bin o x y => simp only [AOp.val, Agree.av (x := x) h.left, Agree.av (x := y) h.right]
  | binb o x y => simp only [AOp.val, Agree.av (x := x) h.left, Agree.av (x := y) h.right]
  | not x => simp only [AOp.val, Agree.av (x := x) h]
  | len s x => simp only [AOp.val, Agree.av (x := x) h]
  | mkfn F caps =>
    simp only [AOp.val]
    congr 1
    exact List.map_congr_left fun x hx => by rw [Agree.avs h x hx]
  | mksl n m zs ps => simp only [AOp.val, partsV_congr (Agree.parts h)]
  | bld zs ps => simp only [AOp.val, partsV_congr (Agree.parts h)]
  | ext x i => simp only [AOp.val, Agree.av (x := x) h]
  | slc x lo hi n => simp only [AOp.val, Agree.av (x := x) h.left, bndV_congr h.right.left, bndV_congr h.right.right]
  | mget x k ok kd z => simp only [AOp.val, Agree.av (x := x) h.left, Agree.av (x := k) h.right]
  | mlen x => simp only [AOp.val, Agree.av (x := x) h]
  | isnil neg x => simp only [AOp.val, Agree.av (x := x) h]
  | eqs neg x y ks => simp only [AOp.val, Agree.av (x := x) h.left, Agree.av (x := y) h.right]
  | cnv k x => simp only [AOp.val, Agree.av (x := x) h]
  | cnvs x => simp only [AOp.val, Agree.av (x := x) h]
  | sidx x i => simp only [AOp.val, Agree.av (x := x) h.left, Agree.av (x := i) h.right]
  | mx x i => simp only [AOp.val, Agree.av (x := x) h.left, Agree.av (x := i) h.right]
  | aidx x i n m => simp only [AOp.val, Agree.av (x := x) h.left, Agree.av (x := i) h.right]
  | nck x => simp only [AOp.val, Agree.av (x := x) h]
  | mkbm F x => simp only [AOp.val, Agree.av (x := x) h]
  | sslc x lo hi => simp only [AOp.val, Agree.av (x := x) h.left, bndV_congr h.right.left, bndV_congr h.right.right]
  | _ => rfl
theorem ok_congr {e e' : T} {op : AOp} (h : Agree e e' op.slots) (H : Heap) : op.ok e H = op.ok e' H := by
 cases op with
 | mv x => simp only [AOp.ok, Agree.av (x := x) h]
 | pick c a b => simp only [AOp.ok, Agree.av (x := c) h.left, Agree.av (x := a) h.right.left, Agree.av (x := b) h.right.right]
 | fld x off => simp only [AOp.ok, Agree.av (x := x) h]
 | ld c x k => simp only [AOp.ok, Agree.av (x := x) h]
 | ldk c x k => simp only [AOp.ok, Agree.av (x := x) h]
 | idx c x i n => simp only [AOp.ok, Agree.av (x := x) h.left, Agree.av (x := i) h.right]
 | bin o x y => simp only [AOp.ok, Agree.av (x := x) h.left, Agree.av (x := y) h.right]
 | binb o x y => simp only [AOp.ok, Agree.av (x := x) h.left, Agree.av (x := y) h.right]
 | not x => simp only [AOp.ok, Agree.av (x := x) h]
 | len s x => simp only [AOp.ok, Agree.av (x := x) h]
 | mkfn F caps => exact liveAll_congr (Agree.avs h)
 | mksl n m zs ps => simp only [AOp.ok, partsV_congr (Agree.parts h), liveParts_congr (Agree.parts h)]
 | bld zs ps => simp only [AOp.ok, partsV_congr (Agree.parts h), liveParts_congr (Agree.parts h)]
 | ext x i => simp only [AOp.ok, Agree.av (x := x) h]
 | slc x lo hi n => simp only [AOp.ok, Agree.av (x := x) h.left, bndV_congr h.right.left, bndV_congr h.right.right, bndOk_congr h.right.left, bndOk_congr h.right.right]
 | mget x k ok kd z => simp only [AOp.ok, Agree.av (x := x) h.left, Agree.av (x := k) h.right]
 | mlen x => simp only [AOp.ok, Agree.av (x := x) h]
 | isnil neg x => simp only [AOp.ok, Agree.av (x := x) h]
 | eqs neg x y ks => simp only [AOp.ok, Agree.av (x := x) h.left, Agree.av (x := y) h.right]
 | cnv k x => simp only [AOp.ok, Agree.av (x := x) h]
 | cnvs x => simp only [AOp.ok, Agree.av (x := x) h]
 | sidx x i => simp only [AOp.ok, Agree.av (x := x) h.left, Agree.av (x := i) h.right]
 | mx x i => simp only [AOp.ok, Agree.av (x := x) h.left, Agree.av (x := i) h.right]
 | aidx x i n m => simp only [AOp.ok, Agree.av (x := x) h.left, Agree.av (x := i) h.right]
 | nck x => simp only [AOp.ok, Agree.av (x := x) h]
 | mkbm F x => simp only [AOp.ok, Agree.av (x := x) h]
 | sslc x lo hi => simp only [AOp.ok, Agree.av (x := x) h.left, bndV_congr h.right.left, bndV_congr h.right.right, bndOk_congr h.right.left, bndOk_congr h.right.right]
 | _ => rfl
theorem guard_congr {e e' : T} {gd : Option (Slot × Bool)} (h : Agree e e' (match gd with | some (p, _) => [p] | none => [])) : gval e gd = gval e' gd ∧ gok e gd = gok e' gd ∧ ∀ x, wrap e gd x = wrap e' gd x := by
  cases gd with
  | none => exact ⟨rfl, rfl, fun _ => rfl⟩
  | some g =>
    obtain ⟨p, want⟩ := g
    have hp : e.get p = e'.get p := h p (by simp)
    have h1 : gval e (some (p, want)) = gval e' (some (p, want)) := by simp only [gval, hp]
    exact ⟨h1, by simp only [gok, hp], fun x => by simp only [wrap, h1]⟩
theorem calloOk_congr {vc : Bool} {P : Program} {e e' : T} {f : Opd} {args : List Opd} (h : Agree e e' (f.slots ++ args.flatMap Opd.slots)) (H : Heap) (te : TypeId) (n : Nat) (r : DV) : calloOk vc P e H te n f args r = calloOk vc P e' H te n f args r := by
 unfold calloOk
 have h1 := Agree.av (x := f) h.left
 have h2 := Agree.avs h.right
 have h3 : (args.map fun x => (x.av e).strip) = args.map fun x => (x.av e').strip := List.map_congr_left fun x hx => by rw [h2 x hx]
 rw [h1, h3, liveAll_congr (e := e) (e' := e') (xs := f :: args) (fun x hx => by
  rcases List.mem_cons.1 hx with rfl | hx
  ·exact h1
  ·exact h2 x hx)]
theorem callOk_congr {P : Program} {e e' : T} {f : Opd} {args : List Opd} (h : Agree e e' (f.slots ++ args.flatMap Opd.slots)) (H : Heap) (r : DV) : callOk P e H f args r = callOk P e' H f args r := by
 unfold callOk
 have h1 := Agree.av (x := f) h.left
 have h2 := Agree.avs h.right
 have h3 : (args.map fun x => (x.av e).strip) = args.map fun x => (x.av e').strip := List.map_congr_left fun x hx => by rw [h2 x hx]
 rw [h1, h3, liveAll_congr (e := e) (e' := e') (xs := f :: args) (fun x hx => by
  rcases List.mem_cons.1 hx with rfl | hx
  ·exact h1
  ·exact h2 x hx)]
theorem effOk_congr {P : Program} {e e' : T} {f : Opd} {args : List Opd} (h : Agree e e' (f.slots ++ args.flatMap Opd.slots)) (H : Heap) (id : Nat) (r : Rz) : effOk P e H id f args r = effOk P e' H id f args r := by
  cases r with
  | d x => rfl
  | mp n m => rfl
  | ef x τ L L' =>
    unfold effOk
    have h1 := Agree.av (x := f) h.left
    have h2 := Agree.avs h.right
    have h3 : (args.map fun x => (x.av e).strip) = args.map fun x => (x.av e').strip := List.map_congr_left fun x hx => by rw [h2 x hx]
    rw [h1, h3, liveAll_congr (e := e) (e' := e') (xs := f :: args) (fun x hx => by
      rcases List.mem_cons.1 hx with rfl | hx
      · exact h1
      · exact h2 x hx)]
theorem callmOk_congr {P : Program} {e e' : T} {f : Opd} {args : List Opd} (h : Agree e e' (f.slots ++ args.flatMap Opd.slots)) (H : Heap) (kd : KD) (r : Rz) : callmOk P e H kd f args r = callmOk P e' H kd f args r := by
  cases r with
  | d x => rfl
  | ef x τ L L' => rfl
  | mp n m =>
    unfold callmOk
    have h1 := Agree.av (x := f) h.left
    have h2 := Agree.avs h.right
    have h3 : (args.map fun x => (x.av e).strip) = args.map fun x => (x.av e').strip := List.map_congr_left fun x hx => by rw [h2 x hx]
    rw [h1, h3, liveAll_congr (e := e) (e' := e') (xs := f :: args) (fun x hx => by
      rcases List.mem_cons.1 hx with rfl | hx
      · exact h1
      · exact h2 x hx)]
section
variable {P : Program} {r : Rz} {id : Nat} {ao : AOper} {e e' : T}
theorem hnot_congr : ∀ {ps : List Slot}, Agree e e' (ps.filter fun p => !p.isEmpty) → ∀ H, hnot e ps H = hnot e' ps H
  | [], _, _ => rfl
  | [] :: ps, h, H => by
    simp only [hnot]
    exact hnot_congr (by simpa using h) _
  | (b :: p) :: ps, h, H => by
    simp only [hnot]
    rw [h (b :: p) (by simp), hnot_congr (fun q hq => h q (by simp at hq ⊢; exact .inr hq))]
theorem hv_congr (h : Agree e e' (lowUse ao.low)) (H : Heap) : ao.hv e id H = ao.hv e' id H := by
 unfold AOper.hv lowH
 split
 ·rename_i i ps hl
  rw [hl] at h
  exact hnot_congr h _
 ·rfl
theorem okS_congr (h : Agree e e' ao.uses) (H : Heap) : okS P r id ao e H = okS P r id ao e' H := by
 obtain ⟨dst, gd, op, lo⟩ := ao
 have hg := guard_congr (gd := gd) (h.left (m := op.slots ++ lowUse lo))
 have hw : ∀ H, AOper.hv ⟨dst, gd, op, lo⟩ e id H = AOper.hv ⟨dst, gd, op, lo⟩ e' id H := hv_congr h.right.right
 have ho : Agree e e' op.slots := h.right.left
 cases op with
 | call c f args => simp only [okS, hg.1, hg.2.1, hw, callOk_congr ho]
 | callo te n f args => simp only [okS, calloOk_congr ho]
 | callv te n f args => simp only [okS, calloOk_congr ho]
 | calle f args => simp only [okS, effOk_congr ho]
 | callk kk f args => simp only [okS, effOk_congr ho]
 | callm kd f args => simp only [okS, callmOk_congr ho]
 | ini b a x k => simp only [okS, Agree.av (x := a) ho.left, Agree.av (x := x) ho.right]
 | bad => rfl
 | boxo imm ty x => simp only [okS, Agree.av (x := x) ho]
 | new zs => rfl
 | nrow t n => rfl
 | st a x k => simp only [okS, Agree.av (x := a) ho.left, Agree.av (x := x) ho.right]
 | appo str t n b s x => simp only [okS, Agree.av (x := s) ho.left, Agree.av (x := x) ho.right]
 | vapp t n b s x => simp only [okS, Agree.av (x := s) ho.left, Agree.av (x := x) ho.right]
 | vop k t n b s x => simp only [okS, Agree.av (x := s) ho.left, Agree.av (x := x) ho.right]
 | mmk kd => rfl
 | mset dl x k v kd => simp only [okS, Agree.av (x := x) ho.left, Agree.av (x := k) ho.right.left, Agree.av (x := v) ho.right.right]
 | _ => simp only [okS, hg.1, hg.2.1, hw, ok_congr ho]
theorem stpV_congr (h : Agree e e' ao.uses) (H : Heap) : stpV r id ao e H = stpV r id ao e' H := by
 obtain ⟨dst, gd, op, lo⟩ := ao
 have hg := guard_congr (gd := gd) (h.left (m := op.slots ++ lowUse lo))
 have hw : ∀ H, AOper.hv ⟨dst, gd, op, lo⟩ e id H = AOper.hv ⟨dst, gd, op, lo⟩ e' id H := hv_congr h.right.right
 have ho : Agree e e' op.slots := h.right.left
 cases op with
 | call c f args => simp only [stpV, hg.2.2]
 | callo te n f args => rfl
 | callv te n f args => rfl
 | calle f args => rfl
 | callk kk f args => rfl
 | callm kd f args => rfl
 | ini b a x k => rfl
 | boxo imm ty x => cases imm <;> simp only [stpV, Agree.av (x := x) ho]
 | new zs => rfl
 | nrow t n => rfl
 | st a x k => rfl
 | appo str t n b s x => simp only [stpV, Agree.av (x := s) ho.left, Agree.av (x := x) ho.right]
 | vapp t n b s x => simp only [stpV, Agree.av (x := s) ho.left, Agree.av (x := x) ho.right]
 | vop k t n b s x => simp only [stpV, Agree.av (x := s) ho.left, Agree.av (x := x) ho.right]
 | mmk kd => rfl
 | mset dl x k v kd => rfl
 | _ => simp only [stpV, hg.2.2, hw, val_congr ho]
theorem stpH_congr (h : Agree e e' ao.uses) (H : Heap) : stpH r id ao e H = stpH r id ao e' H := by
 obtain ⟨dst, gd, op, lo⟩ := ao
 have ho : Agree e e' op.slots := h.right.left
 cases op with
 | boxo imm ty x => cases imm <;> simp only [stpH, Agree.av (x := x) ho]
 | st a x k => simp only [stpH, Agree.av (x := a) ho.left, Agree.av (x := x) ho.right]
 | ini b a x k => simp only [stpH, Agree.av (x := x) ho.right]
 | appo str t n b s x => simp only [stpH, Agree.av (x := s) ho.left, Agree.av (x := x) ho.right]
 | vapp t n b s x => simp only [stpH, Agree.av (x := s) ho.left, Agree.av (x := x) ho.right]
 | vop k t n b s x => simp only [stpH, Agree.av (x := s) ho.left, Agree.av (x := x) ho.right]
 | mset dl x k v kd => simp only [stpH, Agree.av (x := x) ho.left, Agree.av (x := k) ho.right.left, Agree.av (x := v) ho.right.right]
 | _ => rfl
theorem cls_ok (h : ao.op.cls = .P ∨ ao.op.cls = .A) (H H' : Heap) : okS P r id ao e H = okS P r id ao e H' := by
 obtain ⟨dst, gd, op, lo⟩ := ao
 cases op with
 | boxo imm ty x => cases imm <;> simp [AOp.cls] at h; rfl
 | ld c x k => cases c <;> simp [AOp.cls] at h; rfl
 | ldk => simp [AOp.cls] at h
 | idx c x i n => cases c <;> simp [AOp.cls] at h; rfl
 | call c f args => cases c <;> simp [AOp.cls] at h; rfl
 | callo => simp [AOp.cls] at h
 | callv => simp [AOp.cls] at h
 | calle => simp [AOp.cls] at h
 | callk => simp [AOp.cls] at h
 | callm => simp [AOp.cls] at h
 | ini => simp [AOp.cls] at h
 | len => simp [AOp.cls] at h
 | bld => simp [AOp.cls] at h
 | st a x k => cases a <;> simp [AOp.cls] at h
 | appo => simp [AOp.cls] at h
 | vapp => simp [AOp.cls] at h
 | vop => simp [AOp.cls] at h
 | mget => simp [AOp.cls] at h
 | mlen => simp [AOp.cls] at h
 | mmk => simp [AOp.cls] at h
 | mset => simp [AOp.cls] at h
 | _ => rfl
theorem cls_heapV (h : ao.op.cls = .P ∨ ao.op.cls = .A ∨ ao.op.cls = .I) (H H' : Heap) : stpV r id ao e H = stpV r id ao e H' := by
 obtain ⟨dst, gd, op, lo⟩ := ao
 cases op with
 | boxo imm ty x => cases imm <;> simp [AOp.cls] at h; rfl
 | ld c x k => cases c <;> simp [AOp.cls] at h; rfl
 | ldk => simp [AOp.cls] at h
 | idx c x i n => cases c <;> simp [AOp.cls] at h; rfl
 | call c f args => cases c <;> simp [AOp.cls] at h; rfl
 | callo => simp [AOp.cls] at h
 | callv => simp [AOp.cls] at h
 | calle => simp [AOp.cls] at h
 | callk => simp [AOp.cls] at h
 | callm => simp [AOp.cls] at h
 | len => simp [AOp.cls] at h
 | bld => simp [AOp.cls] at h
 | st a x k => cases a <;> simp [AOp.cls] at h
 | appo => simp [AOp.cls] at h
 | vapp => simp [AOp.cls] at h
 | vop => simp [AOp.cls] at h
 | mget => simp [AOp.cls] at h
 | mlen => simp [AOp.cls] at h
 | mmk => simp [AOp.cls] at h
 | mset => simp [AOp.cls] at h
 | _ => rfl
theorem cls_old {H H' : Heap} (h : ao.hv e id H = ao.hv e id H') (hc : ao.op.cls = .L) : okS P r id ao e H = okS P r id ao e H' := by
 obtain ⟨dst, gd, op, lo⟩ := ao
 cases op with
 | boxo imm ty x => cases imm <;> simp [AOp.cls] at hc
 | callo => simp [AOp.cls] at hc
 | callv => simp [AOp.cls] at hc
 | calle => simp [AOp.cls] at hc
 | callk => simp [AOp.cls] at hc
 | callm => simp [AOp.cls] at hc
 | ini => simp [AOp.cls] at hc
 | new => simp [AOp.cls] at hc
 | nrow => simp [AOp.cls] at hc
 | st a x k => cases a <;> simp [AOp.cls] at hc
 | appo => simp [AOp.cls] at hc
 | vapp => simp [AOp.cls] at hc
 | vop => simp [AOp.cls] at hc
 | mmk => simp [AOp.cls] at hc
 | mset => simp [AOp.cls] at hc
 | bad => rfl
 | _ => simp only [okS, h]
theorem cls_oldV {H H' : Heap} (h : ao.hv e id H = ao.hv e id H') (hc : ao.op.cls = .L) : stpV r id ao e H = stpV r id ao e H' := by
 obtain ⟨dst, gd, op, lo⟩ := ao
 cases op with
 | boxo imm ty x => cases imm <;> simp [AOp.cls] at hc
 | callo => simp [AOp.cls] at hc
 | callv => simp [AOp.cls] at hc
 | calle => simp [AOp.cls] at hc
 | callk => simp [AOp.cls] at hc
 | callm => simp [AOp.cls] at hc
 | ini => simp [AOp.cls] at hc
 | new => simp [AOp.cls] at hc
 | nrow => simp [AOp.cls] at hc
 | st a x k => cases a <;> simp [AOp.cls] at hc
 | appo => simp [AOp.cls] at hc
 | vapp => simp [AOp.cls] at hc
 | vop => simp [AOp.cls] at hc
 | mmk => simp [AOp.cls] at hc
 | mset => simp [AOp.cls] at hc
 | bad => rfl
 | call => rfl
 | _ => simp only [stpV, h]
theorem cls_same (h : ao.op.cls = .P ∨ ao.op.cls = .L) (H : Heap) : stpH r id ao e H = H := by
 obtain ⟨dst, gd, op, lo⟩ := ao
 cases op with
 | boxo imm ty x => cases imm <;> simp [AOp.cls] at h; rfl
 | callo => simp [AOp.cls] at h
 | callv => simp [AOp.cls] at h
 | calle => simp [AOp.cls] at h
 | callk => simp [AOp.cls] at h
 | callm => simp [AOp.cls] at h
 | ini => simp [AOp.cls] at h
 | new => simp [AOp.cls] at h
 | nrow => simp [AOp.cls] at h
 | st a x k => cases a <;> simp [AOp.cls] at h
 | appo => simp [AOp.cls] at h
 | vapp => simp [AOp.cls] at h
 | vop => simp [AOp.cls] at h
 | mmk => simp [AOp.cls] at h
 | mset => simp [AOp.cls] at h
 | _ => rfl
theorem cls_new (h : ao.op.cls = .A) : ∃ c, ∀ e H, stpH r id ao e H = hadd id c H := by
 obtain ⟨dst, gd, op, lo⟩ := ao
 cases op with
 | boxo imm ty x => cases imm <;> simp [AOp.cls] at h
 | ld c => cases c <;> simp [AOp.cls] at h
 | idx c => cases c <;> simp [AOp.cls] at h
 | call c => cases c <;> simp [AOp.cls] at h
 | st a x k => cases a <;> simp [AOp.cls] at h
 | new zs => exact ⟨_, fun _ _ => rfl⟩
 | nrow t n => exact ⟨_, fun _ _ => rfl⟩
 | _ => simp [AOp.cls] at h
theorem cls_iniH (h : ao.op.cls = .I) : ∃ c, ∀ H, stpH r id ao e H = hset H (id - back ao.op) c := by
 obtain ⟨dst, gd, op, lo⟩ := ao
 cases op with
 | boxo imm ty x => cases imm <;> simp [AOp.cls] at h
 | ld c => cases c <;> simp [AOp.cls] at h
 | idx c => cases c <;> simp [AOp.cls] at h
 | call c => cases c <;> simp [AOp.cls] at h
 | st a x k => cases a <;> simp [AOp.cls] at h
 | ini b a x k => exact ⟨_, fun _ => rfl⟩
 | _ => simp [AOp.cls] at h
theorem cls_iniO (h : ao.op.cls = .I) : ∀ H H', hget H (id - back ao.op) = hget H' (id - back ao.op) → okS P r id ao e H = okS P r id ao e H' := by
  obtain ⟨dst, gd, op, lo⟩ := ao
  cases op with
  | boxo imm ty x => cases imm <;> simp [AOp.cls] at h
  | ld c => cases c <;> simp [AOp.cls] at h
  | idx c => cases c <;> simp [AOp.cls] at h
  | call c => cases c <;> simp [AOp.cls] at h
  | st a x k => cases a <;> simp [AOp.cls] at h
  | ini b a x k =>
    intro H H' hh
    have hh' : hget H (id - b) = hget H' (id - b) := hh
    simp only [okS, iniOk, hh']
  | _ => simp [AOp.cls] at h
end
theorem hadd_comm {i j : Nat} (h : i ≠ j) (a b : AObj) (H : Heap) : hadd i a (hadd j b H) = hadd j b (hadd i a H) := by
 funext k
 unfold hadd
 by_cases h1 : i = k
 ·subst h1; simp [Ne.symm h]
 ·simp [h1]
theorem hset_comm {i j : Nat} (h : i ≠ j) (a b : AObj) (H : Heap) : hset (hset H j b) i a = hset (hset H i a) j b := by
 funext k
 unfold hset
 by_cases h1 : i = k
 ·subst h1; simp [Ne.symm h]
 ·simp [h1]
theorem hset_add {i j : Nat} (h : i ≠ j) (a b : AObj) (H : Heap) : hset (hadd i a H) j b = hadd i a (hset H j b) := by
 funext k
 unfold hset hadd
 by_cases h1 : i = k
 ·subst h1; simp [Ne.symm h]
 ·simp [h1]
def free (D : Nat) (d : Option Slot) (l : List Slot) : Bool :=
 match d with
 | none => true
 | some p => p.length == D && l.all fun q => q.length == D && p != q
def kept (a b : AOper) : Bool := match a.op, b.op with
 | .ldk i _ _, .callk j _ _ => i == j && (lowSl a.low).isEmpty
 | .mget _ _ _ _ _, .st _ _ _ => (lowSl a.low).isEmpty
 | _, _ => false
def SameMaps (H H' : Heap) : Prop := ∀ k kd n f, hget H k = some (.map kd n f) ↔ hget H' k = some (.map kd n f)
theorem stH_same (H : Heap) (a x : AV) : SameMaps (stH H a x) H := by
 intro k kd n f
 unfold stH
 split
 ·split
  ·rename_i ty cs h
   rw [hget_set]
   split
   ·rename_i e
    subst e
    rw [h]
    simp
   ·rfl
  ·rfl
 ·split
  ·rename_i h
   rw [hget_set]
   split
   ·rename_i e
    subst e
    rw [h]
    simp
   ·rfl
  ·rfl
 ·rfl
theorem SameMaps.hv {H H' : Heap} (h : SameMaps H H') {o : AOper} (hl : (lowSl o.low).isEmpty = true) (e : T) (id : Nat) : SameMaps (o.hv e id H) (o.hv e id H') := by
 intro k kd n f
 unfold AOper.hv lowH
 split
 ·rename_i q ps hl'
  rw [hl'] at hl
  have hp : ps = [] := by simpa [lowSl] using hl
  subst hp
  show (hlow _ H k = _) ↔ (hlow _ H' k = _)
  unfold hlow
  split
  ·exact h k kd n f
  ·rfl
 ·exact h k kd n f
theorem SameMaps.val {H H' : Heap} (h : SameMaps H H') (ok : Bool) (z : Value) (x k : AV) : mgetV H ok z x k = mgetV H' ok z x k := by
  unfold mgetV
  split
  · rename_i id kv _
    cases h1 : hget H id with
    | none =>
      cases h2 : hget H' id with
      | none => rfl
      | some o =>
        cases o with
        | map kd n f => rw [(h id kd n f).2 h2] at h1; cases h1
        | _ => rfl
    | some o =>
      cases o with
      | map kd n f => rw [(h id kd n f).1 h1]
      | _ =>
        cases h2 : hget H' id with
        | none => rfl
        | some o' =>
          cases o' with
          | map kd n f => rw [(h id kd n f).2 h2] at h1; cases h1
          | _ => rfl
  · rfl
theorem SameMaps.ok {H H' : Heap} (h : SameMaps H H') (kd : KD) (x k : AV) : mgetOk H kd x k = mgetOk H' kd x k := by
  unfold mgetOk
  split
  · rename_i id kv _
    cases h1 : hget H id with
    | none =>
      cases h2 : hget H' id with
      | none => rfl
      | some o =>
        cases o with
        | map kd n f => rw [(h id kd n f).2 h2] at h1; cases h1
        | _ => rfl
    | some o =>
      cases o with
      | map kd n f => rw [(h id kd n f).1 h1]
      | _ =>
        cases h2 : hget H' id with
        | none => rfl
        | some o' =>
          cases o' with
          | map kd n f => rw [(h id kd n f).2 h2] at h1; cases h1
          | _ => rfl
  · rfl
theorem honly_K (k : Nat) (r : Rz) (H : Heap) : honly k (effK k r H) = honly k H := by
 funext q
 unfold honly effK
 split <;> rfl
theorem hv_only {o : AOper} {k id : Nat} {r : Rz} (h : (lowSl o.low).isEmpty = true) (e : T) (H : Heap) : honly k (o.hv e id (effK k r H)) = honly k (o.hv e id H) := by
 unfold AOper.hv lowH
 split
 ·rename_i q ps hl
  rw [hl] at h
  have hp : ps = [] := by simpa [lowSl] using h
  subst hp
  funext z
  show (if z = k then hlow _ (effK k r H) z else none) = (if z = k then hlow _ H z else none)
  split
  ·rename_i e
   subst e
   unfold hlow effK
   simp
  ·rfl
 ·exact honly_K k r H
theorem kept_ok {P : Program} {a b : AOper} {r r' : Rz} {ia ib : Nat} (h : kept b a = true) (e : T) (H : Heap) : okS P r ib b e (stpH r' ia a e H) = okS P r ib b e H := by
  obtain ⟨da, ga, oa, la⟩ := a
  obtain ⟨db, gb, ob, lb⟩ := b
  cases ob with
  | ldk i x q =>
    cases oa with
    | callk j f args =>
      simp only [kept, Bool.and_eq_true, beq_iff_eq] at h
      obtain ⟨rfl, h2⟩ := h
      have hv := hv_only (o := ⟨db, gb, .ldk i x q, lb⟩) (k := i) (id := ib) (r := r') h2 e H
      simp only [okS, stpH, AOp.ok, hv]
    | _ => simp [kept] at h
  | mget x k ok kd z =>
    cases oa with
    | st sa sx sk =>
      simp only [kept] at h
      have hv := ((stH_same H (sa.av e).strip (sx.av e).strip).hv (o := ⟨db, gb, .mget x k ok kd z, lb⟩) h e ib).ok kd (x.av e).strip (k.av e).strip
      simp only [okS, stpH, AOp.ok, hv]
    | _ => simp [kept] at h
  | _ => simp [kept] at h
theorem kept_V {a b : AOper} {r r' : Rz} {ia ib : Nat} (h : kept b a = true) (e : T) (H : Heap) : stpV r ib b e (stpH r' ia a e H) = stpV r ib b e H := by
  obtain ⟨da, ga, oa, la⟩ := a
  obtain ⟨db, gb, ob, lb⟩ := b
  cases ob with
  | ldk i x q =>
    cases oa with
    | callk j f args =>
      simp only [kept, Bool.and_eq_true, beq_iff_eq] at h
      obtain ⟨rfl, h2⟩ := h
      have hv := hv_only (o := ⟨db, gb, .ldk i x q, lb⟩) (k := i) (id := ib) (r := r') h2 e H
      simp only [stpV, stpH, AOp.val, hv]
    | _ => simp [kept] at h
  | mget x k ok kd z =>
    cases oa with
    | st sa sx sk =>
      simp only [kept] at h
      have hv := ((stH_same H (sa.av e).strip (sx.av e).strip).hv (o := ⟨db, gb, .mget x k ok kd z, lb⟩) h e ib).val ok z (x.av e).strip (k.av e).strip
      simp only [stpV, stpH, AOp.val, hv]
    | _ => simp [kept] at h
  | _ => simp [kept] at h
theorem kept_H {a b : AOper} {r : Rz} {id : Nat} (h : kept a b = true) (e : T) (H : Heap) : stpH r id a e H = H := by
 obtain ⟨da, ga, oa, la⟩ := a
 cases oa with
 | ldk i x q => rfl
 | mget x k ok kd z => rfl
 | _ => simp [kept] at h
def apart2 (D i : Nat) (a : AOper) (j : Nat) (b : AOper) : Bool :=
 noDst a && noDst b && free D a.dst b.uses && free D b.dst a.uses && free D a.dst b.dst.toList && free D b.dst a.dst.toList && (!conf i a j b || kept a b || kept b a)
theorem agree_set {D : Nat} {d : Option Slot} {l : List Slot} (h : free D d l = true) (e : T) (x : AV) : Agree (setD e d x) e l := by
  intro q hq
  cases d with
  | none => rfl
  | some p =>
    simp only [free, Bool.and_eq_true, beq_iff_eq, List.all_eq_true, bne_iff_ne] at h
    obtain ⟨h1, h2⟩ := h.2 q hq
    exact T.get_set_ne x p q e (h.1.trans h1.symm) h2
theorem set_comm {D : Nat} {d d' : Option Slot} (h : free D d d'.toList = true) (e : T) (x y : AV) : setD (setD e d x) d' y = setD (setD e d' y) d x := by
  cases d with
  | none => rfl
  | some p =>
    cases d' with
    | none => rfl
    | some q =>
      simp only [free, Option.toList, List.all_cons, List.all_nil, Bool.and_true, Bool.and_eq_true, beq_iff_eq, bne_iff_ne] at h
      exact T.set_comm x y p q e (h.1.trans h.2.1.symm) h.2.2
section
variable {P : Program} {D : Nat} {a b : AOper}
theorem hlow_add {nx k : Nat} (hk : nx + k < 500000) (o : AObj) (H : Heap) : hlow nx (hadd (nx + k) o H) = hlow nx H := by
 funext q
 unfold hlow hadd
 by_cases hq : q % 500000 < nx ∨ 1000000 ≤ q
 ·rw [if_pos hq, if_pos hq, if_neg (by omega)]
 ·rw [if_neg hq, if_neg hq]
theorem hlow_set {nx k : Nat} (h : nx ≤ k) (hk : k < 500000) (o : AObj) (H : Heap) : hlow nx (hset H k o) = hlow nx H := by
 funext q
 unfold hlow hset
 by_cases hq : q % 500000 < nx ∨ 1000000 ≤ q
 ·rw [if_pos hq, if_pos hq, if_neg (by omega)]
 ·rw [if_neg hq, if_neg hq]
theorem hv_at {nx i : Nat} {o : AOper} {ps : List Slot} (h : o.low = some (i, ps)) (e : T) (H : Heap) : o.hv e (nx + i) H = hnot e ps (hlow nx H) := by
 unfold AOper.hv
 rw [h]
 simp [lowH]
theorem hdel_comm (H : Heap) (i j : Nat) : hdel (hdel H i) j = hdel (hdel H j) i := by
 funext k
 unfold hdel
 by_cases h : i = k <;> by_cases h' : j = k <;> simp [h, h']
theorem hdel_nr (H : Heap) (i : Nat) : hdel (hnr H) i = hnr (hdel H i) := by
 funext k
 unfold hdel hnr
 by_cases h : i = k <;> simp [h]
theorem hnot_row {e : T} : ∀ {ps : List Slot} {H1 H2 : Heap}, [] ∈ ps → hnr H1 = hnr H2 → hnot e ps H1 = hnot e ps H2
  | [] :: ps, H1, H2, _, h => by simp only [hnot]; rw [h]
  | (b :: p) :: ps, H1, H2, hp, h => by
    simp only [hnot]
    refine hnot_row (by simpa using hp) ?_
    split
    · rw [← hdel_nr, ← hdel_nr, h]
    · rw [← hdel_nr, ← hdel_nr, h]
    · exact h
theorem app_nr {r : Rz} {nx i : Nat} {ao : AOper} (h : isApp ao.op = true) (hb : nx + i < 500000) (e : T) (H : Heap) : hnr (hlow nx (stpH r (nx + i) ao e H)) = hnr (hlow nx H) := by
  obtain ⟨dst, gd, op, lo⟩ := ao
  cases op with
  | appo str t n b s x =>
    simp only [stpH, appV]
    split
    · rename_i o len row m more hs _
      funext k
      unfold hnr hlow
      by_cases hk : k % 500000 < nx ∨ 1000000 ≤ k
      · rw [if_pos hk, if_pos hk]
        have e1 : ¬ nx + i = k := by omega
        simp only [hadd, if_neg e1]
        cases o with
        | none => rfl
        | some o =>
          simp only [hdelO, hdel]
          by_cases ho : o = k
          · subst ho
            rw [if_pos rfl]
            unfold baseV at hs
            split at hs
            · rename_i id len' hid
              split at hs
              · rename_i hrow
                split at hs
                · injection hs with hs
                  injection hs with hs _
                  injection hs with hs
                  subst hs
                  have : H id = some _ := hrow
                  rw [this]
                · cases hs
              · cases hs
            · cases hs
            · cases hs
          · rw [if_neg ho]
      · rw [if_neg hk, if_neg hk]
    · rfl
  | _ => cases h
theorem hnot_st {e : T} {p : Slot} {x : AV} {nx : Nat} (hne : p ≠ []) : ∀ {ps : List Slot} {H : Heap}, p ∈ ps → hnot e ps (hlow nx (stH H (e.get p).strip x)) = hnot e ps (hlow nx H) := by
  intro ps H hp
  have key : ∀ (id : Nat), (∀ (H1 : Heap) (qs : List Slot), hnot e (p :: qs) H1 = hnot e qs (hdel H1 id)) → ∀ (ps : List Slot) (H1 H2 : Heap), p ∈ ps → hdel H1 id = hdel H2 id → hnot e ps H1 = hnot e ps H2 := by
    intro id hid ps
    induction ps with
    | nil => intro _ _ h; cases h
    | cons q ps ih =>
      intro H1 H2 hq he
      rcases List.mem_cons.1 hq with rfl | hq2
      · rw [hid, hid, he]
      · cases q with
        | nil =>
          simp only [hnot]
          refine ih _ _ hq2 ?_
          rw [hdel_nr, hdel_nr, he]
        | cons b q =>
          simp only [hnot]
          refine ih _ _ hq2 ?_
          split
          · rw [hdel_comm, he, hdel_comm]
          · rw [hdel_comm, he, hdel_comm]
          · exact he
  obtain ⟨b, p, rfl⟩ : ∃ b q, p = b :: q := by
    cases p with
    | nil => exact absurd rfl hne
    | cons b q => exact ⟨b, q, rfl⟩
  unfold stH
  split
  · rename_i id off heq
    split
    · rename_i cs _
      refine key id (fun H1 qs => by simp only [hnot, heq]) ps _ _ hp ?_
      funext k
      unfold hdel hlow hset
      by_cases h : id = k
      · simp [h]
      · simp [h]
    · rfl
  · rename_i id n i off heq
    split
    · refine key id (fun H1 qs => by simp only [hnot, heq]) ps _ _ hp ?_
      funext k
      unfold hdel hlow hset
      by_cases h : id = k
      · simp [h]
      · simp [h]
    · rfl
  · rfl
theorem cls_stH {id : Nat} {ao : AOper} (h : ao.op.cls = .S) : ∃ x : T → AV, ∀ r e H, stpH r id ao e H = stH H (e.get (stSlot ao.op)).strip (x e) := by
  obtain ⟨dst, gd, op, lo⟩ := ao
  cases op with
  | st a x k =>
    cases a with
    | s p => exact ⟨fun e => (x.av e).strip, fun _ _ _ => rfl⟩
    | c v => simp [AOp.cls] at h
    | f F => simp [AOp.cls] at h
  | boxo imm ty x => cases imm <;> simp [AOp.cls] at h
  | ld c => cases c <;> simp [AOp.cls] at h
  | idx c => cases c <;> simp [AOp.cls] at h
  | call c => cases c <;> simp [AOp.cls] at h
  | _ => simp [AOp.cls] at h
theorem made_add {r : Rz} {id : Nat} {o : AOper} {e : T} {H : Heap} (h : isMade o.op = true) : ∃ ob, stpH r id o e H = hadd id ob H := by
  obtain ⟨dst, gd, op, lo⟩ := o
  cases op with
  | boxo imm ty x =>
    cases imm with
    | false => exact ⟨_, rfl⟩
    | true => cases h
  | callo te n f args => exact ⟨_, rfl⟩
  | vop k t n b s x =>
    match k, h with
    | 2, _ => exact ⟨_, rfl⟩
    | 3, _ => exact ⟨_, rfl⟩
    | 4, _ => exact ⟨_, rfl⟩
    | k + 5, _ => exact ⟨_, rfl⟩
  | _ => cases h
theorem apart_ok {nx i j : Nat} (hbi : nx + i < 500000) (h : apart2 D i a j b = true) {r r' : Rz} (e : T) (H : Heap) : okS P r (nx + j) b (stp r' (nx + i) a e H).1 (stp r' (nx + i) a e H).2 = okS P r (nx + j) b e H := by
  simp only [apart2, Bool.and_eq_true] at h
  obtain ⟨⟨⟨⟨⟨⟨h1, h2⟩, h3⟩, h4⟩, h5⟩, h6⟩, h7⟩ := h
  rw [stp_eq h1]
  simp only
  rw [okS_congr (agree_set h3 e _)]
  rw [Bool.or_eq_true, Bool.or_eq_true] at h7
  rcases h7 with (h7 | h7) | h7
  rotate_left
  · rw [kept_H h7]
  · exact kept_ok h7 e H
  have h7' : conf i a j b = false := by simpa using h7
  unfold conf at h7'
  cases ha : a.cls i with
  | P => rw [cls_same (.inl (cls_op ha (by simp) (by simp)))]
  | L => rw [cls_same (.inr (cls_read ha))]
  | O => rw [cls_same (.inr (cls_low ha).1)]
  | A =>
    rw [ha] at h7'
    obtain ⟨c, hc⟩ := cls_new (r := r') (id := nx + i) (cls_op ha (by simp) (by simp))
    cases hb : b.cls j with
    | P => exact cls_ok (.inl (cls_op hb (by simp) (by simp))) _ _
    | A => exact cls_ok (.inr (cls_op hb (by simp) (by simp))) _ _
    | O =>
      obtain ⟨hbL, hlo⟩ := cls_low hb
      refine cls_old ?_ hbL
      rw [hc, hv_at hlo, hv_at hlo, hlow_add hbi]
    | I =>
      rw [hb] at h7'
      simp at h7'
      refine cls_iniO (cls_op hb (by simp) (by simp)) _ _ ?_
      rw [hc, hget_add, if_neg (by omega)]
    | L => rw [hb] at h7'; simp at h7'
    | S => rw [hb] at h7'; simp at h7'
    | M => rw [hb] at h7'; simp at h7'
  | I =>
    rw [ha] at h7'
    obtain ⟨c, hc⟩ := cls_iniH (r := r') (id := nx + i) (e := e) (cls_op ha (by simp) (by simp))
    cases hb : b.cls j with
    | P => exact cls_ok (.inl (cls_op hb (by simp) (by simp))) _ _
    | A => exact cls_ok (.inr (cls_op hb (by simp) (by simp))) _ _
    | O =>
      rw [hb] at h7'
      simp at h7'
      obtain ⟨hbL, hlo⟩ := cls_low hb
      refine cls_old ?_ hbL
      rw [hc, hv_at hlo, hv_at hlo, hlow_set (by omega) (by omega)]
    | I =>
      rw [hb] at h7'
      simp at h7'
      refine cls_iniO (cls_op hb (by simp) (by simp)) _ _ ?_
      rw [hc, hget_set, if_neg (by omega)]
    | L => rw [hb] at h7'; simp at h7'
    | S => rw [hb] at h7'; simp at h7'
    | M => rw [hb] at h7'; simp at h7'
  | S =>
    rw [ha] at h7'
    obtain ⟨x, hx⟩ := cls_stH (id := nx + i) (cls_op ha (by simp) (by simp))
    cases hb : b.cls j with
    | P => exact cls_ok (.inl (cls_op hb (by simp) (by simp))) _ _
    | O =>
      rw [hb] at h7'
      simp at h7'
      obtain ⟨hbL, hlo⟩ := cls_low hb
      refine cls_old ?_ hbL
      rw [hx, hv_at hlo, hv_at hlo, hnot_st h7'.2 h7'.1]
    | _ => rw [hb] at h7'; simp at h7'
  | M =>
    rw [ha] at h7'
    cases hb : b.cls j with
    | P => exact cls_ok (.inl (cls_op hb (by simp) (by simp))) _ _
    | O =>
      rw [hb] at h7'
      simp at h7'
      obtain ⟨hbL, hlo⟩ := cls_low hb
      refine cls_old ?_ hbL
      rw [hv_at hlo, hv_at hlo]
      by_cases hm : isMade a.op = true
      · obtain ⟨ob, hob⟩ := made_add (r := r') (id := nx + i) (e := e) (H := H) hm
        rw [hob, hlow_add hbi]
      · have h8 : ¬ (isApp a.op = false ∨ ¬ [] ∈ lowSl b.low) := fun h => hm (h7' h)
        simp at h8
        exact hnot_row h8.2 (app_nr h8.1 hbi e H)
    | _ => rw [hb] at h7'; simp at h7'
theorem apart_heap {nx i j : Nat} (hbi : nx + i < 500000) (h7' : conf i a j b = false) {r r' : Rz} (hij : i ≠ j) (e : T) (H : Heap) :
    stpV r (nx + j) b e (stpH r' (nx + i) a e H) = stpV r (nx + j) b e H ∧ stpH r (nx + j) b e (stpH r' (nx + i) a e H) = stpH r' (nx + i) a e (stpH r (nx + j) b e H) := by
  unfold conf at h7'
  cases ha : a.cls i with
  | P => rw [cls_same (.inl (cls_op ha (by simp) (by simp))), cls_same (.inl (cls_op ha (by simp) (by simp)))]; exact ⟨rfl, rfl⟩
  | L => rw [cls_same (.inr (cls_read ha)), cls_same (.inr (cls_read ha))]; exact ⟨rfl, rfl⟩
  | O => rw [cls_same (.inr (cls_low ha).1), cls_same (.inr (cls_low ha).1)]; exact ⟨rfl, rfl⟩
  | A =>
    rw [ha] at h7'
    obtain ⟨ca, hca⟩ := cls_new (r := r') (id := nx + i) (cls_op ha (by simp) (by simp))
    cases hb : b.cls j with
    | P =>
      have hb' := cls_op hb (by simp) (by simp)
      rw [cls_same (.inl hb'), cls_same (.inl hb')]
      exact ⟨cls_heapV (.inl hb') _ _, rfl⟩
    | O =>
      obtain ⟨hbL, hlo⟩ := cls_low hb
      rw [cls_same (.inr hbL), cls_same (.inr hbL)]
      refine ⟨cls_oldV ?_ hbL, rfl⟩
      rw [hca, hv_at hlo, hv_at hlo, hlow_add hbi]
    | A =>
      have hb' := cls_op hb (by simp) (by simp)
      obtain ⟨cb, hcb⟩ := cls_new (r := r) (id := nx + j) hb'
      rw [hca, hcb, hcb, hca]
      exact ⟨cls_heapV (.inr (.inl hb')) _ _, hadd_comm (by omega) _ _ _⟩
    | I =>
      rw [hb] at h7'
      simp at h7'
      have hb' := cls_op hb (by simp) (by simp)
      obtain ⟨cb, hcb⟩ := cls_iniH (r := r) (id := nx + j) (e := e) hb'
      rw [hca, hcb, hcb, hca]
      exact ⟨cls_heapV (.inr (.inr hb')) _ _, hset_add (by omega) _ _ _⟩
    | L => rw [hb] at h7'; simp at h7'
    | S => rw [hb] at h7'; simp at h7'
    | M => rw [hb] at h7'; simp at h7'
  | I =>
    rw [ha] at h7'
    obtain ⟨ca, hca⟩ := cls_iniH (r := r') (id := nx + i) (e := e) (cls_op ha (by simp) (by simp))
    cases hb : b.cls j with
    | P =>
      have hb' := cls_op hb (by simp) (by simp)
      rw [cls_same (.inl hb'), cls_same (.inl hb')]
      exact ⟨cls_heapV (.inl hb') _ _, rfl⟩
    | O =>
      rw [hb] at h7'
      simp at h7'
      obtain ⟨hbL, hlo⟩ := cls_low hb
      rw [cls_same (.inr hbL), cls_same (.inr hbL)]
      refine ⟨cls_oldV ?_ hbL, rfl⟩
      rw [hca, hv_at hlo, hv_at hlo, hlow_set (by omega) (by omega)]
    | A =>
      rw [hb] at h7'
      simp at h7'
      have hb' := cls_op hb (by simp) (by simp)
      obtain ⟨cb, hcb⟩ := cls_new (r := r) (id := nx + j) hb'
      rw [hca, hcb, hcb, hca]
      exact ⟨cls_heapV (.inr (.inl hb')) _ _, (hset_add (by omega) _ _ _).symm⟩
    | I =>
      rw [hb] at h7'
      simp at h7'
      have hb' := cls_op hb (by simp) (by simp)
      obtain ⟨cb, hcb⟩ := cls_iniH (r := r) (id := nx + j) (e := e) hb'
      rw [hca, hcb, hcb, hca]
      exact ⟨cls_heapV (.inr (.inr hb')) _ _, hset_comm (by omega) _ _ _⟩
    | L => rw [hb] at h7'; simp at h7'
    | S => rw [hb] at h7'; simp at h7'
    | M => rw [hb] at h7'; simp at h7'
  | S =>
    rw [ha] at h7'
    obtain ⟨x, hx⟩ := cls_stH (id := nx + i) (cls_op ha (by simp) (by simp))
    cases hb : b.cls j with
    | P =>
      have hb' := cls_op hb (by simp) (by simp)
      rw [cls_same (.inl hb'), cls_same (.inl hb')]
      exact ⟨cls_heapV (.inl hb') _ _, rfl⟩
    | O =>
      rw [hb] at h7'
      simp at h7'
      obtain ⟨hbL, hlo⟩ := cls_low hb
      rw [cls_same (.inr hbL), cls_same (.inr hbL)]
      refine ⟨cls_oldV ?_ hbL, rfl⟩
      rw [hx, hv_at hlo, hv_at hlo, hnot_st h7'.2 h7'.1]
    | _ => rw [hb] at h7'; simp at h7'
  | M =>
    rw [ha] at h7'
    cases hb : b.cls j with
    | P =>
      have hb' := cls_op hb (by simp) (by simp)
      rw [cls_same (.inl hb'), cls_same (.inl hb')]
      exact ⟨cls_heapV (.inl hb') _ _, rfl⟩
    | O =>
      rw [hb] at h7'
      simp at h7'
      obtain ⟨hbL, hlo⟩ := cls_low hb
      rw [cls_same (.inr hbL), cls_same (.inr hbL)]
      refine ⟨cls_oldV ?_ hbL, rfl⟩
      rw [hv_at hlo, hv_at hlo]
      by_cases hm : isMade a.op = true
      · obtain ⟨ob, hob⟩ := made_add (r := r') (id := nx + i) (e := e) (H := H) hm
        rw [hob, hlow_add hbi]
      · have h8 : ¬ (isApp a.op = false ∨ ¬ [] ∈ lowSl b.low) := fun h => hm (h7' h)
        simp at h8
        exact hnot_row h8.2 (app_nr h8.1 hbi e H)
    | _ => rw [hb] at h7'; simp at h7'
theorem conf_symm {i j : Nat} (h : conf i a j b = false) : conf j b i a = false := by
 unfold conf at h ⊢
 cases ha : a.cls i <;> cases hb : b.cls j <;> rw [ha, hb] at h <;> simp at h ⊢ <;> omega
theorem apart_comm {nx i j : Nat} (hbi : nx + i < 500000) (hbj : nx + j < 500000) (h : apart2 D i a j b = true) {r r' : Rz} (hij : i ≠ j) (e : T) (H : Heap) :
  stp r (nx + j) b (stp r' (nx + i) a e H).1 (stp r' (nx + i) a e H).2 = stp r' (nx + i) a (stp r (nx + j) b e H).1 (stp r (nx + j) b e H).2 := by
 simp only [apart2, Bool.and_eq_true] at h
 obtain ⟨⟨⟨⟨⟨⟨h1, h2⟩, h3⟩, h4⟩, h5⟩, h6⟩, h7⟩ := h
 rw [stp_eq h1 e H, stp_eq h2 e H]
 simp only
 rw [stp_eq h2, stp_eq h1]
 rw [stpV_congr (agree_set h3 e _), stpH_congr (agree_set h3 e _), stpV_congr (agree_set h4 e _), stpH_congr (agree_set h4 e _)]
 have hm : (stpV r (nx + j) b e (stpH r' (nx + i) a e H) = stpV r (nx + j) b e H ∧ stpH r (nx + j) b e (stpH r' (nx + i) a e H) = stpH r' (nx + i) a e (stpH r (nx + j) b e H)) ∧ stpV r' (nx + i) a e (stpH r (nx + j) b e H) = stpV r' (nx + i) a e H := by
  rw [Bool.or_eq_true, Bool.or_eq_true] at h7
  rcases h7 with (h7 | h7) | h7
  ·have h7' : conf i a j b = false := by simpa using h7
   exact ⟨apart_heap (nx := nx) hbi h7' (r := r) (r' := r') hij e H, (apart_heap (nx := nx) hbj (conf_symm h7') (r := r') (r' := r) (Ne.symm hij) e H).1⟩
  ·exact ⟨⟨by rw [kept_H h7], by rw [kept_H h7, kept_H h7]⟩, kept_V h7 e H⟩
  ·exact ⟨⟨kept_V h7 e H, by rw [kept_H h7, kept_H h7]⟩, by rw [kept_H h7]⟩
 have m1 := hm.1
 have m2 := hm.2
 rw [m1.1, m2, m1.2, set_comm h5]
end
end Go.Proofs.Ytgadlpdbkohlbaa
/- Regions that draw their order: any order does as the list, where all that is not ordered is apart. -/
namespace Go.Proofs.Ytgadlpdbkohlbaa
open Go.RowKit
def bindsOn (o : Oper) : List Nat := (o.after.toList.filter fun e => Region.binds .any e).map (·.on)
def closure : List Oper → List (List Nat) → List (List Nat)
 | [], acc => acc
 | o :: os, acc => closure os (acc ++ [((bindsOn o).flatMap fun k => k :: acc.getD k []).eraseDups])
def closed (ops : List Oper) (rows : List (List Nat)) : Bool :=
 (List.range ops.length).all fun j => match ops[j]? with
  | some o => (bindsOn o).all (fun k => decide (k < j)) && (rows.getD j []).all fun i => (bindsOn o).any fun k => k == i || (rows.getD k []).contains i
  | none => false
def drOk (D : Nat) (ops : Array Oper) (os : List AOper) : Bool :=
 let rows := closure ops.toList []
 closed ops.toList rows && (List.range os.length).all fun j => (List.range j).all fun i => (rows.getD j []).contains i || (match os[i]?, os[j]? with | some a, some b => apart2 D i a j b | _, _ => false)
section
variable {P : Program} {D N : Nat} {X0 : Nat → Nat → Prop} {W0 : World} {ops : Array Oper} {os : List AOper} {nx : Nat} {ρ : Nat → Rz}
def stpI (os : List AOper) (ρ : Nat → Rz) (nx i : Nat) (s : T × Heap) : T × Heap :=
 match os[i]? with
 | some ao => stp (ρ i) (nx + i) ao s.1 s.2
 | none => s
def okI (P : Program) (os : List AOper) (ρ : Nat → Rz) (nx i : Nat) (s : T × Heap) : Prop :=
 match os[i]? with
 | some ao => okS P (ρ i) (nx + i) ao s.1 s.2
 | none => True
def runL (os : List AOper) (ρ : Nat → Rz) (nx : Nat) : List Nat → T × Heap → T × Heap
 | [], s => s
 | i :: l, s => runL os ρ nx l (stpI os ρ nx i s)
theorem runL_append (l m : List Nat) (s : T × Heap) : runL os ρ nx (l ++ m) s = runL os ρ nx m (runL os ρ nx l s) := by
 induction l generalizing s with
 | nil => rfl
 | cons i l ih => exact ih _
def Ind (P : Program) (os : List AOper) (ρ : Nat → Rz) (nx i j : Nat) : Prop :=
 (∀ s, stpI os ρ nx j (stpI os ρ nx i s) = stpI os ρ nx i (stpI os ρ nx j s)) ∧ (∀ s, okI P os ρ nx j (stpI os ρ nx i s) = okI P os ρ nx j s) ∧ (∀ s, okI P os ρ nx i (stpI os ρ nx j s) = okI P os ρ nx i s)
theorem free_symm {D i j : Nat} {a b : AOper} (h : apart2 D i a j b = true) : apart2 D j b i a = true := by
 simp only [apart2, Bool.and_eq_true] at h ⊢
 obtain ⟨⟨⟨⟨⟨⟨h1, h2⟩, h3⟩, h4⟩, h5⟩, h6⟩, h7⟩ := h
 exact ⟨⟨⟨⟨⟨⟨h2, h1⟩, h4⟩, h3⟩, h6⟩, h5⟩, by
  rw [Bool.or_eq_true, Bool.or_eq_true] at h7 ⊢
  rcases h7 with (h7 | h7) | h7
  ·exact .inl (.inl (by rw [conf_symm (by simpa using h7)]; rfl))
  ·exact .inr h7
  ·exact .inl (.inr h7)⟩
theorem ind_of {i j : Nat} {a b : AOper} (hbi : nx + i < 500000) (hbj : nx + j < 500000) (hij : i ≠ j) (ha : os[i]? = some a) (hb : os[j]? = some b) (h : apart2 D i a j b = true) : Ind P os ρ nx i j := by
 refine ⟨fun s => ?_, fun s => ?_, fun s => ?_⟩
 ·simp only [stpI, ha, hb]
  exact apart_comm hbi hbj h hij s.1 s.2
 ·simp only [stpI, okI, ha, hb]
  exact apart_ok hbi h s.1 s.2
 ·simp only [stpI, okI, ha, hb]
  exact apart_ok hbj (free_symm h) s.1 s.2
theorem Ind.symm {i j : Nat} (h : Ind P os ρ nx i j) : Ind P os ρ nx j i := ⟨fun s => (h.1 s).symm, h.2.2, h.2.1⟩
theorem run_through {i : Nat} : ∀ (l : List Nat), (∀ j ∈ l, Ind P os ρ nx i j) → ∀ s, runL os ρ nx l (stpI os ρ nx i s) = stpI os ρ nx i (runL os ρ nx l s)
  | [], _, s => rfl
  | j :: l, h, s => by
    simp only [runL]
    rw [(h j (by simp)).1 s]
    exact run_through l (fun k hk => h k (by simp [hk])) _
theorem ok_through {i : Nat} : ∀ (l : List Nat), (∀ j ∈ l, Ind P os ρ nx i j) → ∀ s, okI P os ρ nx i (runL os ρ nx l s) = okI P os ρ nx i s
  | [], _, s => rfl
  | j :: l, h, s => by
    simp only [runL]
    rw [ok_through l (fun k hk => h k (by simp [hk])) _]
    exact (h j (by simp)).2.2 s
theorem run_split (S : Nat → Bool) : ∀ (l : List Nat), (∀ k ∈ l, ∀ m ∈ l, S k = false → S m = true → k < m → Ind P os ρ nx k m) → l.Pairwise (· < ·) → ∀ s,
    runL os ρ nx l s = runL os ρ nx (l.filter fun k => !S k) (runL os ρ nx (l.filter S) s)
  | [], _, _, s => rfl
  | x :: l, h, hp, s => by
    have hp' := (List.pairwise_cons.1 hp)
    have ih := run_split S l (fun k hk m hm => h k (by simp [hk]) m (by simp [hm])) hp'.2
    cases hx : S x with
    | true =>
      simp only [List.filter_cons, hx, Bool.not_true, if_true, Bool.false_eq_true, if_false, runL]
      exact ih _
    | false =>
      simp only [List.filter_cons, hx, Bool.not_false, if_true, Bool.false_eq_true, if_false, runL]
      rw [ih, run_through (P := P) (l.filter S) (fun m hm => by
        have hm' := List.mem_filter.1 hm
        exact h x (by simp) m (by simp [hm'.1]) hx hm'.2 (hp'.1 m hm'.1)) s]
theorem range_pair (n : Nat) : (List.range n).Pairwise (· < ·) := List.pairwise_lt_range
theorem range_cut {i n : Nat} (h : i < n) : List.range n = List.range i ++ i :: (List.range (n - i - 1)).map (fun k => i + 1 + k) := by
 have e : List.range n = List.range (i + (n - i)) := by congr 1; omega
 rw [e, List.range_add]
 congr 1
 have e2 : n - i = (n - i - 1) + 1 := by omega
 rw [e2, List.range_succ_eq_map]
 simp only [List.map_cons, Nat.add_zero, List.map_map, Nat.add_sub_cancel, List.cons.injEq, true_and]
 apply List.map_congr_left
 intro k _
 simp only [Function.comp]; omega
def stS (os : List AOper) (ρ : Nat → Rz) (nx : Nat) (S : Nat → Bool) (s : T × Heap) : T × Heap := runL os ρ nx ((List.range os.length).filter S) s
theorem pick_next {S : Nat → Bool} {i : Nat} {s0 : T × Heap} (hi : i < os.length) (hS : S i = false)
  (hind : ∀ k m, k < m → m < os.length → S k = false → (S m = true ∨ m = i) → Ind P os ρ nx k m)
  (hok : okI P os ρ nx i (runL os ρ nx (List.range i) s0)) :
  okI P os ρ nx i (stS os ρ nx S s0) ∧ stS os ρ nx (fun k => S k || k == i) s0 = stpI os ρ nx i (stS os ρ nx S s0) := by
 have hcut := range_cut hi
 let F2 := ((List.range (os.length - i - 1)).map (fun k => i + 1 + k)).filter S
 have hF2 : ∀ m ∈ F2, m < os.length ∧ i < m ∧ S m = true := by
  intro m hm
  obtain ⟨h1, h2⟩ := List.mem_filter.1 hm
  obtain ⟨k, hk, rfl⟩ := List.mem_map.1 h1
  have := List.mem_range.1 hk
  exact ⟨by omega, by omega, h2⟩
 have hI2 : ∀ m ∈ F2, Ind P os ρ nx i m := fun m hm => by
  obtain ⟨h1, h2, h3⟩ := hF2 m hm
  exact hind i m h2 h1 hS (.inl h3)
 have e1 : (List.range os.length).filter S = (List.range i).filter S ++ F2 := by
  rw [hcut, List.filter_append, List.filter_cons_of_neg (by simp [hS])]
 have e2 : (List.range os.length).filter (fun k => S k || k == i) = (List.range i).filter S ++ i :: F2 := by
  rw [hcut, List.filter_append, List.filter_cons_of_pos (by simp)]
  congr 1
  ·apply List.filter_congr
   intro k hk
   have := List.mem_range.1 hk
   have : ¬ k = i := by omega
   simp [this]
  ·congr 1
   apply List.filter_congr
   intro k hk
   obtain ⟨q, _, rfl⟩ := List.mem_map.1 hk
   have : ¬ i + 1 + q = i := by omega
   simp [this]
 constructor
 ·unfold stS
  rw [e1, runL_append, ok_through F2 hI2]
  have hsp := run_split (P := P) S (List.range i) (fun k hk m hm h1 h2 h3 => hind k m h3 (by have := List.mem_range.1 hm; omega) h1 (.inl h2)) (range_pair i) s0
  rw [hsp, ok_through _ (fun k hk => ?_)] at hok
  ·exact hok
  ·obtain ⟨h1, h2⟩ := List.mem_filter.1 hk
   have := List.mem_range.1 h1
   exact (hind k i (by omega) hi (by simpa using h2) (.inr rfl)).symm
 ·unfold stS
  rw [e1, e2, runL_append, runL_append]
  simp only [runL]
  exact run_through F2 hI2 _
theorem awpOps_run {K : T → Heap → Prop} : ∀ (r i : Nat) (s : T × Heap), i + r = os.length → awpOps P nx i (os.drop i) K s.1 s.2 →
    ∃ ρ : Nat → Rz, (∀ k, k < r → okI P os ρ nx (i + k) (runL os ρ nx ((List.range k).map (i + ·)) s)) ∧ K (runL os ρ nx ((List.range r).map (i + ·)) s).1 (runL os ρ nx ((List.range r).map (i + ·)) s).2 := by
  intro r
  induction r with
  | zero =>
    intro i s hi h
    rw [List.drop_eq_nil_of_le (by omega)] at h
    exact ⟨fun _ => .d .top, fun k hk => by omega, h⟩
  | succ r ih =>
    intro i s hi h
    have hi2 : i < os.length := by omega
    rw [List.drop_eq_getElem_cons hi2] at h
    have hoi : os[i]? = some os[i] := List.getElem?_eq_getElem hi2
    have go : ∀ r', okS P r' (nx + i) os[i] s.1 s.2 → awpOps P nx (i + 1) (os.drop (i + 1)) K (stp r' (nx + i) os[i] s.1 s.2).1 (stp r' (nx + i) os[i] s.1 s.2).2 →
        ∃ ρ : Nat → Rz, (∀ k, k < r + 1 → okI P os ρ nx (i + k) (runL os ρ nx ((List.range k).map (i + ·)) s)) ∧ K (runL os ρ nx ((List.range (r + 1)).map (i + ·)) s).1 (runL os ρ nx ((List.range (r + 1)).map (i + ·)) s).2 := by
      intro r' h1 h2
      obtain ⟨ρ, h3, h4⟩ := ih (i + 1) _ (by omega) h2
      let ρ' : Nat → Rz := fun k => if k = i then r' else ρ k
      have hr : ∀ (l : List Nat), (∀ k ∈ l, k ≠ i) → ∀ s, runL os ρ' nx l s = runL os ρ nx l s := by
        intro l
        induction l with
        | nil => intro _ s; rfl
        | cons k l ihl =>
          intro hl s
          have hk : ρ' k = ρ k := if_neg (hl k (by simp))
          simp only [runL]
          rw [ihl (fun k hk => hl k (by simp [hk]))]
          simp only [stpI, hk]
      have e1 : ∀ k, (List.range (k + 1)).map (i + ·) = i :: (List.range k).map (i + 1 + ·) := by
        intro k
        rw [List.range_succ_eq_map, List.map_cons, List.map_map]
        simp only [Nat.add_zero, List.cons.injEq, true_and]
        apply List.map_congr_left
        intro q _
        simp only [Function.comp]; omega
      have e2 : stpI os ρ' nx i s = stp r' (nx + i) os[i] s.1 s.2 := by
        simp only [stpI, hoi, ρ', if_true]
      have e3 : ∀ k, runL os ρ' nx ((List.range (k + 1)).map (i + ·)) s = runL os ρ nx ((List.range k).map (i + 1 + ·)) (stp r' (nx + i) os[i] s.1 s.2) := by
        intro k
        rw [e1]
        simp only [runL]
        rw [e2, hr _ (fun q hq => by obtain ⟨z, _, rfl⟩ := List.mem_map.1 hq; omega)]
      refine ⟨ρ', fun k hk => ?_, ?_⟩
      · cases k with
        | zero =>
          simp only [Nat.add_zero, List.range_zero, List.map_nil, runL, okI, hoi, ρ', if_true]
          exact h1
        | succ k =>
          rw [e3]
          have := h3 k (by omega)
          have hne : ρ' (i + (k + 1)) = ρ (i + 1 + k) := by
            simp only [ρ']
            rw [if_neg (by omega), show i + (k + 1) = i + 1 + k by omega]
          simp only [okI] at this ⊢
          rw [hne, show i + (k + 1) = i + 1 + k by omega]
          exact this
      · rw [e3]; exact h4
    unfold awpOps at h
    split at h
    · obtain ⟨r', h1, h2⟩ := h
      exact go _ h1 h2
    · obtain ⟨r', h1, h2⟩ := h
      exact go _ h1 h2
    · obtain ⟨r', h1, h2⟩ := h
      exact go _ h1 h2
    · obtain ⟨r', h1, h2⟩ := h
      exact go _ h1 h2
    · obtain ⟨r', h1, h2⟩ := h
      exact go _ h1 h2
    · obtain ⟨r', h1, h2⟩ := h
      exact go _ h1 h2
    · exact go _ h.1 h.2
theorem regOk_draw (hm : P.follows .mixedOrders = true) {id : Nat} (hnd : noDefer ops = true) (hl : ops.size = os.length) (htr : ∀ (i : Nat) (o : Oper) (ao : AOper), ops[i]? = some o → os[i]? = some ao → TrOper P D N ops o ao) (hd : drOk D ops os = true) : RegOk P D N id ops true os := by
  intro X0 W0 B γ a w e H nx K Q1 ro n hmk hF hbd hK hQ1
  let Q : Exit → Act → World → Prop := fun x a' w' => x = .normal ∧ ∃ γ' e' H', K e' H' ∧ FZ D N X0 W0 B γ' a' w' e' H' (nx + os.length)
  have hQ : ∀ γ' a' w' e' H', K e' H' → FZ D N X0 W0 B γ' a' w' e' H' (nx + os.length) → Q .normal a' w' := fun γ' a' w' e' H' h1 h2 => ⟨rfl, γ', e', H', h1, h2⟩
  have hlo : ¬ LetsOut Q := by rintro ⟨_, _, h, _⟩; cases h
  suffices hs : wpAny P .any ops Q ops.size (Array.replicate ops.size false) a { w with drawn := w.drawn + 1 } from wpIn_mono (wpIn_region_any hm (wpAnyIn_of (noDefer_at hnd) hlo _ _ _ _ hs)) (by
    rintro x a' w' ⟨rfl, γ', e', H', h1, h2⟩
    exact hQ1 γ' a' w' e' H' h1 h2)
  obtain ⟨ρ, hokl, hKf⟩ := awpOps_run (os := os) (nx := nx) (K := K) os.length 0 (e, H) (by simp) (by simpa using hK)
  simp only [Nat.zero_add, List.map_id'] at hokl hKf
  simp only [drOk, Bool.and_eq_true] at hd
  obtain ⟨hcl, hpair⟩ := hd
  generalize hrows : closure ops.toList [] = rows at hcl hpair
  -- the table
  have htab : ∀ j o, ops[j]? = some o → (∀ k ∈ bindsOn o, k < j) ∧ ∀ i ∈ rows.getD j [], ∃ k ∈ bindsOn o, k = i ∨ i ∈ rows.getD k [] := by
    intro j o ho
    have hj : j < ops.toList.length := by
      have := (Array.getElem?_eq_some_iff.1 ho).1
      simpa using this
    have h1 := List.all_eq_true.1 hcl j (List.mem_range.2 hj)
    have ho' : ops.toList[j]? = some o := by simpa using ho
    rw [ho'] at h1
    simp only [Bool.and_eq_true, List.all_eq_true, decide_eq_true_eq, List.any_eq_true, Bool.or_eq_true, beq_iff_eq, List.contains_iff_mem] at h1
    exact h1
  -- what is closed under the edges is closed under the table
  have hdown : ∀ (S : Nat → Bool), (∀ j o, ops[j]? = some o → S j = true → ∀ k ∈ bindsOn o, S k = true) → ∀ j, (∀ o, ops[j]? = some o → ∀ k ∈ bindsOn o, S k = true) → j < ops.size → ∀ i ∈ rows.getD j [], S i = true := by
    intro S hS j
    induction j using Nat.strongRecOn with
    | _ j ih =>
      intro hj hlt i hi
      obtain ⟨h1, h2⟩ := htab j ops[j] (Array.getElem?_eq_getElem hlt)
      obtain ⟨k, hk, hki⟩ := h2 i hi
      have hSk := hj _ (Array.getElem?_eq_getElem hlt) k hk
      rcases hki with rfl | hki
      · exact hSk
      · have hkj := h1 k hk
        exact ih k hkj (fun o ho q hq => hS k o ho hSk q hq) (by omega) i hki
  have hpr : ∀ i j, i < j → j < os.length → i ∈ rows.getD j [] ∨ Ind P os ρ nx i j := by
    intro i j hij hj
    have h1 := List.all_eq_true.1 (List.all_eq_true.1 hpair j (List.mem_range.2 hj)) i (List.mem_range.2 hij)
    rw [Bool.or_eq_true] at h1
    rcases h1 with h1 | h1
    · exact .inl (List.contains_iff_mem.1 h1)
    · have hoi : os[i]? = some os[i] := List.getElem?_eq_getElem (by omega)
      have hoj : os[j]? = some os[j] := List.getElem?_eq_getElem hj
      rw [hoi, hoj] at h1
      exact .inr (ind_of (by omega) (by omega) (by omega) hoi hoj h1)
  have key : ∀ (fuel : Nat) (listed : Array Bool) (γ : Nat → Option Value) (a : Act) (w : World), listed.size = ops.size →
      (∀ j o, ops[j]? = some o → listed.getD j false = true → ∀ k ∈ bindsOn o, listed.getD k false = true) →
      FR D N X0 W0 B γ a w (stS os ρ nx (fun k => listed.getD k false) (e, H)).1 (hjoin (stS os ρ nx (fun k => listed.getD k false) (e, H)).2 B.Hf) → HOk (stS os ρ nx (fun k => listed.getD k false) (e, H)).2 B.Hf →
      (∀ k, nx ≤ k % 500000 → k < 1000000 → (∀ j, listed.getD j false = true → k ≠ nx + j ∧ k ≠ nx + j + 500000) → γ k = none) →
      ((List.range ops.size).filter fun k => !listed.getD k false).length = fuel →
      wpAny P .any ops Q fuel listed a w := by
    intro fuel
    induction fuel with
    | zero =>
      intro listed γ a w hsz hcls hR hO hfr hcnt
      have hall : ∀ k, k < ops.size → listed.getD k false = true := by
        intro k hk
        cases hlk : listed.getD k false with
        | true => rfl
        | false =>
          have : k ∈ (List.range ops.size).filter fun k => !listed.getD k false := List.mem_filter.2 ⟨List.mem_range.2 hk, by simp [hlk]⟩
          rw [List.length_eq_zero_iff.1 hcnt] at this
          cases this
      refine ⟨?_, ?_⟩
      · apply List.eq_nil_iff_forall_not_mem.2
        intro j hj
        obtain ⟨h1, o, ho, _⟩ := mem_ready.1 hj
        have hlt := (Array.getElem?_eq_some_iff.1 ho).1
        have h2 := hall j hlt
        rw [Array.getD_eq_getD_getElem?] at h1 h2
        rw [Array.getElem?_eq_getElem (by omega)] at h1 h2
        simp at h1 h2
        rw [h1] at h2; cases h2
      · have hfull : stS os ρ nx (fun k => listed.getD k false) (e, H) = runL os ρ nx (List.range os.length) (e, H) := by
          unfold stS
          congr 1
          apply List.filter_eq_self.2
          intro k hk
          have := List.mem_range.1 hk
          exact hall k (by omega)
        rw [hfull] at hR hO
        refine hQ γ a w _ _ hKf ⟨⟨hR, fun k hk hk2 => hfr k (by omega) hk2 (fun j hj => ?_)⟩, hO⟩
        have hjlt : j < ops.size := by
          rcases Nat.lt_or_ge j ops.size with h | h
          · exact h
          · rw [Array.getD_eq_getD_getElem?, Array.getElem?_eq_none (by omega)] at hj
            cases hj
        omega
    | succ fuel ih =>
      intro listed γ a w hsz hcls hR hO hfr hcnt
      refine ⟨fun hnil => ?_, fun i hi => ?_⟩
      · -- something is left, and the first one left is ready
        exfalso
        have hne : ((List.range ops.size).filter fun k => !listed.getD k false) ≠ [] := by
          intro h; rw [h] at hcnt; cases hcnt
        obtain ⟨m, hm⟩ := exists_min (p := fun k => k < ops.size ∧ listed.getD k false = false) (by
          obtain ⟨k, hk⟩ := List.exists_mem_of_ne_nil _ hne
          obtain ⟨h1, h2⟩ := List.mem_filter.1 hk
          exact ⟨k, List.mem_range.1 h1, by simpa using h2⟩)
        obtain ⟨⟨hm1, hm2⟩, hmin⟩ := hm
        have hr : m ∈ Region.ready .any ops listed := by
          refine mem_ready.2 ⟨?_, ops[m], Array.getElem?_eq_getElem hm1, fun ed hed hb => ?_⟩
          · rw [Array.getD_eq_getD_getElem?, Array.getElem?_eq_getElem (by omega)] at hm2 ⊢
            simpa using hm2
          · have hmem : ed.on ∈ bindsOn ops[m] := List.mem_map.2 ⟨ed, List.mem_filter.2 ⟨by simpa using hed, hb⟩, rfl⟩
            have hlt := (htab m _ (Array.getElem?_eq_getElem hm1)).1 _ hmem
            cases hl2 : listed.getD ed.on false with
            | true => rfl
            | false => have := hmin ed.on ⟨by omega, hl2⟩; omega
        rw [hnil] at hr
        cases hr
      · obtain ⟨hun, o, ho, hpre⟩ := mem_ready.1 hi
        have hlt := (Array.getElem?_eq_some_iff.1 ho).1
        have hSi : listed.getD i false = false := by
          rw [Array.getD_eq_getD_getElem?, Array.getElem?_eq_getElem (by omega)] at hun ⊢
          simpa using hun
        have hpre' : ∀ k ∈ bindsOn o, listed.getD k false = true := by
          intro k hk
          obtain ⟨ed, hed, rfl⟩ := List.mem_map.1 hk
          obtain ⟨h1, h2⟩ := List.mem_filter.1 hed
          exact hpre ed (by simpa using h1) h2
        have hD := hdown (fun k => listed.getD k false) hcls
        have hno : ∀ k m, k < m → m < os.length → listed.getD k false = false → (listed.getD m false = true ∨ m = i) → Ind P os ρ nx k m := by
          intro k m hkm hm' hSk hSm
          rcases hpr k m hkm hm' with h | h
          · exfalso
            have : listed.getD k false = true := by
              rcases hSm with hSm | rfl
              · exact hD m (fun o' ho' => hcls m o' ho' hSm) (by omega) k h
              · exact hD m (fun o' ho' => by rw [ho] at ho'; injection ho' with ho'; subst ho'; exact hpre') (by omega) k h
            rw [hSk] at this; cases this
          · exact h
        have hi' : i < os.length := by omega
        obtain ⟨k1, k2⟩ := pick_next (P := P) (ρ := ρ) (nx := nx) (S := fun k => listed.getD k false) (s0 := (e, H)) hi' hSi hno (hokl i hi')
        have hoi : os[i]? = some os[i] := List.getElem?_eq_getElem hi'
        have tr := htr i o os[i] ho hoi
        have hok : okS P (ρ i) (nx + i) os[i] (stS os ρ nx (fun k => listed.getD k false) (e, H)).1 (stS os ρ nx (fun k => listed.getD k false) (e, H)).2 := by
          simpa only [okI, hoi] using k1
        have hst : stS os ρ nx (fun k => (listed.setIfInBounds i true).getD k false) (e, H) = stp (ρ i) (nx + i) os[i] (stS os ρ nx (fun k => listed.getD k false) (e, H)).1 (stS os ρ nx (fun k => listed.getD k false) (e, H)).2 := by
          have e1 : (fun k => (listed.setIfInBounds i true).getD k false) = fun k => listed.getD k false || k == i := by
            funext k
            rw [Array.getD_eq_getD_getElem?, Array.getD_eq_getD_getElem?]
            by_cases hk : k = i
            · subst hk
              simp [show k < listed.size by omega]
            · rw [Array.getElem?_setIfInBounds_ne (Ne.symm hk)]
              simp [hk]
          rw [e1, k2]
          simp only [stpI, hoi]
        have hji : ∀ j, listed.getD j false = true → j ≠ i := fun j hj e1 => by
          subst e1
          rw [hSi] at hj; cases hj
        have hjl : ∀ j, listed.getD j false = true → j < ops.size := fun j hj => by
          rcases Nat.lt_or_ge j ops.size with h | h
          · exact h
          · rw [Array.getD_eq_getD_getElem?, Array.getElem?_eq_none (by omega)] at hj
            cases hj
        have hstep := op_sound_f (Q := Q) (K := wpAny P .any ops Q fuel (listed.setIfInBounds i true)) tr hR hO (id := nx + i) (hfr _ (by omega) (by omega) (fun j hj => ⟨by have := hji j hj; omega, by omega⟩)) (hfr _ (by omega) (by omega) (fun j hj => ⟨by have := hjl j hj; omega, by have := hji j hj; omega⟩)) (by omega) (ρ i) hok (noMk_at hmk hi') (fun γ' a' w' hR' hO' hkn hne => by
            refine ih _ γ' a' w' (by simpa using hsz) (fun j o' ho' hj k hk => ?_) (by rw [hst]; exact hR') (by rw [hst]; exact hO') (fun k hk hk2 hnot => ?_) ?_
            · rw [Array.getD_eq_getD_getElem?] at hj ⊢
              by_cases hki : k = i
              · subst hki; simp [show k < listed.size by omega]
              · rw [Array.getElem?_setIfInBounds_ne (Ne.symm hki), ← Array.getD_eq_getD_getElem?]
                by_cases hji : j = i
                · subst hji
                  rw [ho] at ho'
                  injection ho' with ho'
                  subst ho'
                  exact hpre' k hk
                · rw [Array.getElem?_setIfInBounds_ne (Ne.symm hji), ← Array.getD_eq_getD_getElem?] at hj
                  exact hcls j o' ho' hj k hk
            · have hki : k ≠ nx + i ∧ k ≠ nx + i + 500000 := hnot i (by rw [Array.getD_eq_getD_getElem?]; simp [show i < listed.size by omega])
              rw [hne k hki.1 hki.2]
              refine hfr k hk hk2 (fun j hj => hnot j ?_)
              by_cases hji : j = i
              · subst hji; rw [hSi] at hj; cases hj
              · rw [Array.getD_eq_getD_getElem?, Array.getElem?_setIfInBounds_ne (Ne.symm hji), ← Array.getD_eq_getD_getElem?]
                exact hj
            · have hcut := range_cut hlt
              have same : ∀ k, k ≠ i → (listed.setIfInBounds i true).getD k false = listed.getD k false := fun k hk => by
                rw [Array.getD_eq_getD_getElem?, Array.getElem?_setIfInBounds_ne (Ne.symm hk), ← Array.getD_eq_getD_getElem?]
              have hi1 : (listed.setIfInBounds i true).getD i false = true := by
                rw [Array.getD_eq_getD_getElem?]; simp [show i < listed.size by omega]
              rw [hcut, List.filter_append, List.filter_cons_of_pos (by simp [hSi])] at hcnt
              rw [hcut, List.filter_append, List.filter_cons_of_neg (by simp [hi1])]
              have f1 : (List.range i).filter (fun k => !(listed.setIfInBounds i true).getD k false) = (List.range i).filter (fun k => !listed.getD k false) := by
                apply List.filter_congr
                intro k hk
                have := List.mem_range.1 hk
                rw [same k (by omega)]
              have f2 : ((List.range (ops.size - i - 1)).map (fun k => i + 1 + k)).filter (fun k => !(listed.setIfInBounds i true).getD k false) = ((List.range (ops.size - i - 1)).map (fun k => i + 1 + k)).filter (fun k => !listed.getD k false) := by
                apply List.filter_congr
                intro k hk
                obtain ⟨q, _, rfl⟩ := List.mem_map.1 hk
                rw [same _ (by omega)]
              rw [f1, f2]
              simp only [List.length_append, List.length_cons] at hcnt ⊢
              omega)
        unfold wpOp
        rw [ho]
        exact hstep
  have hdr : Ext w { w with drawn := w.drawn + 1 } := Ext.drew w
  have hF' := hF.1.1.mono (Knows.refl γ) (.of_ext hdr) (hF.1.1.st.stay hdr) (.refl _)
  have h0 : stS os ρ nx (fun k => (Array.replicate ops.size false).getD k false) (e, H) = (e, H) := by
    unfold stS
    have : (List.range os.length).filter (fun k => (Array.replicate ops.size false).getD k false) = [] := by
      apply List.filter_eq_nil_iff.2
      intro k hk
      have := List.mem_range.1 hk
      rw [Array.getD_eq_getD_getElem?]
      simp [show k < ops.size by omega]
    rw [this]; rfl
  have hlist : ∀ j, (Array.replicate ops.size false).getD j false = false := by
    intro j
    rw [Array.getD_eq_getD_getElem?]
    by_cases hj : j < ops.size
    · simp [hj]
    · rw [Array.getElem?_eq_none (by simpa using hj)]; rfl
  refine key ops.size _ γ a _ (by simp) (fun j o ho hj => by rw [hlist j] at hj; cases hj) (by rw [h0]; exact hF') (by rw [h0]; exact hF.2) (fun k hk hk2 _ => hF.1.2 k hk hk2) ?_
  have : (List.range ops.size).filter (fun k => !(Array.replicate ops.size false).getD k false) = List.range ops.size := by
    apply List.filter_eq_self.2
    intro k _
    rw [hlist k]; rfl
  rw [this]; simp
end
end Go.Proofs.Ytgadlpdbkohlbaa
/- A function that turns objects of its callers: its contract out of its body. -/
namespace Go.Proofs.Ytgadlpdbkohlbaa
open Go.RowKit
def setAllA (D : Nat) (e : T) : Nat → List AV → T
 | _, [] => e
 | i, a :: aa => setAllA D (e.set (bits D i) a) (i + 1) aa
theorem setAllA_get (D : Nat) {p : Slot} (hp : p.length = D) : ∀ (l : List AV) (e : T) (i : Nat), i + l.length ≤ 2 ^ D → ((setAllA D e i l).get p = e.get p ∧ (p.idx < i ∨ i + l.length ≤ p.idx)) ∨ ∃ k, ∃ h : k < l.length, p.idx = i + k ∧ (setAllA D e i l).get p = l[k]
  | [], e, i, _ => .inl ⟨rfl, by simp; omega⟩
  | a :: l, e, i, hle => by
    simp only [List.length_cons] at hle
    rcases setAllA_get D hp l (e.set (bits D i) a) (i + 1) (by omega) with ⟨h1, h2⟩ | ⟨k, hk, h1, h2⟩
    · by_cases hpi : p.idx = i
      · right
        have : bits D i = p := Slot.idx_inj ((bits_length D i).trans hp.symm) ((idx_bits D i (by omega)).trans hpi.symm)
        refine ⟨0, by simp, by omega, ?_⟩
        show (setAllA D (e.set (bits D i) a) (i + 1) l).get p = _
        rw [h1, this, T.get_set]
        rfl
      · left
        have : bits D i ≠ p := fun h => hpi (by rw [← h]; exact idx_bits D i (by omega))
        refine ⟨?_, by simp only [List.length_cons]; omega⟩
        simp only [setAllA, h1]
        exact T.get_set_ne _ _ _ _ ((bits_length D i).trans hp.symm) this
    · exact .inr ⟨k + 1, by simpa using hk, by omega, by simpa [setAllA] using h2⟩
def initA (D : Nat) (l : List AV) : T := setAllA D (.leaf (.d .top)) 0 l
theorem renL_map (τ : Nat → Nat) : ∀ l : List AV, AV.ren.renL τ l = l.map (AV.ren τ)
 | [] => rfl
 | a :: l => by simp only [AV.ren.renL, List.map_cons, renL_map τ l]
theorem Rep.ren {γ γ' : Nat → Option Value} {X X' : Nat → Nat → Prop} {w w' : World} {ρ : Nat → Nat} (hγ : ∀ k v, γ k = some v → γ' (ρ k) = some v) (k : Keeps X X' w w') {v : Value} {x : AV} (h : Rep γ X w v x) : Rep γ' X' w' v (x.ren ρ) := by
  induction h with
  | d v x h => exact .d v x (h.mono k)
  | whn v g x _ h0 ih => exact .whn v g _ ih h0
  | ptr b id off h => exact .ptr b _ off (hγ _ _ h)
  | own v id len h => exact .own v _ len (hγ _ _ h)
  | mp b id h => exact .mp b _ (hγ _ _ h)
  | el b len cap id n i off h => exact .el b len cap _ n i off (hγ _ _ h)
  | fn f vs caps hl _ ih =>
    simp only [AV.ren, renL_map]
    exact .fn f vs _ (by simpa using hl) (fun i h1 h2 => by simpa using ih i h1 (by simpa using h2))
  | agg vs cs hl _ ih =>
    simp only [AV.ren, renL_map]
    exact .agg vs _ (by simpa using hl) (fun i h1 h2 => by simpa using ih i h1 (by simpa using h2))
  | tup vs cs hl _ ih =>
    simp only [AV.ren, renL_map]
    exact .tup vs _ (by simpa using hl) (fun i h1 h2 => by simpa using ih i h1 (by simpa using h2))
  | bm f v x _ ih => exact .bm f v _ ih
theorem ORep.ren {γ γ' : Nat → Option Value} {X X' : Nat → Nat → Prop} {w : World} {n : Nat} {ρ : Nat → Nat} (hγ : ∀ k v, γ k = some v → γ' (ρ k) = some v) (k : Keeps X X' w w) {v : Value} {o : AObj} (h : ORep γ X n w v o) : ORep γ' X' n w v (o.ren ρ) := by
  cases o with
  | boxT ty cs =>
    obtain ⟨b, arr, t, rfl, h1, h2, h3⟩ := h
    refine ⟨b, arr, t, rfl, h1, h2, ?_⟩
    rw [renL_map]
    exact ⟨by simpa using h3.1, fun i hi hi' => by simpa using (h3.2 i hi (by simpa using hi')).ren hγ k⟩
  | row e n len row =>
    obtain ⟨xs, h1, h2⟩ := h
    exact ⟨xs, h1, fun i hi => ⟨(h2 i hi).1, (h2 i hi).2.mono k⟩⟩
  | vec e n len row =>
    obtain ⟨xs, h1, h2⟩ := h
    refine ⟨xs, h1, fun i hi => ⟨(h2 i hi).1, ?_⟩⟩
    simp only [renL_map]
    exact ⟨by simpa using (h2 i hi).2.1, fun j hj hj' => by simpa using ((h2 i hi).2.2 j hj (by simpa using hj')).ren hγ k⟩
  | map kd n f => exact h
theorem Rep.unren {γ0 γ γ' : Nat → Option Value} {X X' : Nat → Nat → Prop} {w w' : World} {ρ : Nat → Nat} (hγ : ∀ id u0 u, γ0 id = some u0 → γ (ρ id) = some u → γ' id = some u) (k : Keeps X X' w w') {v : Value} {y : AV} (h : Rep γ X w v y) :
    ∀ x : AV, y = x.ren ρ → (∃ X0 w0 v0, Rep γ0 X0 w0 v0 x) → Rep γ' X' w' v x := by
  induction h with
  | d v x h =>
    rintro (x | _ | _ | _ | _ | _ | _ | _ | _ | _) e _ <;> simp only [AV.ren] at e <;> (try cases e)
    exact .d _ _ (h.mono k)
  | whn v g y _ h0 ih =>
    rintro (_ | ⟨g', x⟩ | _ | _ | _ | _ | _ | _ | _ | _) e ⟨X1, w1, v1, h1⟩ <;> simp only [AV.ren] at e <;> (try cases e)
    cases h1 with | whn _ _ _ h2 _ => exact .whn v _ x (fun hg => ih hg x rfl ⟨_, _, _, h2 hg⟩) h0
  | ptr b id off h =>
    rintro (_ | _ | ⟨i, o⟩ | _ | _ | _ | _ | _ | _ | _) e ⟨X1, w1, v1, h1⟩ <;> simp only [AV.ren] at e <;> (try cases e)
    cases h1 with | ptr b' _ _ h2 => exact .ptr b _ _ (hγ _ _ _ h2 h)
  | own v id len h =>
    rintro (_ | _ | _ | ⟨i, n⟩ | _ | _ | _ | _ | _ | _) e ⟨X1, w1, v1, h1⟩ <;> simp only [AV.ren] at e <;> (try cases e)
    cases h1 with | own _ _ _ h2 => exact .own v _ _ (hγ _ _ _ h2 h)
  | mp b id h =>
    rintro (_ | _ | _ | _ | ⟨i⟩ | _ | _ | _ | _ | _) e ⟨X1, w1, v1, h1⟩ <;> simp only [AV.ren] at e <;> (try cases e)
    cases h1 with | mp b' _ h2 => exact .mp b _ (hγ _ _ _ h2 h)
  | el b len cap id n i off h =>
    rintro (_ | _ | _ | _ | _ | ⟨i', n', k', o'⟩ | _ | _ | _ | _) e ⟨X1, w1, v1, h1⟩ <;> simp only [AV.ren] at e <;> (try cases e)
    cases h1 with | el b' _ _ _ _ _ _ h2 => exact .el b len cap _ _ _ _ (hγ _ _ _ h2 h)
  | fn f vs caps hl _ ih =>
    rintro (_ | _ | _ | _ | _ | _ | ⟨f', caps'⟩ | _ | _ | _) e ⟨X1, w1, v1, h1⟩ <;> simp only [AV.ren, renL_map] at e <;> (try cases e)
    cases h1 with | fn _ vs1 _ hl1 hr1 =>
    exact .fn _ vs caps' (by simpa using hl) (fun i h3 h4 => ih i h3 (by simpa using h4) caps'[i] (by simp) ⟨_, _, _, hr1 i (by omega) h4⟩)
  | agg vs cs hl _ ih =>
    rintro (_ | _ | _ | _ | _ | _ | _ | ⟨cs'⟩ | _ | _) e ⟨X1, w1, v1, h1⟩ <;> simp only [AV.ren, renL_map] at e <;> (try cases e)
    cases h1 with | agg vs1 _ hl1 hr1 =>
    exact .agg vs cs' (by simpa using hl) (fun i h3 h4 => ih i h3 (by simpa using h4) cs'[i] (by simp) ⟨_, _, _, hr1 i (by omega) h4⟩)
  | tup vs cs hl _ ih =>
    rintro (_ | _ | _ | _ | _ | _ | _ | _ | ⟨cs'⟩ | _) e ⟨X1, w1, v1, h1⟩ <;> simp only [AV.ren, renL_map] at e <;> (try cases e)
    cases h1 with | tup vs1 _ hl1 hr1 =>
    exact .tup vs cs' (by simpa using hl) (fun i h3 h4 => ih i h3 (by simpa using h4) cs'[i] (by simp) ⟨_, _, _, hr1 i (by omega) h4⟩)
  | bm f v x _ ih =>
    rintro (_ | _ | _ | _ | _ | _ | _ | _ | _ | ⟨f', x'⟩) e ⟨X1, w1, v1, h1⟩ <;> simp only [AV.ren] at e <;> (try cases e)
    cases h1 with | bm _ v2 _ h2 =>
    exact .bm _ v x' (ih x' rfl ⟨_, _, _, h2⟩)
theorem ORep.unren {γ0 γ γ' : Nat → Option Value} {X X' Y : Nat → Nat → Prop} {w w0 : World} {n n0 : Nat} {ρ : Nat → Nat} (hγ : ∀ id u0 u, γ0 id = some u0 → γ (ρ id) = some u → γ' id = some u) (k : Keeps X X' w w) {v v0 : Value} {o : AObj} (h0 : ORep γ0 Y n0 w0 v0 o) (h : ORep γ X n w v (o.ren ρ)) : ORep γ' X' n w v o := by
  cases o with
  | boxT ty cs =>
    obtain ⟨b, arr, t, rfl, h1, h2, h3⟩ := h
    obtain ⟨b0, arr0, t0, _, _, _, g3⟩ := h0
    rw [renL_map] at h3
    refine ⟨b, arr, t, rfl, h1, h2, by simpa using h3.1, fun i hi hi' => ?_⟩
    have := h3.2 i hi (by simpa using hi')
    exact this.unren hγ k cs[i] (by simp) ⟨_, _, _, g3.2 i (by have := g3.1; omega) hi'⟩
  | row e n len row =>
    obtain ⟨xs, h1, h2⟩ := h
    exact ⟨xs, h1, fun i hi => ⟨(h2 i hi).1, (h2 i hi).2.mono k⟩⟩
  | vec e n len row =>
    obtain ⟨xs, h1, h2⟩ := h
    obtain ⟨xs0, _, g2⟩ := h0
    refine ⟨xs, h1, fun i hi => ⟨(h2 i hi).1, ?_⟩⟩
    have h3 := (h2 i hi).2
    simp only [renL_map] at h3
    refine ⟨by simpa using h3.1, fun j hj hj' => ?_⟩
    have := h3.2 j hj (by simpa using hj')
    exact this.unren hγ k (row i)[j] (by simp) ⟨_, _, _, (g2 i hi).2.2 j (by have := (g2 i hi).2.1; omega) hj'⟩
  | map kd n f => exact h
mutual
theorem ren_far {ρ : Nat → Nat} (hρ : ∀ k, 1000000 ≤ ρ k) : ∀ x : AV, (x.ren ρ).far = true
 | .d _ => by simp [AV.ren, AV.far]
 | .whn _ x => by simp only [AV.ren, AV.far]; exact ren_far hρ x
 | .ptr i _ => by simp [AV.ren, AV.far, hρ i]
 | .own i _ => by simp [AV.ren, AV.far, hρ i]
 | .mp i => by simp [AV.ren, AV.far, hρ i]
 | .el i _ _ _ => by simp [AV.ren, AV.far, hρ i]
 | .fn _ l => by simp only [AV.ren, AV.far]; exact ren_farL hρ l
 | .agg l => by simp only [AV.ren, AV.far]; exact ren_farL hρ l
 | .tup l => by simp only [AV.ren, AV.far]; exact ren_farL hρ l
 | .bm _ x => by simp only [AV.ren, AV.far]; exact ren_far hρ x
theorem ren_farL {ρ : Nat → Nat} (hρ : ∀ k, 1000000 ≤ ρ k) : ∀ l : List AV, AV.far.farL (AV.ren.renL ρ l) = true
 | [] => rfl
 | a :: l => by simp only [AV.ren.renL, AV.far.farL, Bool.and_eq_true]; exact ⟨ren_far hρ a, ren_farL hρ l⟩
end
theorem AObj.ren_far {ρ : Nat → Nat} (hρ : ∀ k, 1000000 ≤ ρ k) (o : AObj) : (o.ren ρ).far := by
 cases o with
 | boxT ty cs => exact ren_farL hρ cs
 | vec e n len row => exact fun i _ => ren_farL hρ (row i)
 | _ => trivial
theorem turns_ren {ρ : Nat → Nat} {o : AObj} {q : Nat} : turns (o.ren ρ) q = turns o q := by cases o <;> rfl
section
variable {P : Program} {D N : Nat} {X0 : Nat → Nat → Prop} {W0 : World} {γ : Nat → Option Value} {w : World} {H : Heap} {a : Act} {e : T}
theorem OLe.turns {M : Rws} {g : Nat → Src} {o o' : AObj} (h : OLe M g o o') {q : Nat} (ht : Proofs.Ytgadlpdbkohlbaa.turns o' q) : Proofs.Ytgadlpdbkohlbaa.turns o q := by
  cases o with
  | boxT => trivial
  | map => trivial
  | row e n len row =>
    cases o' with
    | boxT => exact h.elim
    | vec => exact h.elim
    | map => exact h.elim
    | row e' n' len' row' =>
      obtain ⟨_, rfl, rfl, _⟩ := h
      exact ht
  | vec e n len row => trivial
theorem OLe.orep {M : Rws} {g : Nat → Src} {γ' : Nat → Option Value} {X X' : Nat → Nat → Prop} {n : Nat} {o o' : AObj} (hrep : ∀ v x y, AVLe M g x y → Rep γ X w v x → Rep γ' X' w v y) (hK : Keeps X X' w w) {v : Value} (hle : OLe M g o o') (hr : ORep γ X n w v o) : ORep γ' X' n w v o' := by
  cases o with
  | boxT ty cs =>
    cases o' with
    | row => exact hle.elim
    | vec => exact hle.elim
    | map => exact hle.elim
    | boxT ty cs' =>
      obtain ⟨b, arr, t, rfl, h1, h2, h3⟩ := hr
      obtain ⟨t', ht'⟩ := tyOf_le hle.1 t
      exact ⟨b, arr, t', rfl, h1, by rw [ht']; exact h2, cellsLe.reps hrep hle.2 h3⟩
  | row e n len row =>
    cases o' with
    | boxT => exact hle.elim
    | vec => exact hle.elim
    | map => exact hle.elim
    | row e' n' len' row' =>
      obtain ⟨rfl, rfl, rfl, hrow⟩ := hle
      obtain ⟨xs, hown, hx⟩ := hr
      exact ⟨xs, hown, fun j hj => ⟨(hx j hj).1, by rw [← hrow j hj]; exact (hx j hj).2.mono hK⟩⟩
  | vec e n len row =>
    cases o' with
    | boxT => exact hle.elim
    | row e' n' len' row' =>
      obtain ⟨rfl, rfl, rfl, hrow⟩ := hle
      obtain ⟨xs, hown, hx⟩ := hr
      exact ⟨xs, hown, fun j hj => ⟨(hx j hj).1, reps_d (cellsLe.reps hrep (hrow j hj) (hx j hj).2)⟩⟩
    | map => exact hle.elim
    | vec e' n' len' row' =>
      obtain ⟨rfl, rfl, rfl, hrow⟩ := hle
      obtain ⟨xs, hown, hx⟩ := hr
      exact ⟨xs, hown, fun j hj => ⟨(hx j hj).1, cellsLe.reps hrep (hrow j hj) (hx j hj).2⟩⟩
  | map kd n f =>
    cases o' with
    | boxT => exact hle.elim
    | row => exact hle.elim
    | vec => exact hle.elim
    | map kd' n' f' =>
      obtain ⟨rfl, rfl, hf⟩ := hle
      obtain ⟨b, ent, clock, rfl, h1, h2, h3, h4, h5⟩ := hr
      exact ⟨b, ent, clock, rfl, h1, h2, h3, h4, fun k hk => (h5 k hk).trans (hf k hk)⟩
structure Entered (X0 : Nat → Nat → Prop) (W0 : World) (γ : Nat → Option Value) (w : World) (H : Heap) (τ : Nat → Nat) (L : List (Nat × AObj)) (ρ : Nat → Nat) (γc : Nat → Option Value) (Hf : Heap) : Prop where
 back : ∀ i o, (i, o) ∈ L → ρ (τ i) = i
 inj : ∀ k k', ρ k = ρ k' → k = k'
 val : ∀ k, γc (ρ k) = γ k
 far : ∀ k, 1000000 ≤ ρ k
 low : ∀ k, k < 1000000 → γc k = none
 ok : HOk (hof L) Hf
 fr : ∀ k o, hget H k = some o → (∀ i o', (i, o') ∈ L → τ i ≠ k) → hget Hf (ρ k) = some (o.ren ρ)
 st : St X0 W0 γc w (hjoin (hof L) Hf)
 sub : ∀ b q, XOf X0 γc (hjoin (hof L) Hf) b q → XOf X0 γ H b q
theorem eff_enter {τ : Nat → Nat} {L : List (Nat × AObj)} (hS : St X0 W0 γ w H) (hL : L.all (fun p => decide (1000000 ≤ p.1) && decide (p.1 < 1001000)) = true) (hHL : HLe noR (gOf τ L) H L) (hap : srcApart (gOf τ L) L) : ∃ ρ γc Hf, Entered X0 W0 γ w H τ L ρ γc Hf := by
  have hLb : ∀ i o, (i, o) ∈ L → 1000000 ≤ i ∧ i < 1001000 := fun i o hm => by
    have := List.all_eq_true.1 hL _ hm
    simpa using this
  have hinj : ∀ i o j o', (i, o) ∈ L → (j, o') ∈ L → τ i = τ j → i = j := fun i o j o' hi hj he => by
    by_cases hne : i = j
    · exact hne
    · exact (hap.mem hi hj hne (gOf_mem hi) (by rw [gOf_mem hj, he])).elim
  let fd : Nat → Option (Nat × AObj) := fun k => L.find? fun p => τ p.1 == k
  have hfd : ∀ k p, fd k = some p → p ∈ L ∧ τ p.1 = k := fun k p h => ⟨List.mem_of_find?_eq_some h, by simpa using List.find?_some h⟩
  have hfn : ∀ k, fd k = none → ∀ i o, (i, o) ∈ L → τ i ≠ k := fun k h i o hm => by
    have := List.find?_eq_none.1 h (i, o) hm
    simpa using this
  let ρ : Nat → Nat := fun k => match fd k with | some p => p.1 | none => 1001000 + k
  let γc : Nat → Option Value := fun j => if L.any (fun p => p.1 == j) = true then γ (τ j) else if 1001000 ≤ j then γ (j - 1001000) else none
  let Hf : Heap := fun j => if 1001000 ≤ j then (match fd (j - 1001000) with | some _ => none | none => (H (j - 1001000)).map (·.ren ρ)) else none
  have hany : ∀ i, L.any (fun p => p.1 == i) = true ↔ ∃ o, (i, o) ∈ L := fun i => by
    rw [List.any_eq_true]
    constructor
    · rintro ⟨⟨j, o⟩, hm, he⟩
      simp only [beq_iff_eq] at he
      subst he
      exact ⟨o, hm⟩
    · rintro ⟨o, hm⟩
      exact ⟨(i, o), hm, by simp⟩
  have hback : ∀ i o, (i, o) ∈ L → ρ (τ i) = i := fun i o hm => by
    cases h : fd (τ i) with
    | none => exact absurd rfl (hfn _ h i o hm)
    | some p =>
      obtain ⟨h1, h2⟩ := hfd _ _ h
      show (match fd (τ i) with | some p => p.1 | none => _) = i
      rw [h]
      exact hinj p.1 p.2 i o h1 hm h2
  have hρn : ∀ k, fd k = none → ρ k = 1001000 + k := fun k h => by
    show (match fd k with | some p => p.1 | none => _) = _
    rw [h]
  have hρs : ∀ k p, fd k = some p → ρ k = p.1 := fun k p h => by
    show (match fd k with | some p => p.1 | none => _) = _
    rw [h]
  have hfar : ∀ k, 1000000 ≤ ρ k := fun k => by
    cases h : fd k with
    | none => rw [hρn k h]; omega
    | some p => rw [hρs k p h]; exact (hLb p.1 p.2 (hfd k p h).1).1
  have hinjρ : ∀ k k', ρ k = ρ k' → k = k' := fun k k' he => by
    cases h : fd k with
    | none =>
      rw [hρn k h] at he
      cases h' : fd k' with
      | none => rw [hρn k' h'] at he; omega
      | some p => rw [hρs k' p h'] at he; have := (hLb p.1 p.2 (hfd k' p h').1).2; omega
    | some p =>
      rw [hρs k p h] at he
      have h1 := hfd k p h
      cases h' : fd k' with
      | none => rw [hρn k' h'] at he; have := (hLb p.1 p.2 h1.1).2; omega
      | some p' =>
        rw [hρs k' p' h'] at he
        rw [← h1.2, ← (hfd k' p' h').2, he]
  have hval : ∀ k, γc (ρ k) = γ k := fun k => by
    cases h : fd k with
    | none =>
      rw [hρn k h]
      have hno : ¬ L.any (fun p => p.1 == 1001000 + k) = true := fun h' => by
        obtain ⟨o, hm⟩ := (hany _).1 h'
        have := (hLb _ _ hm).2
        omega
      show (if L.any (fun p => p.1 == 1001000 + k) = true then _ else _) = _
      rw [if_neg hno, if_pos (by omega), Nat.add_sub_cancel_left]
    | some p =>
      rw [hρs k p h]
      obtain ⟨h1, h2⟩ := hfd k p h
      show (if L.any (fun q => q.1 == p.1) = true then γ (τ p.1) else _) = _
      rw [if_pos ((hany _).2 ⟨p.2, h1⟩), h2]
  have hlow : ∀ k, k < 1000000 → γc k = none := fun k hk => by
    have hno : ¬ L.any (fun p => p.1 == k) = true := fun h' => by
      obtain ⟨o, hm⟩ := (hany _).1 h'
      have := (hLb _ _ hm).1
      omega
    show (if L.any (fun p => p.1 == k) = true then _ else _) = _
    rw [if_neg hno, if_neg (by omega)]
  have hHf : ∀ j o, hget Hf j = some o → ∃ k o0, 1001000 ≤ j ∧ j = 1001000 + k ∧ fd k = none ∧ hget H k = some o0 ∧ o = o0.ren ρ := fun j o h => by
    have h' : (if 1001000 ≤ j then (match fd (j - 1001000) with | some _ => none | none => (H (j - 1001000)).map (·.ren ρ)) else none) = some o := h
    split at h'
    · rename_i hj
      cases hf : fd (j - 1001000) with
      | some p => rw [hf] at h'; cases h'
      | none =>
        rw [hf] at h'
        simp only [Option.map_eq_some_iff] at h'
        obtain ⟨o0, h1, h2⟩ := h'
        exact ⟨_, o0, hj, by omega, hf, h1, h2.symm⟩
    · cases h'
  have hok : HOk (hof L) Hf := fun j o h => by
    obtain ⟨k, o0, hj, _, hf, ho, rfl⟩ := hHf j o h
    refine ⟨by omega, ?_, o0.ren_far hfar⟩
    cases hg : hget (hof L) j with
    | none => rfl
    | some o' =>
      have := (hLb _ _ (hof_get hg)).2
      omega
  have hfr : ∀ k o, hget H k = some o → (∀ i o', (i, o') ∈ L → τ i ≠ k) → hget Hf (ρ k) = some (o.ren ρ) := fun k o ho hne => by
    have hf : fd k = none := by
      cases h : fd k with
      | none => rfl
      | some p => exact absurd (hfd k p h).2 (hne p.1 p.2 (hfd k p h).1)
    rw [hρn k hf]
    show (if 1001000 ≤ 1001000 + k then (match fd (1001000 + k - 1001000) with | some _ => none | none => (H (1001000 + k - 1001000)).map (·.ren ρ)) else none) = _
    have e1 : 1001000 + k - 1001000 = k := by omega
    rw [if_pos (by omega), e1, hf]
    have ho' : H k = some o := ho
    simp only [ho', Option.map_some]
  have hγL : ∀ i, L.any (fun p => p.1 == i) = true → γc i = γ (τ i) := fun i hi => by
    show (if L.any (fun p => p.1 == i) = true then γ (τ i) else _) = _
    rw [if_pos hi]
  clear_value Hf γc ρ
  -- each object is one of the caller's
  have hsrc : ∀ j o, hget (hjoin (hof L) Hf) j = some o → ∃ k o0, ρ k = j ∧ hget H k = some o0 ∧ (∀ q, turns o q → turns o0 q) ∧ ∀ (X X' : Nat → Nat → Prop) (n : Nat) v, Keeps X X' w w → ORep γ X n w v o0 → ORep γc X' n w v o := by
    intro j o h
    rcases hjoin_get h with h | ⟨_, h⟩
    · have hm := hof_get h
      rcases hHL.mem hm with ⟨k, o0, hk, ho0, hle⟩ | ⟨hk, _⟩
      · rw [gOf_mem hm] at hk
        injection hk with hk
        subst hk
        refine ⟨τ j, o0, hback j o hm, ho0, fun q => hle.turns, fun X X' n v hK hr => hle.orep (fun v x y hxy hv => AVLe.rep (γ := γ) (fun i k hk => ?_) (fun i hi => absurd hi (gOf_nil i)) (fun b q hb hX => hK.sub b q hb hX) (fun _ _ _ _ _ hM => by cases hM) hxy hv) hK hr⟩
        have hin : L.any (fun p => p.1 == i) = true := by
          by_cases hc : L.any (fun p => p.1 == i) = true
          · exact hc
          · unfold gOf at hk; rw [if_neg hc] at hk; cases hk
        unfold gOf at hk
        rw [if_pos hin] at hk
        injection hk with hk
        subst hk
        exact hγL i hin
      · exact absurd hk (gOf_nil _)
    · obtain ⟨k, o0, hj, hk, hf, ho, rfl⟩ := hHf j o h
      refine ⟨k, o0, by rw [hρn k hf]; omega, ho, fun q hq => by rw [turns_ren] at hq; exact hq, fun X X' n v hK hr => hr.ren (fun k v hkv => by rw [hval]; exact hkv) hK⟩
  have hsub : ∀ b q, XOf X0 γc (hjoin (hof L) Hf) b q → XOf X0 γ H b q := by
    rintro b q (h | ⟨j, o, v, h1, h2, h3, h4⟩)
    · exact .inl h
    · obtain ⟨k, o0, rfl, ho0, ht, _⟩ := hsrc j o h1
      rw [hval] at h2
      exact .inr ⟨k, o0, v, ho0, h2, h3, ht q h4⟩
  refine ⟨ρ, γc, Hf, hback, hinjρ, hval, hfar, hlow, hok, hfr, ⟨hS.hx, hS.ext, fun j o ho => ?_, fun j j' o o' v v' b h1 h2 h3 h4 h5 h6 => ?_⟩, hsub⟩
  · obtain ⟨k, o0, rfl, ho0, _, hr⟩ := hsrc j o ho
    obtain ⟨v, hv, hor⟩ := hS.obj k o0 ho0
    exact ⟨v, by rw [hval]; exact hv, hr _ _ _ _ (.same fun b q _ hb => hsub b q hb) hor⟩
  · obtain ⟨k, o0, rfl, ho0, _, _⟩ := hsrc j o h1
    obtain ⟨k', o0', rfl, ho0', _, _⟩ := hsrc j' o' h2
    rw [hval] at h3 h4
    rw [hS.dis k k' o0 o0' v v' b ho0 ho0' h3 h4 h5 h6]
def gE (L : List (Nat × AObj)) (s : Src) : Nat → Src := fun i => if i = 999999 then (match s with | .id k => .id (k % 1000000000) | s => s) else if i = 999998 then (match s with | .id k => if 1000000000 ≤ k then .id (k / 1000000000) else .none | _ => .none) else if L.any (fun p => p.1 == i) = true then .id i else .none
theorem eff_leave {τ : Nat → Nat} {L L' : List (Nat × AObj)} {ρ : Nat → Nat} {γc γe : Nat → Option Value} {Hf H' : Heap} {w' : World} {s : Src} (hS : St X0 W0 γ w H) (hL : L.all (fun p => decide (1000000 ≤ p.1) && decide (p.1 < 1001000)) = true) (hHL : HLe noR (gOf τ L) H L) (hE : Entered X0 W0 γ w H τ L ρ γc Hf) (hnew : γ (τ 999999) = none) (hnew2 : γ (τ 999998) = none) (hnn : τ 999999 ≠ τ 999998) (hids : idsOk L L')
    (hS' : St X0 W0 γe w' (hjoin H' Hf)) (hO' : HOk H' Hf) (hpin : ∀ k v, 1000000 ≤ k → γc k = some v → γe k = some v) (hk : Keeps (XOf X0 γc (hjoin (hof L) Hf)) (XOf X0 γe (hjoin H' Hf)) w w') (hs : HLe noR (gE L s) H' L') (hap : srcApart (gE L s) L') :
    ∃ γ', St X0 W0 γ' w' (hput τ L L' H) ∧ (∀ k, k ≠ τ 999999 → k ≠ τ 999998 → γ' k = γ k) ∧ Keeps (XOf X0 γ H) (XOf X0 γ' (hput τ L L' H)) w w' ∧ ∀ v x, DRep (XOf X0 γe (hjoin H' Hf)) w' v x → DRep (XOf X0 γ' (hput τ L L' H)) w' v x := by
  have hLb : ∀ i o, (i, o) ∈ L → 1000000 ≤ i ∧ i < 1001000 := fun i o hm => by
    have := List.all_eq_true.1 hL _ hm
    simpa using this
  have hany : ∀ i, L.any (fun p => p.1 == i) = true ↔ ∃ o, (i, o) ∈ L := fun i => by
    rw [List.any_eq_true]
    constructor
    · rintro ⟨⟨j, o⟩, hm, he⟩
      simp only [beq_iff_eq] at he
      subst he
      exact ⟨o, hm⟩
    · rintro ⟨o, hm⟩
      exact ⟨(i, o), hm, by simp⟩
  have hLv : ∀ i o, (i, o) ∈ L → ∃ u, γ (τ i) = some u := fun i o hm => by
    rcases hHL.mem hm with ⟨k, o0, hk1, ho0, _⟩ | ⟨hk1, _⟩
    · rw [gOf_mem hm] at hk1
      injection hk1 with hk1
      subst hk1
      obtain ⟨u, hu, _⟩ := hS.obj _ _ ho0
      exact ⟨u, hu⟩
    · exact absurd hk1 (gOf_nil _)
  obtain ⟨γ2, hγ2⟩ : ∃ γ2, γ2 = Proofs.Ytgadlpdbkohlbaa.ren (gE L s) γe := ⟨_, rfl⟩
  have hgL : ∀ i o, (i, o) ∈ L → gE L s i = .id i := fun i o hm => by
    have := hLb i o hm
    unfold gE
    rw [if_neg (by omega), if_neg (by omega), if_pos ((hany i).2 ⟨o, hm⟩)]
  have h2L : ∀ i o, (i, o) ∈ L → γ2 i = γ (τ i) := fun i o hm => by
    obtain ⟨u, hu⟩ := hLv i o hm
    have h1 : γc i = some u := by rw [← hE.back i o hm, hE.val, hu]
    rw [hγ2]
    show (match gE L s i with | .none => none | .id k => γe k | .nil => some _) = _
    rw [hgL i o hm, hu]
    exact hpin i u (hLb i o hm).1 h1
  obtain ⟨γ', hγ'⟩ : ∃ γ' : Nat → Option Value, γ' = fun k => if k = τ 999999 then γ2 999999 else if k = τ 999998 then γ2 999998 else γ k := ⟨_, rfl⟩
  have hγ'o : ∀ k, k ≠ τ 999999 → k ≠ τ 999998 → γ' k = γ k := fun k hk hk2 => by rw [hγ']; exact (if_neg hk).trans (if_neg hk2)
  have hγ's : ∀ k u, γ k = some u → γ' k = some u := fun k u hu => by
    rw [hγ'o k (fun e => by rw [e, hnew] at hu; cases hu) (fun e => by rw [e, hnew2] at hu; cases hu)]
    exact hu
  have hγ'L : ∀ i o, (i, o) ∈ L → γ' (τ i) = γ2 i := fun i o hm => by
    obtain ⟨u, hu⟩ := hLv i o hm
    rw [h2L i o hm, hu]
    exact hγ's _ _ hu
  have hγ'N : γ' (τ 999999) = γ2 999999 := by rw [hγ']; exact if_pos rfl
  have hγ'N2 : γ' (τ 999998) = γ2 999998 := by rw [hγ']; exact (if_neg (Ne.symm hnn)).trans (if_pos rfl)
  have hto : ∀ k v, γ2 k = some v → γ' (τ k) = some v := fun k v hv => by
    by_cases h1 : k = 999999
    · subst h1; rw [hγ'N]; exact hv
    · by_cases h3 : k = 999998
      · subst h3; rw [hγ'N2]; exact hv
      by_cases h2 : L.any (fun p => p.1 == k) = true
      · obtain ⟨o, hm⟩ := (hany k).1 h2
        rw [hγ'L k o hm]; exact hv
      · exfalso
        have : gE L s k = .none := by unfold gE; rw [if_neg h1, if_neg h3, if_neg h2]
        rw [hγ2] at hv
        have hv' : (match gE L s k with | .none => none | .id k => γe k | .nil => some (.slice none 0 0)) = some v := hv
        rw [this] at hv'
        cases hv'
  -- each object is one of those at the body's end
  have hsrc : ∀ k o, hget (hput τ L L' H) k = some o → (∃ j oT, hget (hjoin H' Hf) j = some oT ∧ γ' k = γe j ∧ (∀ q, turns o q → turns oT q) ∧ (∀ (X X' : Nat → Nat → Prop) (n : Nat) v, Keeps X X' w' w' → ORep γe X n w' v oT → ORep γ' X' n w' v o) ∧
      ((∃ i o', (i, o') ∈ L' ∧ k = τ i ∧ gE L s i = .id j ∧ ∃ oH, hget H' j = some oH) ∨ (j = ρ k ∧ hget H' j = none))) ∨ (γ' k = some (.slice none 0 0) ∧ ∃ e n row, o = .row e n 0 row) := by
    intro k o h
    rcases hput_get h with ⟨i, o', hm, rfl, rfl⟩ | ⟨h1, h2⟩
    · have hval : γ' (τ i) = γ2 i := by
        by_cases e1 : i = 999999
        · subst e1; exact hγ'N
        · by_cases e3 : i = 999998
          · subst e3; exact hγ'N2
          have hin : ∃ o2, (i, o2) ∈ L := by
            have key : ∀ R : List (Nat × AObj), idsOk L R → (i, o') ∈ R → ∃ o2, (i, o2) ∈ L := by
              intro R
              induction R with
              | nil => intro _ hm; cases hm
              | cons p R ih =>
                intro hR hm
                rcases List.mem_cons.1 hm with e2 | hm
                · subst e2
                  have hR1 := hR.1
                  cases o' with
                  | map kd n f =>
                    simp only at hR1
                    split at hR1
                    · rename_i q kd' n' f' hf
                      have hm' := List.mem_of_find?_eq_some hf
                      have hq := List.find?_some hf
                      simp only [beq_iff_eq] at hq
                      subst hq
                      exact ⟨_, hm'⟩
                    · exact hR1.elim
                  | boxT ty cs => exact (hany i).1 (hR1.resolve_left fun h => h.elim e1 e3)
                  | row => exact (hany i).1 (hR1.resolve_left fun h => h.elim e1 e3)
                  | vec => exact (hany i).1 (hR1.resolve_left fun h => h.elim e1 e3)
                · exact ih hR.2 hm
            exact key L' hids hm
          obtain ⟨o2, hm2⟩ := hin
          exact hγ'L i o2 hm2
      rcases hs.mem hm with ⟨j, oH, hj, hoH, hle⟩ | ⟨hj, e, n, row, rfl⟩
      · refine .inl ⟨j, oH, hjoin_sub _ _ _ _ hoH, ?_, fun q hq => hle.turns (by rw [turns_ren] at hq; exact hq), fun X X' n v hK hr => ?_, .inl ⟨i, o', hm, rfl, hj, oH, hoH⟩⟩
        · rw [hval, hγ2]
          show (match gE L s i with | .none => none | .id k => γe k | .nil => some _) = _
          rw [hj]
        · have h3 : ORep γ2 X n w' v o' := hle.orep (fun v x y hxy hv => AVLe.rep (γ := γe) (fun i k hk => by rw [hγ2]; simp [Proofs.Ytgadlpdbkohlbaa.ren, hk]) (fun i hi => by rw [hγ2]; simp [Proofs.Ytgadlpdbkohlbaa.ren, hi]) (fun _ _ _ h => h) (fun _ _ _ _ _ hM => by cases hM) hxy hv) (Keeps.refl _ _) hr
          exact h3.ren hto hK
      · refine .inr ⟨?_, e, n, row, rfl⟩
        rw [hval, hγ2]
        show (match gE L s i with | .none => none | .id k => γe k | .nil => some _) = _
        rw [hj]
    · obtain ⟨v, hv, hor⟩ := hS.obj k o h1
      have hf := hE.fr k o h1 h2
      have hT := hjoin_far hO' hf
      have hce : γc (ρ k) = some v := by rw [hE.val]; exact hv
      refine .inl ⟨ρ k, _, hT, ?_, fun q hq => by rw [turns_ren]; exact hq, fun X X' n u hK hr => ?_, .inr ⟨rfl, (hO' _ _ hf).2.1⟩⟩
      · rw [hγ's k v hv, hpin _ v (hE.far k) hce]
      · refine ORep.unren (γ0 := γ) (fun id u0 u1 hu0 hu1 => ?_) hK hor hr
        have : γe (ρ id) = some u0 := hpin _ u0 (hE.far id) (by rw [hE.val]; exact hu0)
        rw [this] at hu1
        injection hu1 with hu1
        subst hu1
        exact hγ's id _ hu0
  have hX : ∀ b q, XOf X0 γ' (hput τ L L' H) b q → XOf X0 γe (hjoin H' Hf) b q := by
    rintro b q (h | ⟨k, o, v, h1, h2, h3, h4⟩)
    · exact .inl h
    · rcases hsrc k o h1 with ⟨j, oT, hT, hv, ht, _, _⟩ | ⟨hv, _⟩
      · rw [hv] at h2
        exact .inr ⟨j, oT, v, hT, h2, h3, ht q h4⟩
      · rw [hv] at h2
        injection h2 with h2
        subst h2
        simp [blk] at h3
  refine ⟨γ', ⟨hS'.hx, hS'.ext, fun k o ho => ?_, fun k k' o o' v v' b h1 h2 h3 h4 h5 h6 => ?_⟩, hγ'o, ?_, fun v x hv => hv.mono (.same fun b q _ hb => hX b q hb)⟩
  · rcases hsrc k o ho with ⟨j, oT, hT, hv, _, hr, _⟩ | ⟨hv, e, n, row, rfl⟩
    · obtain ⟨v, hv', hor⟩ := hS'.obj j oT hT
      exact ⟨v, hv.trans hv', hr _ _ _ _ (.same fun b q _ hb => hX b q hb) hor⟩
    · exact ⟨_, hv, fun _ => [], by simpa using World.ownsRow_nil w' _ _ _, fun j hj => by omega⟩
  · rcases hsrc k o h1 with ⟨j, oT, hT, hv, _, _, htag⟩ | ⟨hv, _⟩
    · rcases hsrc k' o' h2 with ⟨j', oT', hT', hv', _, _, htag'⟩ | ⟨hv', _⟩
      · rw [hv] at h3
        rw [hv'] at h4
        have hj := hS'.dis j j' oT oT' v v' b hT hT' h3 h4 h5 h6
        subst hj
        rcases htag with ⟨i, oi, hm, rfl, hg, oH, hoH⟩ | ⟨rfl, hno⟩ <;> rcases htag' with ⟨i', oi', hm', rfl, hg', oH', hoH'⟩ | ⟨he, hno'⟩
        · by_cases hne : i = i'
          · rw [hne]
          · exact (hap.mem hm hm' hne hg hg').elim
        · rw [hno'] at hoH; cases hoH
        · rw [hno] at hoH'; cases hoH'
        · exact hE.inj k k' he
      · rw [hv'] at h4
        injection h4 with h4
        subst h4
        simp [blk] at h6
    · rw [hv] at h3
      injection h3 with h3
      subst h3
      simp [blk] at h5
  · have k1 : Keeps (XOf X0 γ H) (XOf X0 γc (hjoin (hof L) Hf)) w w := .same fun b q _ hb => hE.sub b q hb
    have k2 : Keeps (XOf X0 γe (hjoin H' Hf)) (XOf X0 γ' (hput τ L L' H)) w' w' := .same fun b q _ hb => hX b q hb
    exact (k1.trans hk).trans k2
theorem leaves_marks2 {fn : Func} {R : Ending → World → Prop} {n lo : Nat} {tmps : Array Value} : ∀ (Ks : List Nat) (w : World), Ks.Nodup → (∀ K, K ∈ Ks → W0.heap.size ≤ K ∧ lo ≤ K ∧ w.heap[K]? = some (.deferred (some []))) → St X0 W0 γ w H →
    (∀ w', St X0 W0 γ w' H → (∀ v x, Rep γ (XOf X0 γ H) w v x → Rep γ (XOf X0 γ H) w' v x) → w.heap.size ≤ w'.heap.size → (∀ b, b < lo → w'.heap[b]? = w.heap[b]?) → ∃ v, (results fn tmps).run P w' = .ok v w' ∧ R (.returned v) w') →
    LeavesInM Fence.wide n P fn tmps R (Ks.map markOf) .returning w
  | [], w, _, _, hS, h => h w hS (fun _ _ h => h) (Nat.le_refl _) (fun _ _ => rfl)
  | K :: Ks, w, hnd, hm, hS, h => by
    obtain ⟨h1, hlo, h2⟩ := hm K (by simp)
    obtain ⟨hS', hr⟩ := hS.mark (o' := .deferred none) h1 h2 rfl
    have hnd' := List.nodup_cons.1 hnd
    refine ⟨by simp, .inl ⟨K, _, rfl, run_takeDeferred h2, ?_⟩⟩
    refine leaves_marks2 (lo := lo) Ks _ hnd'.2 (fun K' hK' => ⟨(hm K' (by simp [hK'])).1, (hm K' (by simp [hK'])).2.1, ?_⟩) hS' (fun w' hS'' hr' hsz hb => h w' hS'' (fun v x hv => hr' v x (hr v x hv)) (by simpa using hsz) (fun b hlt => (hb b hlt).trans (World.putObj_heap_other (by omega))))
    exact (World.putObj_heap_other (fun e => hnd'.1 (by rw [← e]; exact hK'))).trans (hm K' (by simp [hK'])).2.2
theorem ARes.subH {H1 : Heap} (hs : Sub H1 H) : ∀ {y : ARes}, y.ok e H1 → y.ok e H ∧ y.val e H1 = y.val e H
 | .tmp _, h => ⟨h, rfl⟩
 | .cell _ _, h => ld_sub hs h
theorem resV_sub {H1 : Heap} (hs : Sub H1 H) {rs : List ARes} (h : ∀ y ∈ rs, y.ok e H1) : (∀ y ∈ rs, y.ok e H) ∧ resV e H1 rs = resV e H rs := by
 refine ⟨fun y hy => (ARes.subH hs (h y hy)).1, ?_⟩
 have hm : rs.map (·.val e H1) = rs.map (·.val e H) := List.map_congr_left fun y hy => (ARes.subH hs (h y hy)).2
 unfold resV
 split
 ·exact (ARes.subH hs (h _ (by simp))).2
 ·rw [hm]
def EffEnd (L L' : List (Nat × AObj)) (H : Heap) : Prop := ∃ s, HLe noR (gE L s) H L' ∧ srcApart (gE L s) L'
def EffRes (rs : List ARes) (x : DV) (L L' : List (Nat × AObj)) (y : AX) (e : T) (H : Heap) : Prop :=
 (match y with | .exit _ => False | _ => True) ∧ (∀ z ∈ rs, z.ok e H) ∧ (∃ d, frz false H 5 (resV e H rs) = some d ∧ DLe d x) ∧ EffEnd L L' H
theorem aeff {F : FuncId} {fn : Func} {c : Code} {ac : ACode} {as1 : List AV} {L L' : List (Nat × AObj)} {rs : List ARes} {x : DV} (D : Nat) (hf : P.funcs[F]? = some fn) (hn : (fn.name == "runtime.NumGoroutine") = false) (hb : fn.body = some c) (hN : fn.ntmps ≤ 2 ^ D) (hargs : as1.length ≤ fn.ntmps)
  (tr : TrCode P D fn.ntmps c ac) (hl : fn.results.size = rs.length) (htr : ∀ i (h : i < fn.results.toList.length) (h' : i < rs.length), TrRes P D fn.results.toList[i] rs[i])
  (hL : L.all (fun p => decide (1000000 ≤ p.1) && decide (p.1 < 1001000)) = true) (hids : idsOk L L')
  (h : (∃ γ X w vs, Reps γ X w vs as1) → awp P ac (fun y e H _ => EffRes rs x L L' y e H) (initA D as1) (hof L) 0) : AEff P F as1 L x L' := by
 refine ⟨⟨fn, c, hf, hn, hb⟩, fun X0 W0 γ w H τ vs hS hnew hnew2 hnn hHL hap hvs => ?_⟩
 obtain ⟨ρ, γc, Hf, hE⟩ := eff_enter hS hL hHL hap
 have hvs' : Reps γc (XOf X0 γc (hjoin (hof L) Hf)) w vs.toList as1 := by
  refine hvs.mono (fun i v hv => ?_) (.same fun b q _ hb => hE.sub b q hb)
  have hv' : (match gOf τ L i with | .none => none | .id k => γ k | .nil => some (.slice none 0 0)) = some v := hv
  unfold gOf at hv'
  split at hv'
  ·cases hv'
  ·rename_i k hk
   split at hk
   ·rename_i hin
    injection hk with hk
    subst hk
    obtain ⟨⟨j, o⟩, hm, he⟩ := List.any_eq_true.1 hin
    simp only [beq_iff_eq] at he
    subst he
    rw [← hE.back j o hm, hE.val]
    exact hv'
   ·cases hk
  ·rename_i hk
   split at hk <;> cases hk
 refine (callsIn_wide (n := 0)).1 (callsIn_of_wp_marks (F := Fence.wide) hf hb trivial ?_ rfl)
 have hvl : vs.size = as1.length := by simpa using hvs.1
 have hF : FZ D fn.ntmps X0 W0 (Bs.now (XOf X0 γc (hjoin (hof L) Hf)) w γc Hf w.heap.size) γc { tmps := vs ++ Array.replicate (fn.ntmps - vs.size) undef, defers := [] } w (initA D as1) (hof L) 0 := by
  refine ⟨⟨⟨hE.st, fun p hp => ?_, by simp [hvl]; omega, ⟨[], rfl, List.nodup_nil, fun K hK => by cases hK⟩, Keeps.refl _ _, Bs.now_knows, fun _ _ _ _ _ _ _ _ _ => trivial⟩, fun k _ hk => hE.low k hk⟩, hE.ok⟩
  rcases setAllA_get D hp as1 (.leaf (.d .top)) 0 (by omega) with ⟨h1, h2⟩ | ⟨k, hk, h1, h2⟩
  ·unfold initA
   rw [h1]
   exact .top _
  ·unfold initA
   rw [h2]
   have hk' : k < vs.size := by omega
   have e1 : (vs ++ Array.replicate (fn.ntmps - vs.size) undef).getD p.idx undef = vs.toList[k]'(by simpa using hk') := by
    rw [h1, Nat.zero_add, Array.getD_eq_getD_getElem?, Array.getElem?_append_left hk', Array.getElem?_eq_getElem hk']
    simp
   show Rep _ _ _ ((vs ++ Array.replicate (fn.ntmps - vs.size) undef).getD p.idx undef) _
   rw [e1]
   exact hvs'.2 k (by simpa using hk') hk
 refine wpIn_mono (awp_sound tr none 0 _ _ (.inr ⟨⟨Bs.now_far, fun _ => trivial, Nat.le_refl _⟩, rfl⟩) _ _ _ _ _ _ hF (h ⟨_, _, w, _, hvs'⟩)) ?_
 rintro y a' w' ⟨ax, γe, e', H', nx', hy, ⟨⟨hR, hfr⟩, hO'⟩, hq⟩
 obtain ⟨hx, hok, ⟨d, hd, hle⟩, s, hs, hsap⟩ := hq
 have hRt : FR D fn.ntmps X0 W0 (Bs.now (XOf X0 γc (hjoin (hof L) Hf)) w γc Hf w.heap.size) γe a' w' e' (hjoin H' Hf) := hR
 have hO : HOk H' Hf := hO'
 have hpin : ∀ k v, 1000000 ≤ k → γc k = some v → γe k = some v := fun k v hk hv => hRt.pin k v (by simp only [Bs.now]; rw [if_pos hk]; exact hv)
 obtain ⟨hok2, hres⟩ := resV_sub (hjoin_sub H' Hf) hok
 rw [hres] at hd
 have hd2 := frz_sub (hjoin_sub H' Hf) _ _ _ hd
 have fin : LeavesInM Fence.wide 0 P fn a'.tmps (fun en w'' => ∃ v γ', en = .returned v ∧ St X0 W0 γ' w'' (hput τ L L' H) ∧ (∀ k, k ≠ τ 999999 → k ≠ τ 999998 → γ' k = γ k) ∧ Keeps (XOf X0 γ H) (XOf X0 γ' (hput τ L L' H)) w w'' ∧ DRep (XOf X0 γ' (hput τ L L' H)) w'' v x) a'.defers .returning w' := by
  obtain ⟨Ks, h1, h2, h3⟩ := hRt.marks
  rw [h1]
  refine leaves_marks2 (lo := w.heap.size) Ks w' h2 (fun K hK => ⟨(h3 K hK).1, (h3 K hK).2.2.2.2, (h3 K hK).2.1⟩) hRt.st (fun w'' hS'' hr hsz hlow => ?_)
  obtain ⟨v, hrun, hv⟩ := results_rep hl htr hS'' (fun p hp => hr _ _ (hRt.env p hp)) hok2
  have hbase : Keeps (XOf X0 γc (hjoin (hof L) Hf)) (XOf X0 γe (hjoin H' Hf)) w w' := hRt.base
  have hkeep : Keeps (XOf X0 γc (hjoin (hof L) Hf)) (XOf X0 γe (hjoin H' Hf)) w w'' :=
   ⟨Nat.le_trans hbase.size hsz, fun b o v hlt hX hc => (World.cell?_of_block (w := w') (w' := w'') (a := ⟨b, o, none⟩) (hlow b hlt)).trans (hbase.cells b o v hlt hX hc), hbase.sub,
    fun b o hb' ho hX => (hlow b (Array.getElem?_eq_some_iff.1 hb').1).trans (hbase.others b o hb' ho hX)⟩
  obtain ⟨γ', g1, g2, g3, g4⟩ := eff_leave hS hL hHL hE hnew hnew2 hnn hids hS'' hO hpin hkeep hs hsap
  exact ⟨v, hrun, v, γ', rfl, g1, g2, g3, g4 _ _ (hle _ _ _ (frz_own hS'' 5 hv hd2))⟩
 cases y <;> simp only [AX.of] at hy <;> (try cases hy)
 ·exact fin
 ·exact hx.elim
 ·exact fin
end
end Go.Proofs.Ytgadlpdbkohlbaa
/- A function's contract by the evaluator, over this translation; the evaluator's rules for simp. -/
namespace Go.Proofs.Ytgadlpdbkohlbaa
open Go.RowKit
abbrev sl (n : Nat) : Slot := bits 8 n
theorem mixed : Try.prog.follows .mixedOrders = true := by kernel_rfl
theorem apureT {F : FuncId} {fn : Func} {ac : ACode} {vs : List DV} {rs : List ARes} {r : DV} (ms : List Nat) (ows : List (FuncId × TypeId × Nat)) (hf : Try.prog.funcs[F]? = some fn) (hn : (fn.name == "runtime.NumGoroutine") = false)
    (ht : fn.body.bind (trCode Try.prog 8 fn.ntmps ms ows (drOk 8)) = some ac) (hr : trRess Try.prog 8 fn.results.toList = some rs) (hN : Nat.ble fn.ntmps 256 = true) (ha : Nat.ble vs.length fn.ntmps = true)
    (h : (∃ X w us, DReps X w us vs) → awp Try.prog ac (fun x e H _ => Res rs r x e H) (initT 8 vs) hnil 0) : APure Try.prog F vs r := by
  cases hb : fn.body with
  | none => rw [hb] at ht; cases ht
  | some c =>
    rw [hb] at ht
    have ht' : trCode Try.prog 8 fn.ntmps ms ows (drOk 8) c = some ac := ht
    obtain ⟨h1, h2⟩ := trRess_sound hr
    exact apure 8 hf hn hb (Nat.le_of_ble_eq_true hN) (Nat.le_of_ble_eq_true ha) (trCode_sound (fun id ops os hnd hl htr hd => regOk_draw mixed hnd hl htr hd) ht') (by simpa using h1) h2 h
theorem aownT {F : FuncId} {fn : Func} {ac : ACode} {vs : List DV} {rs : List ARes} {te : TypeId} {n len : Nat} {row : Nat → List DV} (ms : List Nat) (ows : List (FuncId × TypeId × Nat)) (hf : Try.prog.funcs[F]? = some fn) (hn : (fn.name == "runtime.NumGoroutine") = false)
    (ht : fn.body.bind (trCode Try.prog 8 fn.ntmps ms ows (drOk 8)) = some ac) (hr : trRess Try.prog 8 fn.results.toList = some rs) (hN : Nat.ble fn.ntmps 256 = true) (ha : Nat.ble vs.length fn.ntmps = true)
    (h : (∃ X w us, DReps X w us vs) → awp Try.prog ac (fun x e H _ => OwnRes rs te n len row x e H) (initT 8 vs) hnil 0) : AOwn Try.prog F vs te n len row := by
  cases hb : fn.body with
  | none => rw [hb] at ht; cases ht
  | some c =>
    rw [hb] at ht
    have ht' : trCode Try.prog 8 fn.ntmps ms ows (drOk 8) c = some ac := ht
    obtain ⟨h1, h2⟩ := trRess_sound hr
    exact aown 8 hf hn hb (Nat.le_of_ble_eq_true hN) (Nat.le_of_ble_eq_true ha) (trCode_sound (fun id ops os hnd hl htr hd => regOk_draw mixed hnd hl htr hd) ht') (by simpa using h1) h2 h
theorem aownVT {F : FuncId} {fn : Func} {ac : ACode} {vs : List DV} {rs : List ARes} {te : TypeId} {n len : Nat} {row : Nat → List DV} (ms : List Nat) (ows : List (FuncId × TypeId × Nat)) (hf : Try.prog.funcs[F]? = some fn) (hn : (fn.name == "runtime.NumGoroutine") = false)
    (ht : fn.body.bind (trCode Try.prog 8 fn.ntmps ms ows (drOk 8)) = some ac) (hr : trRess Try.prog 8 fn.results.toList = some rs) (hN : Nat.ble fn.ntmps 256 = true) (ha : Nat.ble vs.length fn.ntmps = true)
    (h : (∃ X w us, DReps X w us vs) → awp Try.prog ac (fun x e H _ => OwnResV rs te n len row x e H) (initT 8 vs) hnil 0) : AOwnV Try.prog F vs te n len row := by
  cases hb : fn.body with
  | none => rw [hb] at ht; cases ht
  | some c =>
    rw [hb] at ht
    have ht' : trCode Try.prog 8 fn.ntmps ms ows (drOk 8) c = some ac := ht
    obtain ⟨h1, h2⟩ := trRess_sound hr
    exact aownV 8 hf hn hb (Nat.le_of_ble_eq_true hN) (Nat.le_of_ble_eq_true ha) (trCode_sound (fun id ops os hnd hl htr hd => regOk_draw mixed hnd hl htr hd) ht') (by simpa using h1) h2 h
theorem aeffT {F : FuncId} {fn : Func} {ac : ACode} {vs : List AV} {rs : List ARes} {L L' : List (Nat × AObj)} {x : DV} (ms : List Nat) (ows : List (FuncId × TypeId × Nat)) (hf : Try.prog.funcs[F]? = some fn) (hn : (fn.name == "runtime.NumGoroutine") = false)
    (ht : fn.body.bind (trCode Try.prog 8 fn.ntmps ms ows (drOk 8)) = some ac) (hr : trRess Try.prog 8 fn.results.toList = some rs) (hN : Nat.ble fn.ntmps 256 = true) (ha : Nat.ble vs.length fn.ntmps = true)
    (hL : L.all (fun p => decide (1000000 ≤ p.1) && decide (p.1 < 1001000)) = true) (hids : idsOk L L')
    (h : (∃ γ X w us, Reps γ X w us vs) → awp Try.prog ac (fun y e H _ => EffRes rs x L L' y e H) (initA 8 vs) (hof L) 0) : AEff Try.prog F vs L x L' := by
  cases hb : fn.body with
  | none => rw [hb] at ht; cases ht
  | some c =>
    rw [hb] at ht
    have ht' : trCode Try.prog 8 fn.ntmps ms ows (drOk 8) c = some ac := ht
    obtain ⟨h1, h2⟩ := trRess_sound hr
    exact aeff 8 hf hn hb (Nat.le_of_ble_eq_true hN) (Nat.le_of_ble_eq_true ha) (trCode_sound (fun id ops os hnd hl htr hd => regOk_draw mixed hnd hl htr hd) ht') (by simpa using h1) h2 hL hids h
@[simp] def Ro (d : Nat) (o : AOp) : AOper := ⟨some (sl d), none, o, none⟩
@[simp] def Rg (d g : Nat) (b : Bool) (o : AOp) : AOper := ⟨some (sl d), some (sl g, b), o, none⟩
@[simp] def Rn (o : AOp) : AOper := ⟨none, none, o, none⟩
@[simp] def Rl (d : Nat) (o : AOp) (k : Nat) : AOper := ⟨some (sl d), none, o, some (k, [])⟩
@[simp] def Rh (d g : Nat) (b : Bool) (o : AOp) (k : Nat) : AOper := ⟨some (sl d), some (sl g, b), o, some (k, [])⟩
@[simp] def Sv (n : Nat) : Opd := .s (sl n)
@[simp] def Ci (n : Int) : Opd := .c (.int .i64 n)
@[simp] def Mv (n : Nat) : AOp := .mv (.s (sl n))
@[simp] def Ld (n : Nat) : AOp := .ld true (.s (sl n)) none
@[simp] def Lk (n k : Nat) : AOp := .ld true (.s (sl n)) (some k)
@[simp] def Fd (n k : Nat) : AOp := .fld (.s (sl n)) k
end Go.Proofs.Ytgadlpdbkohlbaa
/- The bodies of some functions, as the evaluator has them (printed by program), and that they are the program's own. -/
namespace Go.Proofs.Ytgadlpdbkohlbaa
open Go.RowKit
end Go.Proofs.Ytgadlpdbkohlbaa
/- The bodies of some functions, as the evaluator has them (printed by program), and that they are the program's own. -/
namespace Go.Proofs.Ytgadlpdbkohlbaa
open Go.RowKit
def c_ir_Uses : ACode :=
 (.seq (.reg [Ro 1 (.box true (Sv 0)), Ro 2 (.mv (.c (.slice none 0 0)))])
 (.seq (.block 0
 (.seq (.block 4
 (.seq (.block 3
 (.block 2
 (.seq (.block 1
 (.seq (.seq (.seq (.reg [Ro 4 (Fd 1 0), Ro 5 (Ld 4), Ro 6 (.bin .geq (Sv 5) (Ci 2)), Ro 7 (Mv 6), Rg 8 7 true (Fd 1 0), Rg 9 7 true (Ld 8), Rg 10 7 true (.bin .leq (Sv 9) (Ci 11)), Ro 11 (.pick (Sv 7) (Sv 10) (.c (.bool false))), Ro 3 (Mv 11)])
 (.cond (Sv 3)
 (.exit 1)
 .skip))
 (.seq (.seq (.reg [Ro 13 (Fd 1 0), Ro 14 (Ld 13), Ro 15 (.bin .eql (Sv 14) (Ci 13)), Ro 12 (Mv 15)])
 (.cond (Sv 12)
 (.exit 2)
 .skip))
 (.seq (.seq (.reg [Ro 17 (Fd 1 0), Ro 18 (Ld 17), Ro 19 (.bin .eql (Sv 18) (Ci 16)), Ro 16 (Mv 19)])
 (.cond (Sv 16)
 (.exit 3)
 .skip))
 (.seq (.reg [Ro 21 (Fd 1 0), Ro 22 (Ld 21), Ro 23 (.bin .eql (Sv 22) (Ci 14)), Ro 20 (Mv 23)])
 (.cond (Sv 20)
 (.exit 4)
 .skip)))))
 (.exit 0)))
 (.seq (.seq (.reg [Ro 24 (Fd 1 1), Ro 25 (Ld 24), Ro 26 (Fd 1 2), Ro 27 (Ld 26), Ro 28 (.mksl 1 2 [(.int .i64 0), (.int .i64 0)] [(0, 1, (Sv 25)), (1, 1, (Sv 27))]), Ro 2 (Mv 28)])
 .ret)
 (.exit 0)))))
 (.seq (.seq (.reg [Ro 29 (Fd 1 1), Ro 30 (Ld 29), Ro 31 (.mksl 1 1 [(.int .i64 0)] [(0, 1, (Sv 30))]), Ro 2 (Mv 31)])
 .ret)
 (.exit 0))))
 (.seq (.seq (.reg [Ro 32 (Fd 1 5), Ro 33 (Ld 32), Ro 34 (.call true (.f 84) [Sv 33]), Ro 2 (Mv 34)])
 .ret)
 (.exit 0))))
 (.seq (.reg [Ro 2 (.mv (.c (.slice none 0 0)))])
 .ret)))
def r_ir_Uses : List ARes := [(.tmp (sl 2))]
theorem t_ir_Uses : (Try.f64).body.bind (trCode Try.prog 8 (Try.f64).ntmps [] [] (drOk 8)) = some c_ir_Uses := by kernel_rfl
theorem u_ir_Uses : trRess Try.prog 8 (Try.f64).results.toList = some r_ir_Uses := by kernel_rfl
def c_ir_Inst : ACode :=
 (.seq (.reg [Ro 2 (.box true (Sv 0)), Ro 4 (.mv (.c (.bool false)))])
 (.seq (.seq (.reg [Ro 7 (Fd 2 0), Ro 8 (Ld 7), Ro 9 (.bin .lss (Sv 8) (Ci 1)), Ro 10 (Mv 9), Rg 11 10 false (Fd 2 0), Rg 12 10 false (Ld 11), Rg 13 10 false (.bin .gtr (Sv 12) (Ci 16)), Ro 14 (.pick (Sv 10) (.c (.bool true)) (Sv 13)), Ro 15 (Mv 14), Rg 16 15 false (Lk 2 6), Rg 17 15 false (.call true (.f 64) [Sv 16]), Rg 18 15 false (Mv 1), Rg 19 15 false (.call true (.f 63) [Sv 17, Sv 18]), Rg 20 15 false (.not (Sv 19)), Ro 21 (.pick (Sv 15) (.c (.bool true)) (Sv 20))])
 (.cond (Sv 21)
 (.seq (.reg [Ro 4 (.mv (.c (.bool false)))])
 .ret)
 .skip))
 (.seq (.reg [Ro 22 (Fd 2 0), Ro 23 (Ld 22), Ro 24 (.bin .geq (Sv 23) (Ci 2)), Ro 25 (Mv 24), Rg 26 25 true (Fd 2 0), Rg 27 25 true (Ld 26), Rg 28 25 true (.bin .leq (Sv 27) (Ci 11)), Ro 29 (.pick (Sv 25) (Sv 28) (.c (.bool false))), Ro 5 (Mv 29)])
 (.seq (.reg [Ro 30 (Mv 5), Ro 31 (Mv 30), Rg 32 31 false (Fd 2 0), Rg 33 31 false (Ld 32), Rg 34 31 false (.bin .eql (Sv 33) (Ci 13)), Ro 35 (.pick (Sv 31) (.c (.bool true)) (Sv 34)), Ro 36 (Mv 35), Rg 37 36 false (Fd 2 0), Rg 38 36 false (Ld 37), Rg 39 36 false (.bin .eql (Sv 38) (Ci 16)), Ro 40 (.pick (Sv 36) (.c (.bool true)) (Sv 39)), Ro 6 (Mv 40)])
 (.seq (.block 0
 (.seq (.reg [Ro 42 (Mv 6), Ro 43 (.not (Sv 42)), Ro 44 (Mv 43), Rg 45 44 true (Fd 2 1), Rg 46 44 true (Ld 45), Rg 47 44 true (.bin .neq (Sv 46) (Ci 0)), Ro 48 (.pick (Sv 44) (Sv 47) (.c (.bool false))), Ro 49 (Mv 48), Rg 50 49 false (Mv 5), Rg 51 49 false (.not (Sv 50)), Rg 52 49 false (Mv 51), Rg 53 52 true (Fd 2 2), Rg 54 52 true (Ld 53), Rg 55 52 true (.bin .neq (Sv 54) (Ci 0)), Rg 56 49 false (.pick (Sv 52) (Sv 55) (.c (.bool false))), Ro 57 (.pick (Sv 49) (.c (.bool true)) (Sv 56)), Ro 41 (Mv 57)])
 (.cond (Sv 41)
 (.seq (.reg [Ro 4 (.mv (.c (.bool false)))])
 .ret)
 (.seq (.reg [Ro 59 (Fd 2 0), Ro 60 (Ld 59), Ro 61 (.bin .neq (Sv 60) (Ci 1)), Ro 62 (Mv 61), Rg 63 62 true (Fd 2 3), Rg 64 62 true (Ld 63), Rg 65 62 true (.bin .neq (Sv 64) (.c (.int .u64 0))), Ro 66 (.pick (Sv 62) (Sv 65) (.c (.bool false))), Ro 58 (Mv 66)])
 (.cond (Sv 58)
 (.seq (.reg [Ro 4 (.mv (.c (.bool false)))])
 .ret)
 (.seq (.reg [Ro 68 (Fd 2 0), Ro 69 (Ld 68), Ro 70 (.bin .neq (Sv 69) (Ci 14)), Ro 71 (Mv 70), Rg 72 71 true (Fd 2 5), Rg 73 71 true (Ld 72), Rg 74 71 true (.len false (Sv 73)), Rg 75 71 true (.bin .gtr (Sv 74) (Ci 0)), Ro 76 (.pick (Sv 71) (Sv 75) (.c (.bool false))), Ro 77 (Mv 76), Rg 78 77 false (Fd 2 5), Rg 79 77 false (Ld 78), Rg 80 77 false (.len false (Sv 79)), Rg 81 77 false (.bin .gtr (Sv 80) (Ci 6)), Ro 82 (.pick (Sv 77) (.c (.bool true)) (Sv 81)), Ro 67 (Mv 82)])
 (.cond (Sv 67)
 (.seq (.reg [Ro 4 (.mv (.c (.bool false)))])
 .ret)
 .skip)))))))
 (.seq (.seq (.reg [Ro 83 (Lk 2 6), Ro 84 (.call true (.f 27) [Sv 83])])
 (.cond (Sv 84)
 (.seq (.reg [Ro 85 (Fd 2 4), Ro 86 (Ld 85), Ro 87 (.call true (.f 35) [Sv 86]), Ro 4 (Mv 87)])
 .ret)
 .skip))
 (.seq (.reg [Ro 88 (Fd 2 4), Ro 89 (Ld 88), Ro 90 (.bin .eql (Sv 89) (.c (.string ⟨#[]⟩))), Ro 4 (Mv 90)])
 .ret)))))))
def r_ir_Inst : List ARes := [(.tmp (sl 4))]
theorem t_ir_Inst : (Try.f49).body.bind (trCode Try.prog 8 (Try.f49).ntmps [] [] (drOk 8)) = some c_ir_Inst := by kernel_rfl
theorem u_ir_Inst : trRess Try.prog 8 (Try.f49).results.toList = some r_ir_Inst := by kernel_rfl
def c_ir_Values : ACode :=
 (.seq (.reg [Ro 1 (.box true (Sv 0)), Ro 2 (.mv (Ci 0))])
 (.seq (.reg [Ro 3 (Fd 1 0), Ro 4 (Ld 3), Ro 5 (Fd 1 1), Ro 6 (Ld 5), Ro 7 (.len false (Sv 6)), Ro 8 (.bin .add (Sv 4) (Sv 7)), Ro 2 (Mv 8)])
 .ret))
def r_ir_Values : List ARes := [(.tmp (sl 2))]
theorem t_ir_Values : (Try.f65).body.bind (trCode Try.prog 8 (Try.f65).ntmps [] [] (drOk 8)) = some c_ir_Values := by kernel_rfl
theorem u_ir_Values : trRess Try.prog 8 (Try.f65).results.toList = some r_ir_Values := by kernel_rfl
def c_ir_Func : ACode :=
 (.seq (.reg [Ro 1 (.box true (Sv 0)), Ro 2 (.mv (.c (.bool false)))])
 (.seq (.seq (.reg [Ro 3 (Fd 1 0), Ro 4 (Ld 3), Ro 5 (.call true (.f 35) [Sv 4]), Ro 6 (.not (Sv 5)), Ro 7 (Mv 6), Rg 8 7 false (Fd 1 1), Rg 9 7 false (Ld 8), Rg 10 7 false (.bin .lss (Sv 9) (Ci 1)), Ro 11 (.pick (Sv 7) (.c (.bool true)) (Sv 10)), Ro 12 (Mv 11), Rg 13 12 false (Fd 1 1), Rg 14 12 false (Ld 13), Rg 15 12 false (.bin .gtr (Sv 14) (Ci 3)), Ro 16 (.pick (Sv 12) (.c (.bool true)) (Sv 15)), Ro 17 (Mv 16), Rg 18 17 false (Fd 1 2), Rg 19 17 false (Ld 18), Rg 20 17 false (.bin .lss (Sv 19) (Ci 0)), Ro 21 (.pick (Sv 17) (.c (.bool true)) (Sv 20)), Ro 22 (Mv 21), Rg 23 22 false (Fd 1 2), Rg 24 22 false (Ld 23), Rg 25 22 false (.bin .gtr (Sv 24) (Ci 6)), Ro 26 (.pick (Sv 22) (.c (.bool true)) (Sv 25)), Ro 27 (Mv 26), Rg 28 27 false (Fd 1 3), Rg 29 27 false (Ld 28), Rg 30 27 false (.len false (Sv 29)), Rg 31 27 false (.bin .gtr (Sv 30) (Ci 16)), Ro 32 (.pick (Sv 27) (.c (.bool true)) (Sv 31))])
 (.cond (Sv 32)
 (.seq (.reg [Ro 2 (.mv (.c (.bool false)))])
 .ret)
 .skip))
 (.seq (.seq (.reg [Ro 33 (Fd 1 3), Ro 34 (Ld 33), Ro 35 (.len false (Sv 34)), Ro 36 (.bin .eql (Sv 35) (Ci 0))])
 (.cond (Sv 36)
 (.seq (.reg [Ro 37 (Fd 1 1), Ro 38 (Ld 37), Ro 39 (.bin .neq (Sv 38) (Ci 1)), Ro 2 (Mv 39)])
 .ret)
 .skip))
 (.seq (.reg [Rl 40 (Fd 1 3) 0, Rl 41 (Ld 40) 1, Rl 42 (.idx true (Sv 41) (Ci 0) 8) 2, Rl 43 (Fd 42 0) 3, Rl 44 (Ld 43) 4, Rl 45 (Fd 1 2) 5, Rl 46 (Ld 45) 6, Rl 47 (.bin .eql (Sv 44) (Sv 46)) 7, Rl 48 (Mv 47) 8, Rh 49 48 true (Fd 1 3) 9, Rh 50 48 true (Ld 49) 10, Rh 51 48 true (.mkfn 37 [Sv 1]) 11, Rh 52 48 true (.call true (.f 36) [Sv 50, Sv 51]) 12, Rh 53 48 true (.not (Sv 52)) 13, Rl 54 (.pick (Sv 48) (Sv 53) (.c (.bool false))) 14, Rl 2 (Mv 54) 15])
 .ret))))
def r_ir_Func : List ARes := [(.tmp (sl 2))]
theorem t_ir_Func : (Try.f20).body.bind (trCode Try.prog 8 (Try.f20).ntmps [] [] (drOk 8)) = some c_ir_Func := by kernel_rfl
theorem u_ir_Func : trRess Try.prog 8 (Try.f20).results.toList = some r_ir_Func := by kernel_rfl
def c_slices_Clone___int_int_ : ACode :=
 (.seq (.reg [Ro 2 (.mv (.c (.slice none 0 0)))])
 (.seq (.seq (.reg [Ro 3 (Mv 0), Ro 4 (.isnil false (Sv 3))])
 (.cond (Sv 4)
 (.seq (.reg [Ro 2 (.mv (.c (.slice none 0 0)))])
 .ret)
 .skip))
 (.seq (.reg [Ro 5 (.nrow 3 1), Ro 6 (Mv 0), Ro 7 (.app 3 1 8 (Sv 5) (Sv 6)), Ro 2 (Mv 7)])
 .ret)))
def r_slices_Clone___int_int_ : List ARes := [(.tmp (sl 2))]
theorem t_slices_Clone___int_int_ : (Try.f84).body.bind (trCode Try.prog 8 (Try.f84).ntmps [2, 7] [] (drOk 8)) = some c_slices_Clone___int_int_ := by kernel_rfl
theorem u_slices_Clone___int_int_ : trRess Try.prog 8 (Try.f84).results.toList = some r_slices_Clone___int_int_ := by kernel_rfl
def c_ir_all : ACode :=
 (.seq (.reg [Ro 3 (.box true (Sv 1)), Ro 4 (.mv (.c (.bool false)))])
 (.seq (.reg [Ro 5 (Mv 0), Ro 6 (.mkfn 83 [Sv 3]), Ro 7 (.call true (.f 82) [Sv 5, Sv 6]), Ro 8 (.not (Sv 7)), Ro 4 (Mv 8)])
 .ret))
def r_ir_all : List ARes := [(.tmp (sl 4))]
theorem t_ir_all : (Try.f63).body.bind (trCode Try.prog 8 (Try.f63).ntmps [] [] (drOk 8)) = some c_ir_all := by kernel_rfl
theorem u_ir_all : trRess Try.prog 8 (Try.f63).results.toList = some r_ir_all := by kernel_rfl
def c_ir_named : ACode :=
 (.seq (.reg [Ro 1 (.box true (Sv 0)), Ro 2 (.mv (.c (.bool false)))])
 (.seq (.reg [Ro 3 (Fd 1 0), Ro 4 (Ld 3), Ro 5 (.bin .eql (Sv 4) (Ci 12)), Ro 6 (Mv 5), Rg 7 6 false (Fd 1 0), Rg 8 6 false (Ld 7), Rg 9 6 false (.bin .eql (Sv 8) (Ci 13)), Ro 10 (.pick (Sv 6) (.c (.bool true)) (Sv 9)), Ro 11 (Mv 10), Rg 12 11 false (Fd 1 0), Rg 13 11 false (Ld 12), Rg 14 11 false (.bin .eql (Sv 13) (Ci 14)), Ro 15 (.pick (Sv 11) (.c (.bool true)) (Sv 14)), Ro 2 (Mv 15)])
 .ret))
def r_ir_named : List ARes := [(.tmp (sl 2))]
theorem t_ir_named : (Try.f27).body.bind (trCode Try.prog 8 (Try.f27).ntmps [] [] (drOk 8)) = some c_ir_named := by kernel_rfl
theorem u_ir_named : trRess Try.prog 8 (Try.f27).results.toList = some r_ir_named := by kernel_rfl
def c_ir_name : ACode :=
 (.seq (.reg [Ro 2 (.mv (.c (.bool false)))])
 (.seq (.reg [Ro 3 (Mv 0), Ro 4 (.bin .neq (Sv 3) (.c (.string ⟨#[]⟩))), Ro 5 (Mv 4), Rg 6 5 true (Mv 0), Rg 7 5 true (.len true (Sv 6)), Rg 8 5 true (.bin .leq (Sv 7) (Ci 16)), Ro 9 (.pick (Sv 5) (Sv 8) (.c (.bool false))), Ro 2 (Mv 9)])
 .ret))
def r_ir_name : List ARes := [(.tmp (sl 2))]
theorem t_ir_name : (Try.f35).body.bind (trCode Try.prog 8 (Try.f35).ntmps [] [] (drOk 8)) = some c_ir_name := by kernel_rfl
theorem u_ir_name : trRess Try.prog 8 (Try.f35).results.toList = some r_ir_name := by kernel_rfl
def c_ir_block : ACode :=
 (.seq (.reg [Ro 2 (.box true (Sv 0)), Ro 3 (.box true (Sv 1)), Ro 4 (.mv (.c (.bool false)))])
 (.seq (.seq (.reg [Ro 7 (Fd 3 0), Ro 8 (Ld 7), Ro 9 (.bin .lss (Sv 8) (Ci 0)), Ro 10 (Mv 9), Rg 11 10 false (Fd 3 0), Rg 12 10 false (Ld 11), Rg 13 10 false (.bin .gtr (Sv 12) (Ci 6)), Ro 14 (.pick (Sv 10) (.c (.bool true)) (Sv 13)), Ro 15 (Mv 14), Rg 16 15 false (Fd 3 1), Rg 17 15 false (Ld 16), Rg 18 15 false (.len false (Sv 17)), Rg 19 15 false (.bin .gtr (Sv 18) (Ci 32)), Ro 20 (.pick (Sv 15) (.c (.bool true)) (Sv 19))])
 (.cond (Sv 20)
 (.seq (.reg [Ro 4 (.mv (.c (.bool false)))])
 .ret)
 .skip))
 (.seq (.seq (.reg [Ro 21 (Fd 3 1), Ro 22 (Ld 21), Ro 23 (.len false (Sv 22)), Ro 24 (.mv (Ci 0))])
 (.block 0
 (.loop (.seq (.reg [Ro 25 (.bin .lss (Sv 24) (Sv 23))])
 (.seq (.cond (Sv 25)
 .skip
 (.exit 0))
 (.seq (.block 1
 (.seq (.seq (.reg [Ro 26 (Mv 24), Ro 27 (.idx true (Sv 22) (Sv 24) 6), Ro 28 (Lk 27 6), Ro 6 (.new [(.int .i64 0), (.int .i64 0), (.int .i64 0), (.int .u64 0), (.string ⟨#[]⟩), (.slice none 0 0)]), Ro 5 (Mv 26), Rn (.ini 2 (Sv 6) (Sv 28) 6)])
 (.frz (sl 6)))
 (.seq (.reg [Ro 29 (Lk 6 6), Ro 30 (Fd 3 0), Ro 31 (Ld 30), Ro 32 (Mv 5), Ro 33 (.bin .add (Sv 31) (Sv 32)), Ro 34 (.call true (.f 49) [Sv 29, Sv 33]), Ro 35 (.not (Sv 34))])
 (.cond (Sv 35)
 (.seq (.reg [Ro 4 (.mv (.c (.bool false)))])
 .ret)
 .skip))))
 (.reg [Ro 36 (.bin .add (Sv 24) (Ci 1)), Ro 24 (Mv 36)])))))))
 (.seq (.reg [Ro 37 (Lk 2 4), Ro 38 (Lk 3 8), Ro 39 (.call true (.f 50) [Sv 37, Sv 38]), Ro 4 (Mv 39)])
 .ret))))
def r_ir_block : List ARes := [(.tmp (sl 4))]
theorem t_ir_block : (Try.f38).body.bind (trCode Try.prog 8 (Try.f38).ntmps [] [] (drOk 8)) = some c_ir_block := by kernel_rfl
theorem u_ir_block : trRess Try.prog 8 (Try.f38).results.toList = some r_ir_block := by kernel_rfl
def c_slices_ContainsFunc___int_int_ : ACode :=
 (.seq (.reg [Ro 4 (.mv (.c (.bool false)))])
 (.seq (.reg [Ro 5 (Mv 0), Ro 6 (Mv 1), Ro 7 (.call true (.f 95) [Sv 5, Sv 6]), Ro 8 (.bin .geq (Sv 7) (Ci 0)), Ro 4 (Mv 8)])
 .ret))
def r_slices_ContainsFunc___int_int_ : List ARes := [(.tmp (sl 4))]
theorem t_slices_ContainsFunc___int_int_ : (Try.f82).body.bind (trCode Try.prog 8 (Try.f82).ntmps [] [] (drOk 8)) = some c_slices_ContainsFunc___int_int_ := by kernel_rfl
theorem u_slices_ContainsFunc___int_int_ : trRess Try.prog 8 (Try.f82).results.toList = some r_slices_ContainsFunc___int_int_ := by kernel_rfl
def c_ir_all_1 : ACode :=
 (.seq (.reg [Ro 3 (.mv (.c (.bool false)))])
 (.seq (.reg [Ro 4 (Mv 0), Ro 5 (.bin .lss (Sv 4) (Ci 0)), Ro 6 (Mv 5), Rg 7 6 false (Mv 0), Rg 8 6 false (Ld 1), Rg 9 6 false (.bin .geq (Sv 7) (Sv 8)), Ro 10 (.pick (Sv 6) (.c (.bool true)) (Sv 9)), Ro 3 (Mv 10)])
 .ret))
def r_ir_all_1 : List ARes := [(.tmp (sl 3))]
theorem t_ir_all_1 : (Try.f83).body.bind (trCode Try.prog 8 (Try.f83).ntmps [] [] (drOk 8)) = some c_ir_all_1 := by kernel_rfl
theorem u_ir_all_1 : trRess Try.prog 8 (Try.f83).results.toList = some r_ir_all_1 := by kernel_rfl
def c_slices_IndexFunc___api_Block_api_Block_ : ACode :=
 (.seq (.reg [Ro 4 (.mv (Ci 0))])
 (.seq (.seq (.reg [Ro 6 (Mv 0), Ro 7 (.len false (Sv 6)), Ro 8 (.mv (Ci 0))])
 (.block 0
 (.loop (.seq (.reg [Ro 9 (.bin .lss (Sv 8) (Sv 7))])
 (.seq (.cond (Sv 9)
 .skip
 (.exit 0))
 (.seq (.block 1
 (.seq (.reg [Ro 10 (Mv 8), Ro 5 (Mv 10)])
 (.seq (.reg [Ro 11 (Mv 1), Ro 12 (Mv 0), Ro 13 (Mv 5), Ro 14 (.idx true (Sv 12) (Sv 13) 8), Ro 15 (Lk 14 8), Ro 16 (.call true (Sv 11) [Sv 15])])
 (.cond (Sv 16)
 (.seq (.reg [Ro 17 (Mv 5), Ro 4 (Mv 17)])
 .ret)
 .skip))))
 (.reg [Ro 18 (.bin .add (Sv 8) (Ci 1)), Ro 8 (Mv 18)])))))))
 (.seq (.reg [Ro 4 (.mv (Ci (-1)))])
 .ret)))
def r_slices_IndexFunc___api_Block_api_Block_ : List ARes := [(.tmp (sl 4))]
theorem t_slices_IndexFunc___api_Block_api_Block_ : (Try.f48).body.bind (trCode Try.prog 8 (Try.f48).ntmps [] [] (drOk 8)) = some c_slices_IndexFunc___api_Block_api_Block_ := by kernel_rfl
theorem u_slices_IndexFunc___api_Block_api_Block_ : trRess Try.prog 8 (Try.f48).results.toList = some r_slices_IndexFunc___api_Block_api_Block_ := by kernel_rfl
def c_ir_end : ACode :=
 (.seq (.reg [Ro 2 (.box true (Sv 0)), Ro 3 (.box true (Sv 1)), Ro 4 (.mv (.c (.bool false)))])
 (.seq (.seq (.reg [Ro 9 (Lk 3 8), Ro 10 (.call true (.f 65) [Sv 9]), Ro 5 (.new [(.int .i64 0)]), Rn (.ini 1 (Sv 5) (Sv 10) 1)])
 (.frz (sl 5)))
 (.seq (.reg [Ro 11 (.mkfn 66 [Sv 2, Sv 5]), Ro 6 (Mv 11)])
 (.seq (.seq (.reg [Ro 12 (Fd 3 2), Ro 13 (Lk 12 6), Ro 7 (.new [(.int .i64 0), (.int .i64 0), (.int .i64 0), (.slice none 0 0), (.int .i64 0), (.slice none 0 0)]), Rn (.ini 1 (Sv 7) (Sv 13) 6)])
 (.frz (sl 7)))
 (.seq (.reg [Ro 14 (Fd 7 4), Ro 15 (Ld 14), Ro 16 (.bin .eql (Sv 15) (Ci 0)), Ro 17 (Mv 16), Rg 18 17 true (Fd 7 5), Rg 19 17 true (Ld 18), Rg 20 17 true (.len false (Sv 19)), Rg 21 17 true (.bin .eql (Sv 20) (Ci 0)), Ro 22 (.pick (Sv 17) (Sv 21) (.c (.bool false))), Ro 8 (Mv 22)])
 (.seq (.seq (.reg [Ro 23 (Fd 7 0), Ro 24 (Ld 23)])
 (.block 0
 (.seq (.reg [Ro 26 (.bin .eql (Sv 24) (Ci 1)), Ro 25 (Mv 26)])
 (.cond (Sv 25)
 (.seq (.reg [Ro 27 (Fd 7 1), Ro 28 (Ld 27), Ro 29 (.bin .eql (Sv 28) (Ci 0)), Ro 30 (Mv 29), Rg 31 30 true (Mv 8), Ro 32 (.pick (Sv 30) (Sv 31) (.c (.bool false))), Ro 33 (Mv 32), Rg 34 33 true (Mv 6), Rg 35 33 true (Fd 7 2), Rg 36 33 true (Ld 35), Rg 37 33 true (Fd 7 3), Rg 38 33 true (Ld 37), Rg 39 33 true (.call true (Sv 34) [Sv 36, Sv 38]), Ro 40 (.pick (Sv 33) (Sv 39) (.c (.bool false))), Ro 4 (Mv 40)])
 .ret)
 (.seq (.reg [Ro 42 (.bin .eql (Sv 24) (Ci 2)), Ro 41 (Mv 42)])
 (.cond (Sv 41)
 (.seq (.reg [Ro 43 (Fd 7 1), Ro 44 (Ld 43), Ro 45 (.mksl 1 1 [(.int .i64 0)] [(0, 1, (Sv 44))]), Ro 46 (Ld 5), Ro 47 (.call true (.f 63) [Sv 45, Sv 46]), Ro 48 (Mv 47), Rg 49 48 true (Mv 6), Rg 50 48 true (Fd 7 2), Rg 51 48 true (Ld 50), Rg 52 48 true (Fd 7 3), Rg 53 48 true (Ld 52), Rg 54 48 true (.call true (Sv 49) [Sv 51, Sv 53]), Ro 55 (.pick (Sv 48) (Sv 54) (.c (.bool false))), Ro 56 (Mv 55), Rg 57 56 true (Mv 6), Rg 58 56 true (Fd 7 4), Rg 59 56 true (Ld 58), Rg 60 56 true (Fd 7 5), Rg 61 56 true (Ld 60), Rg 62 56 true (.call true (Sv 57) [Sv 59, Sv 61]), Ro 63 (.pick (Sv 56) (Sv 62) (.c (.bool false))), Ro 4 (Mv 63)])
 .ret)
 (.seq (.reg [Ro 65 (.bin .eql (Sv 24) (Ci 3)), Ro 64 (Mv 65)])
 (.cond (Sv 64)
 (.seq (.reg [Ro 66 (Fd 7 1), Ro 67 (Ld 66), Ro 68 (.mksl 1 1 [(.int .i64 0)] [(0, 1, (Sv 67))]), Ro 69 (Ld 5), Ro 70 (.call true (.f 63) [Sv 68, Sv 69]), Ro 71 (Mv 70), Rg 72 71 true (Mv 8), Ro 73 (.pick (Sv 71) (Sv 72) (.c (.bool false))), Ro 74 (Mv 73), Rg 75 74 true (Fd 7 2), Rg 76 74 true (Ld 75), Rg 77 74 true (.bin .eql (Sv 76) (Ci 0)), Ro 78 (.pick (Sv 74) (Sv 77) (.c (.bool false))), Ro 79 (Mv 78), Rg 80 79 true (Fd 7 3), Rg 81 79 true (Ld 80), Rg 82 79 true (.len false (Sv 81)), Rg 83 79 true (.bin .eql (Sv 82) (Ci 0)), Ro 84 (.pick (Sv 79) (Sv 83) (.c (.bool false))), Ro 4 (Mv 84)])
 .ret)
 .skip))))))))
 (.seq (.reg [Ro 4 (.mv (.c (.bool false)))])
 .ret)))))))
def r_ir_end : List ARes := [(.tmp (sl 4))]
theorem t_ir_end : (Try.f50).body.bind (trCode Try.prog 8 (Try.f50).ntmps [] [] (drOk 8)) = some c_ir_end := by kernel_rfl
theorem u_ir_end : trRess Try.prog 8 (Try.f50).results.toList = some r_ir_end := by kernel_rfl
def c_slices_IndexFunc___int_int_ : ACode :=
 (.seq (.reg [Ro 4 (.mv (Ci 0))])
 (.seq (.seq (.reg [Ro 6 (Mv 0), Ro 7 (.len false (Sv 6)), Ro 8 (.mv (Ci 0))])
 (.block 0
 (.loop (.seq (.reg [Ro 9 (.bin .lss (Sv 8) (Sv 7))])
 (.seq (.cond (Sv 9)
 .skip
 (.exit 0))
 (.seq (.block 1
 (.seq (.reg [Ro 10 (Mv 8), Ro 5 (Mv 10)])
 (.seq (.reg [Ro 11 (Mv 1), Ro 12 (Mv 0), Ro 13 (Mv 5), Ro 14 (.idx true (Sv 12) (Sv 13) 1), Ro 15 (Ld 14), Ro 16 (.call true (Sv 11) [Sv 15])])
 (.cond (Sv 16)
 (.seq (.reg [Ro 17 (Mv 5), Ro 4 (Mv 17)])
 .ret)
 .skip))))
 (.reg [Ro 18 (.bin .add (Sv 8) (Ci 1)), Ro 8 (Mv 18)])))))))
 (.seq (.reg [Ro 4 (.mv (Ci (-1)))])
 .ret)))
def r_slices_IndexFunc___int_int_ : List ARes := [(.tmp (sl 4))]
theorem t_slices_IndexFunc___int_int_ : (Try.f95).body.bind (trCode Try.prog 8 (Try.f95).ntmps [] [] (drOk 8)) = some c_slices_IndexFunc___int_int_ := by kernel_rfl
theorem u_slices_IndexFunc___int_int_ : trRess Try.prog 8 (Try.f95).results.toList = some r_slices_IndexFunc___int_int_ := by kernel_rfl
def c_ir_end_1 : ACode :=
 (.seq (.reg [Ro 6 (.mv (.c (.bool false)))])
 (.seq (.reg [Ro 7 (Mv 0), Ro 8 (.bin .geq (Sv 7) (Ci 0)), Ro 9 (Mv 8), Rg 10 9 true (Mv 0), Rg 11 9 true (Fd 2 3), Rg 12 9 true (Ld 11), Rg 13 9 true (.len false (Sv 12)), Rg 14 9 true (.bin .lss (Sv 10) (Sv 13)), Ro 15 (.pick (Sv 9) (Sv 14) (.c (.bool false))), Ro 16 (Mv 15), Rg 17 16 true (Mv 1), Rg 18 16 true (.len false (Sv 17)), Rg 19 16 true (Fd 2 3), Rg 20 16 true (Ld 19), Rg 21 16 true (Mv 0), Rg 22 16 true (.idx true (Sv 20) (Sv 21) 8), Rg 23 16 true (Fd 22 0), Rg 24 16 true (Ld 23), Rg 25 16 true (.bin .eql (Sv 18) (Sv 24)), Ro 26 (.pick (Sv 16) (Sv 25) (.c (.bool false))), Ro 27 (Mv 26), Rg 28 27 true (Mv 1), Rg 29 27 true (Ld 3), Rg 30 27 true (.call true (.f 63) [Sv 28, Sv 29]), Ro 31 (.pick (Sv 27) (Sv 30) (.c (.bool false))), Ro 6 (Mv 31)])
 .ret))
def r_ir_end_1 : List ARes := [(.tmp (sl 6))]
theorem t_ir_end_1 : (Try.f66).body.bind (trCode Try.prog 8 (Try.f66).ntmps [] [] (drOk 8)) = some c_ir_end_1 := by kernel_rfl
theorem u_ir_end_1 : trRess Try.prog 8 (Try.f66).results.toList = some r_ir_end_1 := by kernel_rfl
def c_slices_ContainsFunc___api_Block_api_Block_ : ACode :=
 (.seq (.reg [Ro 4 (.mv (.c (.bool false)))])
 (.seq (.reg [Ro 5 (Mv 0), Ro 6 (Mv 1), Ro 7 (.call true (.f 48) [Sv 5, Sv 6]), Ro 8 (.bin .geq (Sv 7) (Ci 0)), Ro 4 (Mv 8)])
 .ret))
def r_slices_ContainsFunc___api_Block_api_Block_ : List ARes := [(.tmp (sl 4))]
theorem t_slices_ContainsFunc___api_Block_api_Block_ : (Try.f36).body.bind (trCode Try.prog 8 (Try.f36).ntmps [] [] (drOk 8)) = some c_slices_ContainsFunc___api_Block_api_Block_ := by kernel_rfl
theorem u_slices_ContainsFunc___api_Block_api_Block_ : trRess Try.prog 8 (Try.f36).results.toList = some r_slices_ContainsFunc___api_Block_api_Block_ := by kernel_rfl
def c_ir_Func_1 : ACode :=
 (.seq (.reg [Ro 2 (.box true (Sv 0)), Ro 3 (.mv (.c (.bool false)))])
 (.seq (.reg [Ro 4 (Lk 1 4), Ro 5 (Lk 2 8), Ro 6 (.call true (.f 38) [Sv 4, Sv 5]), Ro 7 (.not (Sv 6)), Ro 3 (Mv 7)])
 .ret))
def r_ir_Func_1 : List ARes := [(.tmp (sl 3))]
theorem t_ir_Func_1 : (Try.f37).body.bind (trCode Try.prog 8 (Try.f37).ntmps [] [] (drOk 8)) = some c_ir_Func_1 := by kernel_rfl
theorem u_ir_Func_1 : trRess Try.prog 8 (Try.f37).results.toList = some r_ir_Func_1 := by kernel_rfl
def c_ir_glob : ACode :=
 (.seq (.reg [Ro 1 (.box true (Sv 0)), Ro 2 (.mv (.c (.bool false)))])
 (.seq (.reg [Ro 3 (Fd 1 0), Ro 4 (Ld 3), Ro 5 (.call true (.f 35) [Sv 4]), Ro 6 (Mv 5), Rg 7 6 true (Fd 1 1), Rg 8 6 true (Ld 7), Rg 9 6 true (.bin .geq (Sv 8) (Ci 1)), Ro 10 (.pick (Sv 6) (Sv 9) (.c (.bool false))), Ro 11 (Mv 10), Rg 12 11 true (Fd 1 1), Rg 13 11 true (Ld 12), Rg 14 11 true (.bin .leq (Sv 13) (Ci 3)), Ro 15 (.pick (Sv 11) (Sv 14) (.c (.bool false))), Ro 16 (Mv 15), Rg 17 16 true (Fd 1 2), Rg 18 16 true (Ld 17), Rg 19 16 true (Mv 18), Rg 20 19 false (Fd 1 3), Rg 21 19 false (Ld 20), Rg 22 19 false (.bin .eql (Sv 21) (.c (.int .u64 0))), Rg 23 19 false (Mv 22), Rg 24 23 true (Fd 1 1), Rg 25 23 true (Ld 24), Rg 26 23 true (.bin .neq (Sv 25) (Ci 1)), Rg 27 19 false (.pick (Sv 23) (Sv 26) (.c (.bool false))), Rg 28 16 true (.pick (Sv 19) (.c (.bool true)) (Sv 27)), Ro 29 (.pick (Sv 16) (Sv 28) (.c (.bool false))), Ro 2 (Mv 29)])
 .ret))
def r_ir_glob : List ARes := [(.tmp (sl 2))]
theorem t_ir_glob : (Try.f21).body.bind (trCode Try.prog 8 (Try.f21).ntmps [] [] (drOk 8)) = some c_ir_glob := by kernel_rfl
theorem u_ir_glob : trRess Try.prog 8 (Try.f21).results.toList = some r_ir_glob := by kernel_rfl
def c_ir_insts : ACode :=
 (.seq (.reg [Ro 1 (.box true (Sv 0)), Ro 2 (.mv (.c .nilFunc))])
 (.seq (.reg [Ro 3 (.mkfn 39 [Sv 1]), Ro 2 (Mv 3)])
 .ret))
def r_ir_insts : List ARes := [(.tmp (sl 2))]
theorem t_ir_insts : (Try.f26).body.bind (trCode Try.prog 8 (Try.f26).ntmps [] [] (drOk 8)) = some c_ir_insts := by kernel_rfl
theorem u_ir_insts : trRess Try.prog 8 (Try.f26).results.toList = some r_ir_insts := by kernel_rfl
end Go.Proofs.Ytgadlpdbkohlbaa
/- The bodies of some functions, as the evaluator has them (printed by program), and that they are the program's own. -/
namespace Go.Proofs.Ytgadlpdbkohlbaa
open Go.RowKit
def c_ir_Check : ACode :=
 (.seq (.reg [Ro 1 (.box true (Sv 0)), Ro 2 (.mv (Ci 0))])
 (.seq (.seq (.reg [Ro 8 (Fd 1 0), Ro 9 (Ld 8), Ro 10 (.len false (Sv 9)), Ro 11 (.bin .gtr (Sv 10) (Ci 16)), Ro 12 (Mv 11), Rg 13 12 false (Fd 1 1), Rg 14 12 false (Ld 13), Rg 15 12 false (.len false (Sv 14)), Rg 16 12 false (.bin .gtr (Sv 15) (Ci 16)), Ro 17 (.pick (Sv 12) (.c (.bool true)) (Sv 16))])
 (.cond (Sv 17)
 (.seq (.reg [Ro 2 (.mv (Ci 4))])
 .ret)
 .skip))
 (.seq (.reg [Ro 18 (.mmk .string), Ro 3 (Mv 18)])
 (.seq (.seq (.reg [Ro 19 (Fd 1 0), Ro 20 (Ld 19), Ro 21 (.len false (Sv 20)), Ro 22 (.mv (Ci 0))])
 (.block 0
 (.loop (.seq (.reg [Ro 23 (.bin .lss (Sv 22) (Sv 21))])
 (.seq (.cond (Sv 23)
 .skip
 (.exit 0))
 (.seq (.block 1
 (.seq (.seq (.reg [Ro 24 (.idx true (Sv 20) (Sv 22) 4), Ro 25 (Lk 24 4), Ro 5 (.new [(.string ⟨#[]⟩), (.int .i64 0), (.int .i64 0), (.slice none 0 0)]), Rn (.ini 1 (Sv 5) (Sv 25) 4)])
 (.frz (sl 5)))
 (.seq (.seq (.reg [Ro 26 (Lk 5 4), Ro 27 (.call true (.f 20) [Sv 26]), Ro 28 (.not (Sv 27))])
 (.cond (Sv 28)
 (.seq (.reg [Ro 2 (.mv (Ci 10))])
 .ret)
 .skip))
 (.reg [Ro 29 (Mv 3), Ro 30 (Fd 5 0), Ro 31 (Ld 30), Rn (.mset false (Sv 29) (Sv 31) (.c (.bool true)) .string)]))))
 (.reg [Ro 32 (.bin .add (Sv 22) (Ci 1)), Ro 22 (Mv 32)])))))))
 (.seq (.seq (.reg [Ro 33 (Fd 1 1), Ro 34 (Ld 33), Ro 35 (.len false (Sv 34)), Ro 36 (.mv (Ci 0))])
 (.block 2
 (.loop (.seq (.reg [Ro 37 (.bin .lss (Sv 36) (Sv 35))])
 (.seq (.cond (Sv 37)
 .skip
 (.exit 2))
 (.seq (.block 3
 (.seq (.seq (.reg [Ro 38 (.idx true (Sv 34) (Sv 36) 4), Ro 39 (Lk 38 4), Ro 7 (.new [(.string ⟨#[]⟩), (.int .i64 0), (.bool false), (.int .u64 0)]), Rn (.ini 1 (Sv 7) (Sv 39) 4)])
 (.frz (sl 7)))
 (.seq (.seq (.reg [Ro 40 (Lk 7 4), Ro 41 (.call true (.f 21) [Sv 40]), Ro 42 (.not (Sv 41))])
 (.cond (Sv 42)
 (.seq (.reg [Ro 2 (.mv (Ci 10))])
 .ret)
 .skip))
 (.reg [Ro 43 (Mv 3), Ro 44 (Fd 7 0), Ro 45 (Ld 44), Rn (.mset false (Sv 43) (Sv 45) (.c (.bool true)) .string)]))))
 (.reg [Ro 46 (.bin .add (Sv 36) (Ci 1)), Ro 36 (Mv 46)])))))))
 (.seq (.seq (.reg [Ro 47 (Mv 3), Ro 48 (.mlen (Sv 47)), Ro 49 (Fd 1 0), Ro 50 (Ld 49), Ro 51 (.len false (Sv 50)), Ro 52 (Fd 1 1), Ro 53 (Ld 52), Ro 54 (.len false (Sv 53)), Ro 55 (.bin .add (Sv 51) (Sv 54)), Ro 56 (.bin .lss (Sv 48) (Sv 55))])
 (.cond (Sv 56)
 (.seq (.reg [Ro 2 (.mv (Ci 9))])
 .ret)
 .skip))
 (.seq (.reg [Ro 57 (Lk 1 2), Ro 58 (.call true (.f 22) [Sv 57]), Ro 2 (Mv 58)])
 .ret)))))))
def r_ir_Check : List ARes := [(.tmp (sl 2))]
theorem t_ir_Check : (Try.f13).body.bind (trCode Try.prog 8 (Try.f13).ntmps [] [] (drOk 8)) = some c_ir_Check := by kernel_rfl
theorem u_ir_Check : trRess Try.prog 8 (Try.f13).results.toList = some r_ir_Check := by kernel_rfl
def c_ir_Refs : ACode :=
 (.seq (.reg [Ro 1 (.box true (Sv 0)), Ro 2 (.mv (.c (.slice none 0 0)))])
 (.seq (.reg [Ro 3 (.new [(.slice none 0 0)])])
 (.seq (.seq (.reg [Ro 5 (Lk 1 4), Ro 6 (.call true (.f 26) [Sv 5])])
 (.block 0
 (.rng (Sv 6)
 [(sl 7)]
 (.seq (.reg [Ro 4 (.new [(.int .i64 0), (.int .i64 0), (.int .i64 0), (.int .u64 0), (.string ⟨#[]⟩), (.slice none 0 0)]), Rn (.ini 1 (Sv 4) (Sv 7) 6)])
 (.frz (sl 4)))
 (.block 1
 (.seq (.reg [Ro 8 (Lk 4 6), Ro 9 (.call true (.f 27) [Sv 8])])
 (.cond (Sv 9)
 (.reg [Ro 10 (.ld false (Sv 3) none), Ro 11 (Fd 4 4), Ro 12 (Ld 11), Ro 13 (.mksl 1 1 [(.string ⟨#[]⟩)] [(0, 1, (Sv 12))]), Ro 14 (.app 9 1 16 (Sv 10) (Sv 13)), Rn (.st (Sv 3) (Sv 14) 1)])
 .skip))))))
 (.seq (.reg [Ro 15 (.ld false (Sv 3) none), Ro 2 (Mv 15)])
 .ret))))
def r_ir_Refs : List ARes := [(.tmp (sl 2))]
theorem t_ir_Refs : (Try.f16).body.bind (trCode Try.prog 8 (Try.f16).ntmps [2, 3, 10, 14, 15] [] (drOk 8)) = some c_ir_Refs := by kernel_rfl
theorem u_ir_Refs : trRess Try.prog 8 (Try.f16).results.toList = some r_ir_Refs := by kernel_rfl
def c_ir_refs : ACode :=
 (.seq (.reg [Ro 1 (.box true (Sv 0)), Ro 2 (.new [(.int .i64 0)])])
 (.seq (.reg [Ro 15 (.mmk .string), Ro 16 (.mmk .string), Ro 3 (.new [(.map none)]), Ro 4 (.new [(.map none)]), Rn (.ini 2 (Sv 3) (Sv 15) 1), Rn (.ini 2 (Sv 4) (Sv 16) 1)])
 (.seq (.seq (.reg [Ro 17 (Fd 1 0), Ro 18 (Ld 17), Ro 19 (.len false (Sv 18)), Ro 20 (.mv (Ci 0))])
 (.block 0
 (.loop (.seq (.reg [Ro 21 (.bin .lss (Sv 20) (Sv 19))])
 (.seq (.cond (Sv 21)
 .skip
 (.exit 0))
 (.seq (.block 1
 (.seq (.seq (.reg [Ro 22 (.idx true (Sv 18) (Sv 20) 4), Ro 23 (Lk 22 4), Ro 6 (.new [(.string ⟨#[]⟩), (.int .i64 0), (.int .i64 0), (.slice none 0 0)]), Rn (.ini 1 (Sv 6) (Sv 23) 4)])
 (.frz (sl 6)))
 (.reg [Ro 24 (.ld false (Sv 3) none), Ro 25 (Fd 6 0), Ro 26 (Ld 25), Ro 27 (Fd 6 2), Ro 28 (Ld 27), Rn (.mset false (Sv 24) (Sv 26) (Sv 28) .string)])))
 (.reg [Ro 29 (.bin .add (Sv 20) (Ci 1)), Ro 20 (Mv 29)])))))))
 (.seq (.seq (.reg [Ro 30 (Fd 1 1), Ro 31 (Ld 30), Ro 32 (.len false (Sv 31)), Ro 33 (.mv (Ci 0))])
 (.block 2
 (.loop (.seq (.reg [Ro 34 (.bin .lss (Sv 33) (Sv 32))])
 (.seq (.cond (Sv 34)
 .skip
 (.exit 2))
 (.seq (.block 3
 (.seq (.seq (.reg [Ro 35 (.idx true (Sv 31) (Sv 33) 4), Ro 36 (Lk 35 4), Ro 8 (.new [(.string ⟨#[]⟩), (.int .i64 0), (.bool false), (.int .u64 0)]), Rn (.ini 1 (Sv 8) (Sv 36) 4)])
 (.frz (sl 8)))
 (.reg [Ro 37 (.ld false (Sv 4) none), Ro 38 (Fd 8 0), Ro 39 (Ld 38), Rn (.mset false (Sv 37) (Sv 39) (.c (.bool true)) .string)])))
 (.reg [Ro 40 (.bin .add (Sv 33) (Ci 1)), Ro 33 (Mv 40)])))))))
 (.seq (.reg [Ro 9 (.new [(.bool false)]), Rn (.ini 1 (Sv 9) (.c (.bool false)) 1)])
 (.seq (.seq (.reg [Ro 41 (Fd 1 0), Ro 42 (Ld 41), Ro 43 (.len false (Sv 42)), Ro 44 (.mv (Ci 0))])
 (.block 4
 (.loop (.seq (.reg [Ro 45 (.bin .lss (Sv 44) (Sv 43))])
 (.seq (.cond (Sv 45)
 .skip
 (.exit 4))
 (.seq (.block 5
 (.seq (.seq (.reg [Ro 46 (.idx true (Sv 42) (Sv 44) 4), Ro 47 (Lk 46 4), Ro 11 (.new [(.string ⟨#[]⟩), (.int .i64 0), (.int .i64 0), (.slice none 0 0)]), Rn (.ini 1 (Sv 11) (Sv 47) 4)])
 (.frz (sl 11)))
 (.seq (.reg [Ro 48 (Lk 11 4), Ro 49 (.call true (.f 26) [Sv 48])])
 (.block 6
 (.rng (Sv 49)
 [(sl 50)]
 (.seq (.reg [Ro 12 (.new [(.int .i64 0), (.int .i64 0), (.int .i64 0), (.int .u64 0), (.string ⟨#[]⟩), (.slice none 0 0)]), Rn (.ini 1 (Sv 12) (Sv 50) 6)])
 (.frz (sl 12)))
 (.block 7
 (.seq (.reg [Ro 52 (.ld false (Sv 3) none), Ro 53 (Fd 12 4), Ro 54 (Ld 53), Ro 55 (.mget (Sv 52) (Sv 54) true .string (.int .i64 0)), Ro 51 (Mv 55), Ro 56 (.ext (Sv 51) 0), Ro 57 (.ext (Sv 51) 1), Ro 13 (Mv 56), Ro 14 (Mv 57)])
 (.seq (.seq (.reg [Ro 58 (Fd 12 0), Ro 59 (Ld 58), Ro 60 (.bin .eql (Sv 59) (Ci 14)), Ro 61 (Mv 60), Rg 62 61 true (Mv 14), Rg 63 61 true (.not (Sv 62)), Ro 64 (.pick (Sv 61) (Sv 63) (.c (.bool false))), Ro 65 (Mv 64), Rg 66 65 false (Fd 12 0), Rg 67 65 false (Ld 66), Rg 68 65 false (.bin .eql (Sv 67) (Ci 12)), Rg 69 65 false (Mv 68), Rg 70 69 false (Fd 12 0), Rg 71 69 false (Ld 70), Rg 72 69 false (.bin .eql (Sv 71) (Ci 13)), Rg 73 65 false (.pick (Sv 69) (.c (.bool true)) (Sv 72)), Rg 74 65 false (Mv 73), Rg 75 74 true (.ld false (Sv 4) none), Rg 76 74 true (Fd 12 4), Rg 77 74 true (Ld 76), Rg 78 74 true (.mget (Sv 75) (Sv 77) false .string (.bool false)), Rg 79 74 true (.not (Sv 78)), Rg 80 65 false (.pick (Sv 74) (Sv 79) (.c (.bool false))), Ro 81 (.pick (Sv 65) (.c (.bool true)) (Sv 80))])
 (.cond (Sv 81)
 (.seq (.reg [Rn (.st (Sv 2) (Ci 8) 1)])
 .ret)
 .skip))
 (.reg [Ro 82 (.ld false (Sv 9) none), Ro 83 (Mv 82), Rg 84 83 false (Fd 12 0), Rg 85 83 false (Ld 84), Rg 86 83 false (.bin .eql (Sv 85) (Ci 14)), Rg 87 83 false (Mv 86), Rg 88 87 true (Mv 13), Rg 89 87 true (Fd 12 5), Rg 90 87 true (Ld 89), Rg 91 87 true (.len false (Sv 90)), Rg 92 87 true (.bin .neq (Sv 88) (Sv 91)), Rg 93 83 false (.pick (Sv 87) (Sv 92) (.c (.bool false))), Ro 94 (.pick (Sv 83) (.c (.bool true)) (Sv 93)), Rn (.st (Sv 9) (Sv 94) 1)])))))))))
 (.reg [Ro 95 (.bin .add (Sv 44) (Ci 1)), Ro 44 (Mv 95)])))))))
 (.seq (.seq (.reg [Ro 96 (.ld false (Sv 9) none)])
 (.cond (Sv 96)
 (.seq (.reg [Rn (.st (Sv 2) (Ci 1) 1)])
 .ret)
 .skip))
 (.seq (.reg [Rn (.st (Sv 2) (Ci 0) 1)])
 .ret))))))))
def r_ir_refs : List ARes := [(.cell (sl 2) none)]
theorem t_ir_refs : (Try.f22).body.bind (trCode Try.prog 8 (Try.f22).ntmps [2, 3, 4, 9, 24, 37, 52, 75, 82, 83, 94, 96] [] (drOk 8)) = some c_ir_refs := by kernel_rfl
theorem u_ir_refs : trRess Try.prog 8 (Try.f22).results.toList = some r_ir_refs := by kernel_rfl
end Go.Proofs.Ytgadlpdbkohlbaa
/- The bodies of some functions, as the evaluator has them (printed by program), and that they are the program's own. -/
namespace Go.Proofs.Ytgadlpdbkohlbaa
open Go.RowKit
end Go.Proofs.Ytgadlpdbkohlbaa
