/- Operations with their operands; what each yields; that the model does so. -/
import Derived.Laws.StructEq
import Derived.Laws.Cover3
import Derived.Test.YtghlfjpmpalpdaaApp
import Derived.Test.YtghlfjpmpalpdaaMap0
namespace Go.Proofs.Ytghlfjpmpalpdaa
open Go.RowKit

inductive Opd where
  | s (p : Slot)
  | c (v : Value)
  | f (F : FuncId)
def Opd.av (e : T) : Opd → AV
  | .s p => e.get p
  | .c v => .d (.lit v)
  | .f F => .d (.fn F [])

inductive AOp where
  | mv (x : Opd)
  | pick (c a b : Opd)
  | fld (x : Opd) (off : Nat)
  | ld (c : Bool) (x : Opd) (k : Option Nat)
  | idx (c : Bool) (x i : Opd) (n : Nat)
  | bin (o : BinOp) (x y : Opd)
  | binb (o : BinOp) (x y : Opd)
  | not (x : Opd)
  | len (str : Bool) (x : Opd)
  | mkfn (F : FuncId) (caps : List Opd)
  | mksl (n len : Nat) (zs : List Value) (parts : List (Nat × Nat × Opd))
  | bld (zs : List Value) (parts : List (Nat × Nat × Opd))
  | ext (x : Opd) (i : Nat)
  | slc (x : Opd) (lo hi : Option Opd) (n : Nat)
  | call (c : Bool) (f : Opd) (args : List Opd)
  | callo (e : TypeId) (n : Nat) (f : Opd) (args : List Opd)
  | box (imm : Bool) (x : Opd)
  | new (zs : List Value)
  | nrow (e : TypeId) (n : Nat)
  | st (a x : Opd) (k : Nat)
  | app (e : TypeId) (n bytes : Nat) (s x : Opd)
  | ini (back : Nat) (a x : Opd) (k : Nat)
  | mget (x k : Opd) (ok : Bool) (kd : TypeDesc) (z : Value)
  | mlen (x : Opd)
  | mmk (kd : TypeDesc)
  | mset (x k v : Opd) (kd : TypeDesc)
  | isnil (neg : Bool) (x : Opd)
  | eqs (neg : Bool) (x y : Opd) (ks : List TypeDesc)
  | bad

/-- low: the operation's place in its region, where it reads only objects that were there whn the region began. -/
structure AOper where
  dst : Option Slot
  guard : Option (Slot × Bool)
  op : AOp
  low : Option Nat

def AV.strip : AV → AV
  | .whn _ x => x
  | a => a
def AV.live : AV → Prop
  | .whn g _ => g = true
  | _ => True

section strip
variable {γ : Nat → Option Value} {X : Nat → Nat → Prop} {w : World} {v : Value} {a : AV}
theorem Rep.strip (h : Rep γ X w v a) (hl : a.live) : Rep γ X w v a.strip := by
  cases h with
  | whn v g x h h0 => exact h hl
  | d v x h => exact .d v x h
  | ptr b id off h => exact .ptr b id off h
  | own v id len h => exact .own v id len h
  | mp b id h => exact .mp b id h
  | fn f vs caps h1 hr => exact .fn f vs caps h1 hr
  | agg vs cs h1 hr => exact .agg vs cs h1 hr
  | tup vs cs h1 hr => exact .tup vs cs h1 hr
end strip

def pickB (c : Bool) (a b : AV) : AV :=
  match a, b with
  | .d (.lit (.bool x)), .d (.lit (.bool y)) => .bool (bif c then x else y)
  | a, b => bif c then a else b
def pickV (c a b : AV) : AV :=
  match c with
  | .d (.lit (.bool c)) => pickB c a b
  | _ => .d .top
def pickOk (c a b : AV) : Prop :=
  c.live ∧ match c.strip with
  | .d (.lit (.bool c)) => (c = true → a.live) ∧ (c = false → b.live)
  | _ => False

theorem pickB_true (a b : AV) : ∀ γ X w v, Rep γ X w v a → Rep γ X w v (pickB true a b) := by
  intro γ X w v h
  unfold pickB
  split
  · exact h
  · exact h
theorem pickB_false (a b : AV) : ∀ γ X w v, Rep γ X w v b → Rep γ X w v (pickB false a b) := by
  intro γ X w v h
  unfold pickB
  split
  · exact h
  · exact h

def isBoolV : Value → Bool
  | .bool _ => true
  | _ => false
def binA (o : BinOp) (x y : AV) : AV :=
  match x, y with
  | .d (.lit u), .d (.lit v) => match binV o u v with
    | some r => .d (.lit r)
    | none => .d .top
  | _, _ => .d .top
def binOk (b : Bool) (o : BinOp) (x y : AV) : Prop :=
  match x, y with
  | .d (.lit u), .d (.lit v) => isBoolV u = b ∧ isBoolV v = b ∧ (binV o u v).isSome = true
  | _, _ => False

def lenOk (H : Heap) (str : Bool) : AV → Prop
  | .d (.sl ..) => str = false
  | .d (.lit (.string _)) => str = true
  | .d (.lit (.slice ..)) => str = false
  | .own id len => str = false ∧ match hget H id with
    | some (.row _ _ len' _) => len' = len
    | _ => False
  | _ => False
def notOk : AV → Prop
  | .d (.lit (.bool _)) => True
  | _ => False

/-- A bound of a slice expression. -/
def bndV (e : T) (dflt : Int) : Option Opd → Int
  | none => dflt
  | some x => match (x.av e).strip with
    | .d (.lit (.int .i64 n)) => n
    | _ => 0
def bndOk (e : T) : Option Opd → Prop
  | none => True
  | some x => (x.av e).live ∧ match (x.av e).strip with
    | .d (.lit (.int .i64 _)) => True
    | _ => False
def slLen : AV → Nat
  | .d (.sl _ len _) => len
  | _ => 0

def partsV (e : T) (ps : List (Nat × Nat × Opd)) : List (Nat × Nat × AV) := ps.map fun p => (p.1, p.2.1, (p.2.2.av e).strip)

/-- A row of the call's own, as it reads now. -/
def rowOf (H : Heap) : AV → AV
  | .own id len => match hget H id with
    | some (.row _ n len' row) => if len' = len then .d (.sl n len row) else .d .top
    | _ => .d .top
  | a => a
def idxH (H : Heap) (a i : AV) : AV := idxV (rowOf H a) i
def idxHOk (H : Heap) (n : Nat) (a i : AV) : Prop := idxOk n (rowOf H a) i

/-- The objects, or none of them (for what is known to stay). -/
def hc (c : Bool) (H : Heap) : Heap := bif c then hnil else H
/-- Some of the objects. -/
def Sub (H1 H : Heap) : Prop := ∀ k o, hget H1 k = some o → hget H k = some o
theorem Sub.refl (H : Heap) : Sub H H := fun _ _ h => h
theorem Sub.nil (H : Heap) : Sub hnil H := fun _ _ h => by cases h
theorem Sub.hc {H1 H : Heap} (h : Sub H1 H) (c : Bool) : Sub (hc c H1) (hc c H) := by
  cases c with
  | false => exact h
  | true => exact Sub.refl _
theorem ld_sub {H1 H : Heap} (hs : Sub H1 H) {k : Option Nat} {a : AV} (h : ldOk H1 k a) : ldOk H k a ∧ ldV H1 k a = ldV H k a := by
  unfold ldOk at h
  split at h
  · exact ⟨by simpa only [ldOk] using h, by simp only [ldV]⟩
  · split at h
    · rename_i cs ho
      exact ⟨by simpa only [ldOk, hs _ _ ho] using h, by simp only [ldV, ho, hs _ _ ho]⟩
    · exact h.elim
  · exact h.elim
theorem hc_sub (c : Bool) (H : Heap) : Sub (hc c H) H := by
  cases c with
  | false => exact Sub.refl _
  | true => exact Sub.nil _
theorem ld_hc {c : Bool} {H : Heap} {k : Option Nat} {a : AV} (h : ldOk (hc c H) k a) : ldOk H k a ∧ ldV (hc c H) k a = ldV H k a := ld_sub (hc_sub c H) h
theorem there_sub {H1 H : Heap} (hs : Sub H1 H) {a : AV} (h : a.there H1 = true) : a.there H = true := by
  cases a with
  | own id len =>
    simp only [AV.there, Option.isSome_iff_exists] at h ⊢
    obtain ⟨o, ho⟩ := h
    exact ⟨o, hs _ _ ho⟩
  | _ => rfl
theorem there_subs {H1 H : Heap} (hs : Sub H1 H) {l : List AV} (h : l.all (·.there H1) = true) : l.all (·.there H) = true :=
  List.all_eq_true.2 fun a ha => there_sub hs (List.all_eq_true.1 h a ha)
theorem there_nils {H : Heap} {l : List AV} (h : l.all (·.there hnil) = true) : l.all (·.there H) = true := there_subs (Sub.nil H) h
theorem fillOk_sub {H1 H : Heap} (hs : Sub H1 H) {n : Nat} : ∀ {l : List (Nat × Nat × AV)}, fillOk H1 n l → fillOk H n l
  | [], _ => trivial
  | (_, _, _) :: _, ⟨h1, h2, h3, h4⟩ => ⟨h1, there_subs hs h2, h3, fillOk_sub hs h4⟩
theorem fillOk_nil {H : Heap} {n : Nat} {l : List (Nat × Nat × AV)} (h : fillOk hnil n l) : fillOk H n l := fillOk_sub (Sub.nil H) h

/-- What is at a key of a map. -/
def mgetV (H : Heap) (ok : Bool) (z : Value) (x k : AV) : AV :=
  match x, k with
  | .mp id, .d (.lit kv) => match hget H id with
    | some (.map _ _ f) => bif ok then .d (.tup [.lit ((f kv).getD z), .lit (.bool (f kv).isSome)]) else .d (.lit ((f kv).getD z))
    | _ => .d .top
  | _, _ => .d .top
def mgetOk (H : Heap) (kd : TypeDesc) (x k : AV) : Prop :=
  match x, k with
  | .mp id, .d (.lit kv) => (match hget H id with
    | some (.map kd' _ _) => kd' = kd
    | _ => False) ∧ kdOk kd kv = true
  | _, _ => False
def mlenV (H : Heap) (x : AV) : AV :=
  match x with
  | .mp id => match hget H id with
    | some (.map _ n _) => .int n
    | _ => .d .top
  | _ => .d .top
def mlenOk (H : Heap) (x : AV) : Prop :=
  match x with
  | .mp id => match hget H id with
    | some (.map _ _ _) => True
    | _ => False
  | _ => False

/-- Is a slice nil? -/
def isnilV (neg : Bool) (x : AV) : AV :=
  match x with
  | .d (.sn _ _ _) => .d (.lit (.bool neg))
  | .d (.sl _ (_ + 1) _) => .d (.lit (.bool neg))
  | .d (.lit (.slice none 0 0)) => .d (.lit (.bool (!neg)))
  | _ => .d .top
def isnilOk (x : AV) : Prop :=
  match x with
  | .d (.sn _ _ _) => True
  | .d (.sl _ (_ + 1) _) => True
  | .d (.lit (.slice none 0 0)) => True
  | _ => False
/-- Are two structs of plain fields the same? -/
def fldEq : TypeDesc → DV → DV → Option Bool
  | .int _, .lit (.int k a), .lit (.int k' b) => if k = k' then some (decide (a = b)) else none
  | .bool, .lit (.bool a), .lit (.bool b) => some (a == b)
  | .string, .lit (.string a), .lit (.string b) => some (decide (a = b))
  | _, _, _ => none
def fldsEq : List TypeDesc → List DV → List DV → Option Bool
  | [], [], [] => some true
  | k :: ks, a :: as, b :: bs => match fldEq k a b, fldsEq ks as bs with
    | some p, some q => some (p && q)
    | _, _ => none
  | _, _, _ => none
def eqsV (neg : Bool) (ks : List TypeDesc) (x y : AV) : AV :=
  match x, y with
  | .d (.agg cs), .d (.agg ds) => match fldsEq ks cs ds with
    | some r => .d (.lit (.bool (r != neg)))
    | none => .d .top
  | _, _ => .d .top
def eqsOk (ks : List TypeDesc) (x y : AV) : Prop :=
  match x, y with
  | .d (.agg cs), .d (.agg ds) => (fldsEq ks cs ds).isSome = true
  | _, _ => False
/-- A struct's fields, of plain kinds, one cell each. -/
def FieldsOk (P : Program) : Nat → List Field → List TypeDesc → Prop
  | _, [], [] => True
  | i, f :: fs, k :: ks => f.name ≠ "_" ∧ f.offset = i ∧ P.underlying f.type = some k ∧ (match k with | .int _ | .bool | .string => True | _ => False) ∧ FieldsOk P (i + 1) fs ks
  | _, _, _ => False

theorem run_eqFields {P : Program} {X : Nat → Nat → Prop} {w : World} {d : Nat} {xs ys : Array Value} : ∀ {fs : List Field} {ks : List TypeDesc} {i : Nat} {cs ds : List DV} {r : Bool}, FieldsOk P i fs ks → DReps X w (xs.toList.drop i) cs → DReps X w (ys.toList.drop i) ds → fldsEq ks cs ds = some r →
    (Op.eqFields (d + 1) xs ys fs).run P w = .ok r w
  | [], [], i, cs, ds, r, _, _, _, h => by
    cases cs <;> cases ds <;> simp [fldsEq] at h
    subst h
    simp [Op.eqFields]
  | [], k :: ks, i, cs, ds, r, hf, _, _, h => hf.elim
  | f :: fs, [], i, cs, ds, r, hf, _, _, h => hf.elim
  | f :: fs, k :: ks, i, [], ds, r, _, _, _, h => by simp [fldsEq] at h
  | f :: fs, k :: ks, i, c :: cs, [], r, _, _, _, h => by simp [fldsEq] at h
  | f :: fs, k :: ks, i, c :: cs, e :: ds, r, hf, hx, hy, h => by
    obtain ⟨h1, h2, h3, h4, h5⟩ := hf
    obtain ⟨v, vs, e1, hv, hvs⟩ := hx.uncons
    obtain ⟨u, us, e2, hu, hus⟩ := hy.uncons
    have x1 : xs[i]? = some v := by
      have := congrArg (·[0]?) e1
      simpa using this
    have x2 : ys[i]? = some u := by
      have := congrArg (·[0]?) e2
      simpa using this
    have d1 : xs.toList.drop (i + 1) = vs := by
      have := congrArg (List.drop 1) e1
      simpa [List.drop_drop] using this
    have d2 : ys.toList.drop (i + 1) = us := by
      have := congrArg (List.drop 1) e2
      simpa [List.drop_drop] using this
    simp only [fldsEq] at h
    cases hp : fldEq k c e with
    | none => rw [hp] at h; simp at h
    | some p =>
    cases hq : fldsEq ks cs ds with
    | none => rw [hp, hq] at h; simp at h
    | some q =>
    rw [hp, hq] at h
    simp at h
    have ih := run_eqFields (d := d) h5 (by rw [d1]; exact hvs) (by rw [d2]; exact hus) hq
    have part1 : (part f.type xs f.offset).run P w = .ok v w := by
      unfold part
      cases k <;> simp at h4 <;> simp [isAgg, run_underlying h3, h2, x1]
    have part2 : (part f.type ys f.offset).run P w = .ok u w := by
      unfold part
      cases k <;> simp at h4 <;> simp [isAgg, run_underlying h3, h2, x2]
    have heq : (Op.equalIn (d + 1) f.type v u).run P w = .ok p w := by
      unfold fldEq at hp
      split at hp
      · rename_i k' ka a kb b
        cases hv; cases hu
        split at hp
        · rename_i hk
          subst hk
          injection hp with hp
          rw [run_equalIn_int w d f.type _ k' a b h3, ← hp]
          congr 1
        · cases hp
      · cases hv; cases hu
        injection hp with hp
        rw [run_equalIn_bool' w d f.type _ _ h3, hp]
      · cases hv; cases hu
        injection hp with hp
        rw [run_equalIn_string w d f.type _ _ h3, str_eq, hp]
      · cases hp
    subst h
    simp only [Op.eqFields, if_pos h1, Sem.run_bind, part1, part2, heq, Result.andThen_ok]
    cases p with
    | true => simpa using ih
    | false => simp

def AOp.val (e : T) (H : Heap) : AOp → AV
  | .mv x => (x.av e).strip
  | .pick c a b => pickV (c.av e).strip (a.av e).strip (b.av e).strip
  | .fld x off => fldV off (x.av e).strip
  | .ld c x k => ldV (hc c H) k (x.av e).strip
  | .idx c x i _ => idxH (hc c H) (x.av e).strip (i.av e).strip
  | .bin o x y => binA o (x.av e).strip (y.av e).strip
  | .binb o x y => binA o (x.av e).strip (y.av e).strip
  | .not x => notV (x.av e).strip
  | .len _ x => lenV (x.av e).strip
  | .mkfn F caps => mkFn F (caps.map fun x => (x.av e).strip)
  | .mksl n m zs ps => match allD (fillV (zs.map fun z => .d (.lit z)) ((partsV e ps).map fun x => (x.1, x.2.2))) with
    | some ds => .d (.sl n m fun i => (ds.drop (i * n)).take n)
    | none => .d .top
  | .bld zs ps => mkAgg (fillV (zs.map fun z => .d (.lit z)) ((partsV e ps).map fun x => (x.1, x.2.2)))
  | .ext x i => extV i (x.av e).strip
  | .slc x lo hi _ => slcV (x.av e).strip (bndV e 0 lo) (bndV e (slLen (x.av e).strip) hi)
  | .mget x k ok _ z => mgetV H ok z (x.av e).strip (k.av e).strip
  | .mlen x => mlenV H (x.av e).strip
  | .isnil neg x => isnilV neg (x.av e).strip
  | .eqs neg x y ks => eqsV neg ks (x.av e).strip (y.av e).strip
  | _ => .d .top

def liveAll (e : T) (xs : List Opd) : Prop := ∀ x ∈ xs, (x.av e).live

def AOp.ok (e : T) (H : Heap) : AOp → Prop
  | .mv x => (x.av e).live
  | .pick c a b => pickOk (c.av e) (a.av e) (b.av e)
  | .fld x _ => (x.av e).live ∧ isPtr (x.av e).strip = true
  | .ld c x k => (x.av e).live ∧ ldOk (hc c H) k (x.av e).strip
  | .idx c x i n => (x.av e).live ∧ (i.av e).live ∧ idxHOk (hc c H) n (x.av e).strip (i.av e).strip
  | .bin o x y => (x.av e).live ∧ (y.av e).live ∧ binOk false o (x.av e).strip (y.av e).strip
  | .binb o x y => (x.av e).live ∧ (y.av e).live ∧ binOk true o (x.av e).strip (y.av e).strip
  | .not x => (x.av e).live ∧ notOk (x.av e).strip
  | .len str x => (x.av e).live ∧ lenOk H str (x.av e).strip
  | .mkfn _ caps => liveAll e caps
  | .mksl n m zs ps => liveAll e (ps.map fun p => p.2.2) ∧ fillOk hnil zs.length (partsV e ps) ∧ zs.length = m * n ∧ m ≤ 1000 ∧ (allD (fillV (zs.map fun z => .d (.lit z)) ((partsV e ps).map fun x => (x.1, x.2.2)))).isSome = true
  | .bld zs ps => liveAll e (ps.map fun p => p.2.2) ∧ fillOk H zs.length (partsV e ps)
  | .ext x i => (x.av e).live ∧ extOk i (x.av e).strip
  | .slc x lo hi n => (x.av e).live ∧ bndOk e lo ∧ bndOk e hi ∧ slcOk n (x.av e).strip (bndV e 0 lo) (bndV e (slLen (x.av e).strip) hi)
  | .mget x k _ kd _ => (x.av e).live ∧ (k.av e).live ∧ mgetOk H kd (x.av e).strip (k.av e).strip
  | .mlen x => (x.av e).live ∧ mlenOk H (x.av e).strip
  | .isnil _ x => (x.av e).live ∧ isnilOk (x.av e).strip
  | .eqs _ x y ks => (x.av e).live ∧ (y.av e).live ∧ eqsOk ks (x.av e).strip (y.av e).strip
  | _ => False

theorem AOp.sub {e : T} {H1 H : Heap} (hs : Sub H1 H) : ∀ {op : AOp}, op.ok e H1 → op.ok e H ∧ op.val e H1 = op.val e H := by
  intro op h
  cases op with
  | ld c x k =>
    obtain ⟨h1, h2⟩ := h
    obtain ⟨h3, h4⟩ := ld_sub (hs.hc c) h2
    exact ⟨⟨h1, h3⟩, h4⟩
  | idx c x i n =>
    obtain ⟨h1, h2, h3⟩ := h
    have : rowOf (hc c H1) (x.av e).strip = rowOf (hc c H) (x.av e).strip := by
      unfold idxHOk at h3
      generalize (x.av e).strip = a at h3
      unfold rowOf at h3 ⊢
      split at h3
      · split at h3
        · rename_i ho
          rw [hs.hc c _ _ ho]
        · simp [idxOk] at h3
      · rfl
    refine ⟨⟨h1, h2, ?_⟩, ?_⟩
    · unfold idxHOk at h3 ⊢
      rw [← this]; exact h3
    · simp only [AOp.val, idxH, this]
  | len str x =>
    obtain ⟨h1, h2⟩ := h
    refine ⟨⟨h1, ?_⟩, rfl⟩
    unfold lenOk at h2
    split at h2
    · rename_i heq; rw [heq]; exact h2
    · rename_i heq; rw [heq]; exact h2
    · rename_i heq; rw [heq]; exact h2
    · rename_i heq
      rw [heq]
      obtain ⟨h3, h4⟩ := h2
      split at h4
      · rename_i ho
        exact ⟨h3, by rw [hs _ _ ho]; exact h4⟩
      · exact h4.elim
    · exact h2.elim
  | bld zs ps => exact ⟨⟨h.1, fillOk_sub hs h.2⟩, rfl⟩
  | mget x k ok kd z =>
    obtain ⟨h1, h2, h3⟩ := h
    unfold mgetOk at h3
    split at h3
    · rename_i id kv e1 e2
      obtain ⟨h4, h5⟩ := h3
      split at h4
      · rename_i ho
        refine ⟨⟨h1, h2, ?_⟩, ?_⟩
        · unfold mgetOk
          rw [e1, e2]
          simp only [hs _ _ ho]
          exact ⟨h4, h5⟩
        · simp only [AOp.val, mgetV, e1, e2, ho, hs _ _ ho]
      · exact h4.elim
    · exact h3.elim
  | mlen x =>
    obtain ⟨h1, h3⟩ := h
    unfold mlenOk at h3
    split at h3
    · rename_i id e1
      split at h3
      · rename_i ho
        refine ⟨⟨h1, ?_⟩, ?_⟩
        · unfold mlenOk
          rw [e1]
          simp only [hs _ _ ho]
        · simp only [AOp.val, mlenV, e1, ho, hs _ _ ho]
      · exact h3.elim
    · exact h3.elim
  | _ => exact ⟨h, rfl⟩

/-- An operand, as the evaluator's own. -/
inductive TrOpd (D : Nat) : Operand → Opd → Prop
  | s (p : Slot) (hp : p.length = D) : TrOpd D (.tmp p.idx) (.s p)
  | c (v : Value) : TrOpd D (.const v) (.c v)
  | f (F : FuncId) : TrOpd D (.func F) (.f F)

def TrOpds (D : Nat) (os : List Operand) (xs : List Opd) : Prop := os.length = xs.length ∧ ∀ i (h : i < os.length) (h' : i < xs.length), TrOpd D os[i] xs[i]

theorem TrOpd.rep {D : Nat} {γ : Nat → Option Value} {X : Nat → Nat → Prop} {w : World} {a : Act} {e : T} (hE : EnvRep D γ X w a e) {o : Operand} {x : Opd} (h : TrOpd D o x) : Rep γ X w (a.eval o) (x.av e) := by
  cases h with
  | s p hp => exact hE p hp
  | c v => exact .ofLit v
  | f F => exact .d _ _ (.fn F [] [] rfl (fun i h => by simp at h))

theorem TrOpds.reps {D : Nat} {γ : Nat → Option Value} {X : Nat → Nat → Prop} {w : World} {a : Act} {e : T} (hE : EnvRep D γ X w a e) {os : List Operand} {xs : List Opd} (h : TrOpds D os xs) (hl : liveAll e xs) : Reps γ X w (os.map a.eval) (xs.map fun x => (x.av e).strip) :=
  ⟨by simp [h.1], fun i hi hi' => by
    simp only [List.getElem_map]
    simp only [List.length_map] at hi hi'
    exact (TrOpd.rep hE (h.2 i hi hi')).strip (hl _ (List.getElem_mem hi'))⟩

/-- A value's operation, as the evaluator's own. -/
inductive TrVal (P : Program) (D : Nat) : Op → AOp → Prop
  | mv {o x} (h : TrOpd D o x) : TrVal P D (.move o) (.mv x)
  | asg {o x} (h : TrOpd D o x) : TrVal P D (.assign o) (.mv x)
  | pick {c a b c' a' b'} (hc : TrOpd D c c') (ha : TrOpd D a a') (hb : TrOpd D b b') : TrVal P D (.pick c a b) (.pick c' a' b')
  | fld {t o x i fs f inf} (h : TrOpd D o x) (hu : P.underlying t = some (.struct fs)) (hf : fs[i]? = some f) (hi : P.info? f.type = some inf) (hz : inf.size ≠ 0) : TrVal P D (.fieldAddr t o i) (.fld x f.offset)
  | ld1 {t o x d} (h : TrOpd D o x) (hu : P.underlying t = some d) (hd : (match d with | .struct _ | .array _ _ => true | _ => false) = false) (c : Bool) : TrVal P D (.load t o) (.ld c x none)
  | ldk {t o x d inf} (h : TrOpd D o x) (hu : P.underlying t = some d) (hd : (∃ fs, d = .struct fs) ∨ (∃ n e, d = .array n e)) (hi : P.info? t = some inf) (c : Bool) : TrVal P D (.load t o) (.ld c x (some inf.size))
  | idx {t e o i x y inf} (h : TrOpd D o x) (h' : TrOpd D i y) (hu : P.underlying t = some (.slice e)) (hi : P.info? e = some inf) (c : Bool) : TrVal P D (.indexAddr t o i) (.idx c x y inf.size)
  | bin {b t u o i x y} (h : TrOpd D o x) (h' : TrOpd D i y) : TrVal P D (.binOp b t o i u) (.bin b x y)
  | binb {b t u o i x y} (h : TrOpd D o x) (h' : TrOpd D i y) (hu : P.underlying t = some .bool) : TrVal P D (.binOp b t o i u) (.binb b x y)
  | not {t o x} (h : TrOpd D o x) : TrVal P D (.unOp .not t o) (.not x)
  | isnil {b t u e o x neg} (hb : (b = .eql ∧ neg = false) ∨ (b = .neq ∧ neg = true)) (h : TrOpd D o x) (hu : P.underlying t = some (.slice e)) : TrVal P D (.binOp b t o (.const (.slice none 0 0)) u) (.isnil neg x)
  | eqs {b t u o i x y neg fs ks} (hb : (b = .eql ∧ neg = false) ∨ (b = .neq ∧ neg = true)) (h : TrOpd D o x) (h' : TrOpd D i y) (hu : P.underlying t = some (.struct fs)) (hst : P.stoodInHeld t = false) (hg : P.eqGuardType P.depth t = false) (hf : FieldsOk P 0 fs.toList ks) : TrVal P D (.binOp b t o i u) (.eqs neg x y ks)
  | lens {t e o x} (h : TrOpd D o x) (hu : P.underlying t = some (.slice e)) : TrVal P D (.call { callee := .builtin .len, args := #[o], argTypes := #[t] }) (.len false x)
  | lenb {t o x} (h : TrOpd D o x) (hu : P.underlying t = some .string) : TrVal P D (.call { callee := .builtin .len, args := #[o], argTypes := #[t] }) (.len true x)
  | mkfn {F cs xs} (h : TrOpds D cs xs) : TrVal P D (.makeFunc (.func F) #[] cs.toArray) (.mkfn F xs)
  | mksl {t e len ie z zs} {ps : List (Nat × Operand)} {qs : List (Nat × Nat × Opd)} (hu : P.underlying t = some (.slice e)) (hie : P.info? e = some ie) (hz : ie.zero = some z) (hpos : ¬ len * ie.size = 0) (hsm : ¬ len * ie.size > 2 ^ 24)
      (hzs : ((Array.range (len * ie.size)).map (z.cells[· % z.cells.size]!)).toList = zs) (hl : ps.length = qs.length) (h : ∀ i (h : i < ps.length) (h' : i < qs.length), ps[i].1 * ie.size = qs[i].1 ∧ qs[i].2.1 = ie.size ∧ TrOpd D ps[i].2 qs[i].2.2) :
      TrVal P D (.buildSlice t len ps.toArray) (.mksl ie.size len zs qs)
  | bld {t fs z it pl} {ps : List (Nat × Operand)} {qs : List (Nat × Nat × Opd)} (hu : P.underlying t = some (.struct fs)) (hi : P.info? t = some it) (hz : it.zero = some z)
      (hpl : ∀ w, ((fs.mapM fun f => do pure (f.offset, ← sizeOf f.type) : Sem (Array (Nat × Nat))).run P w) = .ok pl w) (hl : ps.length = qs.length) (h : ∀ i (h : i < ps.length) (h' : i < qs.length), pl[ps[i].1]? = some (qs[i].1, qs[i].2.1) ∧ TrOpd D ps[i].2 qs[i].2.2) :
      TrVal P D (.build t ps.toArray) (.bld z.cells.toList qs)
  | ext {o x i} (h : TrOpd D o x) : TrVal P D (.extract o i) (.ext x i)
  | slc {t e o x lo hi lo' hi' inf} (h : TrOpd D o x) (hu : P.underlying t = some (.slice e)) (hinf : P.info? e = some inf) (h1 : lo = none ∧ lo' = none ∨ ∃ a b, lo = some a ∧ lo' = some b ∧ TrOpd D a b) (h2 : hi = none ∧ hi' = none ∨ ∃ a b, hi = some a ∧ hi' = some b ∧ TrOpd D a b) :
      TrVal P D (.slice t o lo hi none) (.slc x lo' hi' inf.size)
  | mget {t kt et o x i k kd z} (h : TrOpd D o x) (h' : TrOpd D i k) (hu : P.underlying t = some (.map kt et)) (hk : P.underlying kt = some kd) (hz : ∀ w, (zeroValue et).run P w = .ok z w) (ok : Bool) : TrVal P D (.lookup t o i ok) (.mget x k ok kd z)
  | mlen {t kt et o x} (h : TrOpd D o x) (hu : P.underlying t = some (.map kt et)) : TrVal P D (.call { callee := .builtin .len, args := #[o], argTypes := #[t] }) (.mlen x)

section sound
variable {P : Program} {D : Nat} {X0 : Nat → Nat → Prop} {W0 : World} {γ : Nat → Option Value} {w : World} {H : Heap} {a : Act} {e : T}

/-- A row of the call's own reads as a slice: what lies behind its elements alone may turn. -/
theorem own_rep (hS : St X0 W0 γ w H) {id te n len : Nat} {row : Nat → List DV} {v : Value} (ho : hget H id = some (.row te n len row)) (hv : γ id = some v) : DRep (XOf X0 γ H) w v (.sl n len row) := by
  obtain ⟨u, hu, xs, hown, hr⟩ := hS.obj id _ ho
  rw [hv] at hu
  injection hu with hu
  subst hu
  rcases hown.2 with ⟨rfl, rfl⟩ | ⟨g, cap, cur, rfl, hbg, hg, hnc, hcm, hcs, htake⟩
  · exact .nil _ _
  · refine .sl g 0 cap n len row xs hnc hcm (Array.getElem?_eq_some_iff.1 hg).1 (fun i hi j hj hX => ?_) (fun i hi => ⟨(hr i hi).2.1.symm.trans (hr i hi).1, (hr i hi).1⟩) (fun i hi j v hv => ?_) (fun i hi => (hr i hi).2.2)
    · have hlt : i * n + j < len * n := by
        have : (i + 1) * n ≤ len * n := Nat.mul_le_mul_right _ (by omega)
        rw [Nat.add_mul, Nat.one_mul] at this
        omega
      rcases hX with hX | ⟨k, ob, u, h1, h2, h3, h4⟩
      · have := hS.hx g _ hX; omega
      · have hk := hS.dis k id ob _ u _ g h1 ho h2 hv h3 rfl
        subst hk
        rw [ho] at h1
        injection h1 with h1
        subst h1
        have h4' : len * n ≤ 0 + i * n + j := h4
        omega
    · have hfl : ((List.range len).flatMap xs)[i * n + j]? = some v := by
        have e1 : List.range len = List.range i ++ (List.range (len - i)).map (i + ·) := by rw [← List.range_add]; congr 1; omega
        have hli := flat_length i (fun k hk => (hr k (by omega)).1)
        rw [e1, List.flatMap_append, List.getElem?_append_right (by rw [hli]; omega), hli, show i * n + j - i * n = j by omega, List.flatMap_map]
        have e2 : List.range (len - i) = 0 :: (List.range (len - i - 1)).map (· + 1) := by
          rw [show len - i = (len - i - 1) + 1 by omega, List.range_succ_eq_map]; simp
        rw [e2, List.flatMap_cons, List.getElem?_append_left (by
          have := (List.getElem?_eq_some_iff.1 hv).1
          simpa using this)]
        simpa using hv
      have := hown.cells (g := g) rfl _ _ hfl
      rw [addr_add] at this
      simpa [Nat.zero_add] using this
theorem rowOf_rep {H1 : Heap} (hS : St X0 W0 γ w H) (hs : Sub H1 H) {v : Value} {a : AV} (hv : Rep γ (XOf X0 γ H) w v a) : Rep γ (XOf X0 γ H) w v (rowOf H1 a) := by
  unfold rowOf
  split
  · split
    · rename_i ho
      split
      · rename_i hl
        subst hl
        cases hv with | own _ _ _ hk => exact .d _ _ (own_rep hS (hs _ _ ho) hk)
      · exact .top _
    · exact .top _
  · exact hv

theorem own_slice (hS : St X0 W0 γ w H) {id te n len : Nat} {row : Nat → List DV} {v : Value} (ho : hget H id = some (.row te n len row)) (hv : γ id = some v) : ∃ p c, v = .slice p len c := by
  obtain ⟨u, hu, xs, hown, _⟩ := hS.obj id _ ho
  rw [hv] at hu
  injection hu with hu
  subst hu
  rcases hown.2 with ⟨rfl, rfl⟩ | ⟨g, cap, cur, rfl, _⟩
  · exact ⟨_, _, rfl⟩
  · exact ⟨_, _, rfl⟩

theorem eqGuard_ok (b : BinOp) (t : TypeId) (x y : Operand) (u v : Value) (w : World) {r : Value} (h : binV b u v = some r) : (eqGuard b t x y u v).run P w = .ok () w := by
  unfold eqGuard
  unfold binV at h
  split at h
  · cases b <;> simp
  · cases b <;> simp
  · cases b <;> simp
  · cases h

theorem bnd_rep (hE : EnvRep D γ (XOf X0 γ H) w a e) {lo : Option Operand} {lo' : Option Opd} (dflt : Int) (h1 : lo = none ∧ lo' = none ∨ ∃ a b, lo = some a ∧ lo' = some b ∧ TrOpd D a b) (hok : bndOk e lo') :
    lo.map a.eval = some (.int .i64 (bndV e dflt lo')) ∨ (lo.map a.eval = none ∧ lo' = none ∧ bndV e dflt lo' = dflt) := by
  rcases h1 with ⟨rfl, rfl⟩ | ⟨o, x, rfl, rfl, htr⟩
  · exact .inr ⟨rfl, rfl, rfl⟩
  · obtain ⟨h1, h2⟩ := hok
    have hr := (htr.rep hE).strip h1
    left
    simp only [Option.map_some, bndV]
    split at h2
    · rename_i n heq
      rw [heq] at hr
      rw [hr.lit]
    · exact h2.elim

theorem TrVal.sound {o : Oper} {ao : AOp} (tr : TrVal P D o.op ao) (hS : St X0 W0 γ w H) (hE : EnvRep D γ (XOf X0 γ H) w a e) (hok : ao.ok e H) :
    ∃ v w', (execOp a.eval o).run P w = .ok (.value v) w' ∧ Ext w w' ∧ Rep γ (XOf X0 γ H) w' v (ao.val e H) := by
  unfold execOp
  generalize o.op = op at tr ⊢
  cases tr with
  | mv h => exact ⟨_, w, rfl, Ext.refl w, (h.rep hE).strip hok⟩
  | asg h => exact ⟨_, w, rfl, Ext.refl w, (h.rep hE).strip hok⟩
  | @pick c x y c' x' y' hc ha hb =>
    obtain ⟨h1, h2⟩ := hok
    have hr := (hc.rep hE).strip h1
    split at h2
    · rename_i cb heq
      rw [heq] at hr
      have hcv := hr.lit
      refine ⟨if cb = true then a.eval x else a.eval y, w, ?_, Ext.refl w, ?_⟩
      · simp [asBool, hcv]
      · simp only [AOp.val, pickV, heq]
        cases cb with
        | true => exact pickB_true _ _ _ _ _ _ ((ha.rep hE).strip (h2.1 rfl))
        | false => exact pickB_false _ _ _ _ _ _ ((hb.rep hE).strip (h2.2 rfl))
    · exact h2.elim
  | fld h hu hf hi hz =>
    obtain ⟨v', hr, hv⟩ := run_field (w := w) hu hf hi hz ((h.rep hE).strip hok.1) hok.2
    exact ⟨v', w, by simp [hr], Ext.refl w, hv⟩
  | ld1 h hu hd c =>
    obtain ⟨h1, h2⟩ := ld_hc hok.2
    obtain ⟨v', hr, hv⟩ := run_ld1 hu hd hS ((h.rep hE).strip hok.1) h1
    exact ⟨v', w, by simp [hr], Ext.refl w, by simp only [AOp.val, h2]; exact hv⟩
  | ldk h hu hd hi c =>
    obtain ⟨h1, h2⟩ := ld_hc hok.2
    obtain ⟨v', hr, hv⟩ := run_ldk hu hd hi rfl hS ((h.rep hE).strip hok.1) h1
    exact ⟨v', w, by simp [hr], Ext.refl w, by simp only [AOp.val, h2]; exact hv⟩
  | @idx t1 e1 o1 i1 x1 y1 inf h h' hu hi c =>
    obtain ⟨k1, k2, k3⟩ := hok
    obtain ⟨v', hr, hv⟩ := run_index (w := w) hu hi (rowOf_rep hS (hc_sub c H) ((h.rep hE).strip k1)) ((h'.rep hE).strip k2) k3
    exact ⟨v', w, by simp [hr], Ext.refl w, hv⟩
  | @bin bo t0 u0 o1 o2 x1 y1 h h' =>
    obtain ⟨k1, k2, k3⟩ := hok
    have r1 := (h.rep hE).strip k1
    have r2 := (h'.rep hE).strip k2
    unfold binOk at k3
    split at k3
    · rename_i u v e1 e2
      rw [e1] at r1
      rw [e2] at r2
      obtain ⟨b1, b2, b3⟩ := k3
      obtain ⟨r, hr⟩ := Option.isSome_iff_exists.1 b3
      refine ⟨r, w, ?_, Ext.refl w, ?_⟩
      · have v1 := r1.lit
        have v2 := r2.lit
        have hb : (binOp bo t0 u v).run P w = .ok r w := run_bin (fun p q _ => .inr fun x y => .inl (fun e3 => by subst e3; simp [isBoolV] at b1)) hr
        simp only [v1, v2, Sem.run_bind, eqGuard_ok _ _ _ _ _ _ w hr, Result.andThen_ok, hb, Sem.run_pure]
      · simp only [AOp.val, binA, e1, e2, hr]
        exact .ofLit r
    · exact k3.elim
  | @binb bo t0 u0 o1 o2 x1 y1 h h' hu =>
    obtain ⟨k1, k2, k3⟩ := hok
    have r1 := (h.rep hE).strip k1
    have r2 := (h'.rep hE).strip k2
    unfold binOk at k3
    split at k3
    · rename_i u v e1 e2
      rw [e1] at r1
      rw [e2] at r2
      obtain ⟨b1, b2, b3⟩ := k3
      obtain ⟨r, hr⟩ := Option.isSome_iff_exists.1 b3
      refine ⟨r, w, ?_, Ext.refl w, ?_⟩
      · have v1 := r1.lit
        have v2 := r2.lit
        have hb : (binOp bo t0 u v).run P w = .ok r w := run_bin (fun p q _ => .inl hu) hr
        simp only [v1, v2, Sem.run_bind, eqGuard_ok _ _ _ _ _ _ w hr, Result.andThen_ok, hb, Sem.run_pure]
      · simp only [AOp.val, binA, e1, e2, hr]
        exact .ofLit r
    · exact k3.elim
  | @isnil bo t1 u1 el o1 x1 neg hb h hu =>
    obtain ⟨k1, k2⟩ := hok
    have r1 := (h.rep hE).strip k1
    have run : ∀ ad n c, a.eval o1 = .slice ad n c → (do eqGuard bo t1 o1 (.const (.slice none 0 0)) (a.eval o1) (.slice none 0 0); binOp bo t1 (a.eval o1) (.slice none 0 0) : Sem Value).run P w = .ok (.bool (ad.isNone != neg)) w := by
      intro ad n c hv
      have hq := run_equal_slice_nil (P := P) w t1 el ad n c hu
      rcases hb with ⟨rfl, rfl⟩ | ⟨rfl, rfl⟩ <;> simp [hv, eqGuard, binOp, hq]
    have fin : ∀ ad n c, a.eval o1 = .slice ad n c → (AOp.isnil neg x1).val e H = .d (.lit (.bool (ad.isNone != neg))) → ∃ v w', (do
        let v ← (do eqGuard bo t1 o1 (.const (.slice none 0 0)) (a.eval o1) (.slice none 0 0); binOp bo t1 (a.eval o1) (.slice none 0 0) : Sem Value)
        pure (.value v) : Sem Next).run P w = .ok (.value v) w' ∧ Ext w w' ∧ Rep γ (XOf X0 γ H) w' v ((AOp.isnil neg x1).val e H) := by
      intro ad n c hv hval
      refine ⟨_, w, by rw [Sem.run_bind, run ad n c hv]; rfl, Ext.refl w, ?_⟩
      rw [hval]
      exact .ofLit _
    unfold isnilOk at k2
    split at k2
    · rename_i n len row e1
      rw [e1] at r1
      generalize hv1 : a.eval o1 = v1 at r1
      cases r1 with | d _ _ hd =>
      cases hd with | sn _ _ _ _ hd hn =>
      cases hd with
      | nil => exact absurd rfl hn
      | emp ad => simpa [hv1, Act.eval] using fin (some ad) 0 0 hv1 (by cases neg <;> simp [AOp.val, isnilV, e1])
      | sl b off cap => simpa [hv1, Act.eval] using fin _ _ _ hv1 (by cases neg <;> simp [AOp.val, isnilV, e1])
    · rename_i n len row e1
      rw [e1] at r1
      generalize hv1 : a.eval o1 = v1 at r1
      cases r1 with | d _ _ hd =>
      cases hd with
      | sl b off cap => simpa [hv1, Act.eval] using fin _ _ _ hv1 (by cases neg <;> simp [AOp.val, isnilV, e1])
    · rename_i e1
      rw [e1] at r1
      have hv1 := r1.lit
      simpa [hv1, Act.eval] using fin _ _ _ hv1 (by cases neg <;> simp [AOp.val, isnilV, e1])
    · exact k2.elim
  | @eqs bo t1 u1 o1 i1 x1 y1 neg fs ks hb h h' hu hst hg hf =>
    obtain ⟨k1, k2, k3⟩ := hok
    have r1 := (h.rep hE).strip k1
    have r2 := (h'.rep hE).strip k2
    unfold eqsOk at k3
    split at k3
    · rename_i cs ds e1 e2
      rw [e1] at r1
      rw [e2] at r2
      obtain ⟨r, hr⟩ := Option.isSome_iff_exists.1 k3
      generalize hv1 : a.eval o1 = v1 at r1
      generalize hv2 : a.eval i1 = v2 at r2
      cases r1 with | d _ _ d1 =>
      cases r2 with | d _ _ d2 =>
      cases d1 with | agg vs _ hl1 hr1 =>
      cases d2 with | agg us _ hl2 hr2 =>
      have hfs : P.fieldsOf t1 = fs := by simp [Program.fieldsOf, hu]
      have heq : (Op.equalIn 10000 t1 (.agg vs.toArray) (.agg us.toArray)).run P w = .ok r w := by
        rw [show (10000 : Nat) = 9998 + 1 + 1 from rfl, run_equalIn_struct w _ t1 _ _ (by rw [hfs]; exact hu) hst, hfs]
        exact run_eqFields hf (by simpa using ⟨hl1, hr1⟩) (by simpa using ⟨hl2, hr2⟩) hr
      have hgd : (eqGuard bo t1 o1 i1 (.agg vs.toArray) (.agg us.toArray)).run P w = .ok () w := run_eqGuard_agg w bo t1 o1 i1 _ _ hg
      refine ⟨.bool (r != neg), w, ?_, Ext.refl w, ?_⟩
      · rcases hb with ⟨rfl, rfl⟩ | ⟨rfl, rfl⟩
        · simp only [hv1, hv2, Sem.run_bind, hgd, Result.andThen_ok, run_eql_struct, heq, Sem.run_pure]
          simp
        · simp only [hv1, hv2, Sem.run_bind, hgd, Result.andThen_ok, run_neq_struct, heq, Sem.run_pure]
          simp
      · simp only [AOp.val, eqsV, e1, e2, hr]
        exact .ofLit _
    · exact k3.elim
  | not h =>
    obtain ⟨k1, k2⟩ := hok
    have r1 := (h.rep hE).strip k1
    unfold notOk at k2
    split at k2
    · rename_i b e1
      rw [e1] at r1
      refine ⟨.bool (!b), w, ?_, Ext.refl w, ?_⟩
      · have v1 := r1.lit
        simp [Op.unary, v1]
      · simp only [AOp.val, notV, e1]
        exact .ofLit _
    · exact k2.elim
  | @mget t kt et o' x i k kd z h h' hu hk hz ok =>
    obtain ⟨k1, k2, k3⟩ := hok
    have r1 := (h.rep hE).strip k1
    have r2 := (h'.rep hE).strip k2
    unfold mgetOk at k3
    split at k3
    · rename_i id kv e1 e2
      obtain ⟨k4, k5⟩ := k3
      split at k4
      · rename_i kd' n f ho
        subst k4
        rw [e1] at r1
        rw [e2] at r2
        have v2 := r2.lit
        generalize hv1 : a.eval o' = v1 at r1
        cases r1 with | mp b _ hγ =>
        have hr := run_mget (P := P) (t := t) (z := z) (ok := ok) hu hk (hz w) hS ho hγ k5
        refine ⟨_, w, by simp only [hv1, v2, Sem.run_bind, hr, Result.andThen_ok, Sem.run_pure]; rfl, Ext.refl w, ?_⟩
        simp only [AOp.val, mgetV, e1, e2, ho]
        cases ok with
        | false => exact .ofLit _
        | true =>
          have hd : DReps (XOf X0 γ H) w [(f kv).getD z, .bool (f kv).isSome] [.lit ((f kv).getD z), .lit (.bool (f kv).isSome)] := DReps.cons (.lit _) (DReps.cons (.lit _) (DReps.nil _ _))
          exact .d _ _ (.tup _ _ hd.1 hd.2)
      · exact k4.elim
    · exact k3.elim
  | @mlen t kt et o' x h hu =>
    obtain ⟨k1, k3⟩ := hok
    have r1 := (h.rep hE).strip k1
    unfold mlenOk at k3
    split at k3
    · rename_i id e1
      split at k3
      · rename_i kd n f ho
        rw [e1] at r1
        generalize hv1 : a.eval o' = v1 at r1
        cases r1 with | mp b _ hγ =>
        obtain ⟨b', ent, clock, hb', _, hh, hn, _⟩ := hS.map_at ho hγ
        injection hb' with hb'
        injection hb' with hb'
        subst hb'
        refine ⟨.int .i64 n, w, ?_, Ext.refl w, ?_⟩
        · simp [resolve, invoke, builtin, hv1, Builtin.len_, run_underlying hu, run_getObj hh, goInt, hn]
        · simp only [AOp.val, mlenV, e1, ho]
          exact .ofLit _
      · exact k3.elim
    · exact k3.elim
  | @lens t el o' x h hu =>
    obtain ⟨k1, k2⟩ := hok
    have r1 := (h.rep hE).strip k1
    have run : ∀ p n c, a.eval o' = .slice p n c → (Builtin.len_ #[t] o.type #[a.eval o']).run P w = .ok (.int .i64 (n : Nat)) w := by
      intro p n c hv
      rw [hv]
      simp [Builtin.len_, run_underlying hu, goInt]
    have fin : ∀ p n c, a.eval o' = .slice p n c → lenV (x.av e).strip = .int (n : Nat) → ∃ v w', (do let d ← resolve a.eval { callee := .builtin .len, args := #[o'], argTypes := #[t] } o.type; invoke d.target d.args : Sem Next).run P w = .ok (.value v) w' ∧ Ext w w' ∧ Rep γ (XOf X0 γ H) w' v (lenV (x.av e).strip) := by
      intro p n c hv he
      refine ⟨.int .i64 n, w, ?_, Ext.refl w, ?_⟩
      · simp [resolve, invoke, builtin, run p n c hv]
      · rw [he]; exact .ofLit _
    unfold lenOk at k2
    split at k2
    · rename_i n len row e1
      rw [e1] at r1
      have hd := r1.dv
      generalize hv : a.eval o' = v at hd
      cases hd with
      | nil => exact fin _ _ _ hv (by rw [e1]; rfl)
      | emp => exact fin _ _ _ hv (by rw [e1]; rfl)
      | sl => exact fin _ _ _ hv (by rw [e1]; rfl)
    · cases k2
    · rename_i p n c e1
      rw [e1] at r1
      exact fin _ _ _ r1.lit (by rw [e1]; rfl)
    · rename_i id n e1
      rw [e1] at r1
      obtain ⟨_, k3⟩ := k2
      split at k3
      · rename_i te tn len' row ho
        subst k3
        generalize hv : a.eval o' = v at r1
        cases r1 with | own _ _ _ hγ =>
        obtain ⟨p, c, hsl⟩ := own_slice hS ho hγ
        exact fin _ _ _ (hv.trans hsl) (by rw [e1]; rfl)
      · exact k3.elim
    · exact k2.elim
  | @lenb t o' x h hu =>
    obtain ⟨k1, k2⟩ := hok
    have r1 := (h.rep hE).strip k1
    unfold lenOk at k2
    split at k2
    · cases k2
    · rename_i str e1
      rw [e1] at r1
      refine ⟨.int .i64 str.size, w, ?_, Ext.refl w, ?_⟩
      · simp [resolve, invoke, builtin, Builtin.len_, run_underlying hu, goInt, r1.lit]
      · simp only [AOp.val, lenV, e1]; exact .ofLit _
    · cases k2
    · cases k2.1
    · exact k2.elim
  | @mkfn F cs xs h =>
    refine ⟨.func (.func F) #[] (cs.toArray.map a.eval), w, by simp [Instr.makeFunc], Ext.refl w, ?_⟩
    have := Rep.mkFn (F := F) (h.reps hE hok)
    simpa [AOp.val] using this
  | @mksl t el len ie z zs ps qs hu hie hz hpos hsm hzs hl h =>
    obtain ⟨k1, k2, k3, k4, k5⟩ := hok
    obtain ⟨ds, hds⟩ := Option.isSome_iff_exists.1 k5
    have hlp : (ps.map fun x => (x.1, a.eval x.2)).length = (partsV e qs).length := by simp [partsV, hl]
    have hz0 : ((Array.range (len * ie.size)).map (z.cells[· % z.cells.size]!)).size = zs.length := by rw [← hzs]; simp
    obtain ⟨r, hr, hrs, hrr⟩ := fill_rep hS (fun i => some (i * ie.size, ie.size)) (ps.map fun x => (x.1, a.eval x.2)) (partsV e qs) ((Array.range (len * ie.size)).map (z.cells[· % z.cells.size]!)) (zs.map fun z => .d (.lit z)) hlp
      (fun i hi hi' => by
        simp only [List.length_map, partsV] at hi hi'
        obtain ⟨e1, e2, e3⟩ := h i hi hi'
        simp only [List.getElem_map, partsV, e1, e2]
        exact ⟨trivial, (e3.rep hE).strip (k1 _ (List.mem_map_of_mem (List.getElem_mem hi')))⟩) (by rw [hz0]; exact fillOk_nil k2) (by rw [hzs]; exact Reps.lits zs)
    have hb := run_buildSlice (P := P) w t el len (ps.toArray.map fun x => (x.1, a.eval x.2)) r ie z hu hie hz hsm hpos (by simpa using hr)
    refine ⟨.slice (some ⟨w.heap.size, 0, none⟩) len len, _, ?_, Ext.alloc w (.cells r el), ?_⟩
    · simp only [Sem.run_bind, hb, Result.andThen_ok, Sem.run_pure]
    · have hd := hrr.allD hds
      have : (AOp.mksl ie.size len zs qs).val e H = .d (.sl ie.size len fun i => (ds.drop (i * ie.size)).take ie.size) := by simp only [AOp.val, hds]
      rw [this]
      refine .d _ _ (Rep.newRow (fun b o hb => hb.lt hS) hd ?_ (by unfold maxLen; omega))
      rw [← hd.1, Array.length_toList, hrs, hz0, k3]
  | @bld t fs z it pl ps qs hu hi hz hpl hl h =>
    obtain ⟨k1, k2⟩ := hok
    have hlp : (ps.map fun x => (x.1, a.eval x.2)).length = (partsV e qs).length := by simp [partsV, hl]
    obtain ⟨r, hr, hrs, hrr⟩ := fill_rep hS (pl[·]?) (ps.map fun x => (x.1, a.eval x.2)) (partsV e qs) z.cells (z.cells.toList.map fun z => .d (.lit z)) hlp
      (fun i hi hi' => by
        simp only [List.length_map, partsV] at hi hi'
        obtain ⟨e1, e3⟩ := h i hi hi'
        simp only [List.getElem_map, partsV, e1]
        exact ⟨trivial, (e3.rep hE).strip (k1 _ (List.mem_map_of_mem (List.getElem_mem hi')))⟩) (by simpa using k2) (Reps.lits _)
    refine ⟨.agg r, w, ?_, Ext.refl w, ?_⟩
    · have hpl' := hpl w
      simp only [Sem.run_bind, Instr.build, zeroValue, typeInfo, run_program, hi, hz, Sem.run_pure, Result.andThen_ok, run_underlying hu, hpl']
      simp [hr]
    · exact Rep.mkAgg hrr
  | ext h =>
    obtain ⟨v', hr, hv⟩ := run_ext (P := P) (w := w) ((h.rep hE).strip hok.1) hok.2
    exact ⟨v', w, by simp [hr], Ext.refl w, hv⟩
  | @slc t el o' x lo hi lo' hi' inf h hu hinf h1 h2 =>
    obtain ⟨k1, k2, k3, k4⟩ := hok
    have r1 := (h.rep hE).strip k1
    have b1 := bnd_rep hE 0 h1 k2
    have b2 := bnd_rep hE (slLen (x.av e).strip) h2 k3
    obtain ⟨v', hr, hv⟩ := run_slc (lo := lo.map a.eval) (hi := hi.map a.eval) hu hinf r1 (b1.elim Or.inl fun h => Or.inr ⟨h.1, h.2.2⟩) (b2.elim Or.inl fun h => Or.inr ⟨h.1, by
      unfold slcOk at k4
      split at k4
      · rename_i n' len row e1
        exact ⟨n', len, row, e1, by rw [h.2.2, e1]; rfl⟩
      · exact k4.elim⟩) k4
    exact ⟨v', w, by simp [hr], Ext.refl w, hv⟩

end sound

end Go.Proofs.Ytghlfjpmpalpdaa
