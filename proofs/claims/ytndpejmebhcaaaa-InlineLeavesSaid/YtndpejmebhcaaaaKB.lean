/- Some texts of one kind, one behind the other. -/
import Derived.Laws.StructEq
import Derived.Laws.Cover3
import Derived.Test.YtndpejmebhcaaaaKA
import Derived.OrdersIn
import Derived.TacticsIn
import Derived.RangeFuncNested
/- Operations with their operands; what each yields; that the model does so. -/
namespace Go.Proofs.Ytndpejmebhcaaaa
open Go.RowKit

inductive Opd where
  | s (p : Slot)
  | c (v : Value)
  | f (F : FuncId)
def Opd.av (e : T) : Opd → AV
  | .s p => e.get p
  | .c v => .d (.lit v)
  | .f F => .d (.fn F [])

inductive AOp where
  | mv (x : Opd)
  | pick (c a b : Opd)
  | fld (x : Opd) (off : Nat)
  | ld (c : Bool) (x : Opd) (k : Option Nat)
  | idx (c : Bool) (x i : Opd) (n : Nat)
  | bin (o : BinOp) (x y : Opd)
  | binb (o : BinOp) (x y : Opd)
  | not (x : Opd)
  | len (str : Bool) (x : Opd)
  | mkfn (F : FuncId) (caps : List Opd)
  | mksl (n len : Nat) (zs : List Value) (parts : List (Nat × Nat × Opd))
  | bld (zs : List Value) (parts : List (Nat × Nat × Opd))
  | ext (x : Opd) (i : Nat)
  | slc (x : Opd) (lo hi : Option Opd) (n : Nat)
  | call (c : Bool) (f : Opd) (args : List Opd)
  | callo (e : TypeId) (n : Nat) (f : Opd) (args : List Opd)
  | callv (e : TypeId) (n : Nat) (f : Opd) (args : List Opd)
  | calle (f : Opd) (args : List Opd)
  | box (imm : Bool) (x : Opd)
  | new (zs : List Value)
  | nrow (e : TypeId) (n : Nat)
  | st (a x : Opd) (k : Nat)
  | app (e : TypeId) (n bytes : Nat) (s x : Opd)
  | ini (back : Nat) (a x : Opd) (k : Nat)
  | mget (x k : Opd) (ok : Bool) (kd : TypeDesc) (z : Value)
  | mlen (x : Opd)
  | mmk (kd : TypeDesc)
  | mset (x k v : Opd) (kd : TypeDesc)
  | isnil (neg : Bool) (x : Opd)
  | eqs (neg : Bool) (x y : Opd) (ks : List TypeDesc)
  | cnv (k : IntKind) (x : Opd)
  | cnvs (x : Opd)
  | sidx (x i : Opd)
  | vapp (e : TypeId) (n bytes : Nat) (s x : Opd)
  | bad

/-- low: the operation's place in its region, where it reads only objects that were there whn the region began, and none that some slots point to. -/
structure AOper where
  dst : Option Slot
  guard : Option (Slot × Bool)
  op : AOp
  low : Option (Nat × List Slot)

def AV.strip : AV → AV
  | .whn _ x => x
  | a => a
def AV.live : AV → Prop
  | .whn g _ => g = true
  | _ => True

section strip
variable {γ : Nat → Option Value} {X : Nat → Nat → Prop} {w : World} {v : Value} {a : AV}
theorem Rep.strip (h : Rep γ X w v a) (hl : a.live) : Rep γ X w v a.strip := by
  cases h with
  | whn v g x h h0 => exact h hl
  | d v x h => exact .d v x h
  | ptr b id off h => exact .ptr b id off h
  | own v id len h => exact .own v id len h
  | mp b id h => exact .mp b id h
  | el b len cap id n i off h => exact .el b len cap id n i off h
  | fn f vs caps h1 hr => exact .fn f vs caps h1 hr
  | agg vs cs h1 hr => exact .agg vs cs h1 hr
  | tup vs cs h1 hr => exact .tup vs cs h1 hr
end strip

def pickB (c : Bool) (a b : AV) : AV :=
  match a, b with
  | .d (.lit (.bool x)), .d (.lit (.bool y)) => .bool (bif c then x else y)
  | a, b => bif c then a else b
def pickV (c a b : AV) : AV :=
  match c with
  | .d (.lit (.bool c)) => pickB c a b
  | _ => .d .top
def pickOk (c a b : AV) : Prop :=
  c.live ∧ match c.strip with
  | .d (.lit (.bool c)) => (c = true → a.live) ∧ (c = false → b.live)
  | _ => False

theorem pickB_true (a b : AV) : ∀ γ X w v, Rep γ X w v a → Rep γ X w v (pickB true a b) := by
  intro γ X w v h
  unfold pickB
  split
  · exact h
  · exact h
theorem pickB_false (a b : AV) : ∀ γ X w v, Rep γ X w v b → Rep γ X w v (pickB false a b) := by
  intro γ X w v h
  unfold pickB
  split
  · exact h
  · exact h

def isBoolV : Value → Bool
  | .bool _ => true
  | _ => false
def binA (o : BinOp) (x y : AV) : AV :=
  match x, y with
  | .d (.lit u), .d (.lit v) => match binV o u v with
    | some r => .d (.lit r)
    | none => .d .top
  | _, _ => .d .top
def binOk (b : Bool) (o : BinOp) (x y : AV) : Prop :=
  match x, y with
  | .d (.lit u), .d (.lit v) => isBoolV u = b ∧ isBoolV v = b ∧ (binV o u v).isSome = true ∧ binSide o u v
  | _, _ => False

def lenOk (H : Heap) (str : Bool) : AV → Prop
  | .d (.sl ..) => str = false
  | .d (.lit (.string _)) => str = true
  | .d (.lit (.slice ..)) => str = false
  | .own id len => str = false ∧ match hget H id with
    | some (.row _ _ len' _) => len' = len
    | some (.vec _ _ len' _) => len' = len
    | _ => False
  | _ => False
def notOk : AV → Prop
  | .d (.lit (.bool _)) => True
  | _ => False

/-- A bound of a slice expression. -/
def bndV (e : T) (dflt : Int) : Option Opd → Int
  | none => dflt
  | some x => match (x.av e).strip with
    | .d (.lit (.int .i64 n)) => n
    | _ => 0
def bndOk (e : T) : Option Opd → Prop
  | none => True
  | some x => (x.av e).live ∧ match (x.av e).strip with
    | .d (.lit (.int .i64 _)) => True
    | _ => False
def slLen : AV → Nat
  | .d (.sl _ len _) => len
  | _ => 0

def partsV (e : T) (ps : List (Nat × Nat × Opd)) : List (Nat × Nat × AV) := ps.map fun p => (p.1, p.2.1, (p.2.2.av e).strip)

/-- A row of the call's own, as it reads now. -/
def rowOf (H : Heap) : AV → AV
  | .own id len => match hget H id with
    | some (.row _ n len' row) => if len' = len then .d (.sl n len row) else .d .top
    | _ => .d .top
  | a => a
/-- An element of a row whose elements may turn. -/
def vecAt (H : Heap) (a i : AV) : Option AV :=
  match a, i with
  | .own id _, .d (.lit (.int _ j)) => match hget H id with
    | some (.vec _ n _ _) => some (.el id n j.toNat 0)
    | _ => none
  | _, _ => none
def vecOk (H : Heap) (n : Nat) (a i : AV) : Prop :=
  match a, i with
  | .own id _, .d (.lit (.int _ j)) => match hget H id with
    | some (.vec _ n' len _) => n' = n ∧ 0 ≤ j ∧ j < len
    | _ => False
  | _, _ => False
def idxH (H : Heap) (a i : AV) : AV :=
  match vecAt H a i with
  | some x => x
  | none => idxV (rowOf H a) i
def idxHOk (H : Heap) (n : Nat) (a i : AV) : Prop :=
  match vecAt H a i with
  | some _ => vecOk H n a i
  | none => idxOk n (rowOf H a) i

/-- The objects, or none of them (for what is known to stay). -/
def hc (c : Bool) (H : Heap) : Heap := bif c then hnil else H
/-- Some of the objects. -/
def Sub (H1 H : Heap) : Prop := ∀ k o, hget H1 k = some o → hget H k = some o
theorem Sub.refl (H : Heap) : Sub H H := fun _ _ h => h
theorem Sub.nil (H : Heap) : Sub hnil H := fun _ _ h => by cases h
theorem Sub.hc {H1 H : Heap} (h : Sub H1 H) (c : Bool) : Sub (hc c H1) (hc c H) := by
  cases c with
  | false => exact h
  | true => exact Sub.refl _
theorem idxH_sub {H1 H : Heap} (hs : Sub H1 H) {n : Nat} {a i : AV} (h : idxHOk H1 n a i) : idxHOk H n a i ∧ idxH H1 a i = idxH H a i := by
  unfold idxHOk at h
  split at h
  · rename_i x hx
    unfold vecAt at hx
    split at hx
    · rename_i id l k j
      split at hx
      · rename_i te n' len row ho
        have hv : vecAt H (.own id l) (.d (.lit (.int k j))) = some (.el id n' j.toNat 0) := by simp only [vecAt, hs _ _ ho]
        have hv1 : vecAt H1 (.own id l) (.d (.lit (.int k j))) = some (.el id n' j.toNat 0) := by simp only [vecAt, ho]
        refine ⟨?_, by simp only [idxH, hv, hv1]⟩
        simp only [idxHOk, hv, vecOk, hs _ _ ho]
        simpa only [vecOk, ho] using h
      · cases hx
    · cases hx
  · rename_i hn
    have hr : rowOf H1 a = rowOf H a ∧ vecAt H a i = none := by
      unfold rowOf at h ⊢
      split at h
      · split at h
        · rename_i ho
          rw [hs _ _ ho]
          refine ⟨rfl, ?_⟩
          unfold vecAt
          split
          · rename_i _ _ _ e1 e2
            injection e2 with e2 e3
            subst e2
            rw [hs _ _ ho]
          · rfl
        · simp [idxOk] at h
      · rename_i hne
        refine ⟨?_, ?_⟩
        · rfl
        · unfold vecAt
          split
          · exact absurd rfl (hne _ _)
          · rfl
    exact ⟨by simp only [idxHOk, hr.2, ← hr.1]; exact h, by simp only [idxH, hn, hr.2, hr.1]⟩
theorem ld_sub {H1 H : Heap} (hs : Sub H1 H) {k : Option Nat} {a : AV} (h : ldOk H1 k a) : ldOk H k a ∧ ldV H1 k a = ldV H k a := by
  unfold ldOk at h
  split at h
  · exact ⟨by simpa only [ldOk] using h, by simp only [ldV]⟩
  · split at h
    · rename_i cs ho
      exact ⟨by simpa only [ldOk, hs _ _ ho] using h, by simp only [ldV, ho, hs _ _ ho]⟩
    · exact h.elim
  · split at h
    · rename_i ho
      exact ⟨by simpa only [ldOk, hs _ _ ho] using h, by simp only [ldV, ho, hs _ _ ho]⟩
    · exact h.elim
  · exact h.elim
theorem hc_sub (c : Bool) (H : Heap) : Sub (hc c H) H := by
  cases c with
  | false => exact Sub.refl _
  | true => exact Sub.nil _
theorem ld_hc {c : Bool} {H : Heap} {k : Option Nat} {a : AV} (h : ldOk (hc c H) k a) : ldOk H k a ∧ ldV (hc c H) k a = ldV H k a := ld_sub (hc_sub c H) h
theorem there_sub {H1 H : Heap} (hs : Sub H1 H) {a : AV} (h : a.there H1 = true) : a.there H = true := by
  cases a with
  | own id len =>
    simp only [AV.there, Option.isSome_iff_exists] at h ⊢
    obtain ⟨o, ho⟩ := h
    exact ⟨o, hs _ _ ho⟩
  | _ => rfl
theorem there_subs {H1 H : Heap} (hs : Sub H1 H) {l : List AV} (h : l.all (·.there H1) = true) : l.all (·.there H) = true :=
  List.all_eq_true.2 fun a ha => there_sub hs (List.all_eq_true.1 h a ha)
theorem there_nils {H : Heap} {l : List AV} (h : l.all (·.there hnil) = true) : l.all (·.there H) = true := there_subs (Sub.nil H) h
theorem fillOk_sub {H1 H : Heap} (hs : Sub H1 H) {n : Nat} : ∀ {l : List (Nat × Nat × AV)}, fillOk H1 n l → fillOk H n l
  | [], _ => trivial
  | (_, _, _) :: _, ⟨h1, h2, h3, h4⟩ => ⟨h1, there_subs hs h2, h3, fillOk_sub hs h4⟩
theorem fillOk_nil {H : Heap} {n : Nat} {l : List (Nat × Nat × AV)} (h : fillOk hnil n l) : fillOk H n l := fillOk_sub (Sub.nil H) h

/-- What is at a key of a map. -/
def mgetV (H : Heap) (ok : Bool) (z : Value) (x k : AV) : AV :=
  match x, k with
  | .mp id, .d (.lit kv) => match hget H id with
    | some (.map _ _ f) => bif ok then .d (.tup [.lit ((f kv).getD z), .lit (.bool (f kv).isSome)]) else .d (.lit ((f kv).getD z))
    | _ => .d .top
  | _, _ => .d .top
def mgetOk (H : Heap) (kd : TypeDesc) (x k : AV) : Prop :=
  match x, k with
  | .mp id, .d (.lit kv) => (match hget H id with
    | some (.map kd' _ _) => kd' = kd
    | _ => False) ∧ kdOk kd kv = true
  | _, _ => False
def mlenV (H : Heap) (x : AV) : AV :=
  match x with
  | .mp id => match hget H id with
    | some (.map _ n _) => .int n
    | _ => .d .top
  | _ => .d .top
def mlenOk (H : Heap) (x : AV) : Prop :=
  match x with
  | .mp id => match hget H id with
    | some (.map _ _ _) => True
    | _ => False
  | _ => False

/-- Is a slice nil? -/
def isnilV (neg : Bool) (x : AV) : AV :=
  match x with
  | .d (.sn _ _ _) => .d (.lit (.bool neg))
  | .d (.sl _ (_ + 1) _) => .d (.lit (.bool neg))
  | .d (.lit (.slice none 0 0)) => .d (.lit (.bool (!neg)))
  | _ => .d .top
def isnilOk (x : AV) : Prop :=
  match x with
  | .d (.sn _ _ _) => True
  | .d (.sl _ (_ + 1) _) => True
  | .d (.lit (.slice none 0 0)) => True
  | _ => False
/-- Are two structs of plain fields the same? -/
def fldEq : TypeDesc → DV → DV → Option Bool
  | .int _, .lit (.int k a), .lit (.int k' b) => if k = k' then some (decide (a = b)) else none
  | .bool, .lit (.bool a), .lit (.bool b) => some (a == b)
  | .string, .lit (.string a), .lit (.string b) => some (decide (a = b))
  | _, _, _ => none
def fldsEq : List TypeDesc → List DV → List DV → Option Bool
  | [], [], [] => some true
  | k :: ks, a :: as, b :: bs => match fldEq k a b, fldsEq ks as bs with
    | some p, some q => some (p && q)
    | _, _ => none
  | _, _, _ => none
def eqsV (neg : Bool) (ks : List TypeDesc) (x y : AV) : AV :=
  match x, y with
  | .d (.agg cs), .d (.agg ds) => match fldsEq ks cs ds with
    | some r => .d (.lit (.bool (r != neg)))
    | none => .d .top
  | _, _ => .d .top
def eqsOk (ks : List TypeDesc) (x y : AV) : Prop :=
  match x, y with
  | .d (.agg cs), .d (.agg ds) => (fldsEq ks cs ds).isSome = true
  | _, _ => False
/-- A struct's fields, of plain kinds, one cell each. -/
def FieldsOk (P : Program) : Nat → List Field → List TypeDesc → Prop
  | _, [], [] => True
  | i, f :: fs, k :: ks => f.name ≠ "_" ∧ f.offset = i ∧ P.underlying f.type = some k ∧ (match k with | .int _ | .bool | .string => True | _ => False) ∧ FieldsOk P (i + 1) fs ks
  | _, _, _ => False

theorem run_eqFields {P : Program} {X : Nat → Nat → Prop} {w : World} {d : Nat} {xs ys : Array Value} : ∀ {fs : List Field} {ks : List TypeDesc} {i : Nat} {cs ds : List DV} {r : Bool}, FieldsOk P i fs ks → DReps X w (xs.toList.drop i) cs → DReps X w (ys.toList.drop i) ds → fldsEq ks cs ds = some r →
    (Op.eqFields (d + 1) xs ys fs).run P w = .ok r w
  | [], [], i, cs, ds, r, _, _, _, h => by
    cases cs <;> cases ds <;> simp [fldsEq] at h
    subst h
    simp [Op.eqFields]
  | [], k :: ks, i, cs, ds, r, hf, _, _, h => hf.elim
  | f :: fs, [], i, cs, ds, r, hf, _, _, h => hf.elim
  | f :: fs, k :: ks, i, [], ds, r, _, _, _, h => by simp [fldsEq] at h
  | f :: fs, k :: ks, i, c :: cs, [], r, _, _, _, h => by simp [fldsEq] at h
  | f :: fs, k :: ks, i, c :: cs, e :: ds, r, hf, hx, hy, h => by
    obtain ⟨h1, h2, h3, h4, h5⟩ := hf
    obtain ⟨v, vs, e1, hv, hvs⟩ := hx.uncons
    obtain ⟨u, us, e2, hu, hus⟩ := hy.uncons
    have x1 : xs[i]? = some v := by
      have := congrArg (·[0]?) e1
      simpa using this
    have x2 : ys[i]? = some u := by
      have := congrArg (·[0]?) e2
      simpa using this
    have d1 : xs.toList.drop (i + 1) = vs := by
      have := congrArg (List.drop 1) e1
      simpa [List.drop_drop] using this
    have d2 : ys.toList.drop (i + 1) = us := by
      have := congrArg (List.drop 1) e2
      simpa [List.drop_drop] using this
    simp only [fldsEq] at h
    cases hp : fldEq k c e with
    | none => rw [hp] at h; simp at h
    | some p =>
    cases hq : fldsEq ks cs ds with
    | none => rw [hp, hq] at h; simp at h
    | some q =>
    rw [hp, hq] at h
    simp at h
    have ih := run_eqFields (d := d) h5 (by rw [d1]; exact hvs) (by rw [d2]; exact hus) hq
    have part1 : (part f.type xs f.offset).run P w = .ok v w := by
      unfold part
      cases k <;> simp at h4 <;> simp [isAgg, run_underlying h3, h2, x1]
    have part2 : (part f.type ys f.offset).run P w = .ok u w := by
      unfold part
      cases k <;> simp at h4 <;> simp [isAgg, run_underlying h3, h2, x2]
    have heq : (Op.equalIn (d + 1) f.type v u).run P w = .ok p w := by
      unfold fldEq at hp
      split at hp
      · rename_i k' ka a kb b
        cases hv; cases hu
        split at hp
        · rename_i hk
          subst hk
          injection hp with hp
          rw [run_equalIn_int w d f.type _ k' a b h3, ← hp]
          congr 1
        · cases hp
      · cases hv; cases hu
        injection hp with hp
        rw [run_equalIn_bool' w d f.type _ _ h3, hp]
      · cases hv; cases hu
        injection hp with hp
        rw [run_equalIn_string w d f.type _ _ h3, str_eq, hp]
      · cases hp
    subst h
    simp only [Op.eqFields, if_pos h1, Sem.run_bind, part1, part2, heq, Result.andThen_ok]
    cases p with
    | true => simpa using ih
    | false => simp

/-- A number of another kind; a text of bytes; a byte of a text. -/
def cnvV (k : IntKind) (x : AV) : AV :=
  match x with
  | .d (.lit (.int _ n)) => .d (.lit (.int k (k.wrap n)))
  | _ => .d .top
def cnvOk (x : AV) : Prop :=
  match x with
  | .d (.lit (.int _ _)) => True
  | _ => False
/-- The bytes of some cells. -/
def bytesOf : List (List DV) → Option (List Int)
  | [] => some []
  | [.lit (.int .u8 n)] :: r => match bytesOf r with
    | some l => some (n :: l)
    | none => none
  | _ :: _ => none
def pushB (l : List Int) : ByteArray := l.foldl (fun r n => r.push (UInt8.ofNat n.toNat)) ByteArray.empty
def cnvsV (x : AV) : AV :=
  match x with
  | .d (.sl 1 len row) => match bytesOf ((List.range len).map row) with
    | some l => .d (.lit (.string (pushB l)))
    | none => .d .top
  | _ => .d .top
def cnvsOk (x : AV) : Prop :=
  match x with
  | .d (.sl 1 len row) => (bytesOf ((List.range len).map row)).isSome = true
  | _ => False
def sidxV (x i : AV) : AV :=
  match x, i with
  | .d (.lit (.string s)), .d (.lit (.int _ n)) => .d (.lit (.int .u8 ((s[n.toNat]?).getD 0).toNat))
  | _, _ => .d .top
def sidxOk (x i : AV) : Prop :=
  match x, i with
  | .d (.lit (.string s)), .d (.lit (.int _ n)) => 0 ≤ n ∧ n < s.size
  | _, _ => False

def AOp.val (e : T) (H : Heap) : AOp → AV
  | .mv x => (x.av e).strip
  | .pick c a b => pickV (c.av e).strip (a.av e).strip (b.av e).strip
  | .fld x off => fldV off (x.av e).strip
  | .ld c x k => ldV (hc c H) k (x.av e).strip
  | .idx c x i _ => idxH (hc c H) (x.av e).strip (i.av e).strip
  | .bin o x y => binA o (x.av e).strip (y.av e).strip
  | .binb o x y => binA o (x.av e).strip (y.av e).strip
  | .not x => notV (x.av e).strip
  | .len _ x => lenV (x.av e).strip
  | .mkfn F caps => mkFn F (caps.map fun x => (x.av e).strip)
  | .mksl n m zs ps => match allD (fillV (zs.map fun z => .d (.lit z)) ((partsV e ps).map fun x => (x.1, x.2.2))) with
    | some ds => .d (.sl n m fun i => (ds.drop (i * n)).take n)
    | none => .d .top
  | .bld zs ps => mkAgg (fillV (zs.map fun z => .d (.lit z)) ((partsV e ps).map fun x => (x.1, x.2.2)))
  | .ext x i => extV i (x.av e).strip
  | .slc x lo hi _ => slcV (x.av e).strip (bndV e 0 lo) (bndV e (slLen (x.av e).strip) hi)
  | .mget x k ok _ z => mgetV H ok z (x.av e).strip (k.av e).strip
  | .mlen x => mlenV H (x.av e).strip
  | .isnil neg x => isnilV neg (x.av e).strip
  | .eqs neg x y ks => eqsV neg ks (x.av e).strip (y.av e).strip
  | .cnv k x => cnvV k (x.av e).strip
  | .cnvs x => cnvsV (x.av e).strip
  | .sidx x i => sidxV (x.av e).strip (i.av e).strip
  | _ => .d .top

def liveAll (e : T) (xs : List Opd) : Prop := ∀ x ∈ xs, (x.av e).live

def AOp.ok (e : T) (H : Heap) : AOp → Prop
  | .mv x => (x.av e).live
  | .pick c a b => pickOk (c.av e) (a.av e) (b.av e)
  | .fld x _ => (x.av e).live ∧ isPtr (x.av e).strip = true
  | .ld c x k => (x.av e).live ∧ ldOk (hc c H) k (x.av e).strip
  | .idx c x i n => (x.av e).live ∧ (i.av e).live ∧ idxHOk (hc c H) n (x.av e).strip (i.av e).strip
  | .bin o x y => (x.av e).live ∧ (y.av e).live ∧ binOk false o (x.av e).strip (y.av e).strip
  | .binb o x y => (x.av e).live ∧ (y.av e).live ∧ binOk true o (x.av e).strip (y.av e).strip
  | .not x => (x.av e).live ∧ notOk (x.av e).strip
  | .len str x => (x.av e).live ∧ lenOk H str (x.av e).strip
  | .mkfn _ caps => liveAll e caps
  | .mksl n m zs ps => liveAll e (ps.map fun p => p.2.2) ∧ fillOk hnil zs.length (partsV e ps) ∧ zs.length = m * n ∧ m ≤ 1000 ∧ (allD (fillV (zs.map fun z => .d (.lit z)) ((partsV e ps).map fun x => (x.1, x.2.2)))).isSome = true
  | .bld zs ps => liveAll e (ps.map fun p => p.2.2) ∧ fillOk H zs.length (partsV e ps)
  | .ext x i => (x.av e).live ∧ extOk i (x.av e).strip
  | .slc x lo hi n => (x.av e).live ∧ bndOk e lo ∧ bndOk e hi ∧ slcOk n (x.av e).strip (bndV e 0 lo) (bndV e (slLen (x.av e).strip) hi)
  | .mget x k _ kd _ => (x.av e).live ∧ (k.av e).live ∧ mgetOk H kd (x.av e).strip (k.av e).strip
  | .mlen x => (x.av e).live ∧ mlenOk H (x.av e).strip
  | .isnil _ x => (x.av e).live ∧ isnilOk (x.av e).strip
  | .eqs _ x y ks => (x.av e).live ∧ (y.av e).live ∧ eqsOk ks (x.av e).strip (y.av e).strip
  | .cnv _ x => (x.av e).live ∧ cnvOk (x.av e).strip
  | .cnvs x => (x.av e).live ∧ cnvsOk (x.av e).strip
  | .sidx x i => (x.av e).live ∧ (i.av e).live ∧ sidxOk (x.av e).strip (i.av e).strip
  | _ => False

theorem AOp.sub {e : T} {H1 H : Heap} (hs : Sub H1 H) : ∀ {op : AOp}, op.ok e H1 → op.ok e H ∧ op.val e H1 = op.val e H := by
  intro op h
  cases op with
  | ld c x k =>
    obtain ⟨h1, h2⟩ := h
    obtain ⟨h3, h4⟩ := ld_sub (hs.hc c) h2
    exact ⟨⟨h1, h3⟩, h4⟩
  | idx c x i n =>
    obtain ⟨h1, h2, h3⟩ := h
    obtain ⟨k1, k2⟩ := idxH_sub (hs.hc c) h3
    exact ⟨⟨h1, h2, k1⟩, by simp only [AOp.val, k2]⟩
  | len str x =>
    obtain ⟨h1, h2⟩ := h
    refine ⟨⟨h1, ?_⟩, rfl⟩
    unfold lenOk at h2
    split at h2
    · rename_i heq; rw [heq]; exact h2
    · rename_i heq; rw [heq]; exact h2
    · rename_i heq; rw [heq]; exact h2
    · rename_i heq
      rw [heq]
      obtain ⟨h3, h4⟩ := h2
      split at h4
      · rename_i ho
        exact ⟨h3, by rw [hs _ _ ho]; exact h4⟩
      · rename_i ho
        exact ⟨h3, by rw [hs _ _ ho]; exact h4⟩
      · exact h4.elim
    · exact h2.elim
  | bld zs ps => exact ⟨⟨h.1, fillOk_sub hs h.2⟩, rfl⟩
  | mget x k ok kd z =>
    obtain ⟨h1, h2, h3⟩ := h
    unfold mgetOk at h3
    split at h3
    · rename_i id kv e1 e2
      obtain ⟨h4, h5⟩ := h3
      split at h4
      · rename_i ho
        refine ⟨⟨h1, h2, ?_⟩, ?_⟩
        · unfold mgetOk
          rw [e1, e2]
          simp only [hs _ _ ho]
          exact ⟨h4, h5⟩
        · simp only [AOp.val, mgetV, e1, e2, ho, hs _ _ ho]
      · exact h4.elim
    · exact h3.elim
  | mlen x =>
    obtain ⟨h1, h3⟩ := h
    unfold mlenOk at h3
    split at h3
    · rename_i id e1
      split at h3
      · rename_i ho
        refine ⟨⟨h1, ?_⟩, ?_⟩
        · unfold mlenOk
          rw [e1]
          simp only [hs _ _ ho]
        · simp only [AOp.val, mlenV, e1, ho, hs _ _ ho]
      · exact h3.elim
    · exact h3.elim
  | _ => exact ⟨h, rfl⟩

/-- An operand, as the evaluator's own. -/
inductive TrOpd (D : Nat) : Operand → Opd → Prop
  | s (p : Slot) (hp : p.length = D) : TrOpd D (.tmp p.idx) (.s p)
  | c (v : Value) : TrOpd D (.const v) (.c v)
  | f (F : FuncId) : TrOpd D (.func F) (.f F)

def TrOpds (D : Nat) (os : List Operand) (xs : List Opd) : Prop := os.length = xs.length ∧ ∀ i (h : i < os.length) (h' : i < xs.length), TrOpd D os[i] xs[i]

theorem TrOpd.rep {D : Nat} {γ : Nat → Option Value} {X : Nat → Nat → Prop} {w : World} {a : Act} {e : T} (hE : EnvRep D γ X w a e) {o : Operand} {x : Opd} (h : TrOpd D o x) : Rep γ X w (a.eval o) (x.av e) := by
  cases h with
  | s p hp => exact hE p hp
  | c v => exact .ofLit v
  | f F => exact .d _ _ (.fn F [] [] rfl (fun i h => by simp at h))

theorem TrOpds.reps {D : Nat} {γ : Nat → Option Value} {X : Nat → Nat → Prop} {w : World} {a : Act} {e : T} (hE : EnvRep D γ X w a e) {os : List Operand} {xs : List Opd} (h : TrOpds D os xs) (hl : liveAll e xs) : Reps γ X w (os.map a.eval) (xs.map fun x => (x.av e).strip) :=
  ⟨by simp [h.1], fun i hi hi' => by
    simp only [List.getElem_map]
    simp only [List.length_map] at hi hi'
    exact (TrOpd.rep hE (h.2 i hi hi')).strip (hl _ (List.getElem_mem hi'))⟩

/-- A value's operation, as the evaluator's own. -/
inductive TrVal (P : Program) (D : Nat) : Op → AOp → Prop
  | mv {o x} (h : TrOpd D o x) : TrVal P D (.move o) (.mv x)
  | asg {o x} (h : TrOpd D o x) : TrVal P D (.assign o) (.mv x)
  | pick {c a b c' a' b'} (hc : TrOpd D c c') (ha : TrOpd D a a') (hb : TrOpd D b b') : TrVal P D (.pick c a b) (.pick c' a' b')
  | fld {t o x i fs f inf} (h : TrOpd D o x) (hu : P.underlying t = some (.struct fs)) (hf : fs[i]? = some f) (hi : P.info? f.type = some inf) (hz : inf.size ≠ 0) : TrVal P D (.fieldAddr t o i) (.fld x f.offset)
  | ld1 {t o x d} (h : TrOpd D o x) (hu : P.underlying t = some d) (hd : (match d with | .struct _ | .array _ _ => true | _ => false) = false) (c : Bool) : TrVal P D (.load t o) (.ld c x none)
  | ldk {t o x d inf} (h : TrOpd D o x) (hu : P.underlying t = some d) (hd : (∃ fs, d = .struct fs) ∨ (∃ n e, d = .array n e)) (hi : P.info? t = some inf) (c : Bool) : TrVal P D (.load t o) (.ld c x (some inf.size))
  | idx {t e o i x y inf} (h : TrOpd D o x) (h' : TrOpd D i y) (hu : P.underlying t = some (.slice e)) (hi : P.info? e = some inf) (c : Bool) : TrVal P D (.indexAddr t o i) (.idx c x y inf.size)
  | bin {b t u o i x y} (h : TrOpd D o x) (h' : TrOpd D i y) : TrVal P D (.binOp b t o i u) (.bin b x y)
  | binb {b t u o i x y} (h : TrOpd D o x) (h' : TrOpd D i y) (hu : P.underlying t = some .bool) : TrVal P D (.binOp b t o i u) (.binb b x y)
  | not {t o x} (h : TrOpd D o x) : TrVal P D (.unOp .not t o) (.not x)
  | isnil {b t u e o x neg} (hb : (b = .eql ∧ neg = false) ∨ (b = .neq ∧ neg = true)) (h : TrOpd D o x) (hu : P.underlying t = some (.slice e)) : TrVal P D (.binOp b t o (.const (.slice none 0 0)) u) (.isnil neg x)
  | eqs {b t u o i x y neg fs ks} (hb : (b = .eql ∧ neg = false) ∨ (b = .neq ∧ neg = true)) (h : TrOpd D o x) (h' : TrOpd D i y) (hu : P.underlying t = some (.struct fs)) (hst : P.stoodInHeld t = false) (hg : P.eqGuardType P.depth t = false) (hf : FieldsOk P 0 fs.toList ks) : TrVal P D (.binOp b t o i u) (.eqs neg x y ks)
  | lens {t e o x} (h : TrOpd D o x) (hu : P.underlying t = some (.slice e)) : TrVal P D (.call { callee := .builtin .len, args := #[o], argTypes := #[t] }) (.len false x)
  | lenb {t o x} (h : TrOpd D o x) (hu : P.underlying t = some .string) : TrVal P D (.call { callee := .builtin .len, args := #[o], argTypes := #[t] }) (.len true x)
  | mkfn {F cs xs} (h : TrOpds D cs xs) : TrVal P D (.makeFunc (.func F) #[] cs.toArray) (.mkfn F xs)
  | mksl {t e len ie z zs} {ps : List (Nat × Operand)} {qs : List (Nat × Nat × Opd)} (hu : P.underlying t = some (.slice e)) (hie : P.info? e = some ie) (hz : ie.zero = some z) (hpos : ¬ len * ie.size = 0) (hsm : ¬ len * ie.size > 2 ^ 24)
      (hzs : ((Array.range (len * ie.size)).map (z.cells[· % z.cells.size]!)).toList = zs) (hl : ps.length = qs.length) (h : ∀ i (h : i < ps.length) (h' : i < qs.length), ps[i].1 * ie.size = qs[i].1 ∧ qs[i].2.1 = ie.size ∧ TrOpd D ps[i].2 qs[i].2.2) :
      TrVal P D (.buildSlice t len ps.toArray) (.mksl ie.size len zs qs)
  | bld {t fs z it pl} {ps : List (Nat × Operand)} {qs : List (Nat × Nat × Opd)} (hu : P.underlying t = some (.struct fs)) (hi : P.info? t = some it) (hz : it.zero = some z)
      (hpl : ∀ w, ((fs.mapM fun f => do pure (f.offset, ← sizeOf f.type) : Sem (Array (Nat × Nat))).run P w) = .ok pl w) (hl : ps.length = qs.length) (h : ∀ i (h : i < ps.length) (h' : i < qs.length), pl[ps[i].1]? = some (qs[i].1, qs[i].2.1) ∧ TrOpd D ps[i].2 qs[i].2.2) :
      TrVal P D (.build t ps.toArray) (.bld z.cells.toList qs)
  | ext {o x i} (h : TrOpd D o x) : TrVal P D (.extract o i) (.ext x i)
  | slc {t e o x lo hi lo' hi' inf} (h : TrOpd D o x) (hu : P.underlying t = some (.slice e)) (hinf : P.info? e = some inf) (h1 : lo = none ∧ lo' = none ∨ ∃ a b, lo = some a ∧ lo' = some b ∧ TrOpd D a b) (h2 : hi = none ∧ hi' = none ∨ ∃ a b, hi = some a ∧ hi' = some b ∧ TrOpd D a b) :
      TrVal P D (.slice t o lo hi none) (.slc x lo' hi' inf.size)
  | mget {t kt et o x i k kd z} (h : TrOpd D o x) (h' : TrOpd D i k) (hu : P.underlying t = some (.map kt et)) (hk : P.underlying kt = some kd) (hz : ∀ w, (zeroValue et).run P w = .ok z w) (ok : Bool) : TrVal P D (.lookup t o i ok) (.mget x k ok kd z)
  | mlen {t kt et o x} (h : TrOpd D o x) (hu : P.underlying t = some (.map kt et)) : TrVal P D (.call { callee := .builtin .len, args := #[o], argTypes := #[t] }) (.mlen x)
  | cnv {s t o x k k'} (h : TrOpd D o x) (hs : P.underlying s = some (.int k')) (hu : P.underlying t = some (.int k)) : TrVal P D (.convert s t o) (.cnv k x)
  | cnvs {s t el o x} (h : TrOpd D o x) (hs : P.underlying s = some (.slice el)) (he : P.underlying el = some (.int .u8)) (hu : P.underlying t = some .string) : TrVal P D (.convert s t o) (.cnvs x)
  | sidx {t o x i y} (h : TrOpd D o x) (h' : TrOpd D i y) (hu : P.underlying t = some .string) : TrVal P D (.index t o i) (.sidx x y)

section sound
variable {P : Program} {D : Nat} {X0 : Nat → Nat → Prop} {W0 : World} {γ : Nat → Option Value} {w : World} {H : Heap} {a : Act} {e : T}

theorem bytesOf_row {row : Nat → List DV} : ∀ {ks : List Nat} {l : List Int}, bytesOf (ks.map row) = some l → l.length = ks.length ∧ ∀ i (h : i < ks.length) (h' : i < l.length), row ks[i] = [.lit (.int .u8 l[i])]
  | [], l, h => by
    simp [bytesOf] at h
    subst h
    exact ⟨rfl, fun i h => by simp at h⟩
  | k :: ks, l, h => by
    simp only [List.map_cons] at h
    unfold bytesOf at h
    split at h
    · rename_i heq; cases heq
    · rename_i n r heq
      injection heq with e1 e2
      split at h
      · rename_i l' hl
        injection h with h
        subst h
        rw [← e2] at hl
        obtain ⟨h1, h2⟩ := bytesOf_row hl
        refine ⟨by simp [h1], fun i hi hi' => ?_⟩
        cases i with
        | zero => simpa using e1
        | succ i => simpa using h2 i (by simpa using hi) (by simpa using hi')
      · cases h
    · cases h
theorem run_cnvs {X : Nat → Nat → Prop} {s t el : TypeId} {v : Value} {len : Nat} {row : Nat → List DV} {l : List Int} (hs : P.underlying s = some (.slice el)) (he : P.underlying el = some (.int .u8)) (hu : P.underlying t = some .string)
    (hv : DRep X w v (.sl 1 len row)) (hl : bytesOf ((List.range len).map row) = some l) : (convert s t v).run P w = .ok (.string (pushB l)) w := by
  obtain ⟨h1, h2⟩ := bytesOf_row hl
  simp at h1
  have hn : ∀ a c, len = 0 → (convert s t (.slice a 0 c)).run P w = .ok (.string (pushB l)) w := by
    intro a c h0
    subst h0
    have : l = [] := by simpa using h1
    subst this
    rw [run_convert_bytes_string w s t el _ _ _ hs he hu]
    cases a with
    | none => simp [Conv.bytesToString, pushB]
    | some a => rw [run_bytesToString w a 0 c [] (by simp [loadCells, loadCellsFrom])]; rfl
  cases hv with
  | nil => exact hn _ _ rfl
  | emp => exact hn _ _ rfl
  | sl b off cap n _ _ vals h3 h4 hb hX hlv hc hr =>
    rw [run_convert_bytes_string w s t el _ _ _ hs he hu]
    refine run_bytesToString w _ len cap l ?_
    have hload := run_loadCells_list (P := P) (w := w) ⟨b, off, none⟩ (l.map (Value.int .u8)) (fun j u hj => by
      rw [addr_add]
      have hjl : j < l.length := by have := (List.getElem?_eq_some_iff.1 hj).1; simpa using this
      have hjn : j < len := by omega
      have e1 := h2 j (by simpa using hjn) hjl
      simp at e1
      obtain ⟨e2, e3⟩ := hlv j hjn
      have e4 : (vals j).length = 1 := e3
      have hr1 := hr j hjn 0 (by omega) (by rw [e1]; simp)
      simp only [e1] at hr1
      have hv0 : (vals j)[0]'(by omega) = .int .u8 l[j] := by
        generalize (vals j)[0]'(by omega) = q at hr1
        cases hr1
        rfl
      have := hc j hjn 0 _ (List.getElem?_eq_getElem (by omega))
      rw [hv0] at this
      simp [List.getElem?_eq_getElem hjl] at hj
      subst hj
      simpa using this)
    simpa [h1] using hload

/-- A row of the call's own reads as a slice: what lies behind its elements alone may turn. -/
theorem own_rep (hS : St X0 W0 γ w H) {id te n len : Nat} {row : Nat → List DV} {v : Value} (ho : hget H id = some (.row te n len row)) (hv : γ id = some v) : DRep (XOf X0 γ H) w v (.sl n len row) := by
  obtain ⟨u, hu, xs, hown, hr⟩ := hS.obj id _ ho
  rw [hv] at hu
  injection hu with hu
  subst hu
  rcases hown.2 with ⟨rfl, rfl⟩ | ⟨g, cap, cur, rfl, hbg, hg, hnc, hcm, hcs, htake⟩
  · exact .nil _ _
  · refine .sl g 0 cap n len row xs hnc hcm (Array.getElem?_eq_some_iff.1 hg).1 (fun i hi j hj hX => ?_) (fun i hi => ⟨(hr i hi).2.1.symm.trans (hr i hi).1, (hr i hi).1⟩) (fun i hi j v hv => ?_) (fun i hi => (hr i hi).2.2)
    · have hlt : i * n + j < len * n := by
        have : (i + 1) * n ≤ len * n := Nat.mul_le_mul_right _ (by omega)
        rw [Nat.add_mul, Nat.one_mul] at this
        omega
      rcases hX with hX | ⟨k, ob, u, h1, h2, h3, h4⟩
      · have := hS.hx g _ hX; omega
      · have hk := hS.dis k id ob _ u _ g h1 ho h2 hv h3 rfl
        subst hk
        rw [ho] at h1
        injection h1 with h1
        subst h1
        have h4' : len * n ≤ 0 + i * n + j := h4
        omega
    · have hfl : ((List.range len).flatMap xs)[i * n + j]? = some v := by
        have e1 : List.range len = List.range i ++ (List.range (len - i)).map (i + ·) := by rw [← List.range_add]; congr 1; omega
        have hli := flat_length i (fun k hk => (hr k (by omega)).1)
        rw [e1, List.flatMap_append, List.getElem?_append_right (by rw [hli]; omega), hli, show i * n + j - i * n = j by omega, List.flatMap_map]
        have e2 : List.range (len - i) = 0 :: (List.range (len - i - 1)).map (· + 1) := by
          rw [show len - i = (len - i - 1) + 1 by omega, List.range_succ_eq_map]; simp
        rw [e2, List.flatMap_cons, List.getElem?_append_left (by
          have := (List.getElem?_eq_some_iff.1 hv).1
          simpa using this)]
        simpa using hv
      have := hown.cells (g := g) rfl _ _ hfl
      rw [addr_add] at this
      simpa [Nat.zero_add] using this
theorem rowOf_rep {H1 : Heap} (hS : St X0 W0 γ w H) (hs : Sub H1 H) {v : Value} {a : AV} (hv : Rep γ (XOf X0 γ H) w v a) : Rep γ (XOf X0 γ H) w v (rowOf H1 a) := by
  unfold rowOf
  split
  · split
    · rename_i ho
      split
      · rename_i hl
        subst hl
        cases hv with | own _ _ _ hk => exact .d _ _ (own_rep hS (hs _ _ ho) hk)
      · exact .top _
    · exact .top _
  · exact hv

theorem own_slice (hS : St X0 W0 γ w H) {id te n len : Nat} {v : Value} (ho : (∃ row, hget H id = some (.row te n len row)) ∨ ∃ row, hget H id = some (.vec te n len row)) (hv : γ id = some v) : ∃ p c, v = .slice p len c := by
  obtain ⟨u, hu, xs, hown⟩ : ∃ u, γ id = some u ∧ ∃ xs : Nat → List Value, w.ownsRow W0.heap.size te n u len ((List.range len).flatMap xs) := by
    rcases ho with ⟨_, ho⟩ | ⟨_, ho⟩
    · obtain ⟨u, hu, xs, hown, _⟩ := hS.obj id _ ho
      exact ⟨u, hu, xs, hown⟩
    · obtain ⟨u, hu, xs, hown, _⟩ := hS.obj id _ ho
      exact ⟨u, hu, xs, hown⟩
  rw [hv] at hu
  injection hu with hu
  subst hu
  rcases hown.2 with ⟨rfl, rfl⟩ | ⟨g, cap, cur, rfl, _⟩
  · exact ⟨_, _, rfl⟩
  · exact ⟨_, _, rfl⟩

theorem eqGuard_ok (b : BinOp) (t : TypeId) (x y : Operand) (u v : Value) (w : World) {r : Value} (h : binV b u v = some r) : (eqGuard b t x y u v).run P w = .ok () w := by
  unfold eqGuard
  unfold binV at h
  split at h
  · cases b <;> simp
  · cases b <;> simp
  · cases b <;> simp
  · cases h

theorem bnd_rep (hE : EnvRep D γ (XOf X0 γ H) w a e) {lo : Option Operand} {lo' : Option Opd} (dflt : Int) (h1 : lo = none ∧ lo' = none ∨ ∃ a b, lo = some a ∧ lo' = some b ∧ TrOpd D a b) (hok : bndOk e lo') :
    lo.map a.eval = some (.int .i64 (bndV e dflt lo')) ∨ (lo.map a.eval = none ∧ lo' = none ∧ bndV e dflt lo' = dflt) := by
  rcases h1 with ⟨rfl, rfl⟩ | ⟨o, x, rfl, rfl, htr⟩
  · exact .inr ⟨rfl, rfl, rfl⟩
  · obtain ⟨h1, h2⟩ := hok
    have hr := (htr.rep hE).strip h1
    left
    simp only [Option.map_some, bndV]
    split at h2
    · rename_i n heq
      rw [heq] at hr
      rw [hr.lit]
    · exact h2.elim

theorem TrVal.sound {o : Oper} {ao : AOp} (tr : TrVal P D o.op ao) (hS : St X0 W0 γ w H) (hE : EnvRep D γ (XOf X0 γ H) w a e) (hok : ao.ok e H) :
    ∃ v w', (execOp a.eval o).run P w = .ok (.value v) w' ∧ Ext w w' ∧ Rep γ (XOf X0 γ H) w' v (ao.val e H) := by
  unfold execOp
  generalize o.op = op at tr ⊢
  cases tr with
  | mv h => exact ⟨_, w, rfl, Ext.refl w, (h.rep hE).strip hok⟩
  | asg h => exact ⟨_, w, rfl, Ext.refl w, (h.rep hE).strip hok⟩
  | @pick c x y c' x' y' hc ha hb =>
    obtain ⟨h1, h2⟩ := hok
    have hr := (hc.rep hE).strip h1
    split at h2
    · rename_i cb heq
      rw [heq] at hr
      have hcv := hr.lit
      refine ⟨if cb = true then a.eval x else a.eval y, w, ?_, Ext.refl w, ?_⟩
      · simp [asBool, hcv]
      · simp only [AOp.val, pickV, heq]
        cases cb with
        | true => exact pickB_true _ _ _ _ _ _ ((ha.rep hE).strip (h2.1 rfl))
        | false => exact pickB_false _ _ _ _ _ _ ((hb.rep hE).strip (h2.2 rfl))
    · exact h2.elim
  | fld h hu hf hi hz =>
    obtain ⟨v', hr, hv⟩ := run_field (w := w) hu hf hi hz ((h.rep hE).strip hok.1) hok.2
    exact ⟨v', w, by simp [hr], Ext.refl w, hv⟩
  | ld1 h hu hd c =>
    obtain ⟨h1, h2⟩ := ld_hc hok.2
    obtain ⟨v', hr, hv⟩ := run_ld1 hu hd hS ((h.rep hE).strip hok.1) h1
    exact ⟨v', w, by simp [hr], Ext.refl w, by simp only [AOp.val, h2]; exact hv⟩
  | ldk h hu hd hi c =>
    obtain ⟨h1, h2⟩ := ld_hc hok.2
    obtain ⟨v', hr, hv⟩ := run_ldk hu hd hi rfl hS ((h.rep hE).strip hok.1) h1
    exact ⟨v', w, by simp [hr], Ext.refl w, by simp only [AOp.val, h2]; exact hv⟩
  | @idx t1 e1 o1 i1 x1 y1 inf h h' hu hi c =>
    obtain ⟨k1, k2, k3⟩ := hok
    obtain ⟨k4, k5⟩ := idxH_sub (hc_sub c H) k3
    have r1 := (h.rep hE).strip k1
    have r2 := (h'.rep hE).strip k2
    simp only [AOp.val, k5]
    clear k5 k3
    unfold idxHOk at k4
    split at k4
    · rename_i x hx
      have hx' := hx
      unfold vecAt at hx
      split at hx
      · rename_i id l k j e1 e2
        split at hx
        · rename_i te n' len row ho
          rw [e1] at r1
          rw [e2] at r2
          rw [e1, e2] at k4 hx'
          simp only [vecOk, ho] at k4
          obtain ⟨rfl, h0, h1⟩ := k4
          injection hx with hx
          subst hx
          have hj := r2.lit
          generalize hv1 : a.eval o1 = v1 at r1
          cases r1 with | own _ _ _ hγ =>
          obtain ⟨u', hu', xs, hown, _⟩ := hS.obj id _ ho
          rw [hγ] at hu'
          injection hu' with hu'
          subst hu'
          rcases hown.2 with ⟨rfl, hl0⟩ | ⟨g, cap, cur, rfl, _, _, hlc, _⟩
          · exfalso; omega
          refine ⟨.pointer (some ⟨g, j.toNat * inf.size, none⟩), w, ?_, Ext.refl w, ?_⟩
          · have := addr_add g 0 (j.toNat * inf.size)
            simp [hv1, hj, Instr.indexAt, asIntOf, run_underlying hu, h0, h1, sizeOf, typeInfo, hi, this]
          · rw [e1, e2]
            simp only [idxH, hx']
            exact .el g len cap id inf.size j.toNat 0 hγ
        · cases hx
      · cases hx
    · rename_i hn
      obtain ⟨v', hr, hv⟩ := run_index (w := w) hu hi (rowOf_rep hS (Sub.refl H) r1) r2 k4
      refine ⟨v', w, by simp [hr], Ext.refl w, ?_⟩
      simp only [idxH, hn]
      exact hv
  | @bin bo t0 u0 o1 o2 x1 y1 h h' =>
    obtain ⟨k1, k2, k3⟩ := hok
    have r1 := (h.rep hE).strip k1
    have r2 := (h'.rep hE).strip k2
    unfold binOk at k3
    split at k3
    · rename_i u v e1 e2
      rw [e1] at r1
      rw [e2] at r2
      obtain ⟨b1, b2, b3, b4⟩ := k3
      obtain ⟨r, hr⟩ := Option.isSome_iff_exists.1 b3
      refine ⟨r, w, ?_, Ext.refl w, ?_⟩
      · have v1 := r1.lit
        have v2 := r2.lit
        have hb : (binOp bo t0 u v).run P w = .ok r w := run_bin (fun p q _ => .inr fun x y => .inl (fun e3 => by subst e3; simp [isBoolV] at b1)) hr b4
        simp only [v1, v2, Sem.run_bind, eqGuard_ok _ _ _ _ _ _ w hr, Result.andThen_ok, hb, Sem.run_pure]
      · simp only [AOp.val, binA, e1, e2, hr]
        exact .ofLit r
    · exact k3.elim
  | @binb bo t0 u0 o1 o2 x1 y1 h h' hu =>
    obtain ⟨k1, k2, k3⟩ := hok
    have r1 := (h.rep hE).strip k1
    have r2 := (h'.rep hE).strip k2
    unfold binOk at k3
    split at k3
    · rename_i u v e1 e2
      rw [e1] at r1
      rw [e2] at r2
      obtain ⟨b1, b2, b3, b4⟩ := k3
      obtain ⟨r, hr⟩ := Option.isSome_iff_exists.1 b3
      refine ⟨r, w, ?_, Ext.refl w, ?_⟩
      · have v1 := r1.lit
        have v2 := r2.lit
        have hb : (binOp bo t0 u v).run P w = .ok r w := run_bin (fun p q _ => .inl hu) hr b4
        simp only [v1, v2, Sem.run_bind, eqGuard_ok _ _ _ _ _ _ w hr, Result.andThen_ok, hb, Sem.run_pure]
      · simp only [AOp.val, binA, e1, e2, hr]
        exact .ofLit r
    · exact k3.elim
  | @isnil bo t1 u1 el o1 x1 neg hb h hu =>
    obtain ⟨k1, k2⟩ := hok
    have r1 := (h.rep hE).strip k1
    have run : ∀ ad n c, a.eval o1 = .slice ad n c → (do eqGuard bo t1 o1 (.const (.slice none 0 0)) (a.eval o1) (.slice none 0 0); binOp bo t1 (a.eval o1) (.slice none 0 0) : Sem Value).run P w = .ok (.bool (ad.isNone != neg)) w := by
      intro ad n c hv
      have hq := run_equal_slice_nil (P := P) w t1 el ad n c hu
      rcases hb with ⟨rfl, rfl⟩ | ⟨rfl, rfl⟩ <;> simp [hv, eqGuard, binOp, hq]
    have fin : ∀ ad n c, a.eval o1 = .slice ad n c → (AOp.isnil neg x1).val e H = .d (.lit (.bool (ad.isNone != neg))) → ∃ v w', (do
        let v ← (do eqGuard bo t1 o1 (.const (.slice none 0 0)) (a.eval o1) (.slice none 0 0); binOp bo t1 (a.eval o1) (.slice none 0 0) : Sem Value)
        pure (.value v) : Sem Next).run P w = .ok (.value v) w' ∧ Ext w w' ∧ Rep γ (XOf X0 γ H) w' v ((AOp.isnil neg x1).val e H) := by
      intro ad n c hv hval
      refine ⟨_, w, by rw [Sem.run_bind, run ad n c hv]; rfl, Ext.refl w, ?_⟩
      rw [hval]
      exact .ofLit _
    unfold isnilOk at k2
    split at k2
    · rename_i n len row e1
      rw [e1] at r1
      generalize hv1 : a.eval o1 = v1 at r1
      cases r1 with | d _ _ hd =>
      cases hd with | sn _ _ _ _ hd hn =>
      cases hd with
      | nil => exact absurd rfl hn
      | emp ad => simpa [hv1, Act.eval] using fin (some ad) 0 0 hv1 (by cases neg <;> simp [AOp.val, isnilV, e1])
      | sl b off cap => simpa [hv1, Act.eval] using fin _ _ _ hv1 (by cases neg <;> simp [AOp.val, isnilV, e1])
    · rename_i n len row e1
      rw [e1] at r1
      generalize hv1 : a.eval o1 = v1 at r1
      cases r1 with | d _ _ hd =>
      cases hd with
      | sl b off cap => simpa [hv1, Act.eval] using fin _ _ _ hv1 (by cases neg <;> simp [AOp.val, isnilV, e1])
    · rename_i e1
      rw [e1] at r1
      have hv1 := r1.lit
      simpa [hv1, Act.eval] using fin _ _ _ hv1 (by cases neg <;> simp [AOp.val, isnilV, e1])
    · exact k2.elim
  | @eqs bo t1 u1 o1 i1 x1 y1 neg fs ks hb h h' hu hst hg hf =>
    obtain ⟨k1, k2, k3⟩ := hok
    have r1 := (h.rep hE).strip k1
    have r2 := (h'.rep hE).strip k2
    unfold eqsOk at k3
    split at k3
    · rename_i cs ds e1 e2
      rw [e1] at r1
      rw [e2] at r2
      obtain ⟨r, hr⟩ := Option.isSome_iff_exists.1 k3
      generalize hv1 : a.eval o1 = v1 at r1
      generalize hv2 : a.eval i1 = v2 at r2
      cases r1 with | d _ _ d1 =>
      cases r2 with | d _ _ d2 =>
      cases d1 with | agg vs _ hl1 hr1 =>
      cases d2 with | agg us _ hl2 hr2 =>
      have hfs : P.fieldsOf t1 = fs := by simp [Program.fieldsOf, hu]
      have heq : (Op.equalIn 10000 t1 (.agg vs.toArray) (.agg us.toArray)).run P w = .ok r w := by
        rw [show (10000 : Nat) = 9998 + 1 + 1 from rfl, run_equalIn_struct w _ t1 _ _ (by rw [hfs]; exact hu) hst, hfs]
        exact run_eqFields hf (by simpa using ⟨hl1, hr1⟩) (by simpa using ⟨hl2, hr2⟩) hr
      have hgd : (eqGuard bo t1 o1 i1 (.agg vs.toArray) (.agg us.toArray)).run P w = .ok () w := run_eqGuard_agg w bo t1 o1 i1 _ _ hg
      refine ⟨.bool (r != neg), w, ?_, Ext.refl w, ?_⟩
      · rcases hb with ⟨rfl, rfl⟩ | ⟨rfl, rfl⟩
        · simp only [hv1, hv2, Sem.run_bind, hgd, Result.andThen_ok, run_eql_struct, heq, Sem.run_pure]
          simp
        · simp only [hv1, hv2, Sem.run_bind, hgd, Result.andThen_ok, run_neq_struct, heq, Sem.run_pure]
          simp
      · simp only [AOp.val, eqsV, e1, e2, hr]
        exact .ofLit _
    · exact k3.elim
  | not h =>
    obtain ⟨k1, k2⟩ := hok
    have r1 := (h.rep hE).strip k1
    unfold notOk at k2
    split at k2
    · rename_i b e1
      rw [e1] at r1
      refine ⟨.bool (!b), w, ?_, Ext.refl w, ?_⟩
      · have v1 := r1.lit
        simp [Op.unary, v1]
      · simp only [AOp.val, notV, e1]
        exact .ofLit _
    · exact k2.elim
  | @mget t kt et o' x i k kd z h h' hu hk hz ok =>
    obtain ⟨k1, k2, k3⟩ := hok
    have r1 := (h.rep hE).strip k1
    have r2 := (h'.rep hE).strip k2
    unfold mgetOk at k3
    split at k3
    · rename_i id kv e1 e2
      obtain ⟨k4, k5⟩ := k3
      split at k4
      · rename_i kd' n f ho
        subst k4
        rw [e1] at r1
        rw [e2] at r2
        have v2 := r2.lit
        generalize hv1 : a.eval o' = v1 at r1
        cases r1 with | mp b _ hγ =>
        have hr := run_mget (P := P) (t := t) (z := z) (ok := ok) hu hk (hz w) hS ho hγ k5
        refine ⟨_, w, by simp only [hv1, v2, Sem.run_bind, hr, Result.andThen_ok, Sem.run_pure]; rfl, Ext.refl w, ?_⟩
        simp only [AOp.val, mgetV, e1, e2, ho]
        cases ok with
        | false => exact .ofLit _
        | true =>
          have hd : DReps (XOf X0 γ H) w [(f kv).getD z, .bool (f kv).isSome] [.lit ((f kv).getD z), .lit (.bool (f kv).isSome)] := DReps.cons (.lit _) (DReps.cons (.lit _) (DReps.nil _ _))
          exact .d _ _ (.tup _ _ hd.1 hd.2)
      · exact k4.elim
    · exact k3.elim
  | @mlen t kt et o' x h hu =>
    obtain ⟨k1, k3⟩ := hok
    have r1 := (h.rep hE).strip k1
    unfold mlenOk at k3
    split at k3
    · rename_i id e1
      split at k3
      · rename_i kd n f ho
        rw [e1] at r1
        generalize hv1 : a.eval o' = v1 at r1
        cases r1 with | mp b _ hγ =>
        obtain ⟨b', ent, clock, hb', _, hh, hn, _⟩ := hS.map_at ho hγ
        injection hb' with hb'
        injection hb' with hb'
        subst hb'
        refine ⟨.int .i64 n, w, ?_, Ext.refl w, ?_⟩
        · simp [resolve, invoke, builtin, hv1, Builtin.len_, run_underlying hu, run_getObj hh, goInt, hn]
        · simp only [AOp.val, mlenV, e1, ho]
          exact .ofLit _
      · exact k3.elim
    · exact k3.elim
  | @lens t el o' x h hu =>
    obtain ⟨k1, k2⟩ := hok
    have r1 := (h.rep hE).strip k1
    have run : ∀ p n c, a.eval o' = .slice p n c → (Builtin.len_ #[t] o.type #[a.eval o']).run P w = .ok (.int .i64 (n : Nat)) w := by
      intro p n c hv
      rw [hv]
      simp [Builtin.len_, run_underlying hu, goInt]
    have fin : ∀ p n c, a.eval o' = .slice p n c → lenV (x.av e).strip = .int (n : Nat) → ∃ v w', (do let d ← resolve a.eval { callee := .builtin .len, args := #[o'], argTypes := #[t] } o.type; invoke d.target d.args : Sem Next).run P w = .ok (.value v) w' ∧ Ext w w' ∧ Rep γ (XOf X0 γ H) w' v (lenV (x.av e).strip) := by
      intro p n c hv he
      refine ⟨.int .i64 n, w, ?_, Ext.refl w, ?_⟩
      · simp [resolve, invoke, builtin, run p n c hv]
      · rw [he]; exact .ofLit _
    unfold lenOk at k2
    split at k2
    · rename_i n len row e1
      rw [e1] at r1
      have hd := r1.dv
      generalize hv : a.eval o' = v at hd
      cases hd with
      | nil => exact fin _ _ _ hv (by rw [e1]; rfl)
      | emp => exact fin _ _ _ hv (by rw [e1]; rfl)
      | sl => exact fin _ _ _ hv (by rw [e1]; rfl)
    · cases k2
    · rename_i p n c e1
      rw [e1] at r1
      exact fin _ _ _ r1.lit (by rw [e1]; rfl)
    · rename_i id n e1
      rw [e1] at r1
      obtain ⟨_, k3⟩ := k2
      split at k3
      · rename_i te tn len' row ho
        subst k3
        generalize hv : a.eval o' = v at r1
        cases r1 with | own _ _ _ hγ =>
        obtain ⟨p, c, hsl⟩ := own_slice hS (.inl ⟨_, ho⟩) hγ
        exact fin _ _ _ (hv.trans hsl) (by rw [e1]; rfl)
      · rename_i te tn len' row ho
        subst k3
        generalize hv : a.eval o' = v at r1
        cases r1 with | own _ _ _ hγ =>
        obtain ⟨p, c, hsl⟩ := own_slice hS (.inr ⟨_, ho⟩) hγ
        exact fin _ _ _ (hv.trans hsl) (by rw [e1]; rfl)
      · exact k3.elim
    · exact k2.elim
  | @lenb t o' x h hu =>
    obtain ⟨k1, k2⟩ := hok
    have r1 := (h.rep hE).strip k1
    unfold lenOk at k2
    split at k2
    · cases k2
    · rename_i str e1
      rw [e1] at r1
      refine ⟨.int .i64 str.size, w, ?_, Ext.refl w, ?_⟩
      · simp [resolve, invoke, builtin, Builtin.len_, run_underlying hu, goInt, r1.lit]
      · simp only [AOp.val, lenV, e1]; exact .ofLit _
    · cases k2
    · cases k2.1
    · exact k2.elim
  | @mkfn F cs xs h =>
    refine ⟨.func (.func F) #[] (cs.toArray.map a.eval), w, by simp [Instr.makeFunc], Ext.refl w, ?_⟩
    have := Rep.mkFn (F := F) (h.reps hE hok)
    simpa [AOp.val] using this
  | @mksl t el len ie z zs ps qs hu hie hz hpos hsm hzs hl h =>
    obtain ⟨k1, k2, k3, k4, k5⟩ := hok
    obtain ⟨ds, hds⟩ := Option.isSome_iff_exists.1 k5
    have hlp : (ps.map fun x => (x.1, a.eval x.2)).length = (partsV e qs).length := by simp [partsV, hl]
    have hz0 : ((Array.range (len * ie.size)).map (z.cells[· % z.cells.size]!)).size = zs.length := by rw [← hzs]; simp
    obtain ⟨r, hr, hrs, hrr⟩ := fill_rep hS (fun i => some (i * ie.size, ie.size)) (ps.map fun x => (x.1, a.eval x.2)) (partsV e qs) ((Array.range (len * ie.size)).map (z.cells[· % z.cells.size]!)) (zs.map fun z => .d (.lit z)) hlp
      (fun i hi hi' => by
        simp only [List.length_map, partsV] at hi hi'
        obtain ⟨e1, e2, e3⟩ := h i hi hi'
        simp only [List.getElem_map, partsV, e1, e2]
        exact ⟨trivial, (e3.rep hE).strip (k1 _ (List.mem_map_of_mem (List.getElem_mem hi')))⟩) (by rw [hz0]; exact fillOk_nil k2) (by rw [hzs]; exact Reps.lits zs)
    have hb := run_buildSlice (P := P) w t el len (ps.toArray.map fun x => (x.1, a.eval x.2)) r ie z hu hie hz hsm hpos (by simpa using hr)
    refine ⟨.slice (some ⟨w.heap.size, 0, none⟩) len len, _, ?_, Ext.alloc w (.cells r el), ?_⟩
    · simp only [Sem.run_bind, hb, Result.andThen_ok, Sem.run_pure]
    · have hd := hrr.allD hds
      have : (AOp.mksl ie.size len zs qs).val e H = .d (.sl ie.size len fun i => (ds.drop (i * ie.size)).take ie.size) := by simp only [AOp.val, hds]
      rw [this]
      refine .d _ _ (Rep.newRow (fun b o hb => hb.lt hS) hd ?_ (by unfold maxLen; omega))
      rw [← hd.1, Array.length_toList, hrs, hz0, k3]
  | @bld t fs z it pl ps qs hu hi hz hpl hl h =>
    obtain ⟨k1, k2⟩ := hok
    have hlp : (ps.map fun x => (x.1, a.eval x.2)).length = (partsV e qs).length := by simp [partsV, hl]
    obtain ⟨r, hr, hrs, hrr⟩ := fill_rep hS (pl[·]?) (ps.map fun x => (x.1, a.eval x.2)) (partsV e qs) z.cells (z.cells.toList.map fun z => .d (.lit z)) hlp
      (fun i hi hi' => by
        simp only [List.length_map, partsV] at hi hi'
        obtain ⟨e1, e3⟩ := h i hi hi'
        simp only [List.getElem_map, partsV, e1]
        exact ⟨trivial, (e3.rep hE).strip (k1 _ (List.mem_map_of_mem (List.getElem_mem hi')))⟩) (by simpa using k2) (Reps.lits _)
    refine ⟨.agg r, w, ?_, Ext.refl w, ?_⟩
    · have hpl' := hpl w
      simp only [Sem.run_bind, Instr.build, zeroValue, typeInfo, run_program, hi, hz, Sem.run_pure, Result.andThen_ok, run_underlying hu, hpl']
      simp [hr]
    · exact Rep.mkAgg hrr
  | @cnv sr t o' x k k' h hs hu =>
    obtain ⟨k1, k2⟩ := hok
    have r1 := (h.rep hE).strip k1
    unfold cnvOk at k2
    split at k2
    · rename_i q n e1
      rw [e1] at r1
      have v1 := r1.lit
      refine ⟨.int k (k.wrap n), w, ?_, Ext.refl w, ?_⟩
      · simp [v1, convert, run_underlying hu, run_underlying hs, Conv.intToInt]
      · simp only [AOp.val, cnvV, e1]
        exact .ofLit _
    · exact k2.elim
  | @cnvs sr t el o' x h hs he hu =>
    obtain ⟨k1, k2⟩ := hok
    have r1 := (h.rep hE).strip k1
    unfold cnvsOk at k2
    split at k2
    · rename_i len row e1
      rw [e1] at r1
      obtain ⟨l, hl⟩ := Option.isSome_iff_exists.1 k2
      have hr := run_cnvs (w := w) hs he hu r1.dv hl
      refine ⟨.string (pushB l), w, by simp [hr], Ext.refl w, ?_⟩
      simp only [AOp.val, cnvsV, e1, hl]
      exact .ofLit _
    · exact k2.elim
  | @sidx t o' x i' y h h' hu =>
    obtain ⟨k1, k2, k3⟩ := hok
    have r1 := (h.rep hE).strip k1
    have r2 := (h'.rep hE).strip k2
    unfold sidxOk at k3
    split at k3
    · rename_i st q n e1 e2
      rw [e1] at r1
      rw [e2] at r2
      obtain ⟨k4, k5⟩ := k3
      have v1 := r1.lit
      have v2 := r2.lit
      obtain ⟨m, rfl⟩ := Int.eq_ofNat_of_zero_le k4
      have hm : m < st.size := by omega
      have hg : st[m]? = some (st[m]'hm) := by
        rw [getElem?_pos]
      refine ⟨.int .u8 (st[m]'hm).toNat, w, ?_, Ext.refl w, ?_⟩
      · simp [v1, v2, Instr.index, asIntOf, run_underlying hu, hg]
      · simp only [AOp.val, sidxV, e1, e2, Int.toNat_natCast, hg, Option.getD_some]
        exact .ofLit _
    · exact k3.elim
  | ext h =>
    obtain ⟨v', hr, hv⟩ := run_ext (P := P) (w := w) ((h.rep hE).strip hok.1) hok.2
    exact ⟨v', w, by simp [hr], Ext.refl w, hv⟩
  | @slc t el o' x lo hi lo' hi' inf h hu hinf h1 h2 =>
    obtain ⟨k1, k2, k3, k4⟩ := hok
    have r1 := (h.rep hE).strip k1
    have b1 := bnd_rep hE 0 h1 k2
    have b2 := bnd_rep hE (slLen (x.av e).strip) h2 k3
    obtain ⟨v', hr, hv⟩ := run_slc (lo := lo.map a.eval) (hi := hi.map a.eval) hu hinf r1 (b1.elim Or.inl fun h => Or.inr ⟨h.1, h.2.2⟩) (b2.elim Or.inl fun h => Or.inr ⟨h.1, by
      unfold slcOk at k4
      split at k4
      · rename_i n' len row e1
        exact ⟨n', len, row, e1, by rw [h.2.2, e1]; rfl⟩
      · exact k4.elim⟩) k4
    exact ⟨v', w, by simp [hr], Ext.refl w, hv⟩

end sound

end Go.Proofs.Ytndpejmebhcaaaa
/- Objects by number, told anew; contracts of functions that turn objects of their callers. -/
namespace Go.Proofs.Ytndpejmebhcaaaa
open Go.RowKit

/-- Where an object's new number comes from: from another number, or from a nil slice. -/
inductive Src where
  | none
  | id (k : Nat)
  | nil

/-- Rows that may be read as data. -/
abbrev Rws := Nat → Option (Nat × Nat × (Nat → List DV))
def noR : Rws := fun _ => none
def rowsOf (H : Heap) : Rws := fun k => match hget H k with
  | some (.row _ n len row) => some (n, len, row)
  | _ => none
/-- x says no less than y, objects being numbered anew; rows of M may be read as data. -/
def AVLe0 (M : Rws) (g : Nat → Src) : AV → AV → Prop
  | _, .d .top => True
  | .own k n, .own k' n' => g k' = .id k ∧ n = n'
  | .own k n, .d y => (match M k with
    | some (m, len, row) => n = len ∧ DLe (.sl m len row) y
    | none => False)
  | .d (.lit (.slice .none 0 0)), .own k 0 => g k = .nil
  | .d x, .d y => DLe x y
  | .ptr k o, .ptr k' o' => g k' = .id k ∧ o = o'
  | .mp k, .mp k' => g k' = .id k
  | .el k n i o, .el k' n' i' o' => g k' = .id k ∧ n = n' ∧ i = i' ∧ o = o'
  | _, _ => False
def capsLe (M : Rws) (g : Nat → Src) : List AV → List AV → Prop
  | [], [] => True
  | a :: l, b :: r => AVLe0 M g a b ∧ capsLe M g l r
  | _, _ => False
/-- The same, of closures too. -/
def AVLe (M : Rws) (g : Nat → Src) : AV → AV → Prop
  | .fn f l, .fn f' l' => f = f' ∧ capsLe M g l l'
  | a, b => AVLe0 M g a b

/-- Objects of a list. -/
def hof : List (Nat × AObj) → Heap
  | [] => hnil
  | (i, o) :: r => hadd i o (hof r)

def cellsLe (M : Rws) (g : Nat → Src) : List AV → List AV → Prop
  | [], [] => True
  | a :: as, b :: bs => AVLe M g a b ∧ cellsLe M g as bs
  | _, _ => False
def OLe (M : Rws) (g : Nat → Src) : AObj → AObj → Prop
  | .box cs, .box cs' => cellsLe M g cs cs'
  | .row e n len row, .row e' n' len' row' => e = e' ∧ n = n' ∧ len = len' ∧ ∀ i, i < len → row i = row' i
  | .vec e n len row, .vec e' n' len' row' => e = e' ∧ n = n' ∧ len = len' ∧ ∀ i, i < len → cellsLe M g (row i) (row' i)
  | .map kd n f, .map kd' n' f' => kd = kd' ∧ n = n' ∧ ∀ k, kdOk kd k = true → f k = f' k
  | _, _ => False
/-- Each object of a list comes from one of H, or is an empty row yet to be made. -/
def HLe (M : Rws) (g : Nat → Src) (H : Heap) : List (Nat × AObj) → Prop
  | [] => True
  | (i, o') :: r => (match g i with
      | .id k => (match hget H k with | some o => OLe M g o o' | none => False)
      | .nil => (match o' with | .row _ _ len _ => len = 0 | _ => False)
      | .none => False) ∧ HLe M g H r
/-- No two of them come from one. -/
def srcApart (g : Nat → Src) : List (Nat × AObj) → Prop
  | [] => True
  | (i, _) :: r => (∀ j o, (j, o) ∈ r → i ≠ j → ∀ k, g i = .id k → g j ≠ .id k) ∧ srcApart g r

section
variable {P : Program} {X0 : Nat → Nat → Prop} {W0 : World} {γ : Nat → Option Value} {w : World} {H : Heap}

theorem AVLe0.rep {γ' : Nat → Option Value} {X X' : Nat → Nat → Prop} {M : Rws} {g : Nat → Src} (hg1 : ∀ i k, g i = .id k → γ' i = γ k) (hg2 : ∀ i, g i = .nil → γ' i = some (.slice none 0 0)) (hX : ∀ b q, b < w.heap.size → X' b q → X b q) (hm : ∀ k n len row v, M k = some (n, len, row) → γ k = some v → DRep X w v (.sl n len row)) {v : Value} {x y : AV}
    (h : AVLe0 M g x y) (hv : Rep γ X w v x) : Rep γ' X' w v y := by
  have hK : Keeps X X' w w := .same hX
  unfold AVLe0 at h
  split at h
  · exact .top v
  · obtain ⟨h1, h2⟩ := h
    subst h2
    cases hv with | own _ _ _ hk => exact .own v _ _ (by rw [hg1 _ _ h1]; exact hk)
  · split at h
    · rename_i hM
      obtain ⟨rfl, h2⟩ := h
      cases hv with | own _ _ _ hk => exact .d _ _ (h2 _ _ _ ((hm _ _ _ _ _ hM hk).mono hK))
    · exact h.elim
  · obtain rfl := hv.lit
    exact .own _ _ _ (hg2 _ h)
  · exact .d _ _ (h _ _ _ (hv.dv.mono hK))
  · obtain ⟨h1, h2⟩ := h
    subst h2
    cases hv with | ptr b _ _ hk => exact .ptr b _ _ (by rw [hg1 _ _ h1]; exact hk)
  · cases hv with | mp b _ hk => exact .mp b _ (by rw [hg1 _ _ h]; exact hk)
  · obtain ⟨h1, rfl, rfl, rfl⟩ := h
    cases hv with | el b len cap _ _ _ _ hk => exact .el b len cap _ _ _ _ (by rw [hg1 _ _ h1]; exact hk)
  · exact h.elim

theorem capsLe.reps {γ' : Nat → Option Value} {X X' : Nat → Nat → Prop} {M : Rws} {g : Nat → Src} (hf : ∀ v x y, AVLe0 M g x y → Rep γ X w v x → Rep γ' X' w v y) : ∀ {vs : List Value} {l r : List AV}, capsLe M g l r → Reps γ X w vs l → Reps γ' X' w vs r
  | vs, [], [], _, h => by
    have : vs = [] := by have := h.1; simpa using this
    subst this; exact Reps.nil _ _ _
  | [], a :: l, b :: r, _, h => by exact absurd h.1 (by simp)
  | v :: vs, a :: l, b :: r, hc, h => Reps.cons (hf v a b hc.1 (h.2 0 (by simp) (by simp))) (capsLe.reps hf hc.2 ⟨by simpa using h.1, fun i hi hi' => h.2 (i + 1) (by simpa using hi) (by simpa using hi')⟩)
  | vs, [], b :: r, hc, _ => hc.elim
  | vs, a :: l, [], hc, _ => hc.elim
theorem AVLe.rep {γ' : Nat → Option Value} {X X' : Nat → Nat → Prop} {M : Rws} {g : Nat → Src} (hg1 : ∀ i k, g i = .id k → γ' i = γ k) (hg2 : ∀ i, g i = .nil → γ' i = some (.slice none 0 0)) (hX : ∀ b q, b < w.heap.size → X' b q → X b q) (hm : ∀ k n len row v, M k = some (n, len, row) → γ k = some v → DRep X w v (.sl n len row)) {v : Value} {x y : AV}
    (h : AVLe M g x y) (hv : Rep γ X w v x) : Rep γ' X' w v y := by
  unfold AVLe at h
  split at h
  · obtain ⟨rfl, h2⟩ := h
    cases hv with | fn _ vs _ hl hr =>
    have := capsLe.reps (fun v x y hxy hv => AVLe0.rep hg1 hg2 hX hm hxy hv) h2 (⟨hl, hr⟩ : Reps γ X w vs _)
    exact .fn _ vs _ this.1 this.2
  · exact AVLe0.rep hg1 hg2 hX hm h hv

theorem AVLe.top (M : Rws) (g : Nat → Src) (a : AV) : AVLe M g a (.d .top) := by
  cases a <;> simp [AVLe, AVLe0]

/-- What an object's number now stands for. -/
def ren (g : Nat → Src) (γ : Nat → Option Value) : Nat → Option Value := fun i => match g i with
  | .none => none
  | .id k => γ k
  | .nil => some (.slice none 0 0)

theorem hof_get {L : List (Nat × AObj)} {i : Nat} {o : AObj} (h : hget (hof L) i = some o) : (i, o) ∈ L := by
  induction L with
  | nil => cases h
  | cons p L ih =>
    obtain ⟨j, o'⟩ := p
    simp only [hof, hget_add] at h
    split at h
    · rename_i e; subst e; injection h with h; subst h; simp
    · exact List.mem_cons_of_mem _ (ih h)

theorem HLe.mem {M : Rws} {g : Nat → Src} {H : Heap} {L : List (Nat × AObj)} (h : HLe M g H L) {i : Nat} {o' : AObj} (hm : (i, o') ∈ L) :
    (∃ k o, g i = .id k ∧ hget H k = some o ∧ OLe M g o o') ∨ (g i = .nil ∧ ∃ e n row, o' = .row e n 0 row) := by
  induction L with
  | nil => cases hm
  | cons p L ih =>
    obtain ⟨j, oj⟩ := p
    obtain ⟨h1, h2⟩ := h
    rcases List.mem_cons.1 hm with e | hm
    · injection e with e1 e2
      subst e1; subst e2
      cases hg : g i with
      | none => simp [hg] at h1
      | id k =>
        simp only [hg] at h1
        cases ho : hget H k with
        | none => simp [ho] at h1
        | some o => simp only [ho] at h1; exact .inl ⟨k, o, rfl, ho, h1⟩
      | nil =>
        simp only [hg] at h1
        cases o' with
        | box cs => exact h1.elim
        | map => exact h1.elim
        | row e n len row =>
          have : len = 0 := h1
          subst this
          exact .inr ⟨rfl, e, n, row, rfl⟩
        | vec => exact h1.elim
    · exact ih h2 hm

theorem srcApart.mem {g : Nat → Src} {L : List (Nat × AObj)} (h : srcApart g L) {i j : Nat} {o o' : AObj} (hi : (i, o) ∈ L) (hj : (j, o') ∈ L) (hne : i ≠ j) {k : Nat} (h1 : g i = .id k) (h2 : g j = .id k) : False := by
  induction L with
  | nil => cases hi
  | cons p L ih =>
    obtain ⟨q, oq⟩ := p
    obtain ⟨h3, h4⟩ := h
    rcases List.mem_cons.1 hi with e | hi' <;> rcases List.mem_cons.1 hj with e' | hj'
    · injection e with e1 e2; injection e' with e3 e4
      exact hne (e1.trans e3.symm)
    · injection e with e1 e2
      subst e1
      exact h3 j o' hj' hne k h1 h2
    · injection e' with e1 e2
      subst e1
      exact h3 i o hi' (Ne.symm hne) k h2 h1
    · exact ih h4 hi' hj'

theorem cellsLe.reps {γ' : Nat → Option Value} {X X' : Nat → Nat → Prop} {M : Rws} {g : Nat → Src} (hf : ∀ v x y, AVLe M g x y → Rep γ X w v x → Rep γ' X' w v y) : ∀ {vs : List Value} {as bs : List AV}, cellsLe M g as bs → Reps γ X w vs as → Reps γ' X' w vs bs
  | vs, [], [], _, h => by
    have : vs = [] := by have := h.1; simpa using this
    subst this; exact Reps.nil _ _ _
  | [], a :: as, b :: bs, _, h => by exact absurd h.1 (by simp)
  | v :: vs, a :: as, b :: bs, hc, h => Reps.cons (hf v a b hc.1 (h.2 0 (by simp) (by simp))) (cellsLe.reps hf hc.2 ⟨by simpa using h.1, fun i hi hi' => h.2 (i + 1) (by simpa using hi) (by simpa using hi')⟩)
  | vs, [], b :: bs, hc, _ => hc.elim
  | vs, a :: as, [], hc, _ => hc.elim

end

/-- The same, numbers being told by τ. -/
def AV.ren (τ : Nat → Nat) : AV → AV
  | .d x => .d x
  | .whn g x => .whn g (x.ren τ)
  | .ptr id off => .ptr (τ id) off
  | .own id len => .own (τ id) len
  | .mp id => .mp (τ id)
  | .el id n i off => .el (τ id) n i off
  | .fn f caps => .fn f (renL τ caps)
  | .agg cs => .agg (renL τ cs)
  | .tup cs => .tup (renL τ cs)
where renL (τ : Nat → Nat) : List AV → List AV
  | [] => []
  | a :: l => a.ren τ :: renL τ l
def AObj.ren (τ : Nat → Nat) : AObj → AObj
  | .box cs => .box (AV.ren.renL τ cs)
  | .vec e n len f => .vec e n len fun i => AV.ren.renL τ (f i)
  | o => o

/-- Where the objects of a list are among others, by number. -/
def gOf (τ : Nat → Nat) (L : List (Nat × AObj)) : Nat → Src := fun i => if L.any (fun p => p.1 == i) = true then .id (τ i) else .none
/-- Some objects are taken away, others put there. -/
def hput (τ : Nat → Nat) (L L' : List (Nat × AObj)) (H : Heap) : Heap := L'.foldr (fun p h => hadd (τ p.1) (p.2.ren τ) h) (L.foldr (fun p h => hdel h (τ p.1)) H)
/-- Maps are where maps were; there are no numbers but the old ones, and 999999. -/
def idsOk (L : List (Nat × AObj)) : List (Nat × AObj) → Prop
  | [] => True
  | (i, o) :: r => ((match o with
    | .map kd _ _ => (match L.find? (fun p => p.1 == i) with | some (_, .map kd' _ _) => kd' = kd | _ => False)
    | _ => i = 999999 ∨ L.any (fun p => p.1 == i) = true)) ∧ idsOk L r

/-- A function's contract: handed as, where the objects are as L tells, it hands back x, and they are as L' tells; one object that is new may have the number 999999. -/
def AEff (P : Program) (F : FuncId) (as : List AV) (L : List (Nat × AObj)) (x : DV) (L' : List (Nat × AObj)) : Prop :=
  HasBody P F ∧ ∀ X0 W0 γ w H (τ : Nat → Nat) (vs : Array Value), St X0 W0 γ w H → γ (τ 999999) = none → HLe noR (gOf τ L) H L → srcApart (gOf τ L) L → Reps (ren (gOf τ L) γ) (XOf X0 γ H) w vs.toList as →
    Calls P F vs w fun e' w' => ∃ v γ', e' = .returned v ∧ St X0 W0 γ' w' (hput τ L L' H) ∧ (∀ k, k ≠ τ 999999 → γ' k = γ k) ∧ Keeps (XOf X0 γ H) (XOf X0 γ' (hput τ L L' H)) w w' ∧ DRep (XOf X0 γ' (hput τ L L' H)) w' v x

/-- What a call comes to: what it hands back; of one that turns objects of its callers those too. -/
inductive Rz where
  | d (x : DV)
  | ef (x : DV) (τ : Nat → Nat) (L L' : List (Nat × AObj))
def Rz.x : Rz → DV
  | .d x => x
  | .ef x _ _ _ => x

theorem gOf_nil {τ : Nat → Nat} {L : List (Nat × AObj)} (i : Nat) : gOf τ L i ≠ .nil := by
  unfold gOf
  split <;> simp
theorem gOf_mem {τ : Nat → Nat} {L : List (Nat × AObj)} {i : Nat} {o : AObj} (h : (i, o) ∈ L) : gOf τ L i = .id (τ i) := by
  unfold gOf
  rw [if_pos (List.any_eq_true.2 ⟨(i, o), h, by simp⟩)]

theorem hput_get {τ : Nat → Nat} {L : List (Nat × AObj)} {H : Heap} : ∀ {L' : List (Nat × AObj)} {k : Nat} {o : AObj}, hget (hput τ L L' H) k = some o → (∃ i o', (i, o') ∈ L' ∧ k = τ i ∧ o = o'.ren τ) ∨ (hget H k = some o ∧ ∀ i o', (i, o') ∈ L → τ i ≠ k)
  | [], k, o, h => by
    right
    unfold hput at h
    simp only [List.foldr_nil] at h
    induction L with
    | nil => exact ⟨h, fun i o' hm => by cases hm⟩
    | cons p L ih =>
      simp only [List.foldr_cons, hget_del] at h
      split at h
      · cases h
      · rename_i hne
        obtain ⟨h1, h2⟩ := ih h
        refine ⟨h1, fun i o' hm => ?_⟩
        rcases List.mem_cons.1 hm with e | hm
        · rw [← e] at hne; exact hne
        · exact h2 i o' hm
  | p :: L', k, o, h => by
    have e : hput τ L (p :: L') H = hadd (τ p.1) (p.2.ren τ) (hput τ L L' H) := rfl
    rw [e, hget_add] at h
    split at h
    · rename_i hk
      injection h with h
      exact .inl ⟨p.1, p.2, by simp, hk.symm, h.symm⟩
    · rcases hput_get h with ⟨i, o', h1, h2, h3⟩ | h'
      · exact .inl ⟨i, o', by simp [h1], h2, h3⟩
      · exact .inr h'

end Go.Proofs.Ytndpejmebhcaaaa
/- One operation of a region, with its guard: the evaluator's step, and that the model's run is told by it. -/
namespace Go.Proofs.Ytndpejmebhcaaaa
open Go.RowKit

def gval (e : T) : Option (Slot × Bool) → Bool
  | none => true
  | some (p, want) => match e.get p with
    | .d (.lit (.bool b)) => b == want
    | .whn g (.d (.lit (.bool b))) => g && (b == want)
    | _ => false
def gok (e : T) : Option (Slot × Bool) → Prop
  | none => True
  | some (p, _) => match e.get p with
    | .d (.lit (.bool _)) => True
    | .whn _ (.d (.lit (.bool _))) => True
    | _ => False
def wrap (e : T) (gd : Option (Slot × Bool)) (x : AV) : AV :=
  match gd with
  | none => x
  | some _ => .whn (gval e gd) x
def setD (e : T) (d : Option Slot) (x : AV) : T :=
  match d with
  | none => e
  | some p => e.set p x

def callArgs (f : AV) (args : List AV) : Option (FuncId × List AV) :=
  match f with
  | .d (.fn F caps) => some (F, args ++ caps.map .d)
  | .fn F caps => some (F, args ++ caps)
  | _ => none

def mapO (f : AV → Option DV) : List AV → Option (List DV)
  | [] => some []
  | a :: r => match f a, mapO f r with
    | some x, some l => some (x :: l)
    | _, _ => none

def AV.dv : AV → DV
  | .d x => x
  | _ => .top
/-- What a slot's content reads as while none of the call's own objects is turned; p: pointers to such are let through. -/
def frz (p : Bool) (H : Heap) : Nat → AV → Option DV
  | 0, .d x => some x
  | 0, _ => none
  | _ + 1, .d x => some x
  | n + 1, .ptr id off => match p, hget H id with
    | true, some (.box cs) => (mapO (frz p H n) cs).map (fun ds => .cref ds off)
    | _, _ => none
  | _ + 1, .own id len => match hget H id with
    | some (.row _ n len' row) => if len' = len then some (.sl n len row) else none
    | some (.vec _ n len' row) => if p = true ∧ len' = len then some (.sl n len fun i => (row i).map AV.dv) else none
    | _ => none
  | _ + 1, .el _ _ _ _ => none
  | n + 1, .fn F caps => (mapO (frz p H n) caps).map (fun ds => .fn F ds)
  | n + 1, .agg cs => (mapO (frz p H n) cs).map (fun ds => .agg ds)
  | n + 1, .tup cs => (mapO (frz p H n) cs).map (fun ds => .tup ds)
  | _ + 1, .whn _ _ => none
  | _ + 1, .mp _ => none

def DV.isLit : DV → Bool
  | .lit _ => true
  | _ => false
def DV.flat : DV → Bool
  | .lit _ => true
  | .agg cs => cs.all DV.isLit
  | .tup cs => cs.all DV.isLit
  | _ => false

theorem frz_sub {p : Bool} {H1 H : Heap} (hs : Sub H1 H) : ∀ (n : Nat) (a : AV) (x : DV), frz p H1 n a = some x → frz p H n a = some x := by
  intro n
  induction n with
  | zero => intro a x h; cases a <;> simp [frz] at h ⊢; exact h
  | succ n ih =>
    have hm : ∀ (l : List AV) (ds : List DV), mapO (frz p H1 n) l = some ds → mapO (frz p H n) l = some ds := by
      intro l
      induction l with
      | nil => intro ds h; exact h
      | cons a l ihl =>
        intro ds h
        simp only [mapO] at h ⊢
        split at h
        · rename_i x r h1 h2
          rw [ih a x h1, ihl r h2]
          exact h
        · cases h
    intro a x h
    cases a with
    | d y => simpa [frz] using h
    | whn => simp [frz] at h
    | mp => simp [frz] at h
    | el => simp [frz] at h
    | ptr id off =>
      simp only [frz] at h ⊢
      split at h
      · rename_i cs _ ho
        rw [hs _ _ ho]
        simp only [Option.map_eq_some_iff] at h ⊢
        obtain ⟨ds, h1, h2⟩ := h
        exact ⟨ds, hm _ _ h1, h2⟩
      · cases h
    | own id len =>
      simp only [frz] at h ⊢
      split at h
      · rename_i ho
        rw [hs _ _ ho]
        exact h
      · rename_i ho
        rw [hs _ _ ho]
        exact h
      · cases h
    | fn F caps =>
      simp only [frz, Option.map_eq_some_iff] at h ⊢
      obtain ⟨ds, h1, h2⟩ := h
      exact ⟨ds, hm _ _ h1, h2⟩
    | agg cs =>
      simp only [frz, Option.map_eq_some_iff] at h ⊢
      obtain ⟨ds, h1, h2⟩ := h
      exact ⟨ds, hm _ _ h1, h2⟩
    | tup cs =>
      simp only [frz, Option.map_eq_some_iff] at h ⊢
      obtain ⟨ds, h1, h2⟩ := h
      exact ⟨ds, hm _ _ h1, h2⟩
theorem mapO_sub {p : Bool} {H1 H : Heap} (hs : Sub H1 H) {n : Nat} : ∀ {l : List AV} {ds : List DV}, mapO (frz p H1 n) l = some ds → mapO (frz p H n) l = some ds := by
  intro l
  induction l with
  | nil => intro ds h; exact h
  | cons a l ih =>
    intro ds h
    simp only [mapO] at h ⊢
    split at h
    · rename_i x r h1 h2
      rw [frz_sub hs n a x h1, ih h2]
      exact h
    · cases h

/-- The objects that were there whn the region began. -/
def hlow (nx : Nat) (H : Heap) : Heap := fun k => if k < nx ∨ 1000000 ≤ k then H k else none
theorem hget_low (nx : Nat) (H : Heap) (k : Nat) : hget (hlow nx H) k = if k < nx ∨ 1000000 ≤ k then hget H k else none := rfl
/-- The objects but rows that are appended to. -/
def hnr (H : Heap) : Heap := fun k => match H k with
  | some (.row _ _ _ _) => none
  | o => o
/-- The objects but those that some slots point to ([]: but rows that are appended to). -/
def hnot (e : T) : List Slot → Heap → Heap
  | [], H => H
  | [] :: ps, H => hnot e ps (hnr H)
  | (b :: p) :: ps, H => hnot e ps (match (e.get (b :: p)).strip with
    | .ptr id _ => hdel H id
    | .el id _ _ _ => hdel H id
    | _ => H)
theorem hget_nr (H : Heap) (k : Nat) : hget (hnr H) k = match hget H k with
  | some (.row _ _ _ _) => none
  | o => o := rfl
theorem Sub.nr_self (H : Heap) : Sub (hnr H) H := by
  intro k o hk
  rw [hget_nr] at hk
  split at hk
  · cases hk
  · exact hk
theorem Sub.del {H1 H : Heap} (h : Sub H1 H) (i : Nat) : Sub (hdel H1 i) (hdel H i) := by
  intro k o hk
  rw [hget_del] at hk ⊢
  split at hk
  · cases hk
  · rename_i hne; rw [if_neg hne]; exact h _ _ hk
theorem Sub.del_self (H : Heap) (i : Nat) : Sub (hdel H i) H := by
  intro k o hk
  rw [hget_del] at hk
  split at hk
  · cases hk
  · exact hk
theorem Sub.tr {H1 H2 H3 : Heap} (h : Sub H1 H2) (k : Sub H2 H3) : Sub H1 H3 := fun i o hi => k _ _ (h _ _ hi)
theorem Sub.nr {H1 H : Heap} (h : Sub H1 H) : Sub (hnr H1) (hnr H) := by
  intro k o hk
  rw [hget_nr] at hk ⊢
  cases h1 : hget H1 k with
  | none => rw [h1] at hk; cases hk
  | some o1 =>
    rw [h1] at hk
    rw [h _ _ h1]
    exact hk
theorem hnot_sub (e : T) : ∀ (ps : List Slot) (H : Heap), Sub (hnot e ps H) H
  | [], H => Sub.refl H
  | [] :: ps, H => by
    simp only [hnot]
    exact (hnot_sub e ps _).tr (Sub.nr_self H)
  | (b :: p) :: ps, H => by
    simp only [hnot]
    refine (hnot_sub e ps _).tr ?_
    split
    · exact Sub.del_self H _
    · exact Sub.del_self H _
    · exact Sub.refl H
theorem hnot_mono (e : T) : ∀ (ps : List Slot) {H1 H : Heap}, Sub H1 H → Sub (hnot e ps H1) (hnot e ps H)
  | [], _, _, h => h
  | [] :: ps, H1, H, h => by
    simp only [hnot]
    exact hnot_mono e ps h.nr
  | (b :: p) :: ps, H1, H, h => by
    simp only [hnot]
    refine hnot_mono e ps ?_
    split
    · exact h.del _
    · exact h.del _
    · exact h
/-- The objects that an operation may read. -/
def lowH (lo : Option (Nat × List Slot)) (e : T) (id : Nat) (H : Heap) : Heap :=
  match lo with
  | some (i, ps) => hnot e ps (hlow (id - i) H)
  | none => H
def AOper.hv (ao : AOper) (e : T) (id : Nat) (H : Heap) : Heap := lowH ao.low e id H
theorem hlow_sub (n : Nat) (H : Heap) : Sub (hlow n H) H := by
  intro k o h
  rw [hget_low] at h
  split at h
  · exact h
  · cases h
theorem hv_sub (ao : AOper) (e : T) (id : Nat) (H : Heap) : Sub (ao.hv e id H) H := by
  unfold AOper.hv lowH
  split
  · exact (hnot_sub e _ _).tr (hlow_sub _ H)
  · exact Sub.refl H

/-- A call whose result is a row of its own making. -/
def calloOk (vc : Bool) (P : Program) (e : T) (H : Heap) (te : TypeId) (n : Nat) (f : Opd) (args : List Opd) (r : DV) : Prop :=
  liveAll e (f :: args) ∧ ∃ F avs ds len row, callArgs (f.av e).strip (args.map fun x => (x.av e).strip) = some (F, avs) ∧ mapO (frz false H 5) avs = some ds ∧ r = .sl n len row ∧ AOwnB vc P F ds te n len row

def ownOf (te : TypeId) (r : DV) : AObj :=
  match r with
  | .sl n len row => .row te n len row
  | _ => .box []
def vecOf (te : TypeId) (r : DV) : AObj :=
  match r with
  | .sl n len row => .vec te n len fun i => (row i).map .d
  | _ => .box []
def lenOf (r : DV) : Nat :=
  match r with
  | .sl _ len _ => len
  | _ => 0

/-- The first store into an object that the region itself makes. -/
def iniOk (H : Heap) (k id : Nat) (a x : AV) : Prop :=
  a = .ptr id 0 ∧ x.cellOk k = true ∧ x.cells.all (·.there hnil) = true ∧ match hget H id with
    | some (.box cs) => cs.length = k
    | _ => False

def callOk (P : Program) (e : T) (H : Heap) (f : Opd) (args : List Opd) (r : DV) : Prop :=
  liveAll e (f :: args) ∧ ∃ F as ds, callArgs (f.av e).strip (args.map fun x => (x.av e).strip) = some (F, as) ∧ (mapO (frz false H 5) as = some ds ∨ (mapO (frz true H 5) as = some ds ∧ r.flat = true)) ∧ APure P F ds r

/-- A call of a function that turns objects of the call's own. -/
def effOk (P : Program) (e : T) (H : Heap) (id : Nat) (f : Opd) (args : List Opd) : Rz → Prop
  | .ef x τ L L' => liveAll e (f :: args) ∧ τ 999999 = id ∧ (∃ F avs as, callArgs (f.av e).strip (args.map fun x => (x.av e).strip) = some (F, avs) ∧ cellsLe noR (gOf τ L) avs as ∧ AEff P F as L x L') ∧ HLe noR (gOf τ L) H L ∧ srcApart (gOf τ L) L ∧ idsOk L L'
  | .d _ => False
def effH (r : Rz) (H : Heap) : Heap :=
  match r with
  | .ef _ τ L L' => hput τ L L' H
  | .d _ => H

/-- A map with another value at a key. -/
def msetH (H : Heap) (x k v : AV) : Heap :=
  match x, k, v with
  | .mp id, .d (.lit kv), .d (.lit u) => match hget H id with
    | some (.map kd n f) => hset H id (.map kd (if (f kv).isSome then n else n + 1) (mset f kv u))
    | _ => H
  | _, _, _ => H
def msetOk (H : Heap) (kd : TypeDesc) (x k v : AV) : Prop :=
  match x, k, v with
  | .mp id, .d (.lit kv), .d (.lit _) => (match hget H id with
    | some (.map kd' _ _) => kd' = kd
    | _ => False) ∧ kdOk kd kv = true
  | _, _, _ => False

/-- One step; r: what a call hands back; id: the number of a new object. -/
def stp (r : Rz) (id : Nat) (ao : AOper) (e : T) (H : Heap) : T × Heap :=
  match ao.op with
  | .call _ _ _ => (setD e ao.dst (wrap e ao.guard (.d r.x)), H)
  | .callo te _ _ _ => (setD e ao.dst (.own id (lenOf r.x)), hadd id (ownOf te r.x) H)
  | .callv te _ _ _ => (setD e ao.dst (.own id (lenOf r.x)), hadd id (vecOf te r.x) H)
  | .calle _ _ => (setD e ao.dst (.d r.x), effH r H)
  | .ini back _ x _ => (e, hset H (id - back) (.box (x.av e).strip.cells))
  | .box true x => (setD e ao.dst (match allD (x.av e).strip.cells with | some ds => .d (.cref ds 0) | none => .d .top), H)
  | .box false x => (setD e ao.dst (.ptr id 0), hadd id (.box (x.av e).strip.cells) H)
  | .new zs => (setD e ao.dst (.ptr id 0), hadd id (.box (zs.map fun z => .d (.lit z))) H)
  | .nrow t n => (setD e ao.dst (.own id 0), hadd id (.row t n 0 fun _ => []) H)
  | .st a x _ => (e, stH H (a.av e).strip (x.av e).strip)
  | .app t n _ s x => (setD e ao.dst (appV H t n id (s.av e).strip (x.av e).strip).1, (appV H t n id (s.av e).strip (x.av e).strip).2)
  | .vapp t n _ s x => (setD e ao.dst (appG true H t n id (s.av e).strip (x.av e).strip).1, (appG true H t n id (s.av e).strip (x.av e).strip).2)
  | .mmk kd => (setD e ao.dst (.mp id), hadd id (.map kd 0 fun _ => none) H)
  | .mset x k v _ => (e, msetH H (x.av e).strip (k.av e).strip (v.av e).strip)
  | op => (setD e ao.dst (wrap e ao.guard (op.val e (ao.hv e id H))), H)

def okS (P : Program) (r : Rz) (id : Nat) (ao : AOper) (e : T) (H : Heap) : Prop :=
  match ao.op with
  | .call c f args => gok e ao.guard ∧ (gval e ao.guard = true → callOk P e (hc c (ao.hv e id H)) f args r.x)
  | .callo te n f args => ao.guard = none ∧ calloOk false P e H te n f args r.x
  | .callv te n f args => ao.guard = none ∧ calloOk true P e H te n f args r.x
  | .calle f args => ao.guard = none ∧ effOk P e H id f args r
  | .ini back a x k => ao.guard = none ∧ ao.dst = none ∧ (a.av e).live ∧ (x.av e).live ∧ iniOk H k (id - back) (a.av e).strip (x.av e).strip
  | .bad => False
  | .box imm x => ao.guard = none ∧ (x.av e).live ∧ (x.av e).strip.cellOk (x.av e).strip.cells.length = true ∧ (x.av e).strip.cells.all (·.there (hc imm H)) = true ∧ (imm = true → (allD (x.av e).strip.cells).isSome = true)
  | .new _ => ao.guard = none
  | .nrow _ _ => ao.guard = none
  | .st a x k => ao.guard = none ∧ ao.dst = none ∧ (a.av e).live ∧ (x.av e).live ∧ stOk H k (a.av e).strip (x.av e).strip
  | .app t n b s x => ao.guard = none ∧ (s.av e).live ∧ (x.av e).live ∧ appOk H t n b (s.av e).strip (x.av e).strip
  | .vapp t n b s x => ao.guard = none ∧ (s.av e).live ∧ (x.av e).live ∧ appGOk true H t n b (s.av e).strip (x.av e).strip
  | .mmk _ => ao.guard = none
  | .mset x k v kd => ao.guard = none ∧ ao.dst = none ∧ (x.av e).live ∧ (k.av e).live ∧ (v.av e).live ∧ msetOk H kd (x.av e).strip (k.av e).strip (v.av e).strip
  | op => gok e ao.guard ∧ (gval e ao.guard = true → op.ok e (ao.hv e id H))

inductive TrOp (P : Program) (D : Nat) : Op → AOp → Prop
  | val {o ao} (h : TrVal P D o ao) : TrOp P D o ao
  | call {f args ts f' args'} (h : TrOpd D f f') (hs : TrOpds D args args') (c : Bool) : TrOp P D (.call { callee := .value f, args := args.toArray, argTypes := ts }) (.call c f' args')
  | callo {f args ts f' args'} (h : TrOpd D f f') (hs : TrOpds D args args') (te n) : TrOp P D (.call { callee := .value f, args := args.toArray, argTypes := ts }) (.callo te n f' args')
  | callv {f args ts f' args'} (h : TrOpd D f f') (hs : TrOpds D args args') (te n) : TrOp P D (.call { callee := .value f, args := args.toArray, argTypes := ts }) (.callv te n f' args')
  | calle {f args ts f' args'} (h : TrOpd D f f') (hs : TrOpds D args args') : TrOp P D (.call { callee := .value f, args := args.toArray, argTypes := ts }) (.calle f' args')
  | ini {t a x a' x' inf} (hi : P.info? t = some inf) (ha : TrOpd D a a') (hx : TrOpd D x x') (back : Nat) : TrOp P D (.store t a x) (.ini back a' x' inf.size)
  | bad {o} : TrOp P D o .bad
  | box {t o x} (imm : Bool) (h : TrOpd D o x) : TrOp P D (.box t o) (.box imm x)
  | new {t i z} (hi : P.info? t = some i) (hz : i.zero = some z) : TrOp P D (.alloc t) (.new z.cells.toList)
  | nrow {t e ie} (hu : P.underlying t = some (.slice e)) (hi : P.info? e = some ie) : TrOp P D (.buildSlice t 0 #[]) (.nrow e ie.size)
  | st {t a x a' x' inf} (hi : P.info? t = some inf) (ha : TrOpd D a a') (hx : TrOpd D x x') : TrOp P D (.store t a x) (.st a' x' inf.size)
  | app {t e s x s' x' i z} (ht : P.underlying t = some (.slice e)) (hi : P.info? e = some i) (hz : i.zero = some z) (hzs : z.cells.size = i.size) (hsz : 0 < i.size) (hby : 0 < i.bytes) (hs : TrOpd D s s') (hx : TrOpd D x x') :
      TrOp P D (.call { callee := .builtin .append, args := #[s, x], argTypes := #[t, t] }) (.app e i.size i.bytes s' x')
  | vapp {t e s x s' x' i z} (ht : P.underlying t = some (.slice e)) (hi : P.info? e = some i) (hz : i.zero = some z) (hzs : z.cells.size = i.size) (hsz : 0 < i.size) (hby : 0 < i.bytes) (hs : TrOpd D s s') (hx : TrOpd D x x') :
      TrOp P D (.call { callee := .builtin .append, args := #[s, x], argTypes := #[t, t] }) (.vapp e i.size i.bytes s' x')

  | mmk {t kt et kd} (hu : P.underlying t = some (.map kt et)) (hk : P.underlying kt = some kd) : TrOp P D (.makeMap t none) (.mmk kd)
  | mset {t kt et kd x k v x' k' v'} (hu : P.underlying t = some (.map kt et)) (hk : P.underlying kt = some kd) (hx : TrOpd D x x') (h : TrOpd D k k') (hv : TrOpd D v v') : TrOp P D (.mapUpdate t x k v) (.mset x' k' v' kd)

/-- An operation of a region, as the evaluator's own. -/
structure TrOper (P : Program) (D N : Nat) (ops : Array Oper) (o : Oper) (ao : AOper) : Prop where
  dst : o.dst = ao.dst.map Slot.idx
  dstD : ∀ p, ao.dst = some p → p.length = D ∧ p.idx < N
  guard : (o.guard = none ∧ ao.guard = none) ∨ ∃ j want p, o.guard = some (j, want) ∧ ao.guard = some (p, want) ∧ p.length = D ∧ p.idx < N ∧ (ops[j]?).bind (·.dst) = some p.idx
  op : TrOp P D o.op ao.op

/-- A base: a world that was, and what might turn in it; numbers that stay; where maps of the call's own may lie. -/
structure Bs where
  X1 : Nat → Nat → Prop
  W1 : World
  γ1 : Nat → Option Value
  MB : Nat → Prop
  Hf : Heap
  lo : Nat
/-- A base that asks of no numbers but those from 1000000 on that they stay, and nothing of maps. -/
def Bs.free (B : Bs) : Prop := (∀ i v, B.γ1 i = some v → 1000000 ≤ i) ∧ (∀ b, B.MB b) ∧ B.lo ≤ B.W1.heap.size

/-- Maps are where maps were. -/
def MapsIn (H H' : Heap) : Prop := ∀ k kd n f, hget H' k = some (.map kd n f) → ∃ n' f', hget H k = some (.map kd n' f')
def isMapO : AObj → Bool
  | .map .. => true
  | _ => false
theorem MapsIn.refl (H : Heap) : MapsIn H H := fun _ _ n f h => ⟨n, f, h⟩
theorem MapsIn.trans {H H' H'' : Heap} (h : MapsIn H H') (k : MapsIn H' H'') : MapsIn H H'' := fun j kd n f hj => by
  obtain ⟨n', f', h1⟩ := k j kd n f hj
  exact h j kd n' f' h1
theorem MapsIn.add {H : Heap} {id : Nat} {o : AObj} (ho : isMapO o = false) : MapsIn H (hadd id o H) := by
  intro k kd n f h
  simp only [hget_add] at h
  split at h
  · injection h with h; subst h; cases ho
  · exact ⟨n, f, h⟩
theorem MapsIn.del {H : Heap} {id : Nat} : MapsIn H (hdel H id) := by
  intro k kd n f h
  simp only [hget_del] at h
  split at h
  · cases h
  · exact ⟨n, f, h⟩
theorem MapsIn.set {H : Heap} {id : Nat} {o : AObj} (ho : isMapO o = false ∨ ∃ kd n f n' f', o = .map kd n f ∧ hget H id = some (.map kd n' f')) : MapsIn H (hset H id o) := by
  intro k kd n f h
  simp only [hget_set] at h
  split at h
  · rename_i e
    subst e
    cases hh : hget H id with
    | none => rw [hh] at h; cases h
    | some o' =>
      rw [hh] at h
      simp at h
      subst h
      rcases ho with ho | ⟨kd', n1, f1, n2, f2, he, h2⟩
      · cases ho
      · injection he with e1 e2 e3
        subst e1
        rw [hh] at h2
        injection h2 with h2
        exact ⟨n2, f2, by rw [h2]⟩
  · exact ⟨n, f, h⟩
theorem MapsIn.st (H : Heap) (a x : AV) : MapsIn H (stH H a x) := by
  unfold stH
  split
  · split
    · exact .set (.inl rfl)
    · exact .refl _
  · split
    · exact .set (.inl rfl)
    · exact .refl _
  · exact .refl _
theorem MapsIn.app (H : Heap) (e : TypeId) (n id : Nat) (s x : AV) : MapsIn H (appV H e n id s x).2 := by
  unfold appV
  split
  · rename_i o len row m more _ _
    refine MapsIn.trans (H' := hdelO o H) ?_ (.add rfl)
    cases o with
    | none => exact .refl _
    | some k => exact .del
  · exact .refl _

theorem MapsIn.appG (H : Heap) (vc : Bool) (e : TypeId) (n id : Nat) (s x : AV) : MapsIn H (appG vc H e n id s x).2 := by
  unfold Proofs.Ytndpejmebhcaaaa.appG
  split
  · rename_i o len row m more _ _
    refine MapsIn.trans (H' := hdelO o H) ?_ (.add (by cases vc <;> rfl))
    cases o with
    | none => exact .refl _
    | some k => exact .del
  · exact .refl _

theorem MapsIn.put {τ : Nat → Nat} {L L' : List (Nat × AObj)} {H : Heap} (hle : HLe noR (gOf τ L) H L) (h : idsOk L L') : MapsIn H (hput τ L L' H) := by
  intro k kd n f hk
  rcases hput_get hk with ⟨i, o', h1, rfl, h2⟩ | ⟨h1, _⟩
  · have key : ∀ {R : List (Nat × AObj)}, idsOk L R → (i, o') ∈ R → ∃ n' f', hget H (τ i) = some (.map kd n' f') := by
      intro R
      induction R with
      | nil => intro _ hm; cases hm
      | cons p R ih =>
        obtain ⟨j, oj⟩ := p
        intro hR hm
        rcases List.mem_cons.1 hm with e | hm
        · injection e with e1 e2
          subst e1; subst e2
          cases o' with
          | map kd' n' f' =>
            simp only [AObj.ren] at h2
            injection h2 with h3 h4 h5
            subst h3
            have h6 := hR.1
            simp only at h6
            split at h6
            · rename_i q kd'' n'' f'' hf
              subst h6
              have hm' := List.mem_of_find?_eq_some hf
              have hq := List.find?_some hf
              simp only [beq_iff_eq] at hq
              subst hq
              rcases hle.mem hm' with ⟨k, o, hk1, hk2, hk3⟩ | ⟨hk1, _⟩
              · rw [gOf_mem hm'] at hk1
                injection hk1 with hk1
                subst hk1
                cases o with
                | map kd3 n3 f3 =>
                  obtain ⟨rfl, _, _⟩ := hk3
                  exact ⟨n3, f3, hk2⟩
                | box => exact hk3.elim
                | row => exact hk3.elim
                | vec => exact hk3.elim
              · exact absurd hk1 (gOf_nil _)
            · exact h6.elim
          | box => simp [AObj.ren] at h2
          | row => simp [AObj.ren] at h2
          | vec => simp [AObj.ren] at h2
        · exact ih hR.2 hm
    exact key h h1
  · exact ⟨n, f, h1⟩

/-- What a range over a function leaves to be done at the function's end. -/
def markOf (K : Nat) : Deferred := { target := .collected K, args := #[] }

structure FR (D N : Nat) (X0 : Nat → Nat → Prop) (W0 : World) (B : Bs) (γ : Nat → Option Value) (a : Act) (w : World) (e : T) (H : Heap) : Prop where
  st : St X0 W0 γ w H
  env : EnvRep D γ (XOf X0 γ H) w a e
  size : a.tmps.size = N
  marks : ∃ Ks : List Nat, a.defers = Ks.map markOf ∧ Ks.Nodup ∧ ∀ K, K ∈ Ks → W0.heap.size ≤ K ∧ w.heap[K]? = some (.deferred (some [])) ∧ ¬ XOf X0 γ H K 0 ∧ B.MB K ∧ B.lo ≤ K
  base : Keeps B.X1 (XOf X0 γ H) B.W1 w
  pin : Knows B.γ1 γ
  mb : ∀ id kd n f v b, hget H id = some (.map kd n f) → γ id = some v → blk v = some b → B.MB b

section
variable {P : Program} {D N : Nat} {X0 : Nat → Nat → Prop} {W0 : World} {B : Bs} {γ : Nat → Option Value} {w : World} {H : Heap} {a : Act} {e : T} {ops : Array Oper} {o : Oper} {ao : AOper}

theorem gok_wanted (tr : TrOper P D N ops o ao) (hE : EnvRep D γ (XOf X0 γ H) w a e) (hs : a.tmps.size = N) (hok : gok e ao.guard) : Region.wanted o (yielded ops a.tmps) = gval e ao.guard := by
  rcases tr.guard with ⟨h1, h2⟩ | ⟨j, want, p, h1, h2, h3, h4, h5⟩
  · simp [Region.wanted, h1, h2, gval]
  · simp only [Region.wanted, h1, h2, gval]
    rw [h2] at hok
    simp only [gok] at hok
    have hr := hE p h3
    have hy : yielded ops a.tmps j = match a.tmps.getD p.idx undef with | .bool b => some b | _ => none := by
      unfold yielded
      rw [h5]
      have : a.tmps[p.idx]? = some (a.tmps.getD p.idx undef) := by
        rw [Array.getD_eq_getD_getElem?, Array.getElem?_eq_getElem (by omega)]; rfl
      simp only [Option.bind_some, this]
      cases a.tmps.getD p.idx undef <;> rfl
    rw [hy]
    split at hok
    · rename_i b heq
      rw [heq] at hr
      rw [hr.lit]
      simp
    · rename_i g b heq
      rw [heq] at hr
      generalize a.tmps.getD p.idx undef = v at hr
      cases hr with | whn _ _ _ k k0 =>
      cases g with
      | true => rw [(k rfl).lit]; simp
      | false => rw [k0 rfl]; simp [undef]
    · exact hok.elim

theorem FR.mono {γ' : Nat → Option Value} {w' : World} {H' : Heap} (h : FR D N X0 W0 B γ a w e H) (hk : Knows γ γ') (k : Keeps (XOf X0 γ H) (XOf X0 γ' H') w w') (hS : St X0 W0 γ' w' H') (hm : MapsIn H H') : FR D N X0 W0 B γ' a w' e H' :=
  ⟨hS, h.env.mono hk k, h.size, by
    obtain ⟨Ks, h1, hn, h2⟩ := h.marks
    exact ⟨Ks, h1, hn, fun K hK => ⟨(h2 K hK).1, k.others K _ (h2 K hK).2.1 rfl (h2 K hK).2.2.1, (fun h' => (h2 K hK).2.2.1 (k.sub K 0 (Array.getElem?_eq_some_iff.1 (h2 K hK).2.1).1 h')), (h2 K hK).2.2.2⟩⟩, h.base.trans k, fun id v hv => hk _ _ (h.pin id v hv), fun id kd n f v b h1 h2 h3 => by
    obtain ⟨n', f', h4⟩ := hm id kd n f h1
    obtain ⟨u, hu, _⟩ := h.st.obj id _ h4
    have := hk _ _ hu
    rw [h2] at this
    injection this with this
    subst this
    exact h.mb id kd n' f' v b h4 hu h3⟩

theorem FR.put (h : FR D N X0 W0 B γ a w e H) (tr : TrOper P D N ops o ao) {v : Value} {x : AV} (hv : Rep γ (XOf X0 γ H) w v x) : FR D N X0 W0 B γ (a.put o.dst v) w (setD e ao.dst x) H := by
  refine ⟨h.st, ?_, (put_size _ _ _).trans h.size, by rw [put_defers]; exact h.marks, h.base, h.pin, h.mb⟩
  rw [tr.dst]
  cases hd : ao.dst with
  | none => exact h.env
  | some p =>
    obtain ⟨h1, h2⟩ := tr.dstD p hd
    exact h.env.put h1 (by rw [h.size]; exact h2) hv

theorem Rep.wrap (hg : gval e ao.guard = true) {v : Value} {x : AV} (hv : Rep γ (XOf X0 γ H) w v x) : Rep γ (XOf X0 γ H) w v (Proofs.Ytndpejmebhcaaaa.wrap e ao.guard x) := by
  unfold Proofs.Ytndpejmebhcaaaa.wrap
  cases hgd : ao.guard with
  | none => exact hv
  | some g => exact .whn _ _ _ (fun _ => hv) (fun h => by rw [← hgd, hg] at h; cases h)

theorem Rep.wrapF (hg : gval e ao.guard = false) (x : AV) : Rep γ (XOf X0 γ H) w undef (Proofs.Ytndpejmebhcaaaa.wrap e ao.guard x) := by
  unfold Proofs.Ytndpejmebhcaaaa.wrap
  cases hgd : ao.guard with
  | none => rw [hgd] at hg; cases hg
  | some g => exact .whn _ _ _ (fun h => by rw [← hgd, hg] at h; cases h) (fun _ => rfl)

theorem mapO_reps {f : AV → Option DV} {X : Nat → Nat → Prop} (hf : ∀ v a x, Rep γ (XOf X0 γ H) w v a → f a = some x → DRep X w v x) : ∀ {vs : List Value} {as : List AV} {ds : List DV}, Reps γ (XOf X0 γ H) w vs as → mapO f as = some ds → DReps X w vs ds
  | vs, [], ds, h, hm => by
    have : vs = [] := by have := h.1; simpa using this
    simp [mapO] at hm
    subst this; subst hm
    exact DReps.nil _ _
  | [], a :: as, ds, h, hm => by exact absurd h.1 (by simp)
  | v :: vs, a :: as, ds, h, hm => by
    simp only [mapO] at hm
    split at hm
    · rename_i x l hx hl
      injection hm with hm
      subst hm
      exact DReps.cons (hf v a x (h.2 0 (by simp) (by simp)) hx) (mapO_reps hf ⟨by simpa using h.1, fun i hi hi' => h.2 (i + 1) (by simpa using hi) (by simpa using hi')⟩ hl)
    · cases hm

/-- A row whose elements may turn, as its callers see it. -/
theorem vec_rep (hS : St X0 W0 γ w H) {id te n len : Nat} {row : Nat → List AV} {v : Value} (ho : hget H id = some (.vec te n len row)) (hv : γ id = some v) : DRep X0 w v (.sl n len fun i => (row i).map AV.dv) := by
  have hsub : Keeps (XOf X0 γ H) X0 w w := .same fun _ _ _ h => .inl h
  obtain ⟨u, hu, xs, hown, hr⟩ := hS.obj id _ ho
  rw [hv] at hu
  injection hu with hu
  subst hu
  rcases hown.2 with ⟨rfl, rfl⟩ | ⟨g, cap, cur, rfl, hbg, hg, hnc, hcm, hcs, htake⟩
  · exact .nil _ _
  · refine .sl g 0 cap n len _ xs hnc hcm (Array.getElem?_eq_some_iff.1 hg).1 (fun i hi j hj hX => ?_) (fun i hi => ⟨by simpa using (hr i hi).2.1.symm.trans (hr i hi).1, (hr i hi).1⟩) (fun i hi j u hu => ?_) (fun i hi j hj hj' => ?_)
    · have := hS.hx g _ hX; omega
    · rw [Nat.zero_add]
      exact vec_cells hown (fun i hi => (hr i hi).1) hi j u hu
    · have hj2 : j < (row i).length := by simpa using hj'
      have h := (hr i hi).2.2 j hj hj2
      simp only [List.getElem_map]
      generalize (row i)[j] = q at h
      generalize (xs i)[j] = y at h
      cases h with
      | d _ x h => exact h.mono hsub
      | _ => exact .top _

theorem frz_own (hS : St X0 W0 γ w H) : ∀ (n : Nat) {v : Value} {av : AV} {x : DV}, Rep γ (XOf X0 γ H) w v av → frz false H n av = some x → DRep (XOf X0 γ H) w v x := by
  intro n
  induction n with
  | zero =>
    intro v av x h hf
    cases h with
    | d _ y h => simp [frz] at hf; subst hf; exact h
    | _ => simp [frz] at hf
  | succ n ih =>
    intro v av x h hf
    cases h with
    | d _ y h => simp [frz] at hf; subst hf; exact h
    | whn => simp [frz] at hf
    | mp => simp [frz] at hf
    | el => simp [frz] at hf
    | ptr => simp [frz] at hf
    | own v id len h =>
      simp only [frz] at hf
      split at hf
      · rename_i te tn len' row ho
        split at hf
        · rename_i hc
          subst hc
          injection hf with hf
          subst hf
          exact own_rep hS ho h
        · cases hf
      · simp at hf
      · cases hf
    | fn f vs caps hl hr =>
      simp only [frz] at hf
      obtain ⟨ds, hds, rfl⟩ := Option.map_eq_some_iff.1 hf
      have := mapO_reps (fun v a x hv hx => ih hv hx) (⟨hl, hr⟩ : Reps γ (XOf X0 γ H) w vs caps) hds
      exact .fn f vs ds this.1 this.2
    | agg vs cs hl hr =>
      simp only [frz] at hf
      obtain ⟨ds, hds, rfl⟩ := Option.map_eq_some_iff.1 hf
      have := mapO_reps (fun v a x hv hx => ih hv hx) (⟨hl, hr⟩ : Reps γ (XOf X0 γ H) w vs cs) hds
      exact .agg vs ds this.1 this.2
    | tup vs cs hl hr =>
      simp only [frz] at hf
      obtain ⟨ds, hds, rfl⟩ := Option.map_eq_some_iff.1 hf
      have := mapO_reps (fun v a x hv hx => ih hv hx) (⟨hl, hr⟩ : Reps γ (XOf X0 γ H) w vs cs) hds
      exact .tup vs ds this.1 this.2

theorem frz_rep (hS : St X0 W0 γ w H) : ∀ (n : Nat) {v : Value} {av : AV} {x : DV}, Rep γ (XOf X0 γ H) w v av → frz true H n av = some x → DRep X0 w v x := by
  have hsub : Keeps (XOf X0 γ H) X0 w w := .same fun _ _ _ h => .inl h
  intro n
  induction n with
  | zero =>
    intro v av x h hf
    cases h with
    | d _ y h => simp [frz] at hf; subst hf; exact h.mono hsub
    | _ => simp [frz] at hf
  | succ n ih =>
    intro v av x h hf
    cases h with
    | d _ y h => simp [frz] at hf; subst hf; exact h.mono hsub
    | whn => simp [frz] at hf
    | mp => simp [frz] at hf
    | el => simp [frz] at hf
    | ptr b id off h =>
      simp only [frz] at hf
      split at hf
      · rename_i cs _ ho
        obtain ⟨ds, hds, rfl⟩ := Option.map_eq_some_iff.1 hf
        obtain ⟨u, hu, b', arr, t, rfl, hB, hh, hr⟩ := hS.obj id _ ho
        rw [h] at hu
        injection hu with hu
        injection hu with hu
        injection hu with hu
        injection hu with hu
        subst hu
        have := mapO_reps (fun v a x hv hx => ih hv hx) hr hds
        have hc := DRep.cref (X := X0) (w := w) b 0 off ds arr.toList (Array.getElem?_eq_some_iff.1 hh).1 (fun j _ hX => by have := hS.hx b _ hX; omega) this.1 (box_cells hh) this.2
        simpa using hc
      · cases hf
    | own v id len h =>
      simp only [frz] at hf
      split at hf
      · rename_i te tn len' row ho
        split at hf
        · rename_i hc
          subst hc
          injection hf with hf
          subst hf
          exact (own_rep hS ho h).mono hsub
        · cases hf
      · rename_i te tn len' row ho
        split at hf
        · rename_i hc
          obtain ⟨_, hc⟩ := hc
          subst hc
          injection hf with hf
          subst hf
          exact vec_rep hS ho h
        · cases hf
      · cases hf
    | fn f vs caps hl hr =>
      simp only [frz] at hf
      obtain ⟨ds, hds, rfl⟩ := Option.map_eq_some_iff.1 hf
      have := mapO_reps (fun v a x hv hx => ih hv hx) (⟨hl, hr⟩ : Reps γ (XOf X0 γ H) w vs caps) hds
      exact .fn f vs ds this.1 this.2
    | agg vs cs hl hr =>
      simp only [frz] at hf
      obtain ⟨ds, hds, rfl⟩ := Option.map_eq_some_iff.1 hf
      have := mapO_reps (fun v a x hv hx => ih hv hx) (⟨hl, hr⟩ : Reps γ (XOf X0 γ H) w vs cs) hds
      exact .agg vs ds this.1 this.2
    | tup vs cs hl hr =>
      simp only [frz] at hf
      obtain ⟨ds, hds, rfl⟩ := Option.map_eq_some_iff.1 hf
      have := mapO_reps (fun v a x hv hx => ih hv hx) (⟨hl, hr⟩ : Reps γ (XOf X0 γ H) w vs cs) hds
      exact .tup vs ds this.1 this.2

theorem DRep.toLit {X X' : Nat → Nat → Prop} {v : Value} {c : DV} (h : DRep X w v c) (hc : c.isLit = true) : DRep X' w v c := by
  cases h with
  | lit => exact .lit _
  | _ => simp [DV.isLit] at hc
theorem lits_rep {X X' : Nat → Nat → Prop} {vs : List Value} {cs : List DV} (h : cs.all DV.isLit = true) (_hl : vs.length = cs.length) (hr : ∀ i (h : i < vs.length) (h' : i < cs.length), DRep X w vs[i] cs[i]) : ∀ i (h : i < vs.length) (h' : i < cs.length), DRep X' w vs[i] cs[i] := by
  intro i hi hi'
  exact (hr i hi hi').toLit (List.all_eq_true.1 h _ (List.getElem_mem hi'))
theorem DRep.flat {X X' : Nat → Nat → Prop} {v : Value} {r : DV} (h : DRep X w v r) (hf : r.flat = true) : DRep X' w v r := by
  cases h with
  | lit => exact .lit _
  | agg vs cs hl hr => exact .agg vs cs hl (lits_rep hf hl hr)
  | tup vs cs hl hr => exact .tup vs cs hl (lits_rep hf hl hr)
  | _ => simp [DV.flat] at hf

theorem callArgs_rep {f : AV} {v : Value} {args : List AV} {vs : List Value} {F : FuncId} {as : List AV} (hf : Rep γ (XOf X0 γ H) w v f) (hs : Reps γ (XOf X0 γ H) w vs args) (h : callArgs f args = some (F, as)) :
    ∃ cs : List Value, v = .func (.func F) #[] cs.toArray ∧ Reps γ (XOf X0 γ H) w (vs ++ cs) as := by
  unfold callArgs at h
  split at h
  · rename_i G caps
    simp at h
    obtain ⟨rfl, rfl⟩ := h
    have hd := hf.dv
    cases hd with | fn _ cs _ hl hr =>
    exact ⟨cs, rfl, hs.append (DReps.reps ⟨hl, hr⟩)⟩
  · rename_i G caps
    simp at h
    obtain ⟨rfl, rfl⟩ := h
    cases hf with | fn _ cs _ hl hr =>
    exact ⟨cs, rfl, hs.append ⟨hl, hr⟩⟩
  · cases h

/-- The law of one operation. -/
theorem op_sound {Q : Exit → Act → World → Prop} {K : Act → World → Prop} (tr : TrOper P D N ops o ao) (h : FR D N X0 W0 B γ a w e H) {id : Nat} (hid : γ id = none) (r : Rz) (hok : okS P r id ao e H) (hmk : ∀ kd, ao.op = .mmk kd → ∀ b, B.MB b)
    (hK : ∀ γ' a' w', FR D N X0 W0 B γ' a' w' (stp r id ao e H).1 (stp r id ao e H).2 → Knows γ γ' → (∀ k, k ≠ id → γ' k = γ k) → K a' w') :
    if Region.wanted o (yielded ops a.tmps) = true then o.wp P a w K Q ∨ (o.asks P a w ∧ LetsOut Q) else K (a.put o.dst undef) w := by
  have hop := tr.op
  -- a value's operation
  have valcase : ∀ op, ao.op = op → TrVal P D o.op op → gok e ao.guard → (gval e ao.guard = true → op.ok e (ao.hv e id H)) → stp r id ao e H = (setD e ao.dst (wrap e ao.guard (op.val e (ao.hv e id H))), H) →
      if Region.wanted o (yielded ops a.tmps) = true then o.wp P a w K Q ∨ (o.asks P a w ∧ LetsOut Q) else K (a.put o.dst undef) w := by
    intro op hop' tv hg hok' hst
    rw [gok_wanted tr h.env h.size hg]
    rw [hst] at hK
    cases hgv : gval e ao.guard with
    | true =>
      rw [if_pos rfl]
      left
      obtain ⟨hok2, hval⟩ := AOp.sub (hv_sub ao e id H) (hok' hgv)
      obtain ⟨v, w', hr, hx, hv⟩ := tv.sound h.st h.env hok2
      rw [← hval] at hv
      unfold Oper.wp
      rw [hr]
      have h' : FR D N X0 W0 B γ a w' e H := h.mono (Knows.refl γ) (.of_ext hx) (h.st.stay hx) (.refl _)
      exact hK γ _ _ (h'.put tr (Rep.wrap hgv hv)) (Knows.refl γ) (fun _ _ => rfl)
    | false =>
      rw [if_neg (by simp)]
      exact hK γ _ _ (h.put tr (Rep.wrapF hgv _)) (Knows.refl γ) (fun _ _ => rfl)
  have nog : ao.guard = none → Region.wanted o (yielded ops a.tmps) = true := fun hg => by
    have := gok_wanted tr h.env h.size (by rw [hg]; trivial)
    rw [this, hg]; rfl
  have entered : ∀ {f : Opd} {args : List Opd} {fo : Operand} {ao' : List Operand} {ts : Array TypeId} {F : FuncId} {avs : List AV}, o.op = .call { callee := .value fo, args := ao'.toArray, argTypes := ts } → TrOpd D fo f → TrOpds D ao' args → liveAll e (f :: args) →
      callArgs (f.av e).strip (args.map fun x => (x.av e).strip) = some (F, avs) → HasBody P F → ∃ cs : List Value, (execOp a.eval o).run P w = .ok (.enter F (ao'.map a.eval ++ cs).toArray) w ∧ Reps γ (XOf X0 γ H) w (ao'.map a.eval ++ cs) avs := by
    intro f args fo ao' ts F avs hoo hf hs hlive hca hbody
    have hlf : (f.av e).live := hlive f (by simp)
    have hls : liveAll e args := fun x hx => hlive x (by simp [hx])
    obtain ⟨cs, hfv, hreps⟩ := callArgs_rep ((hf.rep h.env).strip hlf) (hs.reps h.env hls) hca
    refine ⟨cs, ?_, hreps⟩
    have hb := hbody.run (ao'.map a.eval ++ cs).toArray w
    simp only [execOp, hoo, resolve, hfv, Deferred.ofValue, Sem.run_bind, Sem.run_pure, Result.andThen_ok, invoke]
    simpa using hb
  cases hao : ao.op with
  | bad => simp only [okS, hao] at hok
  | callo te n f args =>
    rw [hao] at hop
    simp only [okS, hao] at hok
    simp only [stp, hao] at hK
    generalize hoo : o.op = oo at hop
    cases hop with
    | val tv => cases tv
    | @callo fo ao' ts _ _ hf hs _ _ =>
      obtain ⟨hg, hlive, F, avs, ds, len, row, hca, hds, hrx, hbody, hF⟩ := hok
      rw [hrx] at hK
      rw [nog hg, if_pos rfl]
      left
      obtain ⟨cs, hrun, hreps⟩ := entered hoo hf hs hlive hca hbody
      unfold Oper.wp
      rw [hrun, Oper.upon_enter]
      refine (hF (XOf X0 γ H) w _ (fun b o hb => hb.lt h.st) (by simpa using mapO_reps (fun v a x hv hx => frz_own h.st 5 hv hx) hreps hds)).mono ?_
      rintro en w' ⟨hx, v, rfl, xs, hown, hxs⟩
      have hblk : ∀ b, blk v = some b → w.heap.size ≤ b := fun b hb => (hown.lt b (by
        rcases hown.2 with ⟨rfl, _⟩ | ⟨g, cap, cur, rfl, _⟩
        · simp [blk] at hb
        · simpa [blk, Value.ownBlock] using hb)).1
      have hown' : w'.ownsRow W0.heap.size te n v len ((List.range len).flatMap xs) := by
        refine ⟨hown.1, ?_⟩
        rcases hown.2 with hn | ⟨g, cap, cur, hv, hg, rest⟩
        · exact .inl hn
        · exact .inr ⟨g, cap, cur, hv, Nat.le_trans h.st.ext.size hg, rest⟩
      have hXs : ∀ b q, XOf X0 (upd γ id v) (hadd id (.row te n len row) H) b q → XOf X0 γ H b q ∨ (blk v = some b ∧ len * n ≤ q) := by
        rintro b q (h1 | ⟨k, ob, u, h1, h2, h3, h4⟩)
        · exact .inl (.inl h1)
        · by_cases e1 : id = k
          · subst e1
            simp [upd] at h2
            subst h2
            simp [hget_add] at h1
            subst h1
            exact .inr ⟨h3, h4⟩
          · simp only [hget_add, if_neg e1] at h1
            exact .inl (.inr ⟨k, ob, u, h1, by simpa [upd, Ne.symm e1] using h2, h3, h4⟩)
      obtain ⟨hS', hkn, hk⟩ := h.st.newRow (γ' := upd γ id v) hx id hid v rfl te n len row hblk xs hown' (fun i hi => ⟨(hxs i hi).1, (hxs i hi).2.mono (.same fun b q _ hb => hXs b q hb)⟩)
      have h' : FR D N X0 W0 B _ a _ e _ := h.mono hkn hk hS' (.add rfl)
      exact hK _ _ _ (h'.put tr (.own _ id len (by simp [upd]))) hkn (fun k hk => by simp [upd, hk])
  | callv te n f args =>
    rw [hao] at hop
    simp only [okS, hao] at hok
    simp only [stp, hao] at hK
    generalize hoo : o.op = oo at hop
    cases hop with
    | val tv => cases tv
    | @callv fo ao' ts _ _ hf hs _ _ =>
      obtain ⟨hg, hlive, F, avs, ds, len, row, hca, hds, hrx, hbody, hF⟩ := hok
      rw [hrx] at hK
      rw [nog hg, if_pos rfl]
      left
      obtain ⟨cs, hrun, hreps⟩ := entered hoo hf hs hlive hca hbody
      unfold Oper.wp
      rw [hrun, Oper.upon_enter]
      refine (hF (XOf X0 γ H) w _ (fun b o hb => hb.lt h.st) (by simpa using mapO_reps (fun v a x hv hx => frz_own h.st 5 hv hx) hreps hds)).mono ?_
      rintro en w' ⟨hx, v, rfl, xs, hown, hxs⟩
      have hblk : ∀ b, blk v = some b → w.heap.size ≤ b := fun b hb => (hown.lt b (by
        rcases hown.2 with ⟨rfl, _⟩ | ⟨g, cap, cur, rfl, _⟩
        · simp [blk] at hb
        · simpa [blk, Value.ownBlock] using hb)).1
      have hown' : w'.ownsRow W0.heap.size te n v len ((List.range len).flatMap xs) := by
        refine ⟨hown.1, ?_⟩
        rcases hown.2 with hn | ⟨g, cap, cur, hv, hg, rest⟩
        · exact .inl hn
        · exact .inr ⟨g, cap, cur, hv, Nat.le_trans h.st.ext.size hg, rest⟩
      have hXs : ∀ b q, XOf X0 (upd γ id v) (hadd id (.vec te n len fun i => (row i).map .d) H) b q → XOf X0 γ H b q ∨ blk v = some b := by
        rintro b q (h1 | ⟨k, ob, u, h1, h2, h3, h4⟩)
        · exact .inl (.inl h1)
        · by_cases e1 : id = k
          · subst e1
            simp [upd] at h2
            subst h2
            exact .inr h3
          · simp only [hget_add, if_neg e1] at h1
            exact .inl (.inr ⟨k, ob, u, h1, by simpa [upd, Ne.symm e1] using h2, h3, h4⟩)
      obtain ⟨hS', hkn, hk⟩ := h.st.new (γ' := upd γ id v) hx id hid v rfl (.vec te n len fun i => (row i).map .d) hblk ⟨xs, hown', fun i hi => ⟨(hxs i hi).1, DReps.reps ((hxs i hi).2.mono (.same fun b q _ hb => hXs b q hb))⟩⟩
      have h' : FR D N X0 W0 B _ a _ e _ := h.mono hkn hk hS' (.add rfl)
      exact hK _ _ _ (h'.put tr (.own _ id len (by simp [upd]))) hkn (fun k hk => by simp [upd, hk])
  | calle f args =>
    rw [hao] at hop
    simp only [okS, hao] at hok
    simp only [stp, hao] at hK
    generalize hoo : o.op = oo at hop
    cases hop with
    | val tv => cases tv
    | @calle fo ao' ts _ _ hf hs =>
      obtain ⟨hg, hok⟩ := hok
      rw [nog hg, if_pos rfl]
      left
      cases r with
      | d x => exact hok.elim
      | ef x τ L L' =>
        obtain ⟨hlive, hid', ⟨F, avs, as, hca, hle, hbody, hF⟩, hHL, hap, hids⟩ := hok
        subst hid'
        obtain ⟨cs, hrun, hreps⟩ := entered hoo hf hs hlive hca hbody
        unfold Oper.wp
        rw [hrun, Oper.upon_enter]
        have hreps' : Reps (ren (gOf τ L) γ) (XOf X0 γ H) w (ao'.map a.eval ++ cs) as := cellsLe.reps (fun v x y hxy hv => AVLe.rep (γ := γ) (fun i k hk => by simp [ren, hk]) (fun i hi => absurd hi (gOf_nil i)) (fun _ _ _ h => h) (fun _ _ _ _ _ hM => by cases hM) hxy hv) hle hreps
        refine (hF X0 W0 γ w H τ _ h.st hid hHL hap (by simpa using hreps')).mono ?_
        rintro en w' ⟨v, γ', rfl, hS', hkk, hk, hv⟩
        have hkn : Knows γ γ' := fun k u hu => by
          by_cases e1 : k = τ 999999
          · subst e1; rw [hid] at hu; cases hu
          · rw [hkk k e1]; exact hu
        have h' : FR D N X0 W0 B γ' a w' e (hput τ L L' H) := h.mono hkn hk hS' (.put hHL hids)
        exact hK _ _ _ (h'.put tr (.d _ _ hv)) hkn hkk
  | ini back ad x k =>
    rw [hao] at hop
    simp only [okS, hao] at hok
    simp only [stp, hao] at hK
    generalize hoo : o.op = oo at hop
    cases hop with
    | val tv => cases tv
    | @ini t ao' xo _ _ inf hi ha hx _ =>
      obtain ⟨hg, hd, hl1, hl2, hptr, hcell, hth, hbox⟩ := hok
      rw [nog hg, if_pos rfl]
      left
      have hst : stOk H inf.size (ad.av e).strip (x.av e).strip := by
        refine ⟨hcell, there_nils hth, ?_⟩
        rw [hptr]
        simp only
        split at hbox
        · rename_i cs ho
          rw [ho]; simp only; omega
        · exact hbox.elim
      obtain ⟨w', hr, hS', hk⟩ := run_st hi rfl h.st ((ha.rep h.env).strip hl1) ((hx.rep h.env).strip hl2) hst
      have hH : stH H (ad.av e).strip (x.av e).strip = hset H (id - back) (.box (x.av e).strip.cells) := by
        rw [hptr]
        simp only [stH]
        split at hbox
        · rename_i cs ho
          rw [ho]
          simp only
          have hcl : (x.av e).strip.cells.length = cs.length := by
            have := (((hx.rep h.env).strip hl2).cells h.st _ hcell (there_nils hth))
            rw [hbox, ← this.1, ← this.2.1.1]; simp
          congr 2
          simp only [spl, List.take_zero, List.nil_append, Nat.zero_add, hcl, List.drop_length, List.append_nil]
        · exact hbox.elim
      have hrun : (execOp a.eval o).run P w = .ok .skip w' := by
        simp [execOp, hoo, hr]
      unfold Oper.wp
      rw [hrun, Oper.upon_skip, tr.dst, hd]
      rw [hH] at hS' hk
      exact hK γ _ _ (h.mono (Knows.refl γ) hk hS' (.set (.inl rfl))) (Knows.refl γ) (fun _ _ => rfl)
  | call c f args =>
    rw [hao] at hop
    simp only [okS, hao] at hok
    simp only [stp, hao] at hK
    generalize hoo : o.op = oo at hop
    cases hop with
    | val tv => cases tv
    | @call fo ao' ts _ _ hf hs _ =>
      obtain ⟨hg, hok⟩ := hok
      rw [gok_wanted tr h.env h.size hg]
      cases hgv : gval e ao.guard with
      | false =>
        rw [if_neg (by simp)]
        exact hK γ _ _ (h.put tr (Rep.wrapF hgv _)) (Knows.refl γ) (fun _ _ => rfl)
      | true =>
        rw [if_pos rfl]
        left
        obtain ⟨hlive, F, as, ds, hca, hds, hbody, hF⟩ := hok hgv
        have hlf : (f.av e).live := hlive f (by simp)
        have hls : liveAll e args := fun x hx => hlive x (by simp [hx])
        obtain ⟨cs, hfv, hreps⟩ := callArgs_rep ((hf.rep h.env).strip hlf) (hs.reps h.env hls) hca
        have hrun : (execOp a.eval o).run P w = .ok (.enter F (ao'.map a.eval ++ cs).toArray) w := by
          have hb := hbody.run (ao'.map a.eval ++ cs).toArray w
          simp only [execOp, hoo, resolve, hfv, Deferred.ofValue, Sem.run_bind, Sem.run_pure, Result.andThen_ok, invoke]
          simpa using hb
        unfold Oper.wp
        rw [hrun]
        have plain : ∀ (X : Nat → Nat → Prop), (∀ b o, X b o → b < w.heap.size) → DReps X w (ao'.map a.eval ++ cs) ds → (∀ v w', DRep X w' v r.x → DRep (XOf X0 γ H) w' v r.x) → Oper.upon P o a K Q (.ok (.enter F (ao'.map a.eval ++ cs).toArray) w) := by
          intro X hX hdr hback
          rw [Oper.upon_enter]
          refine (hF X w _ hX (by simpa using hdr)).mono ?_
          rintro en w' ⟨hx, v, rfl, hv⟩
          have h' : FR D N X0 W0 B γ a w' e H := h.mono (Knows.refl γ) (.of_ext hx) (h.st.stay hx) (.refl _)
          exact hK γ _ _ (h'.put tr (Rep.wrap hgv (.d _ _ (hback v w' hv)))) (Knows.refl γ) (fun _ _ => rfl)
        rcases hds with hds | ⟨hds, hflat⟩
        · exact plain _ (fun b o hb => hb.lt h.st) (mapO_reps (fun v a x hv hx => frz_own h.st 5 hv hx) hreps (mapO_sub (hv_sub ao e id H) (mapO_sub (hc_sub c _) hds))) (fun v w' hv => hv)
        · exact plain X0 (fun b o hb => Nat.lt_of_lt_of_le (h.st.hx b o hb) h.st.ext.size) (mapO_reps (fun v a x hv hx => frz_rep h.st 5 hv hx) hreps (mapO_sub (hv_sub ao e id H) (mapO_sub (hc_sub c _) hds))) (fun v w' hv => hv.flat hflat)
  | box imm x =>
    rw [hao] at hop
    simp only [okS, hao] at hok
    generalize hoo : o.op = oo at hop
    cases hop with
    | val tv => cases tv
    | @box t ox _ _ hx =>
      obtain ⟨hg, hl, hc, hth, hi⟩ := hok
      rw [nog hg, if_pos rfl]
      left
      have hth' : (x.av e).strip.cells.all (·.there H) = true := by
        cases imm with
        | false => exact hth
        | true => exact there_nils hth
      obtain ⟨k1, k2, k3⟩ := ((hx.rep h.env).strip hl).cells h.st _ hc hth'
      have hrun : (execOp a.eval o).run P w = .ok (.value (.pointer (some ⟨w.heap.size, 0, none⟩))) (w.alloc (.cells (a.eval ox).cells t)) := by
        simp [execOp, hoo, Instr.box, newVar, newRow]
      unfold Oper.wp
      rw [hrun]
      cases imm with
      | false =>
        obtain ⟨γ', hγ', hS', hkn, hk⟩ := h.st.alloc id hid (a.eval ox).cells t _ k2
        simp only [stp, hao] at hK
        have h' : FR D N X0 W0 B γ' a _ e _ := h.mono hkn hk hS' (.add rfl)
        exact hK γ' _ _ (h'.put tr (.ptr w.heap.size id 0 (by rw [hγ']; simp [upd]))) hkn (fun k hk => by rw [hγ']; simp [upd, hk])
      | true =>
        obtain ⟨ds, hds⟩ := Option.isSome_iff_exists.1 (hi rfl)
        simp only [stp, hao, hds] at hK
        have hx' : Ext w (w.alloc (.cells (a.eval ox).cells t)) := Ext.alloc w _
        have h' : FR D N X0 W0 B γ a _ e H := h.mono (Knows.refl γ) (.of_ext hx') (h.st.stay hx') (.refl _)
        have hd := (k2.allD hds).mono (.of_ext hx')
        refine hK γ _ _ (h'.put tr (.d _ _ ?_)) (Knows.refl γ) (fun _ _ => rfl)
        have := DRep.cref (X := XOf X0 γ H) (w := w.alloc (.cells (a.eval ox).cells t)) w.heap.size 0 0 ds (a.eval ox).cells.toList (by simp) (fun j _ hX => by have := hX.lt h.st; omega) hd.1 (box_cells (heap_alloc_new w _)) hd.2
        simpa using this
  | new zs =>
    rw [hao] at hop
    simp only [okS, hao] at hok
    simp only [stp, hao] at hK
    generalize hoo : o.op = oo at hop
    cases hop with
    | val tv => cases tv
    | @new t i z hi hz =>
      rw [nog hok, if_pos rfl]
      left
      have hrun : (execOp a.eval o).run P w = .ok (.value (.pointer (some ⟨w.heap.size, 0, none⟩))) (w.alloc (.cells z.cells t)) := by
        simp [execOp, hoo, Instr.alloc, zeroValue, typeInfo, hi, hz, newVar, newRow]
      unfold Oper.wp
      rw [hrun]
      obtain ⟨γ', hγ', hS', hkn, hk⟩ := h.st.alloc id hid z.cells t _ (Reps.lits z.cells.toList)
      have h' : FR D N X0 W0 B γ' a _ e _ := h.mono hkn hk hS' (.add rfl)
      exact hK γ' _ _ (h'.put tr (.ptr w.heap.size id 0 (by rw [hγ']; simp [upd]))) hkn (fun k hk => by rw [hγ']; simp [upd, hk])
  | nrow te n =>
    rw [hao] at hop
    simp only [okS, hao] at hok
    simp only [stp, hao] at hK
    generalize hoo : o.op = oo at hop
    cases hop with
    | val tv => cases tv
    | @nrow t _ ie hu hi =>
      rw [nog hok, if_pos rfl]
      left
      have hrun : (execOp a.eval o).run P w = .ok (.value (.slice (some ⟨w.heap.size, 0, none⟩) 0 0)) (w.alloc (.cells #[] te)) := by
        simp [execOp, hoo, Instr.buildSlice, run_underlying hu, sizeOf, typeInfo, hi, Instr.fill, newRow]
        congr 2
        apply Array.eq_empty_of_size_eq_zero
        simp
      unfold Oper.wp
      rw [hrun]
      obtain ⟨hS', hkn, hk⟩ := h.st.new (γ' := upd γ id (.slice (some ⟨w.heap.size, 0, none⟩) 0 0)) (w' := w.alloc (.cells #[] te)) (Ext.alloc w _) id hid _ rfl (.row te ie.size 0 fun _ => []) (fun b hb => by simp [blk] at hb; omega)
        ⟨fun _ => [], by simpa using World.ownsRow_made w (base := W0.heap.size) (e := te) (size := ie.size) #[] 0 h.st.ext.size (by decide) (by simp), fun i hi => by omega⟩
      have h' : FR D N X0 W0 B _ a _ e _ := h.mono hkn hk hS' (.add rfl)
      exact hK _ _ _ (h'.put tr (.own _ id 0 (by simp [upd]))) hkn (fun k hk => by simp [upd, hk])
  | st ad x k =>
    rw [hao] at hop
    simp only [okS, hao] at hok
    simp only [stp, hao] at hK
    generalize hoo : o.op = oo at hop
    cases hop with
    | val tv => cases tv
    | @st t ao' xo _ _ inf hi ha hx =>
      obtain ⟨hg, hd, hl1, hl2, hst⟩ := hok
      rw [nog hg, if_pos rfl]
      left
      obtain ⟨w', hr, hS', hk⟩ := run_st hi rfl h.st ((ha.rep h.env).strip hl1) ((hx.rep h.env).strip hl2) hst
      have hrun : (execOp a.eval o).run P w = .ok .skip w' := by
        simp [execOp, hoo, hr]
      unfold Oper.wp
      rw [hrun, Oper.upon_skip, tr.dst, hd]
      exact hK γ _ _ (h.mono (Knows.refl γ) hk hS' (.st _ _ _)) (Knows.refl γ) (fun _ _ => rfl)
  | mmk kd =>
    rw [hao] at hop
    simp only [okS, hao] at hok
    simp only [stp, hao] at hK
    generalize hoo : o.op = oo at hop
    cases hop with
    | val tv => cases tv
    | @mmk t kt et _ hu hk =>
      rw [nog hok, if_pos rfl]
      left
      have hrun : (execOp a.eval o).run P w = .ok (.value (.map (some w.heap.size))) (w.alloc (.map #[] 0)) := by
        simp [execOp, hoo, Instr.makeMap]
      unfold Oper.wp
      rw [hrun]
      obtain ⟨hS', hkn, hk'⟩ := h.st.newMap id hid kd
      have h' : FR D N X0 W0 B (upd γ id (.map (some w.heap.size))) a (w.alloc (.map #[] 0)) e (hadd id (.map kd 0 fun _ => none) H) := by
        refine ⟨hS', h.env.mono hkn hk', h.size, ?_, h.base.trans hk', fun k v hv => hkn _ _ (h.pin k v hv), fun k kd' n f v b _ _ _ => hmk _ hao b⟩
        obtain ⟨Ks, h1, hn, h2⟩ := h.marks
        exact ⟨Ks, h1, hn, fun K hK => ⟨(h2 K hK).1, hk'.others K _ (h2 K hK).2.1 rfl (h2 K hK).2.2.1, (fun h' => (h2 K hK).2.2.1 (hk'.sub K 0 (Array.getElem?_eq_some_iff.1 (h2 K hK).2.1).1 h')), (h2 K hK).2.2.2⟩⟩
      exact hK _ _ _ (h'.put tr (.mp w.heap.size id (by simp [upd]))) hkn (fun k hk => by simp [upd, hk])
  | mset x k v kd =>
    rw [hao] at hop
    simp only [okS, hao] at hok
    simp only [stp, hao] at hK
    generalize hoo : o.op = oo at hop
    cases hop with
    | val tv => cases tv
    | @mset t kt et _ xo ko vo _ _ _ hu hk hx hko hvo =>
      obtain ⟨hg, hd, hl1, hl2, hl3, hm⟩ := hok
      rw [nog hg, if_pos rfl]
      left
      have r1 := (hx.rep h.env).strip hl1
      have r2 := (hko.rep h.env).strip hl2
      have r3 := (hvo.rep h.env).strip hl3
      unfold msetOk at hm
      split at hm
      · rename_i mid kv u e1 e2 e3
        obtain ⟨h4, h5⟩ := hm
        split at h4
        · rename_i kd' n f ho
          subst h4
          rw [e1] at r1
          rw [e2] at r2
          rw [e3] at r3
          have v2 := r2.lit
          have v3 := r3.lit
          generalize hv1 : a.eval xo = v1 at r1
          cases r1 with | mp b _ hγ =>
          obtain ⟨w', hr, hS', hkp⟩ := run_mset (P := P) (t := t) (x := u) hu hk h.st ho hγ h5
          have hrun : (execOp a.eval o).run P w = .ok .skip w' := by
            simp [execOp, hoo, hv1, v2, v3, hr]
          unfold Oper.wp
          rw [hrun, Oper.upon_skip, tr.dst, hd]
          have hH : msetH H (x.av e).strip (k.av e).strip (v.av e).strip = hset H mid (.map kd' (if (f kv).isSome then n else n + 1) (mset f kv u)) := by
            simp only [msetH, e1, e2, e3, ho]
          rw [hH] at hK
          exact hK γ _ _ (h.mono (Knows.refl γ) hkp hS' (.set (.inr ⟨_, _, _, _, _, rfl, ho⟩))) (Knows.refl γ) (fun _ _ => rfl)
        · exact h4.elim
      · exact hm.elim
  | app te n b s x =>
    rw [hao] at hop
    simp only [okS, hao] at hok
    simp only [stp, hao] at hK
    generalize hoo : o.op = oo at hop
    cases hop with
    | val tv => cases tv
    | @app t _ so xo _ _ i z ht hi hz hzs hsz hby hs hx =>
      obtain ⟨hg, hl1, hl2, hst⟩ := hok
      rw [nog hg, if_pos rfl]
      left
      obtain ⟨v', w', γ', hr, hS', hv', hγ', hkn, hk⟩ := run_app (ty := o.type) ht hi hz hzs hsz hby h.st hid ((hs.rep h.env).strip hl1) ((hx.rep h.env).strip hl2) hst
      have hrun : (execOp a.eval o).run P w = .ok (.value v') w' := by
        simp [execOp, hoo, resolve, invoke, builtin, hr]
      unfold Oper.wp
      rw [hrun]
      have h' : FR D N X0 W0 B γ' a _ e _ := h.mono hkn hk hS' (.app _ _ _ _ _ _)
      exact hK γ' _ _ (h'.put tr hv') hkn (fun k hk => by rw [hγ']; simp [upd, hk])
  | vapp te n b s x =>
    rw [hao] at hop
    simp only [okS, hao] at hok
    simp only [stp, hao] at hK
    generalize hoo : o.op = oo at hop
    cases hop with
    | val tv => cases tv
    | @vapp t _ so xo _ _ i z ht hi hz hzs hsz hby hs hx =>
      obtain ⟨hg, hl1, hl2, hst⟩ := hok
      rw [nog hg, if_pos rfl]
      left
      obtain ⟨v', w', γ', hr, hS', hv', hγ', hkn, hk⟩ := run_appG true (ty := o.type) ht hi hz hzs hsz hby h.st hid ((hs.rep h.env).strip hl1) ((hx.rep h.env).strip hl2) hst
      have hrun : (execOp a.eval o).run P w = .ok (.value v') w' := by
        simp [execOp, hoo, resolve, invoke, builtin, hr]
      unfold Oper.wp
      rw [hrun]
      have h' : FR D N X0 W0 B γ' a _ e _ := h.mono hkn hk hS' (.appG _ _ _ _ _ _ _)
      exact hK γ' _ _ (h'.put tr hv') hkn (fun k hk => by rw [hγ']; simp [upd, hk])
  | _ =>
    rw [hao] at hop
    generalize hoo : o.op = oo at hop
    cases hop with
    | val tv =>
      rw [← hoo] at tv
      refine valcase _ hao tv ?_ ?_ ?_
      · simp only [okS, hao] at hok; exact hok.1
      · simp only [okS, hao] at hok; exact hok.2
      · simp only [stp, hao]

end

end Go.Proofs.Ytndpejmebhcaaaa
/- The laws of plain functions, in a round of a range over a function as well: what an operation does there is what it does everywhere. -/
namespace Go.Proofs.Ytndpejmebhcaaaa
open Go.RowKit

/-- The widest fence: of activations (none), or of rounds of loop number l (some l). -/
def FW (ro : Option Nat) : Fence := { fn := fun _ => True, depth := none, alive := false, round := ro }
theorem FW_none : FW none = Fence.wide := rfl

section
variable {P : Program} {ro : Option Nat} {n : Nat} {ops : Array Oper} {Q : Exit → Act → World → Prop} {o : Oper} {a : Act} {w : World} {K : Act → World → Prop}

theorem callsIn_fw {f : FuncId} {args : Array Value} {R : Ending → World → Prop} (h : Calls P f args w R) : CallsIn (FW ro) n P f args w R := (callsIn_wide.2 h : CallsIn Fence.wide n P f args w R)
theorem callsIn_fw_iff {f : FuncId} {args : Array Value} {R : Ending → World → Prop} : CallsIn (FW ro) n P f args w R ↔ Calls P f args w R := ⟨fun h => callsIn_wide.1 (h : CallsIn Fence.wide n P f args w R), callsIn_fw⟩
theorem rowsIn_fw {row : String} {args : Array Value} {R : Value → World → Prop} (h : Rows P row args w R) : RowsIn (FW ro) n P row args w R :=
  fun c cs _ => let ⟨v, w', r, s⟩ := h c cs; ⟨v, w', r, (stepsIn_wide.2 s : StepsIn (Machine.fenced P Fence.wide) P _ _)⟩

theorem oper_in (hnd : ∀ c, o.op ≠ .defer c) (h : o.wp P a w K Q) : o.wpIn (FW ro) n P a w K Q := by
  refine ⟨fun _ _ => trivial, ?_⟩
  rw [Oper.semAt_eq _ _ _ hnd]
  unfold Oper.wp at h
  generalize (execOp a.eval o).run P w = r at h
  cases r with
  | ok x w' =>
    cases x <;> simp only [Oper.upon] at h <;> simp only [Oper.uponIn] <;>
      first
        | exact h
        | exact ⟨fun h => (by cases h), callsIn_fw h⟩
        | exact ⟨fun h => (by cases h), rowsIn_fw h⟩
        | exact h.elim
  | halt x w' => cases x <;> simp only [Oper.upon] at h <;> simp only [Oper.uponIn] <;> first | exact h | exact h.elim

theorem wpOpIn_of {i : Nat} (hnd : ∀ o, ops[i]? = some o → ∀ c, o.op ≠ .defer c) (hlo : ¬ LetsOut Q) (h : wpOp P ops Q i K a w) : wpOpIn (FW ro) n P ops Q i K a w := by
  unfold wpOp at h
  unfold wpOpIn
  cases ho : ops[i]? with
  | none => rw [ho] at h; exact h
  | some o =>
    rw [ho] at h
    simp only at h ⊢
    split
    · rename_i hw
      rw [if_pos hw] at h
      rcases h with h | h
      · exact oper_in (hnd o ho) h
      · exact absurd h.2 hlo
    · rename_i hw
      rw [if_neg hw] at h
      exact ⟨fun _ _ => trivial, h⟩

theorem wpOpsIn_of (hnd : ∀ (i : Nat) (o : Oper), ops[i]? = some o → ∀ c, o.op ≠ .defer c) (hlo : ¬ LetsOut Q) : ∀ (l : List Nat) (a : Act) (w : World), wpOps P ops Q l a w → wpOpsIn (FW ro) n P ops Q l a w
  | [], _, _, h => h
  | i :: l, a, w, h => by
    rw [wpOps_cons] at h
    rw [wpOpsIn_cons]
    exact wpOpIn_mono (fun a w => wpOpsIn_of hnd hlo l a w) (wpOpIn_of (hnd i) hlo h)

theorem wpAnyIn_of (hnd : ∀ (i : Nat) (o : Oper), ops[i]? = some o → ∀ c, o.op ≠ .defer c) (hlo : ¬ LetsOut Q) {md : Region.Mode} : ∀ (fuel : Nat) (listed : Array Bool) (a : Act) (w : World), wpAny P md ops Q fuel listed a w → wpAnyIn (FW ro) n P md ops Q fuel listed a w
  | 0, _, _, _, h => h
  | fuel + 1, _, _, _, h => ⟨h.1, fun i hi => wpOpIn_mono (fun a w => wpAnyIn_of hnd hlo fuel _ a w) (wpOpIn_of (hnd i) hlo (h.2 i hi))⟩

/-- No operation defers a call. -/
def noDefer (ops : Array Oper) : Bool := ops.toList.all fun o => match o.op with | .defer _ => false | _ => true
theorem noDefer_at (h : noDefer ops = true) : ∀ (i : Nat) (o : Oper), ops[i]? = some o → ∀ c, o.op ≠ .defer c := by
  intro i o ho c hc
  have := List.all_eq_true.1 h o (by simpa using Array.mem_of_getElem? ho)
  rw [hc] at this
  cases this

end

end Go.Proofs.Ytndpejmebhcaaaa
