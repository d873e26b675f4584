/- The evaluator's own states: slots in a tree, objects of the call's own by number; what it means that an activation and a world read as such. -/
import Derived.Test.YtghlfjpmpalpdaaDv
namespace Go.Proofs.Ytghlfjpmpalpdaa
open Go.RowKit

/-- What a slot holds: plain data; data of which something is known only where a guard says yes; a pointer into an object of the call's own; a slice that the call owns; a map that the call made; closures, structs and tuples of such. -/
inductive AV where
  | d (x : DV)
  | whn (g : Bool) (x : AV)
  | ptr (id off : Nat)
  | own (id len : Nat)
  | mp (id : Nat)
  | fn (f : FuncId) (caps : List AV)
  | agg (cs : List AV)
  | tup (cs : List AV)

instance : Inhabited AV := ⟨.d .top⟩

/-- An object of the call's own: cells; a row that it may append to (element's type e, n cells each); a map (keys of kind kd, n of them; what is at a key). -/
inductive AObj where
  | box (cs : List AV)
  | row (e : TypeId) (n len : Nat) (row : Nat → List DV)
  | map (kd : TypeDesc) (n : Nat) (f : Value → Option Value)

/-- The objects of the call's own, by number. -/
abbrev Heap := Nat → Option AObj

def hnil : Heap := fun _ => none
def hget (H : Heap) (i : Nat) : Option AObj := H i
def hadd (j : Nat) (o : AObj) (H : Heap) : Heap := fun i => if j = i then some o else H i
def hset (H : Heap) (i : Nat) (o : AObj) : Heap := fun k => if i = k then (H k).map (fun _ => o) else H k
def hdel (H : Heap) (i : Nat) : Heap := fun k => if i = k then none else H k

theorem hget_nil (k : Nat) : hget hnil k = none := rfl
theorem hget_add (H : Heap) (i k : Nat) (o : AObj) : hget (hadd i o H) k = if i = k then some o else hget H k := rfl
theorem hget_del (h : Heap) (i k : Nat) : hget (hdel h i) k = if i = k then none else hget h k := rfl
theorem hget_set (h : Heap) (i k : Nat) (o : AObj) : hget (hset h i o) k = if i = k then (hget h k).map (fun _ => o) else hget h k := rfl

theorem hset_hadd (H : Heap) (i j : Nat) (o o' : AObj) : hset (hadd j o H) i o' = if j = i then hadd i o' H else hadd j o (hset H i o') := by
  funext k
  by_cases h : j = i
  · subst h
    by_cases h1 : j = k <;> simp [hset, hadd, h1]
  · rw [if_neg h]
    by_cases h1 : i = k
    · subst h1; simp [hset, hadd, h]
    · by_cases h2 : j = k <;> simp [hset, hadd, h1, h2]
theorem hset_nil (i : Nat) (o : AObj) : hset hnil i o = hnil := by
  funext k
  simp [hset, hnil]
theorem hdel_hadd (H : Heap) (i j : Nat) (o : AObj) : hdel (hadd j o H) i = if j = i then hdel H i else hadd j o (hdel H i) := by
  funext k
  by_cases h : j = i
  · subst h
    by_cases h1 : j = k <;> simp [hdel, hadd, h1]
  · rw [if_neg h]
    by_cases h1 : i = k
    · subst h1; simp [hdel, hadd, h]
    · by_cases h2 : j = k <;> simp [hdel, hadd, h1, h2]
theorem hdel_nil (i : Nat) : hdel hnil i = hnil := by
  funext k
  simp [hdel, hnil]

/-- The block of a value that an object is held by. -/
def blk : Value → Option Nat
  | .pointer (some a) => some a.block
  | .slice (some a) _ _ => some a.block
  | .map (some b) => some b
  | _ => none

/-- Is a value a key of a kind? -/
def kdOk : TypeDesc → Value → Bool
  | .string, .string _ => true
  | .int q, .int q' _ => decide (q = q')
  | _, _ => false
/-- Are two keys the same? -/
def keq : Value → Value → Bool
  | .string a, .string b => a == b
  | .int _ a, .int _ b => a == b
  | _, _ => false
/-- What some entries hold at a key. -/
def entFind : List MapEntry → Value → Option Value
  | [], _ => none
  | x :: l, k => if keq k x.key then some x.val else entFind l k

/-- A function that hands back a row of its own making, which nobody else knows: elements of type e, as r tells. -/
def AOwn (P : Program) (F : FuncId) (args : List DV) (e : TypeId) (n len : Nat) (row : Nat → List DV) : Prop :=
  HasBody P F ∧ ∀ (X : Nat → Nat → Prop) (w : World) (vs : Array Value), (∀ b o, X b o → b < w.heap.size) → DReps X w vs.toList args → Calls P F vs w fun e' w' => Ext w w' ∧ ∃ v, e' = .returned v ∧
    ∃ xs : Nat → List Value, w'.ownsRow w.heap.size e n v len ((List.range len).flatMap xs) ∧ ∀ i, i < len → (xs i).length = n ∧ DReps (fun b o => X b o ∨ (blk v = some b ∧ len * n ≤ o)) w' (xs i) (row i)

inductive Rep (γ : Nat → Option Value) (X : Nat → Nat → Prop) (w : World) : Value → AV → Prop
  | d (v : Value) (x : DV) (h : DRep X w v x) : Rep γ X w v (.d x)
  | whn (v : Value) (g : Bool) (x : AV) (h : g = true → Rep γ X w v x) (h0 : g = false → v = undef) : Rep γ X w v (.whn g x)
  | ptr (b id off : Nat) (h : γ id = some (.pointer (some ⟨b, 0, none⟩))) : Rep γ X w (.pointer (some ⟨b, off, none⟩)) (.ptr id off)
  | own (v : Value) (id len : Nat) (h : γ id = some v) : Rep γ X w v (.own id len)
  | mp (b id : Nat) (h : γ id = some (.map (some b))) : Rep γ X w (.map (some b)) (.mp id)
  | fn (f : FuncId) (vs : List Value) (caps : List AV) (hl : vs.length = caps.length) (hr : ∀ i (h : i < vs.length) (h' : i < caps.length), Rep γ X w vs[i] caps[i]) : Rep γ X w (.func (.func f) #[] vs.toArray) (.fn f caps)
  | agg (vs : List Value) (cs : List AV) (hl : vs.length = cs.length) (hr : ∀ i (h : i < vs.length) (h' : i < cs.length), Rep γ X w vs[i] cs[i]) : Rep γ X w (.agg vs.toArray) (.agg cs)
  | tup (vs : List Value) (cs : List AV) (hl : vs.length = cs.length) (hr : ∀ i (h : i < vs.length) (h' : i < cs.length), Rep γ X w vs[i] cs[i]) : Rep γ X w (.tuple vs.toArray) (.tup cs)

/-- What is known stays known. -/
def Knows (γ γ' : Nat → Option Value) : Prop := ∀ id v, γ id = some v → γ' id = some v
theorem Knows.refl (γ : Nat → Option Value) : Knows γ γ := fun _ _ h => h

theorem Rep.mono {γ γ' : Nat → Option Value} {X X' : Nat → Nat → Prop} {w w' : World} (hγ : Knows γ γ') (k : Keeps X X' w w') {v : Value} {x : AV} (h : Rep γ X w v x) : Rep γ' X' w' v x := by
  induction h with
  | d v x h => exact .d v x (h.mono k)
  | whn v g x _ h0 ih => exact .whn v g x ih h0
  | ptr b id off h => exact .ptr b id off (hγ _ _ h)
  | own v id len h => exact .own v id len (hγ _ _ h)
  | mp b id h => exact .mp b id (hγ _ _ h)
  | fn f vs caps hl _ ih => exact .fn f vs caps hl ih
  | agg vs cs hl _ ih => exact .agg vs cs hl ih
  | tup vs cs hl _ ih => exact .tup vs cs hl ih

theorem Rep.top {γ : Nat → Option Value} {X : Nat → Nat → Prop} {w : World} (v : Value) : Rep γ X w v (.d .top) := .d v _ (.top v)

/-- Some values read as some slots' contents. -/
def Reps (γ : Nat → Option Value) (X : Nat → Nat → Prop) (w : World) (vs : List Value) (as : List AV) : Prop := vs.length = as.length ∧ ∀ i (h : i < vs.length) (h' : i < as.length), Rep γ X w vs[i] as[i]
theorem Reps.nil (γ : Nat → Option Value) (X : Nat → Nat → Prop) (w : World) : Reps γ X w [] [] := ⟨rfl, fun i h => by simp at h⟩
theorem Reps.cons {γ : Nat → Option Value} {X : Nat → Nat → Prop} {w : World} {v : Value} {a : AV} {vs : List Value} {as : List AV} (h : Rep γ X w v a) (hs : Reps γ X w vs as) : Reps γ X w (v :: vs) (a :: as) := by
  refine ⟨by simp [hs.1], fun i hi hi' => ?_⟩
  cases i with
  | zero => exact h
  | succ i => exact hs.2 i (by simpa using hi) (by simpa using hi')
theorem Reps.append {γ : Nat → Option Value} {X : Nat → Nat → Prop} {w : World} {vs vs' : List Value} {as as' : List AV} (h : Reps γ X w vs as) (h' : Reps γ X w vs' as') : Reps γ X w (vs ++ vs') (as ++ as') := by
  induction vs generalizing as with
  | nil =>
    have : as = [] := by have := h.1; simpa using this.symm
    subst this; simpa using h'
  | cons v vs ih =>
    cases as with
    | nil => exact absurd h.1 (by simp)
    | cons a as => exact Reps.cons (h.2 0 (by simp) (by simp)) (ih ⟨by simpa using h.1, fun i hi hi' => h.2 (i + 1) (by simpa using hi) (by simpa using hi')⟩)
theorem Reps.mono {γ γ' : Nat → Option Value} {X X' : Nat → Nat → Prop} {w w' : World} (hγ : Knows γ γ') (k : Keeps X X' w w') {vs : List Value} {as : List AV} (h : Reps γ X w vs as) : Reps γ' X' w' vs as := ⟨h.1, fun i hi hi' => (h.2 i hi hi').mono hγ k⟩

/-- The cells of an object that may turn: all of a box; of a row what lies behind its elements. -/
def turns : AObj → Nat → Prop
  | .box _, _ => True
  | .row _ n len _, o => len * n ≤ o
  | .map _ _ _, _ => True

/-- The cells that may turn: those of X0 (the callers'), and those of the call's own objects. -/
def XOf (X0 : Nat → Nat → Prop) (γ : Nat → Option Value) (H : Heap) : Nat → Nat → Prop := fun b o => X0 b o ∨ ∃ id ob v, hget H id = some ob ∧ γ id = some v ∧ blk v = some b ∧ turns ob o

/-- An object is held by value v: its cells, or its row. -/
def ORep (γ : Nat → Option Value) (X : Nat → Nat → Prop) (B : Nat) (w : World) (v : Value) : AObj → Prop
  | .box cs => ∃ b arr t, v = .pointer (some ⟨b, 0, none⟩) ∧ B ≤ b ∧ w.heap[b]? = some (.cells arr t (0, 0)) ∧ Reps γ X w arr.toList cs
  | .row e n len row => ∃ xs : Nat → List Value, w.ownsRow B e n v len ((List.range len).flatMap xs) ∧ ∀ i, i < len → (xs i).length = n ∧ DReps X w (xs i) (row i)
  | .map kd n f => ∃ b ent clock, v = .map (some b) ∧ B ≤ b ∧ w.heap[b]? = some (.map ent clock) ∧ ent.size = n ∧ (∀ x, x ∈ ent.toList → kdOk kd x.key = true) ∧ ∀ k, kdOk kd k = true → entFind ent.toList k = f k

/-- The world and the objects of the call's own, as the evaluator sees them. W0: the world in which the call began. -/
structure St (X0 : Nat → Nat → Prop) (W0 : World) (γ : Nat → Option Value) (w : World) (H : Heap) : Prop where
  hx : ∀ b o, X0 b o → b < W0.heap.size
  ext : Ext W0 w
  obj : ∀ id o, hget H id = some o → ∃ v, γ id = some v ∧ ORep γ (XOf X0 γ H) W0.heap.size w v o
  dis : ∀ id id' o o' v v' b, hget H id = some o → hget H id' = some o' → γ id = some v → γ id' = some v' → blk v = some b → blk v' = some b → id = id'

/-- Slots: the number's bits, the lowest one first. -/
abbrev Slot := List Bool
def Slot.idx : Slot → Nat
  | [] => 0
  | b :: p => 2 * Slot.idx p + (if b then 1 else 0)
theorem Slot.idx_inj : ∀ {p q : Slot}, p.length = q.length → Slot.idx p = Slot.idx q → p = q
  | [], [], _, _ => rfl
  | b :: p, c :: q, hl, h => by
    have hb : b = c ∧ Slot.idx p = Slot.idx q := by
      cases b <;> cases c <;> simp [Slot.idx] at h ⊢ <;> omega
    rw [hb.1, Slot.idx_inj (by simpa using hl) hb.2]

/-- A tree of slots; a leaf stands for all slots below it. -/
inductive T where
  | leaf (a : AV)
  | node (l r : T)
def T.get : T → Slot → AV
  | .leaf a, _ => a
  | .node l _, [] => l.get []
  | .node l _, false :: p => l.get p
  | .node _ r, true :: p => r.get p
def T.set : T → Slot → AV → T
  | .leaf _, [], x => .leaf x
  | .node _ _, [], x => .leaf x
  | .leaf a, false :: p, x => .node ((T.leaf a).set p x) (.leaf a)
  | .leaf a, true :: p, x => .node (.leaf a) ((T.leaf a).set p x)
  | .node l r, false :: p, x => .node (l.set p x) r
  | .node l r, true :: p, x => .node l (r.set p x)
theorem T.get_set (x : AV) : ∀ (p : Slot) (t : T), (t.set p x).get p = x
  | [], .leaf _ => rfl
  | [], .node _ _ => rfl
  | false :: p, .leaf a => T.get_set x p (.leaf a)
  | true :: p, .leaf a => T.get_set x p (.leaf a)
  | false :: p, .node l _ => T.get_set x p l
  | true :: p, .node _ r => T.get_set x p r
theorem T.get_set_ne (x : AV) : ∀ (p q : Slot) (t : T), p.length = q.length → p ≠ q → (t.set p x).get q = t.get q
  | [], [], _, _, h => absurd rfl h
  | false :: p, false :: q, .leaf a, hl, h => T.get_set_ne x p q (.leaf a) (by simpa using hl) (fun e => h (by rw [e]))
  | true :: p, true :: q, .leaf a, hl, h => T.get_set_ne x p q (.leaf a) (by simpa using hl) (fun e => h (by rw [e]))
  | false :: p, true :: q, .leaf a, hl, h => rfl
  | true :: p, false :: q, .leaf a, hl, h => rfl
  | false :: p, false :: q, .node l r, hl, h => T.get_set_ne x p q l (by simpa using hl) (fun e => h (by rw [e]))
  | true :: p, true :: q, .node l r, hl, h => T.get_set_ne x p q r (by simpa using hl) (fun e => h (by rw [e]))
  | false :: p, true :: q, .node l r, hl, h => rfl
  | true :: p, false :: q, .node l r, hl, h => rfl
/-- Two stores into different slots may come in either order, as far as can be seen. -/
theorem T.get_comm (x y : AV) (p q r : Slot) (t : T) (h1 : p.length = r.length) (h2 : q.length = r.length) (hpq : p ≠ q) : ((t.set p x).set q y).get r = ((t.set q y).set p x).get r := by
  by_cases e1 : q = r
  · subst e1
    rw [T.get_set, T.get_set_ne x p q _ h1 hpq, T.get_set]
  · rw [T.get_set_ne y q r _ h2 e1]
    by_cases e2 : p = r
    · subst e2; rw [T.get_set, T.get_set]
    · rw [T.get_set_ne x p r _ h1 e2, T.get_set_ne x p r _ h1 e2, T.get_set_ne y q r _ h2 e1]

theorem T.set_comm (x y : AV) : ∀ (p q : Slot) (t : T), p.length = q.length → p ≠ q → (t.set p x).set q y = (t.set q y).set p x
  | [], [], _, _, h => absurd rfl h
  | false :: p, false :: q, .leaf a, hl, h => congrArg (T.node · _) (T.set_comm x y p q (.leaf a) (by simpa using hl) (fun e => h (by rw [e])))
  | true :: p, true :: q, .leaf a, hl, h => congrArg (T.node _ ·) (T.set_comm x y p q (.leaf a) (by simpa using hl) (fun e => h (by rw [e])))
  | false :: p, true :: q, .leaf a, hl, h => rfl
  | true :: p, false :: q, .leaf a, hl, h => rfl
  | false :: p, false :: q, .node l r, hl, h => congrArg (T.node · _) (T.set_comm x y p q l (by simpa using hl) (fun e => h (by rw [e])))
  | true :: p, true :: q, .node l r, hl, h => congrArg (T.node _ ·) (T.set_comm x y p q r (by simpa using hl) (fun e => h (by rw [e])))
  | false :: p, true :: q, .node l r, hl, h => rfl
  | true :: p, false :: q, .node l r, hl, h => rfl

/-- The slots of an activation read as a tree. -/
def EnvRep (D : Nat) (γ : Nat → Option Value) (X : Nat → Nat → Prop) (w : World) (a : Act) (e : T) : Prop := ∀ p : Slot, p.length = D → Rep γ X w (a.tmps.getD p.idx undef) (e.get p)

theorem EnvRep.mono {D : Nat} {γ γ' : Nat → Option Value} {X X' : Nat → Nat → Prop} {w w' : World} (hγ : Knows γ γ') (k : Keeps X X' w w') {a : Act} {e : T} (h : EnvRep D γ X w a e) : EnvRep D γ' X' w' a e := fun p hp => (h p hp).mono hγ k

theorem EnvRep.put {D : Nat} {γ : Nat → Option Value} {X : Nat → Nat → Prop} {w : World} {a : Act} {e : T} (h : EnvRep D γ X w a e) {p : Slot} (hp : p.length = D) (hs : p.idx < a.tmps.size) {v : Value} {x : AV} (hv : Rep γ X w v x) :
    EnvRep D γ X w (a.put (some p.idx) v) (e.set p x) := by
  intro q hq
  by_cases hpq : p = q
  · subst hpq
    rw [T.get_set]
    have : (a.put (some p.idx) v).tmps.getD p.idx undef = v := by simp [Act.put, hs]
    rw [this]; exact hv
  · rw [T.get_set_ne x p q e (hp.trans hq.symm) hpq]
    have hne : ¬ p.idx = q.idx := fun he => hpq (Slot.idx_inj (hp.trans hq.symm) he)
    have : (a.put (some p.idx) v).tmps.getD q.idx undef = a.tmps.getD q.idx undef := by
      simp only [Act.put, Array.getD_eq_getD_getElem?]
      rw [Array.getElem?_setIfInBounds_ne hne]
    rw [this]; exact h q hq

theorem put_size (a : Act) (d : Option Tmp) (v : Value) : (a.put d v).tmps.size = a.tmps.size := by cases d <;> simp [Act.put]
theorem put_defers (a : Act) (d : Option Tmp) (v : Value) : (a.put d v).defers = a.defers := by cases d <;> rfl

end Go.Proofs.Ytghlfjpmpalpdaa
