/- Some texts of one kind, one behind the other. -/
import Derived.WalkKit
import Derived.WalkSpells
import Derived.WalkLawsBesides
import Derived.Lib.Hide
import Derived.Great.BuildSlice
import Derived.Laws.AppendOwnNone
/- Small laws on worlds: 'Ext w w'': all that was there in w is there in w', unturned. -/
namespace Go.Proofs.Ytndpejmebhcaaaa
open Go.RowKit

/-- All blocks of w are as they were; there may be new ones. -/
def Ext (w w' : World) : Prop := Below w.heap.size w w'

theorem Ext.below {w w' : World} (h : Ext w w') : Below w.heap.size w w' := h
theorem Below.ext {w w' : World} (h : Below w.heap.size w w') : Ext w w' := h
theorem Ext.refl (w : World) : Ext w w := Below.refl _ _
theorem Ext.size {w w' : World} (h : Ext w w') : w.heap.size ≤ w'.heap.size := Below.size h
theorem Ext.trans {a b c : World} (h : Ext a b) (k : Ext b c) : Ext a c := Below.trans h (Below.mono k h.size)
theorem Ext.drewN (w : World) (n : Nat) : Ext w (w.drewN n) := below_drewN (Below.refl _ _) n
theorem Ext.drew (w : World) : Ext w w.drew := (Below.refl _ _).drew
theorem Ext.alloc (w : World) (o : Obj) : Ext w (w.alloc o) := (Below.refl _ _).alloc (Nat.le_refl _) o
theorem Ext.cell {w w' : World} (h : Ext w w') {p : Addr} {v : Value} (hc : w.cell? p = some v) : w'.cell? p = some v :=
  (Below.cell h (World.block_lt_of_cell? w p hc)).trans hc

theorem ret_bool {b c : Bool} (h : b = c) : Ending.returned (.bool b) = .returned (.bool c) := by rw [h]
theorem ret_int {k : IntKind} {a b : Int} (h : a = b) : Ending.returned (.int k a) = .returned (.int k b) := by rw [h]

theorem beqT {a b : Int} (h : a = b) : (a == b) = true := by simp [h]
theorem beqF {a b : Int} (h : ¬ a = b) : (a == b) = false := by simp [h]
theorem bneT {a b : Int} (h : ¬ a = b) : (a != b) = true := by simp [h]
theorem bneF {a b : Int} (h : a = b) : (a != b) = false := by simp [h]

theorem size_toList (s : ByteArray) : s.toList.length = s.size := by rw [ByteArray.toList_eq]; rfl
theorem emptyT {s : ByteArray} (h : s.size = 0) : s.toList.isEmpty = true := by
  rw [List.isEmpty_iff, ← List.length_eq_zero_iff, size_toList]; exact h
theorem emptyF {s : ByteArray} (h : ¬ s.size = 0) : s.toList.isEmpty = false := by
  rw [← Bool.not_eq_true, List.isEmpty_iff, ← List.length_eq_zero_iff, size_toList]; exact h

/-- Is a list empty? Its length's test, in the walk's own form; and what that says. -/
theorem lenBeq {α : Type} (l : List α) : (((l.length : Int) == 0) = true ∧ Hid (l.length = 0)) ∨ (((l.length : Int) == 0) = false ∧ Hid (¬ l.length = 0)) := by
  by_cases h : l.length = 0
  · exact .inl ⟨beqT (by omega), h⟩
  · exact .inr ⟨beqF (by omega), h⟩

end Go.Proofs.Ytndpejmebhcaaaa
/- Plain data, and what it means that a value of the model reads as such: literals, structs, slices as functions of the index, pointers into memory that stays, closures. -/
namespace Go.Proofs.Ytndpejmebhcaaaa
open Go.RowKit

/-- Plain data. 'top': nothing is known. 'sl n len row': a slice of len elements of n cells each ('sn': it isn't nil). 'cref cs off': a pointer to cell number off of some cells that stay as they are. -/
inductive DV where
  | top
  | lit (v : Value)
  | agg (cs : List DV)
  | tup (cs : List DV)
  | sl (n len : Nat) (row : Nat → List DV)
  | cref (cs : List DV) (off : Nat)
  | fn (f : FuncId) (caps : List DV)
  | sn (n len : Nat) (row : Nat → List DV)

instance : Inhabited DV := ⟨.top⟩

/-- Value v reads as x; X b o: cell o of block b may yet turn (nothing is read there). -/
inductive DRep (X : Nat → Nat → Prop) (w : World) : Value → DV → Prop
  | top (v : Value) : DRep X w v .top
  | lit (v : Value) : DRep X w v (.lit v)
  | agg (vs : List Value) (cs : List DV) (hl : vs.length = cs.length) (hr : ∀ i (h : i < vs.length) (h' : i < cs.length), DRep X w vs[i] cs[i]) : DRep X w (.agg vs.toArray) (.agg cs)
  | tup (vs : List Value) (cs : List DV) (hl : vs.length = cs.length) (hr : ∀ i (h : i < vs.length) (h' : i < cs.length), DRep X w vs[i] cs[i]) : DRep X w (.tuple vs.toArray) (.tup cs)
  | nil (n : Nat) (row : Nat → List DV) : DRep X w (.slice none 0 0) (.sl n 0 row)
  | emp (a : Addr) (n : Nat) (row : Nat → List DV) : DRep X w (.slice (some a) 0 0) (.sl n 0 row)
  | sl (b off cap n len : Nat) (row : Nat → List DV) (vals : Nat → List Value) (h1 : len ≤ cap) (h2 : cap ≤ maxLen) (hb : b < w.heap.size) (hX : ∀ i, i < len → ∀ j, j < n → ¬ X b (off + i * n + j))
      (hl : ∀ i, i < len → (row i).length = n ∧ (vals i).length = n)
      (hc : ∀ i, i < len → ∀ j v, (vals i)[j]? = some v → w.cell? ⟨b, off + i * n + j, none⟩ = some v)
      (hr : ∀ i, i < len → ∀ j (h : j < (vals i).length) (h' : j < (row i).length), DRep X w (vals i)[j] (row i)[j]) : DRep X w (.slice (some ⟨b, off, none⟩) len cap) (.sl n len row)
  | cref (b base off : Nat) (cs : List DV) (vs : List Value) (hb : b < w.heap.size) (hX : ∀ j, j < cs.length → ¬ X b (base + j)) (hl : vs.length = cs.length)
      (hc : ∀ j v, vs[j]? = some v → w.cell? ⟨b, base + j, none⟩ = some v)
      (hr : ∀ i (h : i < vs.length) (h' : i < cs.length), DRep X w vs[i] cs[i]) : DRep X w (.pointer (some ⟨b, base + off, none⟩)) (.cref cs off)
  | fn (f : FuncId) (vs : List Value) (caps : List DV) (hl : vs.length = caps.length) (hr : ∀ i (h : i < vs.length) (h' : i < caps.length), DRep X w vs[i] caps[i]) : DRep X w (.func (.func f) #[] vs.toArray) (.fn f caps)
  | sn (v : Value) (n len : Nat) (row : Nat → List DV) (h : DRep X w v (.sl n len row)) (hn : v ≠ .slice none 0 0) : DRep X w v (.sn n len row)

/-- Is an object of memory no row of cells? -/
def objOther : Obj → Bool
  | .cells .. => false
  | _ => true

/-- What stays: cells outside X hold what they held, other objects outside X are as they were; X gets none of the old ones. -/
structure Keeps (X X' : Nat → Nat → Prop) (w w' : World) : Prop where
  size : w.heap.size ≤ w'.heap.size
  cells : ∀ b o v, b < w.heap.size → ¬ X b o → w.cell? ⟨b, o, none⟩ = some v → w'.cell? ⟨b, o, none⟩ = some v
  sub : ∀ b o, b < w.heap.size → X' b o → X b o
  others : ∀ (b : Nat) (o : Obj), w.heap[b]? = some o → objOther o = true → ¬ X b 0 → w'.heap[b]? = some o

theorem Keeps.same {X X' : Nat → Nat → Prop} {w : World} (h : ∀ b o, b < w.heap.size → X' b o → X b o) : Keeps X X' w w := ⟨Nat.le_refl _, fun _ _ _ _ _ h => h, h, fun _ _ h _ _ => h⟩
theorem Keeps.of_blocks {X X' : Nat → Nat → Prop} {w w' : World} (hs : w.heap.size ≤ w'.heap.size) (hb : ∀ b, b < w.heap.size → (∀ q, X b q) ∨ w'.heap[b]? = w.heap[b]?) (h : ∀ b o, b < w.heap.size → X' b o → X b o) : Keeps X X' w w' :=
  ⟨hs, fun b o v hlt hX hc => by
    rcases hb b hlt with h1 | h1
    · exact absurd (h1 o) hX
    · exact (World.cell?_of_block (w := w) (w' := w') (a := ⟨b, o, none⟩) h1).trans hc, h, fun b o ho _ hX => by
    rcases hb b (Array.getElem?_eq_some_iff.1 ho).1 with h1 | h1
    · exact absurd (h1 0) hX
    · exact h1.trans ho⟩
theorem Keeps.of_ext {X : Nat → Nat → Prop} {w w' : World} (h : Ext w w') : Keeps X X w w' := .of_blocks h.size (fun b hb => .inr (h.block b hb)) (fun _ _ _ h => h)
theorem Keeps.refl (X : Nat → Nat → Prop) (w : World) : Keeps X X w w := .same fun _ _ _ h => h
theorem Keeps.cell {X X' : Nat → Nat → Prop} {w w' : World} (k : Keeps X X' w w') {b o : Nat} {v : Value} (hb : b < w.heap.size) (hX : ¬ X b o) (h : w.cell? ⟨b, o, none⟩ = some v) : w'.cell? ⟨b, o, none⟩ = some v :=
  k.cells b o v hb hX h
theorem Keeps.trans {X X' X'' : Nat → Nat → Prop} {w w' w'' : World} (h : Keeps X X' w w') (k : Keeps X' X'' w' w'') : Keeps X X'' w w'' :=
  ⟨Nat.le_trans h.size k.size, fun b o v hb hX hc => k.cells b o v (Nat.lt_of_lt_of_le hb h.size) (fun h' => hX (h.sub b o hb h')) (h.cells b o v hb hX hc),
    fun b o hb hX => h.sub b o hb (k.sub b o (Nat.lt_of_lt_of_le hb h.size) hX),
    fun b o ho hn hX => k.others b o (h.others b o ho hn hX) hn (fun h' => hX (h.sub b 0 (Array.getElem?_eq_some_iff.1 ho).1 h'))⟩

theorem DRep.monoC {X X' : Nat → Nat → Prop} {w w' : World} (ksize : w.heap.size ≤ w'.heap.size) (kcells : ∀ b o v, b < w.heap.size → ¬ X b o → w.cell? ⟨b, o, none⟩ = some v → w'.cell? ⟨b, o, none⟩ = some v) (ksub : ∀ b o, b < w.heap.size → X' b o → X b o) {v : Value} {x : DV} (h : DRep X w v x) : DRep X' w' v x := by
  induction h with
  | top v => exact .top v
  | lit v => exact .lit v
  | agg vs cs hl _ ih => exact .agg vs cs hl ih
  | tup vs cs hl _ ih => exact .tup vs cs hl ih
  | nil n row => exact .nil n row
  | emp a n row => exact .emp a n row
  | sl b off cap n len row vals h1 h2 hb hX hl hc _ ih =>
    exact .sl b off cap n len row vals h1 h2 (Nat.lt_of_lt_of_le hb ksize) (fun i hi j hj h => hX i hi j hj (ksub b _ hb h)) hl (fun i hi j v hv => kcells _ _ _ hb (hX i hi j (by have := (List.getElem?_eq_some_iff.1 hv).1; have := (hl i hi).2; omega)) (hc i hi j v hv)) ih
  | cref b base off cs vs hb hX hl hc _ ih =>
    exact .cref b base off cs vs (Nat.lt_of_lt_of_le hb ksize) (fun j hj h => hX j hj (ksub b _ hb h)) hl (fun j v hv => kcells _ _ _ hb (hX j (by have := (List.getElem?_eq_some_iff.1 hv).1; omega)) (hc j v hv)) ih
  | fn f vs caps hl _ ih => exact .fn f vs caps hl ih
  | sn v n len row _ hn ih => exact .sn v n len row ih hn

theorem DRep.mono {X X' : Nat → Nat → Prop} {w w' : World} (k : Keeps X X' w w') {v : Value} {x : DV} (h : DRep X w v x) : DRep X' w' v x := h.monoC k.size k.cells k.sub

theorem DRep.ext {X : Nat → Nat → Prop} {w w' : World} {v : Value} {x : DV} (h : DRep X w v x) (he : Ext w w') : DRep X w' v x := h.mono (.of_ext he)

/-- Some values read as some data, one by one. -/
def DReps (X : Nat → Nat → Prop) (w : World) (vs : List Value) (as : List DV) : Prop := vs.length = as.length ∧ ∀ i (h : i < vs.length) (h' : i < as.length), DRep X w vs[i] as[i]

theorem DReps.nil (X : Nat → Nat → Prop) (w : World) : DReps X w [] [] := ⟨rfl, fun i h => by simp at h⟩
theorem DReps.cons {X : Nat → Nat → Prop} {w : World} {v : Value} {a : DV} {vs : List Value} {as : List DV} (h : DRep X w v a) (hs : DReps X w vs as) : DReps X w (v :: vs) (a :: as) := by
  refine ⟨by simp [hs.1], fun i hi hi' => ?_⟩
  cases i with
  | zero => exact h
  | succ i => exact hs.2 i (by simpa using hi) (by simpa using hi')
theorem DReps.uncons {X : Nat → Nat → Prop} {w : World} {vs : List Value} {a : DV} {as : List DV} (h : DReps X w vs (a :: as)) : ∃ v vs', vs = v :: vs' ∧ DRep X w v a ∧ DReps X w vs' as := by
  obtain ⟨hl, hr⟩ := h
  cases vs with
  | nil => simp at hl
  | cons v vs' => exact ⟨v, vs', rfl, hr 0 (by simp) (by simp), by simpa using hl, fun i hi hi' => hr (i + 1) (by simpa using hi) (by simpa using hi')⟩
theorem DReps.unnil {X : Nat → Nat → Prop} {w : World} {vs : List Value} (h : DReps X w vs []) : vs = [] := by
  have := h.1
  simpa using this
theorem DReps.mono {X X' : Nat → Nat → Prop} {w w' : World} (k : Keeps X X' w w') {vs : List Value} {as : List DV} (h : DReps X w vs as) : DReps X' w' vs as := ⟨h.1, fun i hi hi' => (h.2 i hi hi').mono k⟩

/-- x says no less than y. -/
def DLe (x y : DV) : Prop := ∀ X w v, DRep X w v x → DRep X w v y
theorem DLe.refl (x : DV) : DLe x x := fun _ _ _ h => h
theorem DLe.trans {x y z : DV} (h : DLe x y) (k : DLe y z) : DLe x z := fun X w v hv => k X w v (h X w v hv)
theorem DLe.top (x : DV) : DLe x .top := fun _ _ v _ => .top v
theorem DLe.of_eq {x y : DV} (h : x = y) : DLe x y := h ▸ DLe.refl x
theorem DLe.sl {n len : Nat} {row row' : Nat → List DV} (h : ∀ i, i < len → row i = row' i) : DLe (.sl n len row) (.sl n len row') := by
  intro X w v hv
  cases hv with
  | nil => exact .nil n row'
  | emp a => exact .emp a n row'
  | sl b off cap n len _ vals h1 h2 hb hX hl hc hr =>
    refine .sl b off cap n len row' vals h1 h2 hb hX (fun i hi => h i hi ▸ hl i hi) hc (fun i hi j hj hj' => ?_)
    have e := h i hi
    have hj'' : j < (row i).length := by rw [e]; exact hj'
    have := hr i hi j hj hj''
    simp only [e] at this
    exact this
theorem DLe.agg {cs cs' : List DV} (hl : cs.length = cs'.length) (h : ∀ i (h : i < cs.length) (h' : i < cs'.length), DLe cs[i] cs'[i]) : DLe (.agg cs) (.agg cs') := by
  intro X w v hv
  cases hv with
  | agg vs _ hl' hr => exact .agg vs cs' (hl'.trans hl) fun i hi hi' => h i (by omega) hi' X w _ (hr i hi (by omega))
theorem DLe.tup {cs cs' : List DV} (hl : cs.length = cs'.length) (h : ∀ i (h : i < cs.length) (h' : i < cs'.length), DLe cs[i] cs'[i]) : DLe (.tup cs) (.tup cs') := by
  intro X w v hv
  cases hv with
  | tup vs _ hl' hr => exact .tup vs cs' (hl'.trans hl) fun i hi hi' => h i (by omega) hi' X w _ (hr i hi (by omega))

/-- Function number F has a body of its own: a call through a function's value enters it. -/
def HasBody (P : Program) (F : FuncId) : Prop := ∃ fn c, P.funcs[F]? = some fn ∧ (fn.name == "runtime.NumGoroutine") = false ∧ fn.body = some c

theorem HasBody.run {P : Program} {F : FuncId} (h : HasBody P F) (args : Array Value) (w : World) : (callFunc F args).run P w = .ok (.enter F args) w := by
  obtain ⟨fn, c, hf, hn, hb⟩ := h
  have hn' : ¬ fn.name = "runtime.NumGoroutine" := by simpa using hn
  simp [callFunc, program, Sem.run, hf, hn', hb, pure, bind, Sem.bind]

/-- A function's contract: whatever values read as these data, the call ends, hands back what reads as r, and turns nothing that was there. -/
def APure (P : Program) (F : FuncId) (as : List DV) (r : DV) : Prop :=
  HasBody P F ∧ ∀ (X : Nat → Nat → Prop) (w : World) (vs : Array Value), (∀ b o, X b o → b < w.heap.size) → DReps X w vs.toList as → Calls P F vs w fun e w' => Ext w w' ∧ ∃ v, e = .returned v ∧ DRep X w' v r

/-- A slice that is nil, or isn't. -/
theorem APure.nilSplit {P : Program} {F : FuncId} {n len : Nat} {row : Nat → List DV} {as : List DV} {r : DV} (h0 : len = 0 → APure P F (.lit (.slice none 0 0) :: as) r) (h1 : APure P F (.sn n len row :: as) r) : APure P F (.sl n len row :: as) r := by
  refine ⟨h1.1, fun X w vs hX hvs => ?_⟩
  obtain ⟨v, vs', he, hv, hr⟩ := hvs.uncons
  by_cases hn : v = .slice none 0 0
  · have hl : len = 0 := by
      subst hn
      cases hv
      rfl
    subst hn
    exact (h0 hl).2 X w vs hX (by rw [he]; exact DReps.cons (.lit _) hr)
  · exact h1.2 X w vs hX (by rw [he]; exact DReps.cons (.sn v _ _ _ hv hn) hr)

theorem APure.le {P : Program} {F : FuncId} {as : List DV} {r r' : DV} (h : APure P F as r) (hr : DLe r r') : APure P F as r' := by
  refine ⟨h.1, fun X w vs hX hvs => ?_⟩
  refine (h.2 X w vs hX hvs).mono ?_
  rintro e w' ⟨hx, v, he, hv⟩
  exact ⟨hx, v, he, hr _ _ _ hv⟩

theorem APure.arg {P : Program} {F : FuncId} {as as' : List DV} {r : DV} (h : APure P F as' r) (hl : as.length = as'.length) (hle : ∀ i (h : i < as.length) (h' : i < as'.length), DLe as[i] as'[i]) : APure P F as r := by
  refine ⟨h.1, fun X w vs hX hvs => ?_⟩
  exact h.2 X w vs hX ⟨hvs.1.trans hl, fun i hi hi' => hle i (by have := hvs.1; omega) hi' _ _ _ (hvs.2 i hi (by have := hvs.1; omega))⟩

end Go.Proofs.Ytndpejmebhcaaaa
/- The evaluator's own states: slots in a tree, objects of the call's own by number; what it means that an activation and a world read as such. -/
namespace Go.Proofs.Ytndpejmebhcaaaa
open Go.RowKit

/-- What a slot holds: plain data; data of which something is known only where a guard says yes; a pointer into an object of the call's own; a slice that the call owns; a map that the call made; closures, structs and tuples of such. -/
inductive AV where
  | d (x : DV)
  | whn (g : Bool) (x : AV)
  | ptr (id off : Nat)
  | own (id len : Nat)
  | mp (id : Nat)
  | el (id n i off : Nat)
  | fn (f : FuncId) (caps : List AV)
  | agg (cs : List AV)
  | tup (cs : List AV)

instance : Inhabited AV := ⟨.d .top⟩

/-- An object of the call's own: cells; a row that it may append to (element's type e, n cells each); one whose elements it may turn ('vec'); a map (keys of kind kd, n of them; what is at a key). -/
inductive AObj where
  | box (cs : List AV)
  | row (e : TypeId) (n len : Nat) (row : Nat → List DV)
  | vec (e : TypeId) (n len : Nat) (row : Nat → List AV)
  | map (kd : TypeDesc) (n : Nat) (f : Value → Option Value)

/-- The objects of the call's own, by number. -/
abbrev Heap := Nat → Option AObj

def hnil : Heap := fun _ => none
def hget (H : Heap) (i : Nat) : Option AObj := H i
def hadd (j : Nat) (o : AObj) (H : Heap) : Heap := fun i => if j = i then some o else H i
def hset (H : Heap) (i : Nat) (o : AObj) : Heap := fun k => if i = k then (H k).map (fun _ => o) else H k
def hdel (H : Heap) (i : Nat) : Heap := fun k => if i = k then none else H k

theorem hget_nil (k : Nat) : hget hnil k = none := rfl
theorem hget_add (H : Heap) (i k : Nat) (o : AObj) : hget (hadd i o H) k = if i = k then some o else hget H k := rfl
theorem hget_del (h : Heap) (i k : Nat) : hget (hdel h i) k = if i = k then none else hget h k := rfl
theorem hget_set (h : Heap) (i k : Nat) (o : AObj) : hget (hset h i o) k = if i = k then (hget h k).map (fun _ => o) else hget h k := rfl

theorem hset_hadd (H : Heap) (i j : Nat) (o o' : AObj) : hset (hadd j o H) i o' = if j = i then hadd i o' H else hadd j o (hset H i o') := by
  funext k
  by_cases h : j = i
  · subst h
    by_cases h1 : j = k <;> simp [hset, hadd, h1]
  · rw [if_neg h]
    by_cases h1 : i = k
    · subst h1; simp [hset, hadd, h]
    · by_cases h2 : j = k <;> simp [hset, hadd, h1, h2]
theorem hset_nil (i : Nat) (o : AObj) : hset hnil i o = hnil := by
  funext k
  simp [hset, hnil]
theorem hdel_hadd (H : Heap) (i j : Nat) (o : AObj) : hdel (hadd j o H) i = if j = i then hdel H i else hadd j o (hdel H i) := by
  funext k
  by_cases h : j = i
  · subst h
    by_cases h1 : j = k <;> simp [hdel, hadd, h1]
  · rw [if_neg h]
    by_cases h1 : i = k
    · subst h1; simp [hdel, hadd, h]
    · by_cases h2 : j = k <;> simp [hdel, hadd, h1, h2]
theorem hdel_nil (i : Nat) : hdel hnil i = hnil := by
  funext k
  simp [hdel, hnil]

/-- The block of a value that an object is held by. -/
def blk : Value → Option Nat
  | .pointer (some a) => some a.block
  | .slice (some a) _ _ => some a.block
  | .map (some b) => some b
  | _ => none

/-- Is a value a key of a kind? -/
def kdOk : TypeDesc → Value → Bool
  | .string, .string _ => true
  | .int q, .int q' _ => decide (q = q')
  | _, _ => false
/-- Are two keys the same? -/
def keq : Value → Value → Bool
  | .string a, .string b => a == b
  | .int _ a, .int _ b => a == b
  | _, _ => false
/-- What some entries hold at a key. -/
def entFind : List MapEntry → Value → Option Value
  | [], _ => none
  | x :: l, k => if keq k x.key then some x.val else entFind l k

/-- A function that hands back a row of its own making, which nobody else knows: elements of type e, as r tells. -/
def AOwn (P : Program) (F : FuncId) (args : List DV) (e : TypeId) (n len : Nat) (row : Nat → List DV) : Prop :=
  HasBody P F ∧ ∀ (X : Nat → Nat → Prop) (w : World) (vs : Array Value), (∀ b o, X b o → b < w.heap.size) → DReps X w vs.toList args → Calls P F vs w fun e' w' => Ext w w' ∧ ∃ v, e' = .returned v ∧
    ∃ xs : Nat → List Value, w'.ownsRow w.heap.size e n v len ((List.range len).flatMap xs) ∧ ∀ i, i < len → (xs i).length = n ∧ DReps (fun b o => X b o ∨ (blk v = some b ∧ len * n ≤ o)) w' (xs i) (row i)
/-- The same, of elements that may turn: none of them tells of the row's own block. -/
def AOwnV (P : Program) (F : FuncId) (args : List DV) (e : TypeId) (n len : Nat) (row : Nat → List DV) : Prop :=
  HasBody P F ∧ ∀ (X : Nat → Nat → Prop) (w : World) (vs : Array Value), (∀ b o, X b o → b < w.heap.size) → DReps X w vs.toList args → Calls P F vs w fun e' w' => Ext w w' ∧ ∃ v, e' = .returned v ∧
    ∃ xs : Nat → List Value, w'.ownsRow w.heap.size e n v len ((List.range len).flatMap xs) ∧ ∀ i, i < len → (xs i).length = n ∧ DReps (fun b o => X b o ∨ blk v = some b) w' (xs i) (row i)
def AOwnB (vc : Bool) (P : Program) (F : FuncId) (args : List DV) (e : TypeId) (n len : Nat) (row : Nat → List DV) : Prop := match vc with
  | true => AOwnV P F args e n len row
  | false => AOwn P F args e n len row

inductive Rep (γ : Nat → Option Value) (X : Nat → Nat → Prop) (w : World) : Value → AV → Prop
  | d (v : Value) (x : DV) (h : DRep X w v x) : Rep γ X w v (.d x)
  | whn (v : Value) (g : Bool) (x : AV) (h : g = true → Rep γ X w v x) (h0 : g = false → v = undef) : Rep γ X w v (.whn g x)
  | ptr (b id off : Nat) (h : γ id = some (.pointer (some ⟨b, 0, none⟩))) : Rep γ X w (.pointer (some ⟨b, off, none⟩)) (.ptr id off)
  | own (v : Value) (id len : Nat) (h : γ id = some v) : Rep γ X w v (.own id len)
  | mp (b id : Nat) (h : γ id = some (.map (some b))) : Rep γ X w (.map (some b)) (.mp id)
  | el (b len cap id n i off : Nat) (h : γ id = some (.slice (some ⟨b, 0, none⟩) len cap)) : Rep γ X w (.pointer (some ⟨b, i * n + off, none⟩)) (.el id n i off)
  | fn (f : FuncId) (vs : List Value) (caps : List AV) (hl : vs.length = caps.length) (hr : ∀ i (h : i < vs.length) (h' : i < caps.length), Rep γ X w vs[i] caps[i]) : Rep γ X w (.func (.func f) #[] vs.toArray) (.fn f caps)
  | agg (vs : List Value) (cs : List AV) (hl : vs.length = cs.length) (hr : ∀ i (h : i < vs.length) (h' : i < cs.length), Rep γ X w vs[i] cs[i]) : Rep γ X w (.agg vs.toArray) (.agg cs)
  | tup (vs : List Value) (cs : List AV) (hl : vs.length = cs.length) (hr : ∀ i (h : i < vs.length) (h' : i < cs.length), Rep γ X w vs[i] cs[i]) : Rep γ X w (.tuple vs.toArray) (.tup cs)

/-- What is known stays known. -/
def Knows (γ γ' : Nat → Option Value) : Prop := ∀ id v, γ id = some v → γ' id = some v
theorem Knows.refl (γ : Nat → Option Value) : Knows γ γ := fun _ _ h => h

theorem Rep.mono {γ γ' : Nat → Option Value} {X X' : Nat → Nat → Prop} {w w' : World} (hγ : Knows γ γ') (k : Keeps X X' w w') {v : Value} {x : AV} (h : Rep γ X w v x) : Rep γ' X' w' v x := by
  induction h with
  | d v x h => exact .d v x (h.mono k)
  | whn v g x _ h0 ih => exact .whn v g x ih h0
  | ptr b id off h => exact .ptr b id off (hγ _ _ h)
  | own v id len h => exact .own v id len (hγ _ _ h)
  | mp b id h => exact .mp b id (hγ _ _ h)
  | el b len cap id n i off h => exact .el b len cap id n i off (hγ _ _ h)
  | fn f vs caps hl _ ih => exact .fn f vs caps hl ih
  | agg vs cs hl _ ih => exact .agg vs cs hl ih
  | tup vs cs hl _ ih => exact .tup vs cs hl ih

theorem Rep.top {γ : Nat → Option Value} {X : Nat → Nat → Prop} {w : World} (v : Value) : Rep γ X w v (.d .top) := .d v _ (.top v)

/-- Some values read as some slots' contents. -/
def Reps (γ : Nat → Option Value) (X : Nat → Nat → Prop) (w : World) (vs : List Value) (as : List AV) : Prop := vs.length = as.length ∧ ∀ i (h : i < vs.length) (h' : i < as.length), Rep γ X w vs[i] as[i]
theorem Reps.nil (γ : Nat → Option Value) (X : Nat → Nat → Prop) (w : World) : Reps γ X w [] [] := ⟨rfl, fun i h => by simp at h⟩
theorem Reps.cons {γ : Nat → Option Value} {X : Nat → Nat → Prop} {w : World} {v : Value} {a : AV} {vs : List Value} {as : List AV} (h : Rep γ X w v a) (hs : Reps γ X w vs as) : Reps γ X w (v :: vs) (a :: as) := by
  refine ⟨by simp [hs.1], fun i hi hi' => ?_⟩
  cases i with
  | zero => exact h
  | succ i => exact hs.2 i (by simpa using hi) (by simpa using hi')
theorem Reps.append {γ : Nat → Option Value} {X : Nat → Nat → Prop} {w : World} {vs vs' : List Value} {as as' : List AV} (h : Reps γ X w vs as) (h' : Reps γ X w vs' as') : Reps γ X w (vs ++ vs') (as ++ as') := by
  induction vs generalizing as with
  | nil =>
    have : as = [] := by have := h.1; simpa using this.symm
    subst this; simpa using h'
  | cons v vs ih =>
    cases as with
    | nil => exact absurd h.1 (by simp)
    | cons a as => exact Reps.cons (h.2 0 (by simp) (by simp)) (ih ⟨by simpa using h.1, fun i hi hi' => h.2 (i + 1) (by simpa using hi) (by simpa using hi')⟩)
theorem Reps.mono {γ γ' : Nat → Option Value} {X X' : Nat → Nat → Prop} {w w' : World} (hγ : Knows γ γ') (k : Keeps X X' w w') {vs : List Value} {as : List AV} (h : Reps γ X w vs as) : Reps γ' X' w' vs as := ⟨h.1, fun i hi hi' => (h.2 i hi hi').mono hγ k⟩

/-- The cells of an object that may turn: all of a box; of a row what lies behind its elements. -/
def turns : AObj → Nat → Prop
  | .box _, _ => True
  | .row _ n len _, o => len * n ≤ o
  | .vec _ _ _ _, _ => True
  | .map _ _ _, _ => True

/-- The cells that may turn: those of X0 (the callers'), and those of the call's own objects. -/
def XOf (X0 : Nat → Nat → Prop) (γ : Nat → Option Value) (H : Heap) : Nat → Nat → Prop := fun b o => X0 b o ∨ ∃ id ob v, hget H id = some ob ∧ γ id = some v ∧ blk v = some b ∧ turns ob o

/-- An object is held by value v: its cells, or its row. -/
def ORep (γ : Nat → Option Value) (X : Nat → Nat → Prop) (B : Nat) (w : World) (v : Value) : AObj → Prop
  | .box cs => ∃ b arr t, v = .pointer (some ⟨b, 0, none⟩) ∧ B ≤ b ∧ w.heap[b]? = some (.cells arr t (0, 0)) ∧ Reps γ X w arr.toList cs
  | .row e n len row => ∃ xs : Nat → List Value, w.ownsRow B e n v len ((List.range len).flatMap xs) ∧ ∀ i, i < len → (xs i).length = n ∧ DReps X w (xs i) (row i)
  | .vec e n len row => ∃ xs : Nat → List Value, w.ownsRow B e n v len ((List.range len).flatMap xs) ∧ ∀ i, i < len → (xs i).length = n ∧ Reps γ X w (xs i) (row i)
  | .map kd n f => ∃ b ent clock, v = .map (some b) ∧ B ≤ b ∧ w.heap[b]? = some (.map ent clock) ∧ ent.size = n ∧ (∀ x, x ∈ ent.toList → kdOk kd x.key = true) ∧ ∀ k, kdOk kd k = true → entFind ent.toList k = f k

/-- The world and the objects of the call's own, as the evaluator sees them. W0: the world in which the call began. -/
structure St (X0 : Nat → Nat → Prop) (W0 : World) (γ : Nat → Option Value) (w : World) (H : Heap) : Prop where
  hx : ∀ b o, X0 b o → b < W0.heap.size
  ext : Ext W0 w
  obj : ∀ id o, hget H id = some o → ∃ v, γ id = some v ∧ ORep γ (XOf X0 γ H) W0.heap.size w v o
  dis : ∀ id id' o o' v v' b, hget H id = some o → hget H id' = some o' → γ id = some v → γ id' = some v' → blk v = some b → blk v' = some b → id = id'

/-- Slots: the number's bits, the lowest one first. -/
abbrev Slot := List Bool
def Slot.idx : Slot → Nat
  | [] => 0
  | b :: p => 2 * Slot.idx p + (if b then 1 else 0)
theorem Slot.idx_inj : ∀ {p q : Slot}, p.length = q.length → Slot.idx p = Slot.idx q → p = q
  | [], [], _, _ => rfl
  | b :: p, c :: q, hl, h => by
    have hb : b = c ∧ Slot.idx p = Slot.idx q := by
      cases b <;> cases c <;> simp [Slot.idx] at h ⊢ <;> omega
    rw [hb.1, Slot.idx_inj (by simpa using hl) hb.2]

/-- A tree of slots; a leaf stands for all slots below it. -/
inductive T where
  | leaf (a : AV)
  | node (l r : T)
def T.get : T → Slot → AV
  | .leaf a, _ => a
  | .node l _, [] => l.get []
  | .node l _, false :: p => l.get p
  | .node _ r, true :: p => r.get p
def T.set : T → Slot → AV → T
  | .leaf _, [], x => .leaf x
  | .node _ _, [], x => .leaf x
  | .leaf a, false :: p, x => .node ((T.leaf a).set p x) (.leaf a)
  | .leaf a, true :: p, x => .node (.leaf a) ((T.leaf a).set p x)
  | .node l r, false :: p, x => .node (l.set p x) r
  | .node l r, true :: p, x => .node l (r.set p x)
theorem T.get_set (x : AV) : ∀ (p : Slot) (t : T), (t.set p x).get p = x
  | [], .leaf _ => rfl
  | [], .node _ _ => rfl
  | false :: p, .leaf a => T.get_set x p (.leaf a)
  | true :: p, .leaf a => T.get_set x p (.leaf a)
  | false :: p, .node l _ => T.get_set x p l
  | true :: p, .node _ r => T.get_set x p r
theorem T.get_set_ne (x : AV) : ∀ (p q : Slot) (t : T), p.length = q.length → p ≠ q → (t.set p x).get q = t.get q
  | [], [], _, _, h => absurd rfl h
  | false :: p, false :: q, .leaf a, hl, h => T.get_set_ne x p q (.leaf a) (by simpa using hl) (fun e => h (by rw [e]))
  | true :: p, true :: q, .leaf a, hl, h => T.get_set_ne x p q (.leaf a) (by simpa using hl) (fun e => h (by rw [e]))
  | false :: p, true :: q, .leaf a, hl, h => rfl
  | true :: p, false :: q, .leaf a, hl, h => rfl
  | false :: p, false :: q, .node l r, hl, h => T.get_set_ne x p q l (by simpa using hl) (fun e => h (by rw [e]))
  | true :: p, true :: q, .node l r, hl, h => T.get_set_ne x p q r (by simpa using hl) (fun e => h (by rw [e]))
  | false :: p, true :: q, .node l r, hl, h => rfl
  | true :: p, false :: q, .node l r, hl, h => rfl
/-- Two stores into different slots may come in either order, as far as can be seen. -/
theorem T.get_comm (x y : AV) (p q r : Slot) (t : T) (h1 : p.length = r.length) (h2 : q.length = r.length) (hpq : p ≠ q) : ((t.set p x).set q y).get r = ((t.set q y).set p x).get r := by
  by_cases e1 : q = r
  · subst e1
    rw [T.get_set, T.get_set_ne x p q _ h1 hpq, T.get_set]
  · rw [T.get_set_ne y q r _ h2 e1]
    by_cases e2 : p = r
    · subst e2; rw [T.get_set, T.get_set]
    · rw [T.get_set_ne x p r _ h1 e2, T.get_set_ne x p r _ h1 e2, T.get_set_ne y q r _ h2 e1]

theorem T.set_comm (x y : AV) : ∀ (p q : Slot) (t : T), p.length = q.length → p ≠ q → (t.set p x).set q y = (t.set q y).set p x
  | [], [], _, _, h => absurd rfl h
  | false :: p, false :: q, .leaf a, hl, h => congrArg (T.node · _) (T.set_comm x y p q (.leaf a) (by simpa using hl) (fun e => h (by rw [e])))
  | true :: p, true :: q, .leaf a, hl, h => congrArg (T.node _ ·) (T.set_comm x y p q (.leaf a) (by simpa using hl) (fun e => h (by rw [e])))
  | false :: p, true :: q, .leaf a, hl, h => rfl
  | true :: p, false :: q, .leaf a, hl, h => rfl
  | false :: p, false :: q, .node l r, hl, h => congrArg (T.node · _) (T.set_comm x y p q l (by simpa using hl) (fun e => h (by rw [e])))
  | true :: p, true :: q, .node l r, hl, h => congrArg (T.node _ ·) (T.set_comm x y p q r (by simpa using hl) (fun e => h (by rw [e])))
  | false :: p, true :: q, .node l r, hl, h => rfl
  | true :: p, false :: q, .node l r, hl, h => rfl

/-- The slots of an activation read as a tree. -/
def EnvRep (D : Nat) (γ : Nat → Option Value) (X : Nat → Nat → Prop) (w : World) (a : Act) (e : T) : Prop := ∀ p : Slot, p.length = D → Rep γ X w (a.tmps.getD p.idx undef) (e.get p)

theorem EnvRep.mono {D : Nat} {γ γ' : Nat → Option Value} {X X' : Nat → Nat → Prop} {w w' : World} (hγ : Knows γ γ') (k : Keeps X X' w w') {a : Act} {e : T} (h : EnvRep D γ X w a e) : EnvRep D γ' X' w' a e := fun p hp => (h p hp).mono hγ k

theorem EnvRep.put {D : Nat} {γ : Nat → Option Value} {X : Nat → Nat → Prop} {w : World} {a : Act} {e : T} (h : EnvRep D γ X w a e) {p : Slot} (hp : p.length = D) (hs : p.idx < a.tmps.size) {v : Value} {x : AV} (hv : Rep γ X w v x) :
    EnvRep D γ X w (a.put (some p.idx) v) (e.set p x) := by
  intro q hq
  by_cases hpq : p = q
  · subst hpq
    rw [T.get_set]
    have : (a.put (some p.idx) v).tmps.getD p.idx undef = v := by simp [Act.put, hs]
    rw [this]; exact hv
  · rw [T.get_set_ne x p q e (hp.trans hq.symm) hpq]
    have hne : ¬ p.idx = q.idx := fun he => hpq (Slot.idx_inj (hp.trans hq.symm) he)
    have : (a.put (some p.idx) v).tmps.getD q.idx undef = a.tmps.getD q.idx undef := by
      simp only [Act.put, Array.getD_eq_getD_getElem?]
      rw [Array.getElem?_setIfInBounds_ne hne]
    rw [this]; exact h q hq

theorem put_size (a : Act) (d : Option Tmp) (v : Value) : (a.put d v).tmps.size = a.tmps.size := by cases d <;> simp [Act.put]
theorem put_defers (a : Act) (d : Option Tmp) (v : Value) : (a.put d v).defers = a.defers := by cases d <;> rfl

end Go.Proofs.Ytndpejmebhcaaaa
/- What each operation makes of what is read: pure functions on the evaluator's values; and that the model does so. -/
namespace Go.Proofs.Ytndpejmebhcaaaa
open Go.RowKit

abbrev DV.int (n : Int) : DV := .lit (.int .i64 n)
abbrev DV.bool (b : Bool) : DV := .lit (.bool b)
abbrev DV.str (s : ByteArray) : DV := .lit (.string s)
abbrev AV.int (n : Int) : AV := .d (.lit (.int .i64 n))
abbrev AV.bool (b : Bool) : AV := .d (.lit (.bool b))

section inv
variable {γ : Nat → Option Value} {X : Nat → Nat → Prop} {w : World} {v : Value}
theorem Rep.lit {u : Value} (h : Rep γ X w v (.d (.lit u))) : v = u := by
  cases h with | d _ _ h => cases h with | lit => rfl
theorem Rep.dv {x : DV} (h : Rep γ X w v (.d x)) : DRep X w v x := by
  cases h with | d _ _ h => exact h
theorem Rep.ofLit (u : Value) : Rep γ X w u (.d (.lit u)) := .d u _ (.lit u)
end inv

/-- The known lists of plain data, all or none. -/
def allD : List AV → Option (List DV)
  | [] => some []
  | .d x :: r => match allD r with | some l => some (x :: l) | none => none
  | _ :: _ => none
def mkAgg (cs : List AV) : AV := match allD cs with | some ds => .d (.agg ds) | none => .agg cs
def mkTup (cs : List AV) : AV := match allD cs with | some ds => .d (.tup ds) | none => .tup cs
def mkFn (F : FuncId) (cs : List AV) : AV := match allD cs with | some ds => .d (.fn F ds) | none => .fn F cs

theorem allD_some : ∀ {cs : List AV} {ds : List DV}, allD cs = some ds → cs = ds.map AV.d
  | [], ds, h => by simp [allD] at h; simp [← h]
  | .d x :: r, ds, h => by
    cases hr : allD r with
    | none => simp [allD, hr] at h
    | some l =>
      simp [allD, hr] at h
      rw [allD_some hr, ← h]; rfl
  | .whn g x :: r, ds, h => by simp [allD] at h
  | .ptr i o :: r, ds, h => by simp [allD] at h
  | .own i o :: r, ds, h => by simp [allD] at h
  | .el i n k o :: r, ds, h => by simp [allD] at h
  | .fn i o :: r, ds, h => by simp [allD] at h
  | .agg i :: r, ds, h => by simp [allD] at h
  | .tup i :: r, ds, h => by simp [allD] at h

section mk
variable {γ : Nat → Option Value} {X : Nat → Nat → Prop} {w : World}
theorem Reps.allD {vs : List Value} {cs : List AV} {ds : List DV} (h : Reps γ X w vs cs) (hd : Proofs.Ytndpejmebhcaaaa.allD cs = some ds) : DReps X w vs ds := by
  have e := allD_some hd
  subst e
  refine ⟨by simpa using h.1, fun i hi hi' => ?_⟩
  have := h.2 i hi (by simpa using hi')
  simp only [List.getElem_map] at this
  exact this.dv
theorem Rep.mkAgg {vs : List Value} {cs : List AV} (h : Reps γ X w vs cs) : Rep γ X w (.agg vs.toArray) (mkAgg cs) := by
  unfold Proofs.Ytndpejmebhcaaaa.mkAgg
  cases hd : allD cs with
  | none => exact .agg vs cs h.1 h.2
  | some ds => have := h.allD hd; exact .d _ _ (.agg vs ds this.1 this.2)
theorem Rep.mkTup {vs : List Value} {cs : List AV} (h : Reps γ X w vs cs) : Rep γ X w (.tuple vs.toArray) (mkTup cs) := by
  unfold Proofs.Ytndpejmebhcaaaa.mkTup
  cases hd : allD cs with
  | none => exact .tup vs cs h.1 h.2
  | some ds => have := h.allD hd; exact .d _ _ (.tup vs ds this.1 this.2)
theorem Rep.mkFn {F : FuncId} {vs : List Value} {cs : List AV} (h : Reps γ X w vs cs) : Rep γ X w (.func (.func F) #[] vs.toArray) (mkFn F cs) := by
  unfold Proofs.Ytndpejmebhcaaaa.mkFn
  cases hd : allD cs with
  | none => exact .fn F vs cs h.1 h.2
  | some ds => have := h.allD hd; exact .d _ _ (.fn F vs ds this.1 this.2)
theorem DReps.reps {vs : List Value} {ds : List DV} (h : DReps X w vs ds) : Reps γ X w vs (ds.map AV.d) :=
  ⟨by simpa using h.1, fun i hi hi' => by simp only [List.getElem_map]; exact .d _ _ (h.2 i hi (by simpa using hi'))⟩
/-- A struct's cells. -/
theorem Rep.unAgg {v : Value} {cs : List AV} (h : Rep γ X w v (.agg cs)) : ∃ vs, v = .agg vs ∧ Reps γ X w vs.toList cs := by
  cases h with | agg vs _ hl hr => exact ⟨_, rfl, hl, hr⟩
theorem DRep.unAgg {v : Value} {cs : List DV} (h : DRep X w v (.agg cs)) : ∃ vs, v = .agg vs ∧ DReps X w vs.toList cs := by
  cases h with | agg vs _ hl hr => exact ⟨_, rfl, hl, hr⟩
end mk

/-- Is it surely one cell? -/
def DV.cell : DV → Bool
  | .lit v => v.oneCell'
  | .sl .. | .cref .. | .fn .. => true
  | _ => false
def AV.cell : AV → Bool
  | .d x => x.cell
  | .ptr .. | .fn .. | .own .. | .mp .. => true
  | _ => false
/-- The cells of a value. -/
def AV.cells : AV → List AV
  | .d (.agg cs) => cs.map .d
  | .agg cs => cs
  | a => [a]
def AV.cellOk (n : Nat) : AV → Bool
  | .d (.agg cs) => cs.length == n && cs.all DV.cell
  | .agg cs => cs.length == n && cs.all AV.cell
  | a => n == 1 && a.cell

theorem flat_length {f : Nat → List Value} {n : Nat} : ∀ (m : Nat), (∀ i, i < m → (f i).length = n) → ((List.range m).flatMap f).length = m * n
  | 0, _ => by simp
  | m + 1, h => by
    rw [List.range_succ, List.flatMap_append, List.length_append, flat_length m (fun i hi => h i (by omega))]
    simp [h m (by omega), Nat.add_mul]

theorem flat_idx {f : Nat → List Value} {n : Nat} : ∀ (m : Nat), (∀ i, i < m → (f i).length = n) → ∀ j u, ((List.range m).flatMap f)[j]? = some u → ∃ i k, i < m ∧ j = i * n + k ∧ (f i)[k]? = some u
  | 0, _, j, u, h => by simp at h
  | m + 1, hl, j, u, h => by
    rw [List.range_succ, List.flatMap_append] at h
    have hlen := flat_length m (fun i hi => hl i (by omega))
    by_cases hj : j < m * n
    · rw [List.getElem?_append_left (by omega)] at h
      obtain ⟨i, k, h1, h2, h3⟩ := flat_idx m (fun i hi => hl i (by omega)) j u h
      exact ⟨i, k, by omega, h2, h3⟩
    · rw [List.getElem?_append_right (by omega), hlen] at h
      simp at h
      exact ⟨m, j - m * n, by omega, by omega, h⟩

theorem flat_congr {α β : Type} {l : List α} {f g : α → List β} (h : ∀ i ∈ l, f i = g i) : l.flatMap f = l.flatMap g := by
  induction l with
  | nil => rfl
  | cons a l ih => rw [List.flatMap_cons, List.flatMap_cons, h a (by simp), ih (fun i hi => h i (by simp [hi]))]

theorem flat_append (f g : Nat → List Value) (a b : Nat) : (List.range a).flatMap f ++ (List.range b).flatMap g = (List.range (a + b)).flatMap (fun i => if i < a then f i else g (i - a)) := by
  rw [List.range_add, List.flatMap_append]
  congr 1
  · apply flat_congr
    intro i hi
    rw [if_pos (List.mem_range.1 hi)]
  · rw [List.flatMap_map]
    apply flat_congr
    intro i _
    rw [if_neg (by omega)]
    congr 1
    omega

theorem flat_get {f : Nat → List Value} {n len i : Nat} (hl : ∀ i, i < len → (f i).length = n) (hi : i < len) {j : Nat} (hj : j < n) : ((List.range len).flatMap f)[i * n + j]? = (f i)[j]? := by
  have e1 : List.range len = List.range i ++ (List.range (len - i)).map (i + ·) := by rw [← List.range_add]; congr 1; omega
  have hli := flat_length i (fun k hk => hl k (by omega))
  rw [e1, List.flatMap_append, List.getElem?_append_right (by rw [hli]; omega), hli, show i * n + j - i * n = j by omega, List.flatMap_map]
  have e2 : List.range (len - i) = 0 :: (List.range (len - i - 1)).map (· + 1) := by
    rw [show len - i = (len - i - 1) + 1 by omega, List.range_succ_eq_map]; simp
  rw [e2, List.flatMap_cons, List.getElem?_append_left (by
    have := hl i hi
    simp only [Nat.add_zero]
    omega)]
  simp
/-- The cells of an element of a row. -/
theorem vec_cells {w : World} {B : Nat} {e : TypeId} {n len cap b : Nat} {xs : Nat → List Value} (hown : w.ownsRow B e n (.slice (some ⟨b, 0, none⟩) len cap) len ((List.range len).flatMap xs)) (hl : ∀ i, i < len → (xs i).length = n) {i : Nat} (hi : i < len) :
    ∀ j u, (xs i)[j]? = some u → w.cell? ⟨b, i * n + j, none⟩ = some u := by
  intro j u hj
  have hjn : j < n := by have := (List.getElem?_eq_some_iff.1 hj).1; have := hl i hi; omega
  have := hown.cells (g := b) rfl (i * n + j) u (by rw [flat_get hl hi hjn]; exact hj)
  unfold Addr.add at this
  split at this
  · rename_i h0
    rw [h0]
    exact this
  · simpa using this
/-- A row of n cells: as many as there are elements in its value. -/
theorem own_len {w : World} {B : Nat} {e : TypeId} {n len len' cap b : Nat} {xs : List Value} (hown : w.ownsRow B e n (.slice (some ⟨b, 0, none⟩) len' cap) len xs) : len' = len := by
  rcases hown.2 with ⟨h, _⟩ | ⟨g, cap', cur, h, _⟩
  · cases h
  · injection h

section field
variable {P : Program} {γ : Nat → Option Value} {X : Nat → Nat → Prop} {w : World} {v : Value}

def fldV (off : Nat) : AV → AV
  | .d (.cref cs o) => .d (.cref cs (o + off))
  | .ptr id o => .ptr id (o + off)
  | .el id n i o => .el id n i (o + off)
  | _ => .d .top
def isPtr : AV → Bool
  | .d (.cref _ _) => true
  | .ptr _ _ => true
  | .el _ _ _ _ => true
  | _ => false

theorem addr_add (b o n : Nat) : (⟨b, o, none⟩ : Addr).add n = ⟨b, o + n, none⟩ := by
  unfold Addr.add; split <;> simp_all

theorem run_field {t : TypeId} {i : Nat} {fs : Array Field} {f : Field} {inf : TypeInfo} {a : AV} (hu : P.underlying t = some (.struct fs)) (hf : fs[i]? = some f) (hi : P.info? f.type = some inf) (hz : inf.size ≠ 0)
    (hv : Rep γ X w v a) (hok : isPtr a = true) : ∃ v', (Instr.fieldAt t v i).run P w = .ok v' w ∧ Rep γ X w v' (fldV f.offset a) := by
  have hrun : ∀ b o, (Instr.fieldAt t (.pointer (some ⟨b, o, none⟩)) i).run P w = .ok (.pointer (some ⟨b, o + f.offset, none⟩)) w := by
    intro b o
    simp [Instr.fieldAt, run_underlying hu, hf, Instr.sureAddr, fieldPlace, sizeOf, typeInfo, hi, hz, addr_add]
  cases hv with
  | d _ x h =>
    cases h with
    | cref b base off cs vs hb hX hl hc hr =>
      refine ⟨_, hrun _ _, ?_⟩
      have := DRep.cref b base (off + f.offset) cs vs hb hX hl hc hr
      rw [← Nat.add_assoc] at this
      exact .d _ _ this
    | _ => simp [isPtr] at hok
  | ptr b id off h => exact ⟨_, hrun _ _, .ptr b id (off + f.offset) h⟩
  | el b len cap id n i off h =>
    refine ⟨_, hrun _ _, ?_⟩
    rw [Nat.add_assoc]
    exact .el b len cap id n i (off + f.offset) h
  | _ => simp [isPtr] at hok

end field

section load
variable {P : Program} {X0 : Nat → Nat → Prop} {W0 : World} {γ : Nat → Option Value} {w : World} {H : Heap} {v : Value}

def ldV (H : Heap) (k : Option Nat) : AV → AV
  | .d (.cref cs o) => match k with
    | none => .d (cs.getD o .top)
    | some k => .d (.agg ((cs.drop o).take k))
  | .ptr id o => match hget H id with
    | some (.box cs) => match k with
      | none => cs.getD o (.d .top)
      | some k => mkAgg ((cs.drop o).take k)
    | _ => .d .top
  | .el id _ i o => match hget H id with
    | some (.vec _ _ _ row) => match k with
      | none => (row i).getD o (.d .top)
      | some k => mkAgg (((row i).drop o).take k)
    | _ => .d .top
  | _ => .d .top
def ldOk (H : Heap) (k : Option Nat) : AV → Prop
  | .d (.cref cs o) => o + k.getD 1 ≤ cs.length
  | .ptr id o => match hget H id with
    | some (.box cs) => o + k.getD 1 ≤ cs.length
    | _ => False
  | .el id n i o => match hget H id with
    | some (.vec _ n' len _) => n' = n ∧ i < len ∧ o + k.getD 1 ≤ n
    | _ => False
  | _ => False

theorem run_load_cells {t : TypeId} {b o : Nat} {vs : List Value} {inf : TypeInfo} {d : TypeDesc} (hu : P.underlying t = some d) (hd : (∃ fs, d = .struct fs) ∨ (∃ n e, d = .array n e)) (hi : P.info? t = some inf) (hn : inf.size = vs.length)
    (hc : ∀ j u, vs[j]? = some u → w.cell? ⟨b, o + j, none⟩ = some u) : (Instr.loadAt t (.pointer (some ⟨b, o, none⟩))).run P w = .ok (.agg vs.toArray) w := by
  have h := run_loadCells_list (P := P) (w := w) ⟨b, o, none⟩ vs (fun j u hj => by rw [addr_add]; exact hc j u hj)
  rcases hd with ⟨fs, rfl⟩ | ⟨n, e, rfl⟩ <;> simp [Instr.loadAt, Instr.sureAddr, loadVar, isAgg, run_underlying hu, sizeOf, typeInfo, hi, hn, h]

theorem run_load_cell {t : TypeId} {b o : Nat} {u : Value} {d : TypeDesc} (hu : P.underlying t = some d) (hd : (match d with | .struct _ | .array _ _ => true | _ => false) = false)
    (hc : w.cell? ⟨b, o, none⟩ = some u) : (Instr.loadAt t (.pointer (some ⟨b, o, none⟩))).run P w = .ok u w := by
  cases d <;> simp at hd <;> simp [Instr.loadAt, Instr.sureAddr, loadVar, isAgg, run_underlying hu, hc]

theorem Reps.sub {X : Nat → Nat → Prop} {vs : List Value} {as : List AV} (h : Reps γ X w vs as) (o k : Nat) : Reps γ X w ((vs.drop o).take k) ((as.drop o).take k) := by
  refine ⟨by simp [h.1], fun i hi hi' => ?_⟩
  simp only [List.getElem_take, List.getElem_drop]
  exact h.2 _ _ _
theorem DReps.sub {X : Nat → Nat → Prop} {vs : List Value} {as : List DV} (h : DReps X w vs as) (o k : Nat) : DReps X w ((vs.drop o).take k) ((as.drop o).take k) := by
  refine ⟨by simp [h.1], fun i hi hi' => ?_⟩
  simp only [List.getElem_take, List.getElem_drop]
  exact h.2 _ _ _

theorem sub_cells {vs : List Value} {b o : Nat} (hc : ∀ j u, vs[j]? = some u → w.cell? ⟨b, o + j, none⟩ = some u) (off k : Nat) : ∀ j u, ((vs.drop off).take k)[j]? = some u → w.cell? ⟨b, o + off + j, none⟩ = some u := by
  intro j u hj
  rw [List.getElem?_take] at hj
  split at hj
  · rw [List.getElem?_drop] at hj
    have := hc _ _ hj
    rwa [← Nat.add_assoc] at this
  · cases hj

theorem box_cells {b : Nat} {arr : Array Value} {t : TypeId} {fr : Nat × Nat} (hh : w.heap[b]? = some (.cells arr t fr)) : ∀ j u, arr.toList[j]? = some u → w.cell? ⟨b, 0 + j, none⟩ = some u := by
  intro j u hj
  simp only [World.cell?, hh, Nat.zero_add]
  simpa using hj

theorem run_ld1 {t : TypeId} {d : TypeDesc} {a : AV} (hu : P.underlying t = some d) (hd : (match d with | .struct _ | .array _ _ => true | _ => false) = false)
    (hS : St X0 W0 γ w H) (hv : Rep γ (XOf X0 γ H) w v a) (hok : ldOk H none a) : ∃ v', (Instr.loadAt t v).run P w = .ok v' w ∧ Rep γ (XOf X0 γ H) w v' (ldV H none a) := by
  cases hv with
  | d _ x h =>
    cases h with
    | cref b base off cs vs hb hX hl hc hr =>
      simp only [ldOk, Option.getD_none] at hok
      have hlt : off < vs.length := by omega
      refine ⟨vs[off], run_load_cell hu hd (hc off _ (List.getElem?_eq_getElem hlt)), ?_⟩
      have := hr off hlt (by omega)
      simp only [ldV, List.getD, List.getElem?_eq_getElem (show off < cs.length by omega), Option.getD_some]
      exact .d _ _ this
    | _ => simp [ldOk] at hok
  | ptr b id off h =>
    simp only [ldOk] at hok
    cases ho : hget H id with
    | none => simp [ho] at hok
    | some o =>
      cases o with
      | row => simp [ho] at hok
      | vec => simp [ho] at hok
      | map => simp [ho] at hok
      | box cs =>
        simp only [ho, Option.getD_none] at hok
        obtain ⟨u, hu', b', arr, t', rfl, hB, hh, hr⟩ := hS.obj id _ ho
        rw [h] at hu'
        injection hu' with hu'
        injection hu' with hu'
        injection hu' with hu'
        injection hu' with hu'
        subst hu'
        have hl := hr.1
        have hlt : off < arr.toList.length := by omega
        refine ⟨arr.toList[off], run_load_cell hu hd (by have := box_cells hh off _ (List.getElem?_eq_getElem hlt); simpa using this), ?_⟩
        have := hr.2 off hlt (by omega)
        simp only [ldV, ho, List.getD, List.getElem?_eq_getElem (show off < cs.length by omega), Option.getD_some]
        exact this
  | el b len cap id n i off h =>
    simp only [ldOk] at hok
    cases ho : hget H id with
    | none => simp [ho] at hok
    | some o =>
      cases o with
      | row => simp [ho] at hok
      | box => simp [ho] at hok
      | map => simp [ho] at hok
      | vec te n' len' row =>
        simp only [ho, Option.getD_none] at hok
        obtain ⟨rfl, hil, hon⟩ := hok
        obtain ⟨u, hu', xs, hown, hr⟩ := hS.obj id _ ho
        rw [h] at hu'
        injection hu' with hu'
        subst hu'
        obtain rfl := own_len hown
        have hcl := vec_cells hown (fun i hi => (hr i hi).1) hil
        obtain ⟨hl1, hl2⟩ := hr i hil
        have hlt : off < (xs i).length := by omega
        refine ⟨(xs i)[off], run_load_cell hu hd (hcl off _ (List.getElem?_eq_getElem hlt)), ?_⟩
        have hlt2 : off < (row i).length := by have := hl2.1; omega
        simp only [ldV, ho, List.getD, List.getElem?_eq_getElem hlt2, Option.getD_some]
        exact hl2.2 off hlt hlt2
  | _ => simp [ldOk] at hok

theorem run_ldk {t : TypeId} {k : Nat} {d : TypeDesc} {inf : TypeInfo} {a : AV} (hu : P.underlying t = some d) (hd : (∃ fs, d = .struct fs) ∨ (∃ n e, d = .array n e)) (hi : P.info? t = some inf) (hk : inf.size = k)
    (hS : St X0 W0 γ w H) (hv : Rep γ (XOf X0 γ H) w v a) (hok : ldOk H (some k) a) : ∃ v', (Instr.loadAt t v).run P w = .ok v' w ∧ Rep γ (XOf X0 γ H) w v' (ldV H (some k) a) := by
  cases hv with
  | d _ x h =>
    cases h with
    | cref b base off cs vs hb hX hl hc hr =>
      simp only [ldOk, Option.getD_some] at hok
      have hds : DReps (XOf X0 γ H) w vs cs := ⟨hl, hr⟩
      refine ⟨_, run_load_cells hu hd hi (vs := (vs.drop off).take k) (by rw [hk]; simp; omega) (sub_cells hc off k), ?_⟩
      have := hds.sub off k
      exact .d _ _ (.agg _ _ this.1 this.2)
    | _ => simp [ldOk] at hok
  | ptr b id off h =>
    simp only [ldOk] at hok
    cases ho : hget H id with
    | none => simp [ho] at hok
    | some o =>
      cases o with
      | row => simp [ho] at hok
      | vec => simp [ho] at hok
      | map => simp [ho] at hok
      | box cs =>
        simp only [ho, Option.getD_some] at hok
        obtain ⟨u, hu', b', arr, t', rfl, hB, hh, hr⟩ := hS.obj id _ ho
        rw [h] at hu'
        injection hu' with hu'
        injection hu' with hu'
        injection hu' with hu'
        injection hu' with hu'
        subst hu'
        have hl := hr.1
        refine ⟨_, run_load_cells hu hd hi (vs := (arr.toList.drop off).take k) (by rw [hk]; simp at hl ⊢; omega) (by have := sub_cells (box_cells hh) off k; simpa using this), ?_⟩
        simp only [ldV, ho]
        exact Rep.mkAgg (hr.sub off k)
  | el b len cap id n i off h =>
    simp only [ldOk] at hok
    cases ho : hget H id with
    | none => simp [ho] at hok
    | some o =>
      cases o with
      | row => simp [ho] at hok
      | box => simp [ho] at hok
      | map => simp [ho] at hok
      | vec te n' len' row =>
        simp only [ho, Option.getD_some] at hok
        obtain ⟨rfl, hil, hon⟩ := hok
        obtain ⟨u, hu', xs, hown, hr⟩ := hS.obj id _ ho
        rw [h] at hu'
        injection hu' with hu'
        subst hu'
        obtain rfl := own_len hown
        have hcl := vec_cells hown (fun i hi => (hr i hi).1) hil
        obtain ⟨hl1, hl2⟩ := hr i hil
        refine ⟨_, run_load_cells hu hd hi (vs := ((xs i).drop off).take k) (by rw [hk]; simp; omega) (fun j u hj => by have := sub_cells (o := i * n') hcl off k j u hj; exact this), ?_⟩
        simp only [ldV, ho]
        exact Rep.mkAgg (hl2.sub off k)
  | _ => simp [ldOk] at hok

end load

section index
variable {P : Program} {γ : Nat → Option Value} {X : Nat → Nat → Prop} {w : World} {v u : Value}

def idxV (a i : AV) : AV :=
  match a, i with
  | .d (.sl _ _ row), .d (.lit (.int _ i)) => .d (.cref (row i.toNat) 0)
  | _, _ => .d .top
def idxOk (n : Nat) (a i : AV) : Prop :=
  match a, i with
  | .d (.sl n' len _), .d (.lit (.int _ i)) => n' = n ∧ 0 ≤ i ∧ i < len
  | _, _ => False

theorem run_index {t e : TypeId} {inf : TypeInfo} {a i : AV} (hu : P.underlying t = some (.slice e)) (hi : P.info? e = some inf)
    (hv : Rep γ X w v a) (hj : Rep γ X w u i) (hok : idxOk inf.size a i) : ∃ v', (Instr.indexAt t v u).run P w = .ok v' w ∧ Rep γ X w v' (idxV a i) := by
  unfold idxOk at hok
  split at hok
  · rename_i n' len row k i
    obtain ⟨rfl, h0, h1⟩ := hok
    obtain rfl := hj.lit
    cases hv with | d _ _ h =>
    cases h with
    | nil n row => exfalso; omega
    | emp a n row => exfalso; omega
    | sl b off cap n _ _ vals hc1 hc2 hb hX hl hc hr =>
      have hlt : i.toNat < len := by omega
      refine ⟨.pointer (some ⟨b, off + i.toNat * inf.size, none⟩), ?_, ?_⟩
      · simp [Instr.indexAt, asIntOf, run_underlying hu, h0, h1, sizeOf, typeInfo, hi, addr_add]
      · have := DRep.cref (X := X) (w := w) b (off + i.toNat * inf.size) 0 (row i.toNat) (vals i.toNat) hb (fun j hj => hX _ hlt j (by have := (hl _ hlt).1; omega)) ((hl _ hlt).2.trans (hl _ hlt).1.symm) (hc _ hlt) (hr _ hlt)
        exact .d _ _ this
  · exact hok.elim

end index

section compute
variable {P : Program} {γ : Nat → Option Value} {X : Nat → Nat → Prop} {w : World} {v u : Value}

def binV (o : BinOp) : Value → Value → Option Value
  | .int k a, .int k' b => match o with
    | .shl => some (.int k (k.wrap (a * 2 ^ min b.toNat k.bits)))
    | .shr => some (.int k (a.fdiv (2 ^ min b.toNat k.bits)))
    | _ => if k = k' then (match o with
    | .add => some (.int k (k.wrap (a + b)))
    | .sub => some (.int k (k.wrap (a - b)))
    | .mul => some (.int k (k.wrap (a * b)))
    | .quo => some (.int k (k.wrap (a.tdiv b)))
    | .rem => some (.int k (a.tmod b))
    | .and => some (.int k (k.wrap (BitVec.ofInt k.bits a &&& BitVec.ofInt k.bits b).toNat))
    | .or => some (.int k (k.wrap (BitVec.ofInt k.bits a ||| BitVec.ofInt k.bits b).toNat))
    | .xor => some (.int k (k.wrap (BitVec.ofInt k.bits a ^^^ BitVec.ofInt k.bits b).toNat))
    | .eql => some (.bool (decide (a = b)))
    | .neq => some (.bool (!decide (a = b)))
    | .lss => some (.bool (decide (a < b)))
    | .leq => some (.bool (decide (a ≤ b)))
    | .gtr => some (.bool (decide (b < a)))
    | .geq => some (.bool (decide (b ≤ a)))
    | _ => none) else none
  | .bool a, .bool b => match o with
    | .eql => some (.bool (a == b))
    | .neq => some (.bool (!(a == b)))
    | _ => none
  | .string a, .string b => match o with
    | .add => some (.string (a ++ b))
    | .eql => some (.bool (decide (a = b)))
    | .neq => some (.bool (!decide (a = b)))
    | _ => none
  | _, _ => none

/-- What else an operation asks of what it is given. -/
def nzV : Value → Prop
  | .int _ b => b ≠ 0
  | _ => True
def nnV : Value → Prop
  | .int _ b => 0 ≤ b
  | _ => True
def catOk : Value → Value → Prop
  | .string a, .string b => a.size + b.size ≤ 9223372036854775807
  | _, _ => True
def binSide (o : BinOp) (u v : Value) : Prop :=
  match o with
  | .quo => nzV v
  | .rem => nzV v
  | .shl => nnV v
  | .shr => nnV v
  | .add => catOk u v
  | _ => True

theorem str_eq (a b : ByteArray) : (a.toList == b.toList) = decide (a = b) := by
  rw [Bool.eq_iff_iff]
  simp only [beq_iff_eq, decide_eq_true_eq]
  constructor
  · intro h
    rw [ByteArray.toList_eq, ByteArray.toList_eq] at h
    exact ByteArray.ext (Array.toList_inj.1 h)
  · rintro rfl; rfl

theorem run_equal_bool {t : TypeId} (ht : P.underlying t = some .bool) (a b : Bool) : (Op.equal t (.bool a) (.bool b)).run P w = .ok (a == b) w := by
  unfold Op.equal
  rw [show Op.maxDepth = (Op.maxDepth - 1) + 1 from rfl]
  generalize Op.maxDepth - 1 = k
  simp only [Op.equalIn, Sem.run_bind, run_underlying ht, Result.andThen_ok, Sem.run_pure]

theorem run_bin {o : BinOp} {t : TypeId} {r : Value} (ho : ∀ a b, binV o (.bool a) (.bool b) ≠ none → P.underlying t = some .bool ∨ (∀ x y, v ≠ .bool x ∨ u ≠ .bool y)) (h : binV o v u = some r) (hs : binSide o v u) : (binOp o t v u).run P w = .ok r w := by
  unfold binV at h
  split at h
  · rename_i k a k' b
    by_cases h1 : o = .shl
    · subst h1
      simp only [Option.some.injEq] at h
      subst h
      have hb : ¬ b < 0 := by have : 0 ≤ b := hs; omega
      simp [binOp, Op.shift, hb]
    by_cases h2 : o = .shr
    · subst h2
      simp only [Option.some.injEq] at h
      subst h
      have hb : ¬ b < 0 := by have : 0 ≤ b := hs; omega
      simp [binOp, Op.shift, hb]
    by_cases hk : k = k'
    · subst hk
      by_cases h3 : o = .quo
      · subst h3
        simp at h
        subst h
        have hb : b ≠ 0 := hs
        simp [binOp, Op.intDiv, hb]
      by_cases h4 : o = .rem
      · subst h4
        simp at h
        subst h
        have hb : b ≠ 0 := hs
        simp [binOp, Op.intDiv, hb]
      cases o <;> simp at h h1 h2 h3 h4 <;> subst h <;> simp [binOp, Op.intArith, Op.intCmp, Op.intBits] <;> (try rfl) <;> (rw [Bool.eq_iff_iff]; simp)
    · exfalso
      cases o <;> simp [hk] at h h1 h2
  · rename_i a b
    have hb : P.underlying t = some .bool := by
      rcases ho a b (by cases o <;> simp [binV] at h ⊢) with h | h
      · exact h
      · rcases h a b with h | h <;> exact absurd rfl h
    cases o <;> simp at h <;> subst h <;> simp only [binOp, Sem.run_bind, run_equal_bool hb, Result.andThen_ok, Sem.run_pure]
  · rename_i a b
    by_cases h1 : o = .add
    · subst h1
      simp at h
      subst h
      have hb : a.size + b.size ≤ 9223372036854775807 := hs
      have hb' : ¬ (((a.size + b.size : Nat) : Int) > IntKind.i64.max) := by
        have : IntKind.i64.max = 9223372036854775807 := by decide
        rw [this]; omega
      simp only [binOp, Op.stringOp, if_neg hb']
      rfl
    cases o <;> simp at h h1 <;> subst h <;> simp [binOp, Op.stringOp, str_eq]
  · simp at h

end compute

end Go.Proofs.Ytndpejmebhcaaaa
/- More operations: builds, slices, lengths; objects of the call's own: made, stored into, appended to. -/
namespace Go.Proofs.Ytndpejmebhcaaaa
open Go.RowKit

section cells
variable {γ : Nat → Option Value} {X : Nat → Nat → Prop} {w : World} {v : Value}

theorem DRep.one {x : DV} (h : DRep X w v x) (hc : x.cell = true) : v.oneCell' = true := by
  cases h with
  | lit => exact hc
  | nil => rfl
  | emp => rfl
  | sl => rfl
  | cref => rfl
  | fn => rfl
  | _ => simp [DV.cell] at hc
theorem cells_one (h : v.oneCell' = true) : v.cells = #[v] := by
  cases v <;> first | rfl | simp [Value.oneCell'] at h
theorem Rep.cellsD {x : DV} (h : DRep X w v x) (n : Nat) (ok : (AV.d x).cellOk n = true) :
    v.cells.size = n ∧ Reps γ X w v.cells.toList (AV.d x).cells ∧ ∀ u ∈ v.cells.toList, u.oneCell' = true := by
  cases h with
  | agg vs cs hl hr =>
    simp only [AV.cellOk, Bool.and_eq_true, beq_iff_eq, List.all_eq_true] at ok
    refine ⟨?_, ?_, ?_⟩
    · simp [Value.cells, hl, ok.1]
    · exact DReps.reps ⟨hl, hr⟩
    · intro u hu
      obtain ⟨i, hi, rfl⟩ := List.getElem_of_mem hu
      exact (hr i hi (hl ▸ hi)).one (ok.2 _ (List.getElem_mem _))
  | top v => simp [AV.cellOk, AV.cell, DV.cell] at ok
  | tup => simp [AV.cellOk, AV.cell, DV.cell] at ok
  | sn => simp [AV.cellOk, AV.cell, DV.cell] at ok
  | lit v =>
    simp only [AV.cellOk, Bool.and_eq_true, beq_iff_eq] at ok
    have h1 : v.oneCell' = true := ok.2
    rw [cells_one h1]
    exact ⟨ok.1.symm, Reps.cons (.ofLit v) (Reps.nil _ _ _), by simpa using h1⟩
  | nil n row =>
    simp only [AV.cellOk, Bool.and_eq_true, beq_iff_eq] at ok
    exact ⟨ok.1.symm, Reps.cons (.d _ _ (.nil n row)) (Reps.nil _ _ _), by simp [Value.cells, Value.oneCell']⟩
  | emp a n row =>
    simp only [AV.cellOk, Bool.and_eq_true, beq_iff_eq] at ok
    exact ⟨ok.1.symm, Reps.cons (.d _ _ (.emp a n row)) (Reps.nil _ _ _), by simp [Value.cells, Value.oneCell']⟩
  | sl b off cap n' len row vals h1 h2 hb hX hl hc hr =>
    simp only [AV.cellOk, Bool.and_eq_true, beq_iff_eq] at ok
    exact ⟨ok.1.symm, Reps.cons (.d _ _ (.sl b off cap n' len row vals h1 h2 hb hX hl hc hr)) (Reps.nil _ _ _), by simp [Value.cells, Value.oneCell']⟩
  | cref b base off cs vs hb hX hl hc hr =>
    simp only [AV.cellOk, Bool.and_eq_true, beq_iff_eq] at ok
    exact ⟨ok.1.symm, Reps.cons (.d _ _ (.cref b base off cs vs hb hX hl hc hr)) (Reps.nil _ _ _), by simp [Value.cells, Value.oneCell']⟩
  | fn f vs caps hl hr =>
    simp only [AV.cellOk, Bool.and_eq_true, beq_iff_eq] at ok
    exact ⟨ok.1.symm, Reps.cons (.d _ _ (.fn f vs caps hl hr)) (Reps.nil _ _ _), by simp [Value.cells, Value.oneCell']⟩

theorem blk_own {γ : Nat → Option Value} {X0 : Nat → Nat → Prop} {W0 : World} {w : World} {H : Heap} (hS : St X0 W0 γ w H) {id : Nat} {o : AObj} {v : Value} (ho : hget H id = some o) (hv : γ id = some v) : v.oneCell' = true := by
  obtain ⟨u, hu, hr⟩ := hS.obj id o ho
  rw [hv] at hu
  injection hu with hu
  subst hu
  cases o with
  | box cs => obtain ⟨b, arr, t, rfl, _⟩ := hr; rfl
  | row e n len row =>
    obtain ⟨xs, hown, _⟩ := hr
    rcases hown.2 with ⟨rfl, _⟩ | ⟨g, cap, cur, rfl, _⟩ <;> rfl
  | vec e n len row =>
    obtain ⟨xs, hown, _⟩ := hr
    rcases hown.2 with ⟨rfl, _⟩ | ⟨g, cap, cur, rfl, _⟩ <;> rfl
  | map kd n f => obtain ⟨b, ent, clock, rfl, _⟩ := hr; rfl

/-- In states own slices are told by objects that are there. -/
def AV.there (H : Heap) : AV → Bool
  | .own id _ => (hget H id).isSome
  | _ => true

theorem Rep.oneA {γ : Nat → Option Value} {X0 : Nat → Nat → Prop} {W0 : World} {w : World} {H : Heap} (hS : St X0 W0 γ w H) {X : Nat → Nat → Prop} {v : Value} {a : AV} (h : Rep γ X w v a) (hc : a.cell = true) (ht : a.there H = true) : v.oneCell' = true := by
  cases h with
  | d _ x h => exact h.one hc
  | ptr => rfl
  | mp => rfl
  | fn => rfl
  | own v id len h =>
    simp only [AV.there] at ht
    cases ho : hget H id with
    | none => simp [ho] at ht
    | some o => exact blk_own hS ho h
  | _ => simp [AV.cell] at hc

theorem Rep.cells {γ : Nat → Option Value} {X0 : Nat → Nat → Prop} {W0 : World} {w : World} {H : Heap} (hS : St X0 W0 γ w H) {X : Nat → Nat → Prop} {v : Value} {a : AV} (h : Rep γ X w v a) (n : Nat) (ok : a.cellOk n = true) (ht : a.cells.all (·.there H) = true) :
    v.cells.size = n ∧ Reps γ X w v.cells.toList a.cells ∧ ∀ u ∈ v.cells.toList, u.oneCell' = true := by
  cases h with
  | d _ x h => exact Rep.cellsD h n ok
  | agg vs cs hl hr =>
    simp only [AV.cellOk, Bool.and_eq_true, beq_iff_eq, List.all_eq_true] at ok
    refine ⟨by simp [Value.cells, hl, ok.1], ⟨hl, hr⟩, ?_⟩
    intro u hu
    obtain ⟨i, hi, rfl⟩ := List.getElem_of_mem hu
    have hi' : i < cs.length := hl ▸ hi
    simp only [AV.cells, List.all_eq_true] at ht
    exact (hr i hi hi').oneA hS (ok.2 _ (List.getElem_mem hi')) (ht _ (List.getElem_mem hi'))
  | ptr b id off h =>
    simp only [AV.cellOk, Bool.and_eq_true, beq_iff_eq] at ok
    exact ⟨ok.1.symm, Reps.cons (.ptr b id off h) (Reps.nil _ _ _), by simp [Value.cells, Value.oneCell']⟩
  | own v id len h =>
    simp only [AV.cellOk, Bool.and_eq_true, beq_iff_eq] at ok
    have h1 : v.oneCell' = true := Rep.oneA hS (X := X) (.own v id len h) ok.2 (by simpa [AV.cells] using ht)
    rw [cells_one h1]
    exact ⟨ok.1.symm, Reps.cons (.own v id len h) (Reps.nil _ _ _), by simpa using h1⟩
  | mp b id h =>
    simp only [AV.cellOk, Bool.and_eq_true, beq_iff_eq] at ok
    exact ⟨ok.1.symm, Reps.cons (.mp b id h) (Reps.nil _ _ _), by simp [Value.cells, Value.oneCell']⟩
  | fn f vs caps hl hr =>
    simp only [AV.cellOk, Bool.and_eq_true, beq_iff_eq] at ok
    exact ⟨ok.1.symm, Reps.cons (.fn f vs caps hl hr) (Reps.nil _ _ _), by simp [Value.cells, Value.oneCell']⟩
  | whn v g x h => simp [AV.cellOk, AV.cell] at ok
  | el => simp [AV.cellOk, AV.cell] at ok
  | tup => simp [AV.cellOk, AV.cell] at ok

end cells

/-- Cells from 'off' on replaced. -/
def spl {α : Type} (cs : List α) (off : Nat) (l : List α) : List α := cs.take off ++ l ++ cs.drop (off + l.length)

theorem spl_length {α : Type} {cs l : List α} {off : Nat} (h : off + l.length ≤ cs.length) : (spl cs off l).length = cs.length := by
  simp only [spl, List.length_append, List.length_take, List.length_drop]; omega

section spl
variable {γ : Nat → Option Value} {X : Nat → Nat → Prop} {w : World}
theorem Reps.take {vs : List Value} {as : List AV} (h : Reps γ X w vs as) (k : Nat) : Reps γ X w (vs.take k) (as.take k) :=
  ⟨by simp [h.1], fun i hi hi' => by simp only [List.getElem_take]; exact h.2 _ _ _⟩
theorem Reps.drop {vs : List Value} {as : List AV} (h : Reps γ X w vs as) (k : Nat) : Reps γ X w (vs.drop k) (as.drop k) :=
  ⟨by simp [h.1], fun i hi hi' => by simp only [List.getElem_drop]; exact h.2 _ _ _⟩
theorem Reps.spl {vs us : List Value} {as bs : List AV} (h : Reps γ X w vs as) (k : Reps γ X w us bs) (off : Nat) : Reps γ X w (spl vs off us) (spl as off bs) := by
  unfold Proofs.Ytndpejmebhcaaaa.spl
  rw [k.1]
  exact ((h.take off).append k).append (h.drop _)
theorem Reps.lits (zs : List Value) : Reps γ X w zs (zs.map fun z => .d (.lit z)) :=
  ⟨by simp, fun i hi hi' => by simp only [List.getElem_map]; exact .ofLit _⟩
end spl

/-- The fill of a literal's parts, one behind the other. -/
def fillV (zs : List AV) : List (Nat × AV) → List AV
  | [] => zs
  | (off, a) :: r => fillV (spl zs off a.cells) r
def fillOk (H : Heap) (n : Nat) : List (Nat × Nat × AV) → Prop
  | [] => True
  | (off, size, a) :: r => a.cellOk size = true ∧ a.cells.all (·.there H) = true ∧ off + size ≤ n ∧ fillOk H n r

theorem foldl_spl (off : Nat) (l : List Value) (cs : Array Value) (h : off + l.length ≤ cs.size) :
    ((l.zipIdx 0).foldl (fun cs (x : Value × Nat) => cs.setIfInBounds (off + x.2) x.1) cs).toList = spl cs.toList off l := by
  obtain ⟨h1, h2⟩ := Great.foldl_set off l 0 cs
  apply List.ext_getElem?
  intro k
  have e := h2 k
  rw [Array.getElem?_toList, e]
  simp only [Nat.add_zero]
  unfold spl
  by_cases hk : k < off
  · rw [if_neg (by omega), List.append_assoc, List.getElem?_append_left (by simp; omega), List.getElem?_take, if_pos hk]
    simp
  · by_cases hk2 : k < off + l.length
    · rw [if_pos ⟨by omega, hk2, by omega⟩, List.append_assoc, List.getElem?_append_right (by simp; omega), List.getElem?_append_left (by simp; omega)]
      simp only [List.length_take, Array.length_toList]
      rw [Nat.min_eq_left (by omega)]
    · rw [if_neg (by omega), List.getElem?_append_right (by simp; omega), List.getElem?_drop]
      simp only [List.length_append, List.length_take, Array.length_toList]
      rw [Nat.min_eq_left (by omega)]
      rw [show off + l.length + (k - (off + l.length)) = k by omega]
      simp

theorem fill_rep {γ : Nat → Option Value} {X0 : Nat → Nat → Prop} {W0 : World} {w : World} {H : Heap} (hS : St X0 W0 γ w H) (place : Nat → Option (Nat × Nat)) : ∀ (parts : List (Nat × Value)) (as : List (Nat × Nat × AV)) (cells : Array Value) (zs : List AV),
    parts.length = as.length → (∀ i (h : i < parts.length) (h' : i < as.length), place parts[i].1 = some (as[i].1, as[i].2.1) ∧ Rep γ (XOf X0 γ H) w parts[i].2 as[i].2.2) → fillOk H cells.size as → Reps γ (XOf X0 γ H) w cells.toList zs →
    ∃ r, Instr.fill place cells parts = some r ∧ r.size = cells.size ∧ Reps γ (XOf X0 γ H) w r.toList (fillV zs (as.map fun x => (x.1, x.2.2)))
  | [], as, cells, zs, hl, _, _, hz => by
    have : as = [] := by simpa using hl.symm
    subst this
    exact ⟨cells, rfl, rfl, hz⟩
  | (i, v) :: parts, [], cells, zs, hl, _, _, _ => by simp at hl
  | (i, v) :: parts, (off, size, a) :: as, cells, zs, hl, hp, hok, hz => by
    obtain ⟨h1, ht, h2, h3⟩ := hok
    obtain ⟨hp1, hp2⟩ := hp 0 (by simp) (by simp)
    simp only [List.getElem_cons_zero] at hp1 hp2
    obtain ⟨k1, k2, k3⟩ := hp2.cells hS size h1 ht
    have hfl := foldl_spl off v.cells.toList cells (by simp [k1]; omega)
    have hsz : ((v.cells.toList.zipIdx 0).foldl (fun cs (x : Value × Nat) => cs.setIfInBounds (off + x.2) x.1) cells).size = cells.size := (Great.foldl_set off v.cells.toList 0 cells).1
    obtain ⟨r, hr, hrs, hrr⟩ := fill_rep hS place parts as ((v.cells.toList.zipIdx 0).foldl (fun cs (x : Value × Nat) => cs.setIfInBounds (off + x.2) x.1) cells) (spl zs off a.cells) (by simpa using hl)
      (fun j hj hj' => by have := hp (j + 1) (by simpa using hj) (by simpa using hj'); simp only [List.getElem_cons_succ] at this; exact this) (by rw [hsz]; exact h3) (by rw [hfl]; exact hz.spl k2 off)
    refine ⟨r, ?_, hrs.trans hsz, hrr⟩
    unfold Instr.fill
    simp only [hp1]
    rw [if_neg (by simp; omega)]
    rw [← hr]
    congr 1
    rw [← Array.foldl_toList, Array.toList_zipIdx]

section misc
variable {P : Program} {γ : Nat → Option Value} {X : Nat → Nat → Prop} {w : World} {v u : Value}

def lenV : AV → AV
  | .d (.sl _ len _) => .int len
  | .d (.lit (.string s)) => .int s.size
  | .d (.lit (.slice _ len _)) => .int len
  | .own _ len => .int len
  | _ => .d .top

def notV : AV → AV
  | .d (.lit (.bool b)) => .bool (!b)
  | _ => .d .top

def extV (i : Nat) : AV → AV
  | .d (.tup cs) => .d (cs.getD i .top)
  | .tup cs => cs.getD i (.d .top)
  | _ => .d .top
def extOk (i : Nat) : AV → Prop
  | .d (.tup cs) => i < cs.length
  | .tup cs => i < cs.length
  | _ => False

theorem run_ext {i : Nat} {a : AV} (hv : Rep γ X w v a) (hok : extOk i a) : ∃ v', (Instr.extract v i).run P w = .ok v' w ∧ Rep γ X w v' (extV i a) := by
  cases hv with
  | d _ x h =>
    cases h with
    | tup vs cs hl hr =>
      have hi : i < cs.length := hok
      refine ⟨vs[i]'(by omega), by simp [Instr.extract, show i < vs.length by omega], ?_⟩
      simp only [extV, List.getD, List.getElem?_eq_getElem hi, Option.getD_some]
      exact .d _ _ (hr i (by omega) hi)
    | _ => simp [extOk] at hok
  | tup vs cs hl hr =>
    have hi : i < cs.length := hok
    refine ⟨vs[i]'(by omega), by simp [Instr.extract, show i < vs.length by omega], ?_⟩
    simp only [extV, List.getD, List.getElem?_eq_getElem hi, Option.getD_some]
    exact hr i (by omega) hi
  | _ => simp [extOk] at hok

def slcV (a : AV) (lo hi : Int) : AV :=
  match a with
  | .d (.sl n _ row) => .d (.sl n (hi.toNat - lo.toNat) fun i => row (lo.toNat + i))
  | _ => .d .top
def slcOk (n : Nat) (a : AV) (lo hi : Int) : Prop :=
  match a with
  | .d (.sl n' len _) => n' = n ∧ 0 ≤ lo ∧ lo ≤ hi ∧ hi ≤ len
  | _ => False

theorem run_slc {t e : TypeId} {inf : TypeInfo} {a : AV} {lo hi : Option Value} {l h : Int} (hu : P.underlying t = some (.slice e)) (hi' : P.info? e = some inf)
    (hv : Rep γ X w v a) (hlo : lo = some (.int .i64 l) ∨ (lo = none ∧ l = 0)) (hhi : hi = some (.int .i64 h) ∨ (hi = none ∧ ∃ n len row, a = .d (.sl n len row) ∧ h = len)) (hok : slcOk inf.size a l h) :
    ∃ v', (Instr.sliceAt t v lo hi none).run P w = .ok v' w ∧ Rep γ X w v' (slcV a l h) := by
  unfold slcOk at hok
  split at hok
  · rename_i n' len row
    obtain ⟨rfl, h0, h1, h2⟩ := hok
    have hhi' : hi = some (.int .i64 h) ∨ (hi = none ∧ h = len) := by
      rcases hhi with h | ⟨h, n, len', row', e1, e2⟩
      · exact .inl h
      · injection e1 with e1; injection e1 with e1 e3 e4; subst e3; exact .inr ⟨h, e2⟩
    cases hv with | d _ _ hd =>
    obtain ⟨ln, rfl⟩ := Int.eq_ofNat_of_zero_le h0
    obtain ⟨hn, rfl⟩ := Int.eq_ofNat_of_zero_le (show 0 ≤ h by omega)
    cases hd with
    | nil n row =>
      have e1 : ln = 0 := by omega
      have e2 : hn = 0 := by omega
      subst e1; subst e2
      refine ⟨.slice none 0 0, ?_, ?_⟩
      · rcases hlo with rfl | ⟨rfl, _⟩ <;> rcases hhi' with rfl | ⟨rfl, _⟩ <;> simp [Instr.sliceAt, run_underlying hu, Instr.slice, Instr.sliceBounds, Instr.sliceBound, asIntOf, sizeOf, typeInfo, hi']
      · exact .d _ _ (.nil _ _)
    | emp a n row =>
      have e1 : ln = 0 := by omega
      have e2 : hn = 0 := by omega
      subst e1; subst e2
      refine ⟨.slice (some a) 0 0, ?_, ?_⟩
      · rcases hlo with rfl | ⟨rfl, _⟩ <;> rcases hhi' with rfl | ⟨rfl, _⟩ <;> simp [Instr.sliceAt, run_underlying hu, Instr.slice, Instr.sliceBounds, Instr.sliceBound, asIntOf, sizeOf, typeInfo, hi', Addr.add]
      · exact .d _ _ (.emp _ _ _)
    | sl b off cap n _ _ vals hc1 hc2 hb hX hl hc hr =>
      have k1 : ln ≤ hn := by omega
      have k2 : hn ≤ len := by omega
      refine ⟨.slice (some ⟨b, if cap = ln then off else off + ln * inf.size, none⟩) (hn - ln) (cap - ln), ?_, ?_⟩
      · have k3 : hn ≤ cap := by omega
        rcases hlo with rfl | ⟨rfl, e0⟩ <;> rcases hhi' with rfl | ⟨rfl, e1⟩
        all_goals
          (try have e0' : ln = 0 := by omega)
          (try have e1' : hn = len := by omega)
          (try subst e0')
          (try subst e1')
          simp [Instr.sliceAt, run_underlying hu, Instr.slice, Instr.sliceBounds, Instr.sliceBound, asIntOf, sizeOf, typeInfo, hi', addr_add, k1, k3]
          try (split <;> simp_all)
      · refine .d _ _ ?_
        simp only [Int.toNat_natCast]
        by_cases hcap : cap = ln
        · have hz : hn - ln = 0 := by omega
          rw [if_pos hcap, hz]
          refine .sl b off (cap - ln) inf.size 0 _ vals (by omega) (by omega) hb (fun i hi => by omega) (fun i hi => by omega) (fun i hi => by omega) (fun i hi => by omega)
        · rw [if_neg hcap]
          refine .sl b (off + ln * inf.size) (cap - ln) inf.size (hn - ln) _ (fun i => vals (ln + i)) (by omega) (by omega) hb (fun i hi j hj h => hX (ln + i) (by omega) j hj (by rw [Nat.add_mul, ← Nat.add_assoc]; exact h)) (fun i hi => hl _ (by omega)) (fun i hi j v hv => ?_) (fun i hi j hj hj' => hr _ (by omega) j hj hj')
          have := hc (ln + i) (by omega) j v hv
          rw [Nat.add_mul, ← Nat.add_assoc] at this
          exact this
  · exact hok.elim

end misc

end Go.Proofs.Ytndpejmebhcaaaa
/- Objects of the call's own: made, stored into, appended to; slices made by a literal. -/
namespace Go.Proofs.Ytndpejmebhcaaaa
open Go.RowKit

def upd (γ : Nat → Option Value) (id : Nat) (v : Value) : Nat → Option Value := fun k => if k = id then some v else γ k
theorem upd_knows {γ : Nat → Option Value} {id : Nat} (v : Value) (h : γ id = none) : Knows γ (upd γ id v) := by
  intro k u hk
  unfold upd
  split
  · rename_i e; subst e; rw [h] at hk; cases hk
  · exact hk

section
variable {P : Program} {X0 : Nat → Nat → Prop} {W0 : World} {γ : Nat → Option Value} {w : World} {H : Heap}

/-- The blocks of the call's own objects are there, from W0's end on. -/
theorem St.blk_lt (hS : St X0 W0 γ w H) {id : Nat} {o : AObj} {v : Value} {b : Nat} (ho : hget H id = some o) (hv : γ id = some v) (hb : blk v = some b) : W0.heap.size ≤ b ∧ b < w.heap.size := by
  obtain ⟨u, hu, hr⟩ := hS.obj id o ho
  rw [hv] at hu
  injection hu with hu
  subst hu
  cases o with
  | box cs =>
    obtain ⟨b', arr, t, rfl, h1, h2, _⟩ := hr
    simp [blk] at hb
    subst hb
    exact ⟨h1, (Array.getElem?_eq_some_iff.1 h2).1⟩
  | row e n len row =>
    obtain ⟨xs, hown, _⟩ := hr
    refine hown.lt b ?_
    rcases hown.2 with ⟨rfl, _⟩ | ⟨g, cap, cur, rfl, _⟩
    · simp [blk] at hb
    · simpa [blk, Value.ownBlock] using hb
  | vec e n len row =>
    obtain ⟨xs, hown, _⟩ := hr
    refine hown.lt b ?_
    rcases hown.2 with ⟨rfl, _⟩ | ⟨g, cap, cur, rfl, _⟩
    · simp [blk] at hb
    · simpa [blk, Value.ownBlock] using hb
  | map kd n f =>
    obtain ⟨b', ent, clock, rfl, h1, h2, _⟩ := hr
    simp [blk] at hb
    subst hb
    exact ⟨h1, (Array.getElem?_eq_some_iff.1 h2).1⟩

theorem XOf.lt (hS : St X0 W0 γ w H) {b q : Nat} (h : XOf X0 γ H b q) : b < w.heap.size := by
  rcases h with h | ⟨id, o, v, ho, hv, hb, _⟩
  · exact Nat.lt_of_lt_of_le (hS.hx b q h) hS.ext.size
  · exact (hS.blk_lt ho hv hb).2

/-- Objects are as they were where memory stays. -/
theorem ORep.mono {γ' : Nat → Option Value} {X X' : Nat → Nat → Prop} {w' : World} {B : Nat} (hγ : Knows γ γ') (k : Keeps X X' w w') {v : Value} {o : AObj} (h : ORep γ X B w v o) (hb : ∀ b, blk v = some b → b < w.heap.size → w'.heap[b]? = w.heap[b]?) : ORep γ' X' B w' v o := by
  cases o with
  | box cs =>
    obtain ⟨b, arr, t, rfl, h1, h2, h3⟩ := h
    exact ⟨b, arr, t, rfl, h1, (hb b rfl (Array.getElem?_eq_some_iff.1 h2).1).trans h2, h3.mono hγ k⟩
  | row e n len row =>
    obtain ⟨xs, hown, hr⟩ := h
    refine ⟨xs, ⟨hown.1, ?_⟩, fun i hi => ⟨(hr i hi).1, (hr i hi).2.mono k⟩⟩
    rcases hown.2 with hn | ⟨g, cap, cur, rfl, hg, hh, rest⟩
    · exact .inl hn
    · exact .inr ⟨g, cap, cur, rfl, hg, (hb g rfl (Array.getElem?_eq_some_iff.1 hh).1).trans hh, rest⟩
  | vec e n len row =>
    obtain ⟨xs, hown, hr⟩ := h
    refine ⟨xs, ⟨hown.1, ?_⟩, fun i hi => ⟨(hr i hi).1, (hr i hi).2.mono hγ k⟩⟩
    rcases hown.2 with hn | ⟨g, cap, cur, rfl, hg, hh, rest⟩
    · exact .inl hn
    · exact .inr ⟨g, cap, cur, rfl, hg, (hb g rfl (Array.getElem?_eq_some_iff.1 hh).1).trans hh, rest⟩
  | map kd n f =>
    obtain ⟨b, ent, clock, rfl, h1, h2, h3⟩ := h
    exact ⟨b, ent, clock, rfl, h1, (hb b rfl (Array.getElem?_eq_some_iff.1 h2).1).trans h2, h3⟩

/-- Nothing of the call's own is touched. -/
theorem St.stay {w' : World} (hS : St X0 W0 γ w H) (he : Ext w w') : St X0 W0 γ w' H :=
  ⟨hS.hx, hS.ext.trans he, fun id o ho => by
    obtain ⟨v, hv, hr⟩ := hS.obj id o ho
    exact ⟨v, hv, hr.mono (Knows.refl γ) (.of_ext he) (fun b _ hb => he.block b hb)⟩, hS.dis⟩

/-- One new object, held by a block that is new. -/
theorem St.new {γ' : Nat → Option Value} {w' : World} (hS : St X0 W0 γ w H) (he : Ext w w') (id : Nat) (hid : γ id = none) (v : Value) (hγ : γ' = upd γ id v) (o : AObj) (hb : ∀ b, blk v = some b → w.heap.size ≤ b)
    (ho : ORep γ' (XOf X0 γ' (hadd id o H)) W0.heap.size w' v o) :
    St X0 W0 γ' w' (hadd id o H) ∧ Knows γ γ' ∧ Keeps (XOf X0 γ H) (XOf X0 γ' (hadd id o H)) w w' := by
  subst hγ
  have hk := upd_knows v hid
  have hne : ∀ k o, hget H k = some o → k ≠ id := fun k o' hk' e => by
    obtain ⟨u, hu, _⟩ := hS.obj k o' hk'
    rw [e, hid] at hu; cases hu
  have hK : Keeps (XOf X0 γ H) (XOf X0 (upd γ id v) (hadd id o H)) w w' := by
    refine .of_blocks he.size (fun b hb' => .inr (he.block b hb')) (fun b q hb' h => ?_)
    rcases h with h | ⟨k, o', u, h1, h2, h3, h4⟩
    · exact .inl h
    · by_cases e : id = k
      · subst e
        simp [upd] at h2
        subst h2
        have := hb _ h3
        omega
      · simp only [hget_add, if_neg e] at h1
        refine .inr ⟨k, o', u, h1, ?_, h3, h4⟩
        simpa [upd, Ne.symm e] using h2
  refine ⟨⟨hS.hx, hS.ext.trans he, fun k o' hk' => ?_, fun k k' o1 o2 v1 v2 b h1 h2 g1 g2 b1 b2 => ?_⟩, hk, hK⟩
  · by_cases e : id = k
    · subst e
      simp only [hget_add, if_true] at hk'
      injection hk' with hk'
      subst hk'
      exact ⟨v, by simp [upd], ho⟩
    · simp only [hget_add, if_neg e] at hk'
      obtain ⟨u, hu, hr⟩ := hS.obj k o' hk'
      exact ⟨u, hk _ _ hu, hr.mono hk hK (fun b _ hb => he.block b hb)⟩
  · have old : ∀ k o1 u, id ≠ k → hget (hadd id o H) k = some o1 → upd γ id v k = some u → ∀ b, blk u = some b → b < w.heap.size := by
      intro k o1 u e h1 h2 b hb'
      simp only [hget_add, if_neg e] at h1
      simp only [upd, if_neg (Ne.symm e)] at h2
      exact (hS.blk_lt h1 h2 hb').2
    by_cases e1 : id = k <;> by_cases e2 : id = k'
    · exact e1.symm.trans e2
    · subst e1
      simp [upd] at g1
      subst g1
      have a1 := hb _ b1
      have a2 := old k' o2 v2 e2 h2 g2 b b2
      omega
    · subst e2
      simp [upd] at g2
      subst g2
      have a1 := hb _ b2
      have a2 := old k o1 v1 e1 h1 g1 b b1
      omega
    · simp only [hget_add, if_neg e1] at h1
      simp only [hget_add, if_neg e2] at h2
      simp only [upd, if_neg (Ne.symm e1)] at g1
      simp only [upd, if_neg (Ne.symm e2)] at g2
      exact hS.dis k k' o1 o2 v1 v2 b h1 h2 g1 g2 b1 b2

theorem St.alloc (hS : St X0 W0 γ w H) (id : Nat) (hid : γ id = none) (arr : Array Value) (t : TypeId) (cs : List AV) (hr : Reps γ (XOf X0 γ H) w arr.toList cs) :
    ∃ γ', γ' = upd γ id (.pointer (some ⟨w.heap.size, 0, none⟩)) ∧ St X0 W0 γ' (w.alloc (.cells arr t)) (hadd id (.box cs) H) ∧ Knows γ γ' ∧ Keeps (XOf X0 γ H) (XOf X0 γ' (hadd id (.box cs) H)) w (w.alloc (.cells arr t)) := by
  refine ⟨_, rfl, ?_⟩
  have hK : Keeps (XOf X0 γ H) (XOf X0 (upd γ id (.pointer (some ⟨w.heap.size, 0, none⟩))) (hadd id (.box cs) H)) w (w.alloc (.cells arr t)) := by
    refine .of_blocks (Ext.alloc w _).size (fun b hb => .inr ((Ext.alloc w _).block b hb)) (fun b q hb h => ?_)
    rcases h with h | ⟨k, o', u, h1, h2, h3, h4⟩
    · exact .inl h
    · by_cases e : id = k
      · subst e
        simp [upd] at h2
        subst h2
        simp [blk] at h3
        omega
      · simp only [hget_add, if_neg e] at h1
        refine .inr ⟨k, o', u, h1, ?_, h3, h4⟩
        simpa [upd, Ne.symm e] using h2
  refine hS.new (Ext.alloc w _) id hid _ rfl _ (fun b hb => by simp [blk] at hb; omega) ?_
  exact ⟨w.heap.size, arr, t, rfl, hS.ext.size, heap_alloc_new w _, hr.mono (upd_knows _ hid) hK⟩

theorem St.newRow {γ' : Nat → Option Value} {w' : World} (hS : St X0 W0 γ w H) (he : Ext w w') (id : Nat) (hid : γ id = none) (v : Value) (hγ : γ' = upd γ id v) (te : TypeId) (n len : Nat) (row : Nat → List DV) (hb : ∀ b, blk v = some b → w.heap.size ≤ b)
    (xs : Nat → List Value) (hown : w'.ownsRow W0.heap.size te n v len ((List.range len).flatMap xs)) (hxs : ∀ i, i < len → (xs i).length = n ∧ DReps (XOf X0 γ' (hadd id (.row te n len row) H)) w' (xs i) (row i)) :
    St X0 W0 γ' w' (hadd id (.row te n len row) H) ∧ Knows γ γ' ∧ Keeps (XOf X0 γ H) (XOf X0 γ' (hadd id (.row te n len row) H)) w w' :=
  hS.new he id hid v hγ _ hb ⟨xs, hown, hxs⟩

theorem setRow_ext {W : World} {b : Nat} (cs : Array Value) (h : Ext W w) (hb : W.heap.size ≤ b) : Ext W (w.setRow b cs) :=
  ⟨h.os, h.tape, h.output, by rw [setRow_size]; exact h.size, fun k hk => (setRow_other w b k cs (by omega)).trans (h.block k hk)⟩

/-- A store of some cells into an object. -/
theorem St.store (hS : St X0 W0 γ w H) {id : Nat} {cs : List AV} {b : Nat} {arr : Array Value} {t : TypeId} (ho : hget H id = some (.box cs)) (hv : γ id = some (.pointer (some ⟨b, 0, none⟩))) (hh : w.heap[b]? = some (.cells arr t (0, 0)))
    (hr : Reps γ (XOf X0 γ H) w arr.toList cs) (off : Nat) (us : List Value) (as : List AV) (hu : Reps γ (XOf X0 γ H) w us as) :
    St X0 W0 γ (w.setRow b (spl arr.toList off us).toArray) (hset H id (.box (spl cs off as))) ∧ Keeps (XOf X0 γ H) (XOf X0 γ (hset H id (.box (spl cs off as)))) w (w.setRow b (spl arr.toList off us).toArray) := by
  have hbX : ∀ q, XOf X0 γ H b q := fun q => .inr ⟨id, _, _, ho, hv, rfl, trivial⟩
  have hlt := (hS.blk_lt ho hv (b := b) rfl)
  have hgs : ∀ k o, hget (hset H id (.box (spl cs off as))) k = some o → (k = id ∧ o = .box (spl cs off as)) ∨ (k ≠ id ∧ hget H k = some o) := by
    intro k o hk
    rw [hget_set] at hk
    by_cases e : id = k
    · subst e
      rw [if_pos rfl, ho] at hk
      simp at hk
      exact .inl ⟨rfl, hk.symm⟩
    · rw [if_neg e] at hk
      exact .inr ⟨Ne.symm e, hk⟩
  have hK : Keeps (XOf X0 γ H) (XOf X0 γ (hset H id (.box (spl cs off as)))) w (w.setRow b (spl arr.toList off us).toArray) := by
    refine .of_blocks (by rw [setRow_size]; exact Nat.le_refl _) (fun k hk => ?_) (fun k q hk h => ?_)
    · by_cases e : k = b
      · exact .inl fun q => e ▸ hbX q
      · exact .inr (setRow_other w b k _ e)
    rcases h with h | ⟨j, o, v, h1, h2, h3, h4⟩
    · exact .inl h
    · rcases hgs j o h1 with ⟨rfl, _⟩ | ⟨_, h1'⟩
      · exact .inr ⟨j, _, v, ho, h2, h3, trivial⟩
      · exact .inr ⟨j, o, v, h1', h2, h3, h4⟩
  refine ⟨⟨hS.hx, setRow_ext _ hS.ext hlt.1, fun k o hk => ?_, fun k k' o o' v v' c h1 h2 g1 g2 b1 b2 => ?_⟩, hK⟩
  · rcases hgs k o hk with ⟨rfl, rfl⟩ | ⟨hne, hk'⟩
    · refine ⟨_, hv, b, _, t, rfl, hlt.1, setRow_heap w b arr _ t (0, 0) hh, ?_⟩
      have := (hr.spl hu off).mono (Knows.refl γ) hK
      simpa using this
    · obtain ⟨u, hu', hr'⟩ := hS.obj k o hk'
      refine ⟨u, hu', hr'.mono (Knows.refl γ) hK (fun c hc _ => setRow_other w b c _ (fun e => hne ?_))⟩
      exact hS.dis k id o _ u _ b hk' ho hu' hv (e ▸ hc) rfl
  · rcases hgs k o h1 with ⟨rfl, _⟩ | ⟨_, h1'⟩ <;> rcases hgs k' o' h2 with ⟨rfl, _⟩ | ⟨_, h2'⟩
    · rfl
    · exact hS.dis _ _ _ _ _ _ c ho h2' g1 g2 b1 b2
    · exact hS.dis _ _ _ _ _ _ c h1' ho g1 g2 b1 b2
    · exact hS.dis _ _ _ _ _ _ c h1' h2' g1 g2 b1 b2

/-- One object of the call's own, all of which may turn, is turned. -/
theorem St.turn (hS : St X0 W0 γ w H) {id b : Nat} {o o' : AObj} {v : Value} {cells : Array Value} (ho : hget H id = some o) (hv : γ id = some v) (hb : blk v = some b) (hall : ∀ q, turns o q) (hnew : ∀ X', Keeps (XOf X0 γ H) X' w (w.setRow b cells) → ORep γ X' W0.heap.size (w.setRow b cells) v o') :
    St X0 W0 γ (w.setRow b cells) (hset H id o') ∧ Keeps (XOf X0 γ H) (XOf X0 γ (hset H id o')) w (w.setRow b cells) := by
  have hbX : ∀ q, XOf X0 γ H b q := fun q => .inr ⟨id, _, _, ho, hv, hb, hall q⟩
  have hlt := hS.blk_lt ho hv hb
  have hgs : ∀ k o1, hget (hset H id o') k = some o1 → (k = id ∧ o1 = o') ∨ (k ≠ id ∧ hget H k = some o1) := by
    intro k o1 hk
    rw [hget_set] at hk
    by_cases e : id = k
    · subst e
      rw [if_pos rfl, ho] at hk
      simp at hk
      exact .inl ⟨rfl, hk.symm⟩
    · rw [if_neg e] at hk
      exact .inr ⟨Ne.symm e, hk⟩
  have hK : Keeps (XOf X0 γ H) (XOf X0 γ (hset H id o')) w (w.setRow b cells) := by
    refine .of_blocks (by rw [setRow_size]; exact Nat.le_refl _) (fun k hk => ?_) (fun k q hk h => ?_)
    · by_cases e : k = b
      · exact .inl fun q => e ▸ hbX q
      · exact .inr (setRow_other w b k _ e)
    rcases h with h | ⟨j, o1, v1, h1, h2, h3, h4⟩
    · exact .inl h
    · rcases hgs j o1 h1 with ⟨rfl, _⟩ | ⟨_, h1'⟩
      · exact .inr ⟨j, _, v1, ho, h2, h3, hall q⟩
      · exact .inr ⟨j, o1, v1, h1', h2, h3, h4⟩
  refine ⟨⟨hS.hx, setRow_ext _ hS.ext hlt.1, fun k o1 hk => ?_, fun k k' o1 o2 v1 v2 c h1 h2 g1 g2 b1 b2 => ?_⟩, hK⟩
  · rcases hgs k o1 hk with ⟨rfl, rfl⟩ | ⟨hne, hk'⟩
    · exact ⟨_, hv, hnew _ hK⟩
    · obtain ⟨u, hu', hr'⟩ := hS.obj k o1 hk'
      refine ⟨u, hu', hr'.mono (Knows.refl γ) hK (fun c hc _ => setRow_other w b c _ (fun e => hne ?_))⟩
      exact hS.dis k id o1 _ u _ b hk' ho hu' hv (e ▸ hc) hb
  · rcases hgs k o1 h1 with ⟨rfl, _⟩ | ⟨_, h1'⟩ <;> rcases hgs k' o2 h2 with ⟨rfl, _⟩ | ⟨_, h2'⟩
    · rfl
    · exact hS.dis _ _ _ _ _ _ c ho h2' g1 g2 b1 b2
    · exact hS.dis _ _ _ _ _ _ c h1' ho g1 g2 b1 b2
    · exact hS.dis _ _ _ _ _ _ c h1' h2' g1 g2 b1 b2

/-- One element turned. -/
def updR {α : Type} (row : Nat → α) (i : Nat) (x : α) : Nat → α := fun j => if j = i then x else row j

theorem spl_get {α : Type} {cs l : List α} {off : Nat} (h : off + l.length ≤ cs.length) (q : Nat) : (spl cs off l)[q]? = if off ≤ q ∧ q < off + l.length then l[q - off]? else cs[q]? := by
  unfold spl
  by_cases h1 : q < off
  · rw [if_neg (by omega), List.append_assoc, List.getElem?_append_left (by simp; omega), List.getElem?_take, if_pos h1]
  · by_cases h2 : q < off + l.length
    · rw [if_pos (by omega), List.getElem?_append_left (by simp; omega), List.getElem?_append_right (by simp; omega)]
      congr 1
      simp
      omega
    · rw [if_neg (by omega), List.getElem?_append_right (by simp; omega), List.getElem?_drop]
      congr 1
      simp
      omega
theorem flat_spl {xs : Nat → List Value} {cur us : List Value} {n len i off : Nat} (hl : ∀ i, i < len → (xs i).length = n) (hi : i < len) (ho : off + us.length ≤ n) (hc : len * n ≤ cur.length) (ht : cur.take (len * n) = (List.range len).flatMap xs) :
    (spl cur (i * n + off) us).take (len * n) = (List.range len).flatMap (updR xs i (spl (xs i) off us)) := by
  have hil : (i + 1) * n ≤ len * n := Nat.mul_le_mul_right _ (by omega)
  rw [Nat.add_mul, Nat.one_mul] at hil
  have hl' : ∀ j, j < len → (updR xs i (spl (xs i) off us) j).length = n := by
    intro j hj
    unfold updR
    split
    · rw [spl_length (by have := hl i hi; omega)]; exact hl i hi
    · exact hl j hj
  have hsz : (spl cur (i * n + off) us).length = cur.length := spl_length (by omega)
  refine List.ext_getElem? fun q => ?_
  rw [List.getElem?_take]
  by_cases hq : q < len * n
  · rw [if_pos hq]
    have hn : 0 < n := by
      rcases Nat.eq_zero_or_pos n with h | h
      · subst h; simp at hq
      · exact h
    have hqd : q = q / n * n + q % n := by have := Nat.div_add_mod q n; rw [Nat.mul_comm] at this; omega
    have hm := Nat.mod_lt q hn
    have hd : q / n < len := Nat.div_lt_of_lt_mul (by rw [Nat.mul_comm]; exact hq)
    have hcur : cur[q]? = (xs (q / n))[q % n]? := by
      have h1 := congrArg (·[q]?) ht
      simp only [List.getElem?_take, if_pos hq] at h1
      rw [h1]
      conv => lhs; rw [hqd]
      exact flat_get hl hd hm
    rw [spl_get (by omega), hcur]
    conv => rhs; rw [hqd]
    rw [flat_get hl' hd hm]
    unfold updR
    by_cases he : q / n = i
    · rw [if_pos he, spl_get (by have := hl i hi; omega)]
      subst he
      by_cases hr : off ≤ q % n ∧ q % n < off + us.length
      · rw [if_pos (by omega), if_pos hr]
        congr 1
        omega
      · rw [if_neg (by omega), if_neg hr]
    · rw [if_neg he]
      refine if_neg ?_
      rintro ⟨h1, h2⟩
      rcases Nat.lt_or_ge (q / n) i with h | h
      · have : (q / n + 1) * n ≤ i * n := Nat.mul_le_mul_right _ (by omega)
        rw [Nat.add_mul, Nat.one_mul] at this
        omega
      · have : (i + 1) * n ≤ q / n * n := Nat.mul_le_mul_right _ (by omega)
        rw [Nat.add_mul, Nat.one_mul] at this
        omega
  · rw [if_neg hq]
    symm
    rw [List.getElem?_eq_none_iff, flat_length len hl']
    omega

def stH (H : Heap) (a x : AV) : Heap :=
  match a with
  | .ptr id off => match hget H id with
    | some (.box cs) => hset H id (.box (spl cs off x.cells))
    | _ => H
  | .el id _ i off => match hget H id with
    | some (.vec e n len row) => hset H id (.vec e n len (updR row i (spl (row i) off x.cells)))
    | _ => H
  | _ => H
def stOk (H : Heap) (k : Nat) (a x : AV) : Prop :=
  x.cellOk k = true ∧ x.cells.all (·.there H) = true ∧ match a with
  | .ptr id off => match hget H id with
    | some (.box cs) => off + k ≤ cs.length
    | _ => False
  | .el id n i off => match hget H id with
    | some (.vec _ n' len _) => n' = n ∧ i < len ∧ off + k ≤ n
    | _ => False
  | _ => False

theorem run_st {t : TypeId} {k : Nat} {inf : TypeInfo} {v u : Value} {a x : AV} (hi : P.info? t = some inf) (hk : inf.size = k) (hS : St X0 W0 γ w H) (hv : Rep γ (XOf X0 γ H) w v a) (hu : Rep γ (XOf X0 γ H) w u x) (hok : stOk H k a x) :
    ∃ w', (Instr.storeAt t v u).run P w = .ok () w' ∧ St X0 W0 γ w' (stH H a x) ∧ Keeps (XOf X0 γ H) (XOf X0 γ (stH H a x)) w w' := by
  obtain ⟨h1, ht, h2⟩ := hok
  obtain ⟨k1, k2, k3⟩ := hu.cells hS k h1 ht
  cases hv with
  | ptr b id off h =>
    simp only at h2
    cases ho : hget H id with
    | none => simp [ho] at h2
    | some o =>
      cases o with
      | row => simp [ho] at h2
      | vec => simp [ho] at h2
      | map => simp [ho] at h2
      | box cs =>
        simp only [ho] at h2
        obtain ⟨u', hu', b', arr, t', rfl, hB, hh, hr⟩ := hS.obj id _ ho
        rw [h] at hu'
        injection hu' with hu'
        injection hu' with hu'
        injection hu' with hu'
        injection hu' with hu'
        subst hu'
        have hl := hr.1
        have hs := run_storeCells_at P b off t' u.cells.toList 0 arr w hh (by simp at hl ⊢; omega) k3
        obtain ⟨g1, g2⟩ := hS.store ho h hh hr off u.cells.toList x.cells k2
        refine ⟨w.setRow b (spl arr.toList off u.cells.toList).toArray, ?_, ?_, ?_⟩
        · simp only [Nat.add_zero] at hs
          simp only [Instr.storeAt, Instr.sureAddr, Sem.run_bind, Sem.run_pure, Result.andThen_ok, storeVar, sizeOf, typeInfo, run_program, hi]
          simp [k1, hk, hs, spl]
        · simp only [stH, ho]; exact g1
        · simp only [stH, ho]; exact g2
  | el b len cap id n i off h =>
    simp only at h2
    cases ho : hget H id with
    | none => simp [ho] at h2
    | some o =>
      cases o with
      | row => simp [ho] at h2
      | box => simp [ho] at h2
      | map => simp [ho] at h2
      | vec te n' len' row =>
        simp only [ho] at h2
        obtain ⟨rfl, hil, hon⟩ := h2
        obtain ⟨u', hu', xs, hown, hr⟩ := hS.obj id _ ho
        rw [h] at hu'
        injection hu' with hu'
        subst hu'
        obtain rfl := own_len hown
        rcases hown.2 with ⟨he, _⟩ | ⟨g, cap', cur, he, hBg, hh, hnc, hcm, hcs, htake⟩
        · cases he
        injection he with he1 he2 he3
        injection he1 with he1
        injection he1 with he1
        subst he1
        subst he3
        have hul : u.cells.toList.length = k := by simp [k1]
        have hlen : len * n' ≤ cur.toList.length := by
          simp only [Array.length_toList, hcs]
          exact Nat.mul_le_mul_right _ hnc
        have hil2 : (i + 1) * n' ≤ len * n' := Nat.mul_le_mul_right _ (by omega)
        rw [Nat.add_mul, Nat.one_mul] at hil2
        have hs := run_storeCells_at P b (i * n' + off) te u.cells.toList 0 cur w hh (by simp at hlen ⊢; omega) k3
        have hl1 : ∀ i, i < len → (xs i).length = n' := fun i hi => (hr i hi).1
        obtain ⟨g1, g2⟩ := hS.turn (o' := .vec te n' len (updR row i (spl (row i) off x.cells))) (cells := (spl cur.toList (i * n' + off) u.cells.toList).toArray) ho h rfl (fun _ => trivial) (fun X' hK => by
          refine ⟨updR xs i (spl (xs i) off u.cells.toList), ⟨?_, .inr ⟨b, cap, _, rfl, hBg, setRow_heap w b cur _ te (0, 0) hh, hnc, hcm, ?_, ?_⟩⟩, fun j hj => ?_⟩
          · refine flat_length len fun j hj => ?_
            unfold updR
            split
            · rw [spl_length (by have := hl1 i hil; omega)]; exact hl1 i hil
            · exact hl1 j hj
          · have := spl_length (cs := cur.toList) (l := u.cells.toList) (off := i * n' + off) (by omega)
            simp only [Array.length_toList] at this
            simp only [List.size_toArray, this, hcs]
          · exact flat_spl hl1 hil (by omega) hlen htake
          · unfold updR
            by_cases e : j = i
            · subst e
              simp only [if_true]
              exact ⟨by rw [spl_length (by have := hl1 j hj; omega)]; exact hl1 j hj, ((hr j hj).2.spl k2 off).mono (Knows.refl γ) hK⟩
            · simp only [if_neg e]
              exact ⟨hl1 j hj, (hr j hj).2.mono (Knows.refl γ) hK⟩)
        refine ⟨w.setRow b (spl cur.toList (i * n' + off) u.cells.toList).toArray, ?_, ?_, ?_⟩
        · simp only [Nat.add_zero] at hs
          simp only [Instr.storeAt, Instr.sureAddr, Sem.run_bind, Sem.run_pure, Result.andThen_ok, storeVar, sizeOf, typeInfo, run_program, hi]
          simp [k1, hk, hs, spl]
        · simp only [stH, ho]; exact g1
        · simp only [stH, ho]; exact g2
  | _ => exact h2.elim

end

end Go.Proofs.Ytndpejmebhcaaaa
/- 'append' onto a row of the call's own, or onto nil; literals of slices. -/
namespace Go.Proofs.Ytndpejmebhcaaaa
open Go.RowKit

section
variable {P : Program} {X0 : Nat → Nat → Prop} {W0 : World} {γ : Nat → Option Value} {w : World} {H : Heap}

/-- The law of 'append' to a row that is owned, and where the new one lies. -/
theorem app_run (base : Nat) (t ty e : TypeId) (i : TypeInfo) (z : Value) (ht : P.underlying t = some (.slice e)) (hi : P.info? e = some i) (hz : i.zero = some z) (hzs : z.cells.size = i.size) (hsz : 0 < i.size)
    (v : Value) (n : Nat) (xs : List Value) (hown : w.ownsRow base e i.size v n xs) (a : Addr) (m c : Nat) (news : List Value) (hl : news.length = m * i.size) (hnews : ∀ j u, news[j]? = some u → w.cell? (a.add j) = some u) (h1 : ∀ u ∈ news, u.oneCell' = true)
    (h63 : n + m ≤ maxLen) (hbytes : (n + m) * i.bytes ≤ 140737488355328) (hbase : base ≤ w.heap.size) :
    ∃ v' w', (Builtin.append_ #[t, t] ty #[v, .slice (some a) m c]).run P w = .ok v' w' ∧ w'.ownsRow base e i.size v' (n + m) (xs ++ news) ∧ w.grownBy w' v.ownBlock ∧ (∀ b, blk v' = some b → blk v = some b ∨ w.heap.size ≤ b) ∧ (∀ b q, blk v = some b → q < n * i.size → w'.cell? ⟨b, q, none⟩ = w.cell? ⟨b, q, none⟩) := by
  obtain ⟨v', w', hr, k1, k2, k3⟩ := run_append_own (P := P) w base t ty e i z i.size i.bytes ht hi hz rfl rfl hzs hsz v n xs hown a m c news hl hnews h1 h63 hbytes hbase
  have hsmall : n + m ≤ 9223372036854775807 := by simp only [maxLen] at h63; omega
  refine ⟨v', w', hr, k1, k2, fun b hb => ?_, fun b q hb hq => ?_⟩
  rotate_left
  · rcases hown.2 with ⟨rfl, rfl⟩ | ⟨g, cap, cur, rfl, hbg, hg, hnc, hcm, hcs, htake⟩
    · simp [blk] at hb
    · simp [blk] at hb
      subst hb
      have hlt : g < w.heap.size := (Array.getElem?_eq_some_iff.1 hg).1
      by_cases hroom : n + m ≤ cap
      · have hfit : n * i.size + news.length ≤ cur.size := by rw [hl, hcs, ← Nat.add_mul]; exact Nat.mul_le_mul_right _ hroom
        have hr2 := run_append_room (P := P) w t ty e i ht hi g n cap cur hg a m c news hl hnews h1 hroom hfit
        rw [hr] at hr2
        injection hr2 with e1 e2
        subst e2
        rw [cell_setRow_same w g q cur _ e (0, 0) hg]
        have hq2 : q < cur.toList.length := by simp; omega
        have e3 : (cur.toList.take (n * i.size) ++ news ++ cur.toList.drop (n * i.size + news.length)).toArray[q]? = cur.toList[q]? := by
          rw [List.getElem?_toArray, List.append_assoc, List.getElem?_append_left (by simp; omega), List.getElem?_take, if_pos hq]
        rw [e3]
        simp [World.cell?, hg]
      · have holds : ∀ j u, xs[j]? = some u → w.cell? ((⟨g, 0, none⟩ : Addr).add j) = some u := hown.cells (g := g) rfl
        have hr2 := run_append_grow (P := P) w t ty e i z ht hi hz ⟨g, 0, none⟩ n cap xs hown.1 holds a m c news hl hnews (by omega) (by omega) (growslice_fits (by omega) hbytes)
        rw [hr] at hr2
        injection hr2 with e1 e2
        subst e2
        exact World.cell?_of_block (w := w) (a := ⟨g, q, none⟩) (Below.heap_alloc w.drew _ g hlt)
  rcases hown.2 with ⟨rfl, rfl⟩ | ⟨g, cap, cur, rfl, hbg, hg, hnc, hcm, hcs, htake⟩
  · by_cases hm : m = 0
    · have := k3.2 ⟨rfl, hm⟩
      subst this
      simp [blk] at hb
    · have hr2 := run_append_nil (P := P) w t ty e i z ht hi hz a m c news hl hnews (by omega) (by omega) (by have hb := hbytes; simp only [Nat.zero_add] at hb; omega)
      rw [hr] at hr2
      injection hr2 with e1 e2
      subst e1
      simp [blk] at hb
      exact .inr (by omega)
  · by_cases hroom : n + m ≤ cap
    · have hfit : n * i.size + news.length ≤ cur.size := by rw [hl, hcs, ← Nat.add_mul]; exact Nat.mul_le_mul_right _ hroom
      have hr2 := run_append_room (P := P) w t ty e i ht hi g n cap cur hg a m c news hl hnews h1 hroom hfit
      rw [hr] at hr2
      injection hr2 with e1 e2
      subst e1
      exact .inl hb
    · have holds : ∀ j u, xs[j]? = some u → w.cell? ((⟨g, 0, none⟩ : Addr).add j) = some u := hown.cells (g := g) rfl
      have hr2 := run_append_grow (P := P) w t ty e i z ht hi hz ⟨g, 0, none⟩ n cap xs hown.1 holds a m c news hl hnews (by omega) (by omega) (growslice_fits (by omega) hbytes)
      rw [hr] at hr2
      injection hr2 with e1 e2
      subst e1
      simp [blk] at hb
      exact .inr (by omega)

/-- A slice of elements that may be read: where its cells lie. -/
theorem sl_news {b off n len : Nat} {row : Nat → List DV} {vals : Nat → List Value} (hl : ∀ i, i < len → (row i).length = n ∧ (vals i).length = n)
    (hc : ∀ i, i < len → ∀ j v, (vals i)[j]? = some v → w.cell? ⟨b, off + i * n + j, none⟩ = some v) : ∀ j u, ((List.range len).flatMap vals)[j]? = some u → w.cell? ((⟨b, off, none⟩ : Addr).add j) = some u := by
  intro j u hj
  obtain ⟨i, k, h1, h2, h3⟩ := flat_idx len (fun i hi => (hl i hi).2) j u hj
  rw [addr_add, h2, ← Nat.add_assoc]
  exact hc i h1 k u h3

/-- One object less, and one more in its place: a row that has grown. -/
theorem St.regrow (hS : St X0 W0 γ w H) {w' : World} {v v' : Value} {id id' : Nat} (o' : AObj) (hcl : ∀ b, blk v = some b → ∃ arr t fr, w.heap[b]? = some (.cells arr t fr)) (hv : blk v = none ∨ ∃ o, hget H id = some o ∧ γ id = some v) (hid : γ id' = none) (hg : w.grownBy w' v.ownBlock) (hvb : v.ownBlock = blk v)
    (hb : ∀ b, blk v' = some b → blk v = some b ∨ w.heap.size ≤ b) (hturn : ∀ b q, blk v = some b → blk v' = some b → turns o' q → XOf X0 γ H b q) (hpre : ∀ b q, blk v = some b → ¬ XOf X0 γ H b q → w'.cell? ⟨b, q, none⟩ = w.cell? ⟨b, q, none⟩)
    (ho : ∀ γ' X', γ' = upd γ id' v' → Keeps (XOf X0 γ H) X' w w' → ORep γ' X' W0.heap.size w' v' o') :
    St X0 W0 (upd γ id' v') w' (hadd id' o' (hdel H id)) ∧ Knows γ (upd γ id' v') ∧ Keeps (XOf X0 γ H) (XOf X0 (upd γ id' v') (hadd id' o' (hdel H id))) w w' := by
  have hkn := upd_knows v' hid
  have hne : ∀ k o, hget H k = some o → k ≠ id' := fun k o' hk' e => by
    obtain ⟨u, hu, _⟩ := hS.obj k o' hk'
    rw [e, hid] at hu; cases hu
  have hold : ∀ k o, k ≠ id' → hget (hadd id' o' (hdel H id)) k = some o → k ≠ id ∧ hget H k = some o := by
    intro k o hk h
    simp only [hget_add, if_neg (Ne.symm hk), hget_del] at h
    split at h
    · cases h
    · rename_i e; exact ⟨Ne.symm e, h⟩
  have hXv : ∀ b, blk v = some b → W0.heap.size ≤ b := by
    intro b hbv
    rcases hv with h | ⟨o, h1, h2⟩
    · rw [h] at hbv; cases hbv
    · exact (hS.blk_lt h1 h2 hbv).1
  have hstay : ∀ b q, b < w.heap.size → ¬ XOf X0 γ H b q → w'.cell? ⟨b, q, none⟩ = w.cell? ⟨b, q, none⟩ := by
    intro b q hb' hX
    by_cases hbv : blk v = some b
    · exact hpre b q hbv hX
    · exact World.cell?_of_block (w := w) (a := ⟨b, q, none⟩) (hg.block b hb' (fun e => hbv (hvb ▸ e.symm)))
  have hK : Keeps (XOf X0 γ H) (XOf X0 (upd γ id' v') (hadd id' o' (hdel H id))) w w' := by
    refine ⟨hg.size, fun b q u hb' hX hc => (hstay b q hb' hX).trans hc, fun b q hb' h => ?_, fun b o ho hn hX => ?_⟩
    rotate_left
    · refine (hg.block b (Array.getElem?_eq_some_iff.1 ho).1 (fun e => ?_)).trans ho
      obtain ⟨arr, t, fr, hh⟩ := hcl b (hvb ▸ e.symm)
      rw [hh] at ho
      injection ho with ho
      subst ho
      cases hn
    rcases h with h | ⟨k, o, u, h1, h2, h3, h5⟩
    · exact .inl h
    · by_cases e : k = id'
      · subst e
        simp [upd] at h2
        subst h2
        simp [hget_add] at h1
        subst h1
        rcases hb b h3 with h4 | h4
        · exact hturn b q h4 h3 h5
        · omega
      · obtain ⟨_, h1'⟩ := hold k o e h1
        exact .inr ⟨k, o, u, h1', by simpa [upd, e] using h2, h3, h5⟩
  have hext : Ext W0 w' := by
    refine ⟨hg.os.trans hS.ext.os, hg.tape.trans hS.ext.tape, hg.output.trans hS.ext.output, Nat.le_trans hS.ext.size hg.size, fun k hk => ?_⟩
    rw [hg.block k (Nat.lt_of_lt_of_le hk hS.ext.size) (fun e => by have := hXv k (hvb ▸ e.symm); omega)]
    exact hS.ext.block k hk
  have hapart : ∀ k o u b, k ≠ id → hget H k = some o → γ k = some u → blk u = some b → ¬ blk v = some b := by
    intro k o u b hk h1 h2 h3 h4
    rcases hv with h | ⟨o2, g1, g2⟩
    · rw [h] at h4; cases h4
    · exact hk (hS.dis k id o o2 u v b h1 g1 h2 g2 h3 h4)
  refine ⟨⟨hS.hx, hext, fun k o hk => ?_, fun k k' o1 o2 v1 v2 b h1 h2 g1 g2 b1 b2 => ?_⟩, hkn, hK⟩
  · by_cases e : k = id'
    · subst e
      simp only [hget_add, if_true] at hk
      injection hk with hk
      subst hk
      exact ⟨v', by simp [upd], ho _ _ rfl hK⟩
    · obtain ⟨hk1, hk2⟩ := hold k o e hk
      obtain ⟨u, hu, hr⟩ := hS.obj k o hk2
      exact ⟨u, hkn _ _ hu, hr.mono hkn hK (fun b hbu hlt => hg.block b hlt (fun e2 => hapart k o u b hk1 hk2 hu hbu (hvb ▸ e2.symm)))⟩
  · have other : ∀ k o u, k ≠ id' → hget (hadd id' o' (hdel H id)) k = some o → upd γ id' v' k = some u → ∀ b, blk u = some b → ¬ blk v' = some b := by
      intro k o u e h1 h2 b hbu hbv
      obtain ⟨hk1, hk2⟩ := hold k o e h1
      have h2' : γ k = some u := by simpa [upd, e] using h2
      rcases hb b hbv with h4 | h4
      · exact hapart k o u b hk1 hk2 h2' hbu h4
      · have := (hS.blk_lt hk2 h2' hbu).2; omega
    by_cases e1 : k = id' <;> by_cases e2 : k' = id'
    · exact e1.trans e2.symm
    · subst e1
      simp [upd] at g1
      subst g1
      exact (other k' o2 v2 e2 h2 g2 b b2 b1).elim
    · subst e2
      simp [upd] at g2
      subst g2
      exact (other k o1 v1 e1 h1 g1 b b1 b2).elim
    · obtain ⟨_, a1⟩ := hold k o1 e1 h1
      obtain ⟨_, a2⟩ := hold k' o2 e2 h2
      exact hS.dis k k' o1 o2 v1 v2 b a1 a2 (by simpa [upd, e1] using g1) (by simpa [upd, e2] using g2) b1 b2

/-- The base of an 'append': its length, its rows; the elements' type e, n cells each. -/
def baseV (H : Heap) (e : TypeId) (n : Nat) : AV → Option (Option Nat × Nat × (Nat → List DV))
  | .own id len => match hget H id with
    | some (.row e' n' len' row) => if e' = e ∧ n' = n ∧ len' = len then some (some id, len, row) else none
    | _ => none
  | .d (.lit (.slice none 0 0)) => some (none, 0, fun _ => [])
  | _ => none
/-- What is appended: how many, its rows. -/
def moreV (n : Nat) : AV → Option (Nat × (Nat → List DV))
  | .d (.sl n' m row) => if n' = n then some (m, row) else none
  | .d (.sn n' m row) => if n' = n then some (m, row) else none
  | .d (.lit (.slice none 0 0)) => some (0, fun _ => [])
  | _ => none

def appRow (len : Nat) (row more : Nat → List DV) : Nat → List DV := fun i => if i < len then row i else more (i - len)

def hdelO (o : Option Nat) (H : Heap) : Heap := match o with
  | some id => hdel H id
  | none => H

def appV (H : Heap) (e : TypeId) (n id' : Nat) (s x : AV) : AV × Heap :=
  match baseV H e n s, moreV n x with
  | some (o, len, row), some (m, more) => (.own id' (len + m), hadd id' (.row e n (len + m) (appRow len row more)) (hdelO o H))
  | _, _ => (.d .top, H)
def appOk (H : Heap) (e : TypeId) (n bytes : Nat) (s x : AV) : Prop :=
  match baseV H e n s, moreV n x with
  | some (_, len, _), some (m, more) => (len + m) * bytes ≤ 140737488355328 ∧ ∀ i, i < m → (more i).length = n ∧ (more i).all DV.cell = true
  | _, _ => False

/-- The same; vc: the new row's elements may turn (the base is empty then). -/
def mkRow (vc : Bool) (e : TypeId) (n len : Nat) (row : Nat → List DV) : AObj :=
  match vc with
  | true => .vec e n len fun i => (row i).map .d
  | false => .row e n len row
def appG (vc : Bool) (H : Heap) (e : TypeId) (n id' : Nat) (s x : AV) : AV × Heap :=
  match baseV H e n s, moreV n x with
  | some (o, len, row), some (m, more) => (.own id' (len + m), hadd id' (mkRow vc e n (len + m) (appRow len row more)) (hdelO o H))
  | _, _ => (.d .top, H)
def appGOk (vc : Bool) (H : Heap) (e : TypeId) (n bytes : Nat) (s x : AV) : Prop :=
  match baseV H e n s, moreV n x with
  | some (_, len, _), some (m, more) => (vc = true → len = 0) ∧ (len + m) * bytes ≤ 140737488355328 ∧ ∀ i, i < m → (more i).length = n ∧ (more i).all DV.cell = true
  | _, _ => False
theorem appG_false (H : Heap) (e : TypeId) (n id' : Nat) (s x : AV) : appG false H e n id' s x = appV H e n id' s x := by
  unfold appG appV
  split <;> rfl
theorem appGOk_false {H : Heap} {e : TypeId} {n bytes : Nat} {s x : AV} (h : appOk H e n bytes s x) : appGOk false H e n bytes s x := by
  unfold appOk at h
  unfold appGOk
  split at h
  · exact ⟨fun h => (by cases h), h⟩
  · exact h.elim

theorem hdel_none {H : Heap} {id : Nat} (h : hget H id = none) : hdel H id = H := by
  funext k
  unfold hdel
  split
  · rename_i e; subst e; exact h.symm
  · rfl

theorem run_appG (vc : Bool) {t ty e : TypeId} {i : TypeInfo} {z : Value} (ht : P.underlying t = some (.slice e)) (hi : P.info? e = some i) (hz : i.zero = some z) (hzs : z.cells.size = i.size) (hsz : 0 < i.size) (hby : 0 < i.bytes)
    (hS : St X0 W0 γ w H) {v u : Value} {s x : AV} {id' : Nat} (hid : γ id' = none) (hv : Rep γ (XOf X0 γ H) w v s) (hu : Rep γ (XOf X0 γ H) w u x) (hok : appGOk vc H e i.size i.bytes s x) :
    ∃ v' w' γ', (Builtin.append_ #[t, t] ty #[v, u]).run P w = .ok v' w' ∧ St X0 W0 γ' w' (appG vc H e i.size id' s x).2 ∧ Rep γ' (XOf X0 γ' (appG vc H e i.size id' s x).2) w' v' (appG vc H e i.size id' s x).1 ∧ γ' = upd γ id' v' ∧ Knows γ γ' ∧
      Keeps (XOf X0 γ H) (XOf X0 γ' (appG vc H e i.size id' s x).2) w w' := by
  unfold appGOk at hok
  split at hok
  · rename_i o len row m more hb hm
    obtain ⟨hvc, hbytes, hmore⟩ := hok
    -- the base
    have hbase : ∃ xs : Nat → List Value, w.ownsRow W0.heap.size e i.size v len ((List.range len).flatMap xs) ∧ (∀ j, j < len → (xs j).length = i.size ∧ DReps (XOf X0 γ H) w (xs j) (row j)) ∧ (∀ idd, o = some idd → hget H idd = some (.row e i.size len row) ∧ γ idd = some v) ∧ (o = none → blk v = none) := by
      unfold baseV at hb
      split at hb
      · rename_i id len'
        split at hb
        · rename_i e' n' l' row' ho
          split at hb
          · rename_i hc
            obtain ⟨rfl, rfl, rfl⟩ := hc
            simp at hb
            obtain ⟨rfl, rfl, rfl⟩ := hb
            obtain ⟨v0, hv0, xs, hown, hr⟩ := hS.obj id _ ho
            cases hv with | own _ _ _ h =>
            rw [h] at hv0
            injection hv0 with hv0
            subst hv0
            exact ⟨xs, hown, hr, fun idd hidd => by injection hidd with hidd; subst hidd; exact ⟨ho, h⟩, fun h => by cases h⟩
          · cases hb
        · cases hb
      · simp at hb
        obtain ⟨rfl, rfl, rfl⟩ := hb
        obtain rfl := hv.lit
        exact ⟨fun _ => [], by simpa using World.ownsRow_nil w _ _ _, fun j hj => by omega, (fun idd h => by cases h), fun _ => rfl⟩
      · cases hb
    obtain ⟨xs, hown, hrow, hsome, hnone⟩ := hbase
    -- what is appended
    have hlen : len + m ≤ 140737488355328 := Nat.le_trans (Nat.le_mul_of_pos_right _ hby) hbytes
    have hrun : ∃ (ys : Nat → List Value) (v' : Value) (w' : World), (Builtin.append_ #[t, t] ty #[v, u]).run P w = .ok v' w' ∧ w'.ownsRow W0.heap.size e i.size v' (len + m) ((List.range len).flatMap xs ++ (List.range m).flatMap ys) ∧
        (∀ j, j < m → (ys j).length = i.size ∧ DReps (XOf X0 γ H) w (ys j) (more j)) ∧ w.grownBy w' v.ownBlock ∧ (∀ b, blk v' = some b → blk v = some b ∨ w.heap.size ≤ b) ∧ (∀ b q, blk v = some b → q < len * i.size → w'.cell? ⟨b, q, none⟩ = w.cell? ⟨b, q, none⟩) := by
      have hzero : m = 0 → (∃ a, u = .slice a 0 0) → ∃ (ys : Nat → List Value) (v' : Value) (w' : World), (Builtin.append_ #[t, t] ty #[v, u]).run P w = .ok v' w' ∧ w'.ownsRow W0.heap.size e i.size v' (len + m) ((List.range len).flatMap xs ++ (List.range m).flatMap ys) ∧
          (∀ j, j < m → (ys j).length = i.size ∧ DReps (XOf X0 γ H) w (ys j) (more j)) ∧ w.grownBy w' v.ownBlock ∧ (∀ b, blk v' = some b → blk v = some b ∨ w.heap.size ≤ b) ∧ (∀ b q, blk v = some b → q < len * i.size → w'.cell? ⟨b, q, none⟩ = w.cell? ⟨b, q, none⟩) := by
        rintro rfl ⟨a0, rfl⟩
        refine ⟨fun _ => [], v, w, ?_, by simpa using hown, fun j hj => by omega, ⟨rfl, rfl, rfl, Nat.le_refl _, fun _ _ _ => rfl⟩, fun b h => .inl h, fun _ _ _ _ => rfl⟩
        rcases hown.2 with ⟨rfl, rfl⟩ | ⟨g, cap, cur, rfl, hbg, hg, hnc, hcm, hcs, htake⟩
        · cases a0 <;> simp [Builtin.append_, run_underlying ht, sizeOf, typeInfo, hi, Builtin.lenOf, Builtin.firstCells, loadCells, loadCellsFrom]
        · have hle : ¬ cap < len := by omega
          cases a0 <;> simp [Builtin.append_, run_underlying ht, sizeOf, typeInfo, hi, Builtin.lenOf, Builtin.firstCells, loadCells, loadCellsFrom, storeCells, hnc]
      have key : ∀ (n' m' : Nat) (row' : Nat → List DV), DRep (XOf X0 γ H) w u (.sl n' m' row') → (if n' = i.size then some (m', row') else none) = some (m, more) → ∃ (ys : Nat → List Value) (v' : Value) (w' : World), (Builtin.append_ #[t, t] ty #[v, u]).run P w = .ok v' w' ∧ w'.ownsRow W0.heap.size e i.size v' (len + m) ((List.range len).flatMap xs ++ (List.range m).flatMap ys) ∧
          (∀ j, j < m → (ys j).length = i.size ∧ DReps (XOf X0 γ H) w (ys j) (more j)) ∧ w.grownBy w' v.ownBlock ∧ (∀ b, blk v' = some b → blk v = some b ∨ w.heap.size ≤ b) ∧ (∀ b q, blk v = some b → q < len * i.size → w'.cell? ⟨b, q, none⟩ = w.cell? ⟨b, q, none⟩) := by
        intro n' m' row' hd hm
        split at hm
        · rename_i hc
          subst hc
          simp at hm
          obtain ⟨rfl, rfl⟩ := hm
          cases hd with
          | nil n row => exact hzero rfl ⟨_, rfl⟩
          | emp a n row => exact hzero rfl ⟨_, rfl⟩
          | sl b off cap _ _ _ vals hc1 hc2 hbb hX hl hc hr =>
            have hone : ∀ q ∈ (List.range m').flatMap vals, q.oneCell' = true := by
              intro q hq
              obtain ⟨j, hj, hq⟩ := List.mem_flatMap.1 hq
              have hj' := List.mem_range.1 hj
              obtain ⟨k, hk, rfl⟩ := List.getElem_of_mem hq
              have hk' : k < (row' j).length := by rw [(hl j hj').1, ← (hl j hj').2]; exact hk
              exact (hr j hj' k hk hk').one (List.all_eq_true.1 (hmore j hj').2 _ (List.getElem_mem hk'))
            obtain ⟨v', w', r1, r2, r3, r4, r5⟩ := app_run (P := P) W0.heap.size t ty e i z ht hi hz hzs hsz v len _ hown ⟨b, off, none⟩ m' cap _ (flat_length m' (fun j hj => (hl j hj).2)) (sl_news hl hc) hone (by unfold maxLen; omega) hbytes hS.ext.size
            exact ⟨vals, v', w', r1, r2, fun j hj => ⟨(hl j hj).2, (hl j hj).2.trans (hl j hj).1.symm, hr j hj⟩, r3, r4, r5⟩
        · cases hm
      unfold moreV at hm
      split at hm
      · cases hu with | d _ _ hd => exact key _ _ _ hd hm
      · cases hu with | d _ _ hd => cases hd with | sn _ _ _ _ hd _ => exact key _ _ _ hd hm
      · simp at hm
        obtain ⟨rfl, rfl⟩ := hm
        exact hzero rfl ⟨_, hu.lit⟩
      · cases hm
    obtain ⟨ys, v', w', hrun, hown', hys, hgrow, hb', hpre'⟩ := hrun
    rw [flat_append] at hown'
    have hob : v.ownBlock = blk v := by
      rcases hown.2 with ⟨rfl, _⟩ | ⟨g, cap, cur, rfl, _⟩ <;> rfl
    have hcls : ∀ b, blk v = some b → ∃ arr t fr, w.heap[b]? = some (.cells arr t fr) := by
      intro b hb0
      rcases hown.2 with ⟨rfl, _⟩ | ⟨g, cap, cur, rfl, _, hg, _⟩
      · simp [blk] at hb0
      · simp [blk] at hb0
        subst hb0
        exact ⟨_, _, _, hg⟩
    have hobj : ∀ γ' X', γ' = upd γ id' v' → Keeps (XOf X0 γ H) X' w w' → ORep γ' X' W0.heap.size w' v' (mkRow vc e i.size (len + m) (appRow len row more)) := by
      rintro γ' X' rfl hK
      suffices hs : ORep (upd γ id' v') X' W0.heap.size w' v' (.row e i.size (len + m) (appRow len row more)) by
        cases vc with
        | false => exact hs
        | true =>
          obtain ⟨zs, h1, h2⟩ := hs
          exact ⟨zs, h1, fun j hj => ⟨(h2 j hj).1, (h2 j hj).2.reps⟩⟩
      refine ⟨_, hown', fun j hj => ?_⟩
      unfold appRow
      by_cases hjl : j < len
      · rw [if_pos hjl, if_pos hjl]
        exact ⟨(hrow j hjl).1, (hrow j hjl).2.mono hK⟩
      · rw [if_neg hjl, if_neg hjl]
        exact ⟨(hys _ (by omega)).1, (hys _ (by omega)).2.mono hK⟩
    have hV : appG vc H e i.size id' s x = (.own id' (len + m), hadd id' (mkRow vc e i.size (len + m) (appRow len row more)) (hdelO o H)) := by
      unfold appG; rw [hb, hm]
    rw [hV]
    cases ho : o with
    | some id =>
      obtain ⟨hs1, hs2⟩ := hsome id ho
      obtain ⟨g1, g2, g3⟩ := hS.regrow (v := v) (v' := v') (id := id) (id' := id') (mkRow vc e i.size (len + m) (appRow len row more)) hcls (.inr ⟨_, hs1, hs2⟩) hid hgrow hob hb'
        (fun b q h1 h2 h3 => .inr ⟨id, _, v, hs1, hs2, h1, by
          show len * i.size ≤ q
          cases vc with
          | true => rw [hvc rfl]; omega
          | false =>
            have h3' : (len + m) * i.size ≤ q := h3
            rw [Nat.add_mul] at h3'
            omega⟩)
        (fun b q h1 h2 => hpre' b q h1 (Nat.lt_of_not_le fun hle => h2 (.inr ⟨id, _, v, hs1, hs2, h1, hle⟩))) hobj
      exact ⟨v', w', _, hrun, g1, .own v' id' _ (by simp [upd]), rfl, g2, g3⟩
    | none =>
      have hfree : hget H id' = none := by
        cases h : hget H id' with
        | none => rfl
        | some ob =>
          obtain ⟨u0, hu0, _⟩ := hS.obj id' ob h
          rw [hid] at hu0; cases hu0
      obtain ⟨g1, g2, g3⟩ := hS.regrow (v := v) (v' := v') (id := id') (id' := id') (mkRow vc e i.size (len + m) (appRow len row more)) hcls (.inl (hnone ho)) hid hgrow hob hb' (fun b q h1 => by rw [hnone ho] at h1; cases h1) (fun b q h1 => by rw [hnone ho] at h1; cases h1) hobj
      rw [hdel_none hfree] at g1 g3
      exact ⟨v', w', _, hrun, g1, .own v' id' _ (by simp [upd]), rfl, g2, g3⟩
  · exact hok.elim

theorem run_app {t ty e : TypeId} {i : TypeInfo} {z : Value} (ht : P.underlying t = some (.slice e)) (hi : P.info? e = some i) (hz : i.zero = some z) (hzs : z.cells.size = i.size) (hsz : 0 < i.size) (hby : 0 < i.bytes)
    (hS : St X0 W0 γ w H) {v u : Value} {s x : AV} {id' : Nat} (hid : γ id' = none) (hv : Rep γ (XOf X0 γ H) w v s) (hu : Rep γ (XOf X0 γ H) w u x) (hok : appOk H e i.size i.bytes s x) :
    ∃ v' w' γ', (Builtin.append_ #[t, t] ty #[v, u]).run P w = .ok v' w' ∧ St X0 W0 γ' w' (appV H e i.size id' s x).2 ∧ Rep γ' (XOf X0 γ' (appV H e i.size id' s x).2) w' v' (appV H e i.size id' s x).1 ∧ γ' = upd γ id' v' ∧ Knows γ γ' ∧
      Keeps (XOf X0 γ H) (XOf X0 γ' (appV H e i.size id' s x).2) w w' := by
  have := run_appG false ht hi hz hzs hsz hby hS hid hv hu (appGOk_false hok) (ty := ty)
  rwa [appG_false] at this

/-- A slice's literal with at least one element. -/
def mkslV (n : Nat) (parts : List AV) (all : List AV) : AV :=
  match allD all with
  | some ds => .d (.sl n parts.length fun i => (ds.drop (i * n)).take n)
  | none => .d .top

/-- A new row of cells that nobody else knows: a slice that stays as it is. -/
theorem Rep.newRow {X : Nat → Nat → Prop} (hX : ∀ b o, X b o → b < w.heap.size) {arr : Array Value} {t : TypeId} {ds : List DV} {n len : Nat} (hr : DReps X w arr.toList ds) (hn : ds.length = len * n) (hm : len ≤ maxLen) :
    DRep X (w.alloc (.cells arr t)) (.slice (some ⟨w.heap.size, 0, none⟩) len len) (.sl n len fun i => (ds.drop (i * n)).take n) := by
  have hl := hr.1
  have hK : Keeps X X w (w.alloc (.cells arr t)) := .of_ext (Ext.alloc w _)
  refine .sl w.heap.size 0 len n len _ (fun i => (arr.toList.drop (i * n)).take n) (Nat.le_refl _) hm (by simp) (fun i hi j hj h => by have := hX _ _ h; omega) (fun i hi => ?_) (fun i hi j v hv => ?_) (fun i hi j hj hj' => ?_)
  · have : (i + 1) * n ≤ len * n := Nat.mul_le_mul_right _ (by omega)
    rw [Nat.add_mul, Nat.one_mul] at this
    simp only [List.length_take, List.length_drop]
    omega
  · rw [List.getElem?_take] at hv
    split at hv
    · rw [List.getElem?_drop] at hv
      simp only [World.cell?, heap_alloc_new]
      simpa using hv
    · cases hv
  · simp only [List.getElem_take, List.getElem_drop]
    exact (hr.2 _ _ _).mono hK

end

end Go.Proofs.Ytndpejmebhcaaaa
/- Maps of the call's own: made, read, written. -/
namespace Go.Proofs.Ytndpejmebhcaaaa
open Go.RowKit

theorem ba_beq (s t : ByteArray) : (s == t) = true ↔ s = t := by
  cases s with | mk a => cases t with | mk b =>
  show (a == b) = true ↔ _
  simp

theorem same_keq {kd : TypeDesc} {a b : Value} (ha : kdOk kd a = true) (hb : kdOk kd b = true) : Instr.sameNow kd a b = some (keq a b) := by
  cases kd with
  | string => cases a <;> simp [kdOk] at ha <;> cases b <;> simp [kdOk] at hb <;> rfl
  | int q =>
    cases a with
    | int q1 n =>
      cases b with
      | int q2 m =>
        simp [kdOk] at ha hb
        subst ha; subst hb
        simp [Instr.sameNow, keq]
      | _ => simp [kdOk] at hb
    | _ => simp [kdOk] at ha
  | _ => simp [kdOk] at ha
theorem keq_iff {kd : TypeDesc} {a b : Value} (ha : kdOk kd a = true) (hb : kdOk kd b = true) : keq a b = true ↔ a = b := by
  cases kd with
  | string =>
    cases a with
    | string s => cases b with
      | string t => simp [keq, ba_beq]
      | _ => simp [kdOk] at hb
    | _ => simp [kdOk] at ha
  | int q =>
    cases a with
    | int q1 n =>
      cases b with
      | int q2 m =>
        simp [kdOk] at ha hb
        subst ha; subst hb
        simp [keq]
      | _ => simp [kdOk] at hb
    | _ => simp [kdOk] at ha
  | _ => simp [kdOk] at ha
theorem bits_keq {kd : TypeDesc} {a b : Value} (ha : kdOk kd a = true) (hb : kdOk kd b = true) (h : keq a b = true) : Instr.sameBits 10000 b a = true := by
  have := (keq_iff ha hb).1 h
  subst this
  cases kd with
  | string => cases a <;> simp [kdOk] at ha; simp [Instr.sameBits, ba_beq]
  | int q => cases a <;> simp [kdOk] at ha; simp [Instr.sameBits]
  | _ => simp [kdOk] at ha

/-- Where an entry of a key is. -/
def entIdx : List MapEntry → Value → Nat → Option (Nat × Value)
  | [], _, _ => none
  | x :: l, k, i => if keq k x.key then some (i, x.val) else entIdx l k (i + 1)
theorem entIdx_find : ∀ (l : List MapEntry) (k : Value) (i : Nat), (entIdx l k i).map (·.2) = entFind l k
  | [], _, _ => rfl
  | x :: l, k, i => by
    simp only [entIdx, entFind]
    split
    · rfl
    · exact entIdx_find l k (i + 1)
theorem entIdx_at : ∀ (l : List MapEntry) (k : Value) (i j : Nat) (v : Value), entIdx l k i = some (j, v) → i ≤ j ∧ ∃ x, l[j - i]? = some x ∧ keq k x.key = true ∧ x.val = v ∧ ∀ m, m < j - i → ∀ y, l[m]? = some y → keq k y.key = false
  | [], _, _, _, _, h => by simp [entIdx] at h
  | x :: l, k, i, j, v, h => by
    simp only [entIdx] at h
    split at h
    · rename_i hk
      simp at h
      obtain ⟨rfl, rfl⟩ := h
      exact ⟨Nat.le_refl _, x, by simp, hk, rfl, fun m hm => by omega⟩
    · rename_i hk
      obtain ⟨h1, y, h2, h3, h4, h5⟩ := entIdx_at l k (i + 1) j v h
      refine ⟨by omega, y, ?_, h3, h4, fun m hm z hz => ?_⟩
      · rw [show j - i = (j - (i + 1)) + 1 by omega, List.getElem?_cons_succ]; exact h2
      · cases m with
        | zero => simp at hz; subst hz; simpa using hk
        | succ m => exact h5 m (by omega) z (by simpa using hz)
theorem findNow_idx {kd : TypeDesc} {k : Value} (hk : kdOk kd k = true) : ∀ (l : List MapEntry) (i : Nat), (∀ x, x ∈ l → kdOk kd x.key = true) → Instr.findNow kd k l i = some (entIdx l k i)
  | [], _, _ => rfl
  | x :: l, i, h => by
    simp only [Instr.findNow, same_keq hk (h x (by simp)), entIdx]
    cases hq : keq k x.key with
    | true => simp
    | false =>
      simp only [Bool.false_eq_true, if_false]
      exact findNow_idx hk l (i + 1) (fun y hy => h y (by simp [hy]))

/-- A map with another value at a key. -/
def mset (f : Value → Option Value) (key v : Value) : Value → Option Value := fun k => if keq k key then some v else f k

theorem entFind_append {l : List MapEntry} {x : MapEntry} {k : Value} : entFind (l ++ [x]) k = match entFind l k with | some v => some v | none => if keq k x.key then some x.val else none := by
  induction l with
  | nil => rfl
  | cons y l ih =>
    simp only [List.cons_append, entFind]
    split
    · rfl
    · exact ih
theorem entFind_modify {kd : TypeDesc} {key v : Value} (hk : kdOk kd key = true) : ∀ (l : List MapEntry) (j : Nat) (x : MapEntry), (∀ y, y ∈ l → kdOk kd y.key = true) → l[j]? = some x → keq key x.key = true → (∀ m, m < j → ∀ y, l[m]? = some y → keq key y.key = false) →
    ∀ k, kdOk kd k = true → entFind (l.modify j fun e => { e with key := key, val := v }) k = mset (entFind l) key v k
  | [], j, x, _, h, _, _, _, _ => by simp at h
  | y :: l, 0, x, hl, h, hx, _, k, hkk => by
    simp at h
    subst h
    have e1 := (keq_iff hk (hl y (by simp))).1 hx
    simp only [List.modify_zero_cons, entFind, mset]
    split
    · rfl
    · rename_i hn
      rw [← e1]
      rw [if_neg hn]
  | y :: l, j + 1, x, hl, h, hx, hb, k, hkk => by
    have ih := entFind_modify (v := v) hk l j x (fun z hz => hl z (by simp [hz])) (by simpa using h) hx (fun m hm z hz => hb (m + 1) (by omega) z (by simpa using hz)) k hkk
    simp only [List.modify_succ_cons, entFind, mset] at ih ⊢
    have hy := hb 0 (by omega) y rfl
    split
    · rename_i hky
      have : keq k key = false := by
        rw [← Bool.not_eq_true]
        intro h2
        rw [(keq_iff hkk hk).1 h2] at hky
        rw [hky] at hy; cases hy
      rw [this]; simp
    · exact ih

section
variable {P : Program} {X0 : Nat → Nat → Prop} {W0 : World} {γ : Nat → Option Value} {w : World} {H : Heap}

theorem St.map_at (hS : St X0 W0 γ w H) {id : Nat} {kd : TypeDesc} {n : Nat} {f : Value → Option Value} {v : Value} (ho : hget H id = some (.map kd n f)) (hv : γ id = some v) :
    ∃ b ent clock, v = .map (some b) ∧ W0.heap.size ≤ b ∧ w.heap[b]? = some (.map ent clock) ∧ ent.size = n ∧ (∀ x, x ∈ ent.toList → kdOk kd x.key = true) ∧ ∀ k, kdOk kd k = true → entFind ent.toList k = f k := by
  obtain ⟨u, hu, hr⟩ := hS.obj id _ ho
  rw [hv] at hu
  injection hu with hu
  subst hu
  exact hr

theorem run_getObj {b : Nat} {ent : Array MapEntry} {clock : Nat} (h : w.heap[b]? = some (.map ent clock)) : (getObj b).run P w = .ok (.map ent clock) w := by
  simp [getObj, Sem.run, h]
theorem run_setObj {b : Nat} {ent : Array MapEntry} {clock : Nat} (o : Obj) (h : w.heap[b]? = some (.map ent clock)) : (setObj b o).run P w = .ok () { w with heap := w.heap.setIfInBounds b o } := by
  simp [setObj, Sem.run, h]

theorem run_checkKey {kd : TypeDesc} {kt : TypeId} {em : Bool} {key : Value} (hu : P.underlying kt = some kd) (hk : kdOk kd key = true) : (Instr.checkKey em 10000 kt key).run P w = .ok () w := by
  unfold Instr.checkKey
  cases kd <;> cases key <;> simp [kdOk] at hk <;> simp [run_underlying hu]

theorem run_findKey {kd : TypeDesc} {kt : TypeId} {key : Value} {l : List MapEntry} (hu : P.underlying kt = some kd) (hk : kdOk kd key = true) (hl : ∀ x, x ∈ l → kdOk kd x.key = true) : (Instr.findKey kt key l).run P w = .ok (entIdx l key 0) w := by
  unfold Instr.findKey
  simp [run_underlying hu, findNow_idx hk l 0 hl]

/-- 'm[k]', with or without 'ok'. -/
theorem run_mget {t kt et : TypeId} {kd : TypeDesc} {n : Nat} {f : Value → Option Value} {id : Nat} {v key z : Value} {ok : Bool} (hu : P.underlying t = some (.map kt et)) (hk : P.underlying kt = some kd) (hz : (zeroValue et).run P w = .ok z w)
    (hS : St X0 W0 γ w H) (ho : hget H id = some (.map kd n f)) (hv : γ id = some v) (hkey : kdOk kd key = true) :
    (Instr.lookup t v key ok).run P w = .ok (if ok then .tuple #[(f key).getD z, .bool (f key).isSome] else (f key).getD z) w := by
  obtain ⟨b, ent, clock, rfl, _, hh, _, hall, hf⟩ := hS.map_at ho hv
  have hfk := hf key hkey
  have hi := entIdx_find ent.toList key 0
  rw [hfk] at hi
  unfold Instr.lookup
  simp only [Sem.run_bind, run_underlying hu, Result.andThen_ok, run_getObj hh, Sem.run_pure, run_checkKey hk hkey, run_findKey hk hkey hall]
  cases hx : entIdx ent.toList key 0 with
  | none =>
    rw [hx] at hi
    simp at hi
    simp [← hi, hz]
  | some p =>
    rw [hx] at hi
    simp at hi
    simp [← hi]

/-- An object turned as a whole, in its own block. -/
theorem St.reobj (hS : St X0 W0 γ w H) {id : Nat} {o o' : AObj} {v : Value} {b : Nat} (ho : hget H id = some o) (hv : γ id = some v) (hb : blk v = some b) (ht : ∀ q, turns o q) {w' : World} (hext : Ext W0 w') (hsz : w.heap.size ≤ w'.heap.size)
    (hoth : ∀ k, k ≠ b → k < w.heap.size → w'.heap[k]? = w.heap[k]?) (hnew : ORep γ (XOf X0 γ (hset H id o')) W0.heap.size w' v o') : St X0 W0 γ w' (hset H id o') ∧ Keeps (XOf X0 γ H) (XOf X0 γ (hset H id o')) w w' := by
  have hbX : ∀ q, XOf X0 γ H b q := fun q => .inr ⟨id, _, _, ho, hv, hb, ht q⟩
  have hgs : ∀ k u, hget (hset H id o') k = some u → (k = id ∧ u = o') ∨ (k ≠ id ∧ hget H k = some u) := by
    intro k u hk
    rw [hget_set] at hk
    by_cases e : id = k
    · subst e
      rw [if_pos rfl, ho] at hk
      simp at hk
      exact .inl ⟨rfl, hk.symm⟩
    · rw [if_neg e] at hk
      exact .inr ⟨Ne.symm e, hk⟩
  have hK : Keeps (XOf X0 γ H) (XOf X0 γ (hset H id o')) w w' := by
    refine .of_blocks hsz (fun k hk => ?_) (fun k q hk h => ?_)
    · by_cases e : k = b
      · exact .inl fun q => e ▸ hbX q
      · exact .inr (hoth k e hk)
    rcases h with h | ⟨j, u, z, h1, h2, h3, h4⟩
    · exact .inl h
    · rcases hgs j u h1 with ⟨rfl, _⟩ | ⟨_, h1'⟩
      · rw [hv] at h2
        injection h2 with h2
        subst h2
        exact .inr ⟨j, _, v, ho, hv, h3, ht q⟩
      · exact .inr ⟨j, u, z, h1', h2, h3, h4⟩
  refine ⟨⟨hS.hx, hext, fun k u hk => ?_, fun k k' u u' v v' c h1 h2 g1 g2 b1 b2 => ?_⟩, hK⟩
  · rcases hgs k u hk with ⟨rfl, rfl⟩ | ⟨hne, hk'⟩
    · exact ⟨v, hv, hnew⟩
    · obtain ⟨z, hz, hr'⟩ := hS.obj k u hk'
      refine ⟨z, hz, hr'.mono (Knows.refl γ) hK (fun c hc hlt => hoth c (fun e => hne ?_) hlt)⟩
      exact hS.dis k id u _ z _ b hk' ho hz hv (e ▸ hc) hb
  · rcases hgs k u h1 with ⟨rfl, _⟩ | ⟨_, h1'⟩ <;> rcases hgs k' u' h2 with ⟨rfl, _⟩ | ⟨_, h2'⟩
    · rfl
    · exact hS.dis _ _ _ _ _ _ c ho h2' g1 g2 b1 b2
    · exact hS.dis _ _ _ _ _ _ c h1' ho g1 g2 b1 b2
    · exact hS.dis _ _ _ _ _ _ c h1' h2' g1 g2 b1 b2

theorem setBlock_ext {W : World} {b : Nat} (o : Obj) (h : Ext W w) (hb : W.heap.size ≤ b) : Ext W { w with heap := w.heap.setIfInBounds b o } :=
  ⟨h.os, h.tape, h.output, by simpa using h.size, fun k hk => by
    have : b ≠ k := by omega
    show (w.heap.setIfInBounds b o)[k]? = _
    rw [Array.getElem?_setIfInBounds_ne this]
    exact h.block k hk⟩

/-- 'm[k] = x'. -/
theorem run_mset {t kt et : TypeId} {kd : TypeDesc} {n : Nat} {f : Value → Option Value} {id : Nat} {v key x : Value} (hu : P.underlying t = some (.map kt et)) (hk : P.underlying kt = some kd)
    (hS : St X0 W0 γ w H) (ho : hget H id = some (.map kd n f)) (hv : γ id = some v) (hkey : kdOk kd key = true) :
    ∃ w', (Instr.mapUpdate t v key x).run P w = .ok () w' ∧ St X0 W0 γ w' (hset H id (.map kd (if (f key).isSome then n else n + 1) (mset f key x))) ∧ Keeps (XOf X0 γ H) (XOf X0 γ (hset H id (.map kd (if (f key).isSome then n else n + 1) (mset f key x)))) w w' := by
  obtain ⟨b, ent, clock, rfl, hB, hh, hn, hall, hf⟩ := hS.map_at ho hv
  have hfk := hf key hkey
  have hi := entIdx_find ent.toList key 0
  rw [hfk] at hi
  have hlt : b < w.heap.size := (Array.getElem?_eq_some_iff.1 hh).1
  have hoth : ∀ (o : Obj) k, k ≠ b → k < w.heap.size → ({ w with heap := w.heap.setIfInBounds b o } : World).heap[k]? = w.heap[k]? := by
    intro o k hkb _
    show (w.heap.setIfInBounds b o)[k]? = _
    rw [Array.getElem?_setIfInBounds_ne (Ne.symm hkb)]
  have hat : ∀ (o : Obj), ({ w with heap := w.heap.setIfInBounds b o } : World).heap[b]? = some o := by
    intro o
    show (w.heap.setIfInBounds b o)[b]? = _
    simp [hlt]
  unfold Instr.mapUpdate
  simp only [Sem.run_bind, run_underlying hu, Result.andThen_ok, run_getObj hh, run_checkKey hk hkey, run_findKey hk hkey hall]
  cases hx : entIdx ent.toList key 0 with
  | none =>
    rw [hx] at hi
    simp only [Option.map_none] at hi
    refine ⟨_, by simp only [run_setObj _ hh]; rfl, ?_⟩
    refine hS.reobj ho hv rfl (fun _ => trivial) (setBlock_ext _ hS.ext hB) (by simp) (hoth _) ⟨b, _, _, rfl, hB, hat _, ?_, ?_, ?_⟩
    · simp [← hi, hn]
    · intro y hy
      simp at hy
      rcases hy with hy | rfl
      · exact hall y (by simpa using hy)
      · exact hkey
    · intro k hkk
      simp only [Array.toList_push, entFind_append, mset]
      rw [hf k hkk]
      by_cases hq : keq k key = true
      · have := (keq_iff hkk hkey).1 hq
        subst this
        rw [← hi]
      · rw [if_neg hq, if_neg hq]
        cases f k <;> rfl
  | some p =>
    obtain ⟨j, u⟩ := p
    rw [hx] at hi
    simp only [Option.map_some] at hi
    obtain ⟨_, y, h2, h3, h4, h5⟩ := entIdx_at _ _ _ _ _ hx
    simp only [Nat.sub_zero] at h2 h5
    have hy : y ∈ ent.toList := List.mem_of_getElem? h2
    have hkeep : (Instr.keyThatStays (((ent[j]?).map (·.key)).getD key) key).run P w = .ok key w := by
      have e1 : ent[j]? = some y := by simpa using h2
      rw [e1]
      simp only [Option.map_some, Option.getD_some]
      unfold Instr.keyThatStays
      rw [if_pos (bits_keq hkey (hall y hy) h3)]
      rfl
    simp only [Sem.run_bind, hkeep, Result.andThen_ok]
    refine ⟨_, by simp only [run_setObj _ hh]; rfl, ?_⟩
    refine hS.reobj ho hv rfl (fun _ => trivial) (setBlock_ext _ hS.ext hB) (by simp) (hoth _) ⟨b, _, _, rfl, hB, hat _, ?_, ?_, ?_⟩
    · simp [← hi, hn]
    · intro z hz
      obtain ⟨q, hq, rfl⟩ := List.getElem_of_mem hz
      simp only [Array.length_toList, Array.size_modify] at hq
      rw [Array.getElem_toList, Array.getElem_modify]
      split
      · exact hkey
      · exact hall _ (by simp)
    · intro k hkk
      have := entFind_modify (v := x) hkey ent.toList j y hall h2 h3 h5 k hkk
      rw [Array.toList_modify]
      rw [this]
      unfold mset
      split
      · rfl
      · exact hf k hkk

/-- 'make(map[..]..)'. -/
theorem St.newMap (hS : St X0 W0 γ w H) (id : Nat) (hid : γ id = none) (kd : TypeDesc) :
    St X0 W0 (upd γ id (.map (some w.heap.size))) (w.alloc (.map #[] 0)) (hadd id (.map kd 0 fun _ => none) H) ∧ Knows γ (upd γ id (.map (some w.heap.size))) ∧ Keeps (XOf X0 γ H) (XOf X0 (upd γ id (.map (some w.heap.size))) (hadd id (.map kd 0 fun _ => none) H)) w (w.alloc (.map #[] 0)) := by
  refine hS.new (Ext.alloc w _) id hid _ rfl _ (fun b hb => by simp [blk] at hb; omega) ?_
  exact ⟨w.heap.size, #[], 0, rfl, hS.ext.size, heap_alloc_new w _, rfl, fun x hx => by simp at hx, fun k _ => rfl⟩

end

end Go.Proofs.Ytndpejmebhcaaaa
