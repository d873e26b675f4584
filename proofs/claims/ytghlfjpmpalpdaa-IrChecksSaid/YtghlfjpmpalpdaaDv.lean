/- Plain data, and what it means that a value of the model reads as such: literals, structs, slices as functions of the index, pointers into memory that stays, closures. -/
import Derived.Test.YtghlfjpmpalpdaaBase
namespace Go.Proofs.Ytghlfjpmpalpdaa
open Go.RowKit

/-- Plain data. 'top': nothing is known. 'sl n len row': a slice of len elements of n cells each ('sn': it isn't nil). 'cref cs off': a pointer to cell number off of some cells that stay as they are. -/
inductive DV where
  | top
  | lit (v : Value)
  | agg (cs : List DV)
  | tup (cs : List DV)
  | sl (n len : Nat) (row : Nat → List DV)
  | cref (cs : List DV) (off : Nat)
  | fn (f : FuncId) (caps : List DV)
  | sn (n len : Nat) (row : Nat → List DV)

instance : Inhabited DV := ⟨.top⟩

/-- Value v reads as x; X b o: cell o of block b may yet turn (nothing is read there). -/
inductive DRep (X : Nat → Nat → Prop) (w : World) : Value → DV → Prop
  | top (v : Value) : DRep X w v .top
  | lit (v : Value) : DRep X w v (.lit v)
  | agg (vs : List Value) (cs : List DV) (hl : vs.length = cs.length) (hr : ∀ i (h : i < vs.length) (h' : i < cs.length), DRep X w vs[i] cs[i]) : DRep X w (.agg vs.toArray) (.agg cs)
  | tup (vs : List Value) (cs : List DV) (hl : vs.length = cs.length) (hr : ∀ i (h : i < vs.length) (h' : i < cs.length), DRep X w vs[i] cs[i]) : DRep X w (.tuple vs.toArray) (.tup cs)
  | nil (n : Nat) (row : Nat → List DV) : DRep X w (.slice none 0 0) (.sl n 0 row)
  | emp (a : Addr) (n : Nat) (row : Nat → List DV) : DRep X w (.slice (some a) 0 0) (.sl n 0 row)
  | sl (b off cap n len : Nat) (row : Nat → List DV) (vals : Nat → List Value) (h1 : len ≤ cap) (h2 : cap ≤ maxLen) (hb : b < w.heap.size) (hX : ∀ i, i < len → ∀ j, j < n → ¬ X b (off + i * n + j))
      (hl : ∀ i, i < len → (row i).length = n ∧ (vals i).length = n)
      (hc : ∀ i, i < len → ∀ j v, (vals i)[j]? = some v → w.cell? ⟨b, off + i * n + j, none⟩ = some v)
      (hr : ∀ i, i < len → ∀ j (h : j < (vals i).length) (h' : j < (row i).length), DRep X w (vals i)[j] (row i)[j]) : DRep X w (.slice (some ⟨b, off, none⟩) len cap) (.sl n len row)
  | cref (b base off : Nat) (cs : List DV) (vs : List Value) (hb : b < w.heap.size) (hX : ∀ j, j < cs.length → ¬ X b (base + j)) (hl : vs.length = cs.length)
      (hc : ∀ j v, vs[j]? = some v → w.cell? ⟨b, base + j, none⟩ = some v)
      (hr : ∀ i (h : i < vs.length) (h' : i < cs.length), DRep X w vs[i] cs[i]) : DRep X w (.pointer (some ⟨b, base + off, none⟩)) (.cref cs off)
  | fn (f : FuncId) (vs : List Value) (caps : List DV) (hl : vs.length = caps.length) (hr : ∀ i (h : i < vs.length) (h' : i < caps.length), DRep X w vs[i] caps[i]) : DRep X w (.func (.func f) #[] vs.toArray) (.fn f caps)
  | sn (v : Value) (n len : Nat) (row : Nat → List DV) (h : DRep X w v (.sl n len row)) (hn : v ≠ .slice none 0 0) : DRep X w v (.sn n len row)

/-- Is an object of memory no row of cells? -/
def objOther : Obj → Bool
  | .cells .. => false
  | _ => true

/-- What stays: cells outside X hold what they held, other objects outside X are as they were; X gets none of the old ones. -/
structure Keeps (X X' : Nat → Nat → Prop) (w w' : World) : Prop where
  size : w.heap.size ≤ w'.heap.size
  cells : ∀ b o v, b < w.heap.size → ¬ X b o → w.cell? ⟨b, o, none⟩ = some v → w'.cell? ⟨b, o, none⟩ = some v
  sub : ∀ b o, b < w.heap.size → X' b o → X b o
  others : ∀ (b : Nat) (o : Obj), w.heap[b]? = some o → objOther o = true → ¬ X b 0 → w'.heap[b]? = some o

theorem Keeps.same {X X' : Nat → Nat → Prop} {w : World} (h : ∀ b o, b < w.heap.size → X' b o → X b o) : Keeps X X' w w := ⟨Nat.le_refl _, fun _ _ _ _ _ h => h, h, fun _ _ h _ _ => h⟩
theorem Keeps.of_blocks {X X' : Nat → Nat → Prop} {w w' : World} (hs : w.heap.size ≤ w'.heap.size) (hb : ∀ b, b < w.heap.size → (∀ q, X b q) ∨ w'.heap[b]? = w.heap[b]?) (h : ∀ b o, b < w.heap.size → X' b o → X b o) : Keeps X X' w w' :=
  ⟨hs, fun b o v hlt hX hc => by
    rcases hb b hlt with h1 | h1
    · exact absurd (h1 o) hX
    · exact (World.cell?_of_block (w := w) (w' := w') (a := ⟨b, o, none⟩) h1).trans hc, h, fun b o ho _ hX => by
    rcases hb b (Array.getElem?_eq_some_iff.1 ho).1 with h1 | h1
    · exact absurd (h1 0) hX
    · exact h1.trans ho⟩
theorem Keeps.of_ext {X : Nat → Nat → Prop} {w w' : World} (h : Ext w w') : Keeps X X w w' := .of_blocks h.size (fun b hb => .inr (h.block b hb)) (fun _ _ _ h => h)
theorem Keeps.refl (X : Nat → Nat → Prop) (w : World) : Keeps X X w w := .same fun _ _ _ h => h
theorem Keeps.cell {X X' : Nat → Nat → Prop} {w w' : World} (k : Keeps X X' w w') {b o : Nat} {v : Value} (hb : b < w.heap.size) (hX : ¬ X b o) (h : w.cell? ⟨b, o, none⟩ = some v) : w'.cell? ⟨b, o, none⟩ = some v :=
  k.cells b o v hb hX h
theorem Keeps.trans {X X' X'' : Nat → Nat → Prop} {w w' w'' : World} (h : Keeps X X' w w') (k : Keeps X' X'' w' w'') : Keeps X X'' w w'' :=
  ⟨Nat.le_trans h.size k.size, fun b o v hb hX hc => k.cells b o v (Nat.lt_of_lt_of_le hb h.size) (fun h' => hX (h.sub b o hb h')) (h.cells b o v hb hX hc),
    fun b o hb hX => h.sub b o hb (k.sub b o (Nat.lt_of_lt_of_le hb h.size) hX),
    fun b o ho hn hX => k.others b o (h.others b o ho hn hX) hn (fun h' => hX (h.sub b 0 (Array.getElem?_eq_some_iff.1 ho).1 h'))⟩

theorem DRep.monoC {X X' : Nat → Nat → Prop} {w w' : World} (ksize : w.heap.size ≤ w'.heap.size) (kcells : ∀ b o v, b < w.heap.size → ¬ X b o → w.cell? ⟨b, o, none⟩ = some v → w'.cell? ⟨b, o, none⟩ = some v) (ksub : ∀ b o, b < w.heap.size → X' b o → X b o) {v : Value} {x : DV} (h : DRep X w v x) : DRep X' w' v x := by
  induction h with
  | top v => exact .top v
  | lit v => exact .lit v
  | agg vs cs hl _ ih => exact .agg vs cs hl ih
  | tup vs cs hl _ ih => exact .tup vs cs hl ih
  | nil n row => exact .nil n row
  | emp a n row => exact .emp a n row
  | sl b off cap n len row vals h1 h2 hb hX hl hc _ ih =>
    exact .sl b off cap n len row vals h1 h2 (Nat.lt_of_lt_of_le hb ksize) (fun i hi j hj h => hX i hi j hj (ksub b _ hb h)) hl (fun i hi j v hv => kcells _ _ _ hb (hX i hi j (by have := (List.getElem?_eq_some_iff.1 hv).1; have := (hl i hi).2; omega)) (hc i hi j v hv)) ih
  | cref b base off cs vs hb hX hl hc _ ih =>
    exact .cref b base off cs vs (Nat.lt_of_lt_of_le hb ksize) (fun j hj h => hX j hj (ksub b _ hb h)) hl (fun j v hv => kcells _ _ _ hb (hX j (by have := (List.getElem?_eq_some_iff.1 hv).1; omega)) (hc j v hv)) ih
  | fn f vs caps hl _ ih => exact .fn f vs caps hl ih
  | sn v n len row _ hn ih => exact .sn v n len row ih hn

theorem DRep.mono {X X' : Nat → Nat → Prop} {w w' : World} (k : Keeps X X' w w') {v : Value} {x : DV} (h : DRep X w v x) : DRep X' w' v x := h.monoC k.size k.cells k.sub

theorem DRep.ext {X : Nat → Nat → Prop} {w w' : World} {v : Value} {x : DV} (h : DRep X w v x) (he : Ext w w') : DRep X w' v x := h.mono (.of_ext he)

/-- Some values read as some data, one by one. -/
def DReps (X : Nat → Nat → Prop) (w : World) (vs : List Value) (as : List DV) : Prop := vs.length = as.length ∧ ∀ i (h : i < vs.length) (h' : i < as.length), DRep X w vs[i] as[i]

theorem DReps.nil (X : Nat → Nat → Prop) (w : World) : DReps X w [] [] := ⟨rfl, fun i h => by simp at h⟩
theorem DReps.cons {X : Nat → Nat → Prop} {w : World} {v : Value} {a : DV} {vs : List Value} {as : List DV} (h : DRep X w v a) (hs : DReps X w vs as) : DReps X w (v :: vs) (a :: as) := by
  refine ⟨by simp [hs.1], fun i hi hi' => ?_⟩
  cases i with
  | zero => exact h
  | succ i => exact hs.2 i (by simpa using hi) (by simpa using hi')
theorem DReps.uncons {X : Nat → Nat → Prop} {w : World} {vs : List Value} {a : DV} {as : List DV} (h : DReps X w vs (a :: as)) : ∃ v vs', vs = v :: vs' ∧ DRep X w v a ∧ DReps X w vs' as := by
  obtain ⟨hl, hr⟩ := h
  cases vs with
  | nil => simp at hl
  | cons v vs' => exact ⟨v, vs', rfl, hr 0 (by simp) (by simp), by simpa using hl, fun i hi hi' => hr (i + 1) (by simpa using hi) (by simpa using hi')⟩
theorem DReps.unnil {X : Nat → Nat → Prop} {w : World} {vs : List Value} (h : DReps X w vs []) : vs = [] := by
  have := h.1
  simpa using this
theorem DReps.mono {X X' : Nat → Nat → Prop} {w w' : World} (k : Keeps X X' w w') {vs : List Value} {as : List DV} (h : DReps X w vs as) : DReps X' w' vs as := ⟨h.1, fun i hi hi' => (h.2 i hi hi').mono k⟩

/-- x says no less than y. -/
def DLe (x y : DV) : Prop := ∀ X w v, DRep X w v x → DRep X w v y
theorem DLe.refl (x : DV) : DLe x x := fun _ _ _ h => h
theorem DLe.trans {x y z : DV} (h : DLe x y) (k : DLe y z) : DLe x z := fun X w v hv => k X w v (h X w v hv)
theorem DLe.top (x : DV) : DLe x .top := fun _ _ v _ => .top v
theorem DLe.of_eq {x y : DV} (h : x = y) : DLe x y := h ▸ DLe.refl x
theorem DLe.sl {n len : Nat} {row row' : Nat → List DV} (h : ∀ i, i < len → row i = row' i) : DLe (.sl n len row) (.sl n len row') := by
  intro X w v hv
  cases hv with
  | nil => exact .nil n row'
  | emp a => exact .emp a n row'
  | sl b off cap n len _ vals h1 h2 hb hX hl hc hr =>
    refine .sl b off cap n len row' vals h1 h2 hb hX (fun i hi => h i hi ▸ hl i hi) hc (fun i hi j hj hj' => ?_)
    have e := h i hi
    have hj'' : j < (row i).length := by rw [e]; exact hj'
    have := hr i hi j hj hj''
    simp only [e] at this
    exact this
theorem DLe.agg {cs cs' : List DV} (hl : cs.length = cs'.length) (h : ∀ i (h : i < cs.length) (h' : i < cs'.length), DLe cs[i] cs'[i]) : DLe (.agg cs) (.agg cs') := by
  intro X w v hv
  cases hv with
  | agg vs _ hl' hr => exact .agg vs cs' (hl'.trans hl) fun i hi hi' => h i (by omega) hi' X w _ (hr i hi (by omega))
theorem DLe.tup {cs cs' : List DV} (hl : cs.length = cs'.length) (h : ∀ i (h : i < cs.length) (h' : i < cs'.length), DLe cs[i] cs'[i]) : DLe (.tup cs) (.tup cs') := by
  intro X w v hv
  cases hv with
  | tup vs _ hl' hr => exact .tup vs cs' (hl'.trans hl) fun i hi hi' => h i (by omega) hi' X w _ (hr i hi (by omega))

/-- Function number F has a body of its own: a call through a function's value enters it. -/
def HasBody (P : Program) (F : FuncId) : Prop := ∃ fn c, P.funcs[F]? = some fn ∧ (fn.name == "runtime.NumGoroutine") = false ∧ fn.body = some c

theorem HasBody.run {P : Program} {F : FuncId} (h : HasBody P F) (args : Array Value) (w : World) : (callFunc F args).run P w = .ok (.enter F args) w := by
  obtain ⟨fn, c, hf, hn, hb⟩ := h
  have hn' : ¬ fn.name = "runtime.NumGoroutine" := by simpa using hn
  simp [callFunc, program, Sem.run, hf, hn', hb, pure, bind, Sem.bind]

/-- A function's contract: whatever values read as these data, the call ends, hands back what reads as r, and turns nothing that was there. -/
def APure (P : Program) (F : FuncId) (as : List DV) (r : DV) : Prop :=
  HasBody P F ∧ ∀ (X : Nat → Nat → Prop) (w : World) (vs : Array Value), (∀ b o, X b o → b < w.heap.size) → DReps X w vs.toList as → Calls P F vs w fun e w' => Ext w w' ∧ ∃ v, e = .returned v ∧ DRep X w' v r

/-- A slice that is nil, or isn't. -/
theorem APure.nilSplit {P : Program} {F : FuncId} {n len : Nat} {row : Nat → List DV} {as : List DV} {r : DV} (h0 : len = 0 → APure P F (.lit (.slice none 0 0) :: as) r) (h1 : APure P F (.sn n len row :: as) r) : APure P F (.sl n len row :: as) r := by
  refine ⟨h1.1, fun X w vs hX hvs => ?_⟩
  obtain ⟨v, vs', he, hv, hr⟩ := hvs.uncons
  by_cases hn : v = .slice none 0 0
  · have hl : len = 0 := by
      subst hn
      cases hv
      rfl
    subst hn
    exact (h0 hl).2 X w vs hX (by rw [he]; exact DReps.cons (.lit _) hr)
  · exact h1.2 X w vs hX (by rw [he]; exact DReps.cons (.sn v _ _ _ hv hn) hr)

theorem APure.le {P : Program} {F : FuncId} {as : List DV} {r r' : DV} (h : APure P F as r) (hr : DLe r r') : APure P F as r' := by
  refine ⟨h.1, fun X w vs hX hvs => ?_⟩
  refine (h.2 X w vs hX hvs).mono ?_
  rintro e w' ⟨hx, v, he, hv⟩
  exact ⟨hx, v, he, hr _ _ _ hv⟩

theorem APure.arg {P : Program} {F : FuncId} {as as' : List DV} {r : DV} (h : APure P F as' r) (hl : as.length = as'.length) (hle : ∀ i (h : i < as.length) (h' : i < as'.length), DLe as[i] as'[i]) : APure P F as r := by
  refine ⟨h.1, fun X w vs hX hvs => ?_⟩
  exact h.2 X w vs hX ⟨hvs.1.trans hl, fun i hi hi' => hle i (by have := hvs.1; omega) hi' _ _ _ (hvs.2 i hi (by have := hvs.1; omega))⟩

end Go.Proofs.Ytghlfjpmpalpdaa
