/- Some texts of one kind, one behind the other. -/
import Derived.Test.YtndpejmebhcaaaaKB
import Derived.RangeFuncRecord
import Derived.RangeFuncSeq
import Derived.RangeFuncLeaves
/- Code: the evaluator's own, with loops; and that it tells of the model's run. A function's contract out of its body. -/
namespace Go.Proofs.Ytndpejmebhcaaaa
open Go.RowKit

inductive ACode where
  | skip
  | reg (ops : List AOper)
  | seq (a b : ACode)
  | cond (c : Opd) (t f : ACode)
  | block (id : Nat) (b : ACode)
  | loop (b : ACode)
  | exit (id : Nat)
  | ret
  | frz (p : Slot)
  | rng (g : Opd) (ps : List Slot) (asn body : ACode)
  | bad

/-- No operation makes a map. -/
def noMk (os : List AOper) : Bool := os.all fun o => match o.op with | .mmk _ => false | _ => true
/-- No loop, and no map is made. -/
def plainB : ACode → Bool
  | .reg os => noMk os
  | .seq a b => plainB a && plainB b
  | .cond _ a b => plainB a && plainB b
  | .block _ a => plainB a
  | .loop _ => false
  | .rng _ _ _ _ => false
  | _ => true

/-- Does a slot's content name no object but these? -/
def AV.pinned (pins : List Nat) : AV → Bool
  | .d _ => true
  | .ptr id _ => decide (1000000 ≤ id) || pins.contains id
  | .mp id => decide (1000000 ≤ id) || pins.contains id
  | .own id _ => decide (1000000 ≤ id) || pins.contains id
  | _ => false
def T.pinned (pins : List Nat) : T → Bool
  | .leaf a => a.pinned pins
  | .node l r => l.pinned pins && r.pinned pins
theorem T.pinned_get {pins : List Nat} : ∀ (t : T) (p : Slot), t.pinned pins = true → (t.get p).pinned pins = true
  | .leaf a, p, h => by cases p <;> exact h
  | .node l r, [], h => T.pinned_get l [] (by simp only [T.pinned, Bool.and_eq_true] at h; exact h.1)
  | .node l r, false :: p, h => T.pinned_get l p (by simp only [T.pinned, Bool.and_eq_true] at h; exact h.1)
  | .node l r, true :: p, h => T.pinned_get r p (by simp only [T.pinned, Bool.and_eq_true] at h; exact h.2)

/-- Some slots are set to some data. -/
def setPs : T → List Slot → List DV → T
  | e, p :: ps, x :: xs => setPs (e.set p (.d x)) ps xs
  | e, _, _ => e

/-- What stays, of other objects those below n alone. -/
structure KB (n : Nat) (X X' : Nat → Nat → Prop) (w w' : World) : Prop where
  size : w.heap.size ≤ w'.heap.size
  cells : ∀ b o v, b < w.heap.size → ¬ X b o → w.cell? ⟨b, o, none⟩ = some v → w'.cell? ⟨b, o, none⟩ = some v
  sub : ∀ b o, b < w.heap.size → X' b o → X b o
  others : ∀ (b : Nat) (o : Obj), b < n → w.heap[b]? = some o → objOther o = true → ¬ X b 0 → w'.heap[b]? = some o
theorem KB.of {n : Nat} {X X' : Nat → Nat → Prop} {w w' : World} (h : Keeps X X' w w') : KB n X X' w w' := ⟨h.size, h.cells, h.sub, fun b o _ h1 h2 h3 => h.others b o h1 h2 h3⟩
theorem KB.trans {n : Nat} {X X' X'' : Nat → Nat → Prop} {w w' w'' : World} (h : KB n X X' w w') (k : KB n X' X'' w' w'') : KB n X X'' w w'' :=
  ⟨Nat.le_trans h.size k.size, fun b o v hb hX hc => k.cells b o v (Nat.lt_of_lt_of_le hb h.size) (fun h' => hX (h.sub b o hb h')) (h.cells b o v hb hX hc),
    fun b o hb hX => h.sub b o hb (k.sub b o (Nat.lt_of_lt_of_le hb h.size) hX),
    fun b o hn ho hp hX => k.others b o hn (h.others b o hn ho hp hX) hp (fun h' => hX (h.sub b 0 (Array.getElem?_eq_some_iff.1 ho).1 h'))⟩

/-- An iterator: its value at yield hands over what reads as xs, one after the other, and ends; or it ends whn yield has said no. Y: what the caller's rounds may turn. -/
def ASeq (P : Program) (F : FuncId) (caps : List DV) (xs : List (List DV)) : Prop :=
  HasBody P F ∧ ∀ (X : Nat → Nat → Prop) (w : World) (us : Array Value), (∀ b o, X b o → b < w.heap.size) → DReps X w us.toList caps →
    ∀ (l : Nat) (J : Nat → (Nat → Nat → Prop) → World → Prop) (Jx : World → Prop),
    (∀ k Y W W', J k Y W → Ext W W' → J k Y W') → (∀ W W', Jx W → Ext W W' → Jx W') →
    (∀ k Y W, J k Y W → ∀ b o, Y b o → b < W.heap.size) →
    (∀ k Y W (vs : Array Value) (hk : k < xs.length), J k Y W → DReps Y W vs.toList xs[k] → YieldAt Fence.wide 0 P l vs W fun e W' => (e = .returned (.bool true) ∧ ∃ Y', J (k + 1) Y' W' ∧ KB 0 Y Y' W W') ∨ (e = .returned (.bool false) ∧ Jx W')) →
    J 0 X w → Calls P F (#[.func (.yield l) #[] #[]] ++ us) w fun e W' => (∃ v, e = .returned v) ∧ ((∃ Y, J xs.length Y W') ∨ Jx W')

inductive AX where
  | normal
  | exit (id : Nat)
  | ret

/-- What holds behind some operations, one by one; nx: the first number that no object has. -/
def awpOps (P : Program) (nx : Nat) : Nat → List AOper → (T → Heap → Prop) → T → Heap → Prop
  | _, [], K, e, H => K e H
  | i, o :: os, K, e, H => match o.op with
    | .call _ _ _ => ∃ r : DV, okS P (.d r) (nx + i) o e H ∧ awpOps P nx (i + 1) os K (stp (.d r) (nx + i) o e H).1 (stp (.d r) (nx + i) o e H).2
    | .callo _ _ _ _ => ∃ r : DV, okS P (.d r) (nx + i) o e H ∧ awpOps P nx (i + 1) os K (stp (.d r) (nx + i) o e H).1 (stp (.d r) (nx + i) o e H).2
    | .callv _ _ _ _ => ∃ r : DV, okS P (.d r) (nx + i) o e H ∧ awpOps P nx (i + 1) os K (stp (.d r) (nx + i) o e H).1 (stp (.d r) (nx + i) o e H).2
    | .calle _ _ => ∃ r : Rz, okS P r (nx + i) o e H ∧ awpOps P nx (i + 1) os K (stp r (nx + i) o e H).1 (stp r (nx + i) o e H).2
    | _ => okS P (.d .top) (nx + i) o e H ∧ awpOps P nx (i + 1) os K (stp (.d .top) (nx + i) o e H).1 (stp (.d .top) (nx + i) o e H).2

def TLe (M : Rws) (g : Nat → Src) : T → T → Prop
  | .leaf a, .leaf b => AVLe M g a b
  | .node l r, .node l' r' => TLe M g l l' ∧ TLe M g r r'
  | .leaf a, .node l' r' => TLe M g (.leaf a) l' ∧ TLe M g (.leaf a) r'
  | .node l r, .leaf b => b = .d .top ∨ (TLe M g l (.leaf b) ∧ TLe M g r (.leaf b))

/-- Numbers from 1000000 on stay as they are; there are none between nx' and them. -/
def SrcEnd (g : Nat → Src) (nx' : Nat) : Prop := (∀ i, nx' ≤ i → i < 1000000 → g i = .none) ∧ ∀ i, 1000000 ≤ i → g i = .id i
/-- One state says no less than another. -/
def SLe (g : Nat → Src) (e : T) (H : Heap) (e' : T) (L : List (Nat × AObj)) (nx' : Nat) : Prop :=
  TLe (rowsOf H) g e e' ∧ HLe (rowsOf H) g H L ∧ srcApart g L ∧ SrcEnd g nx'

def cval (e : T) (c : Opd) : Bool :=
  match (c.av e).strip with
  | .d (.lit (.bool b)) => b
  | _ => false
def cok (e : T) (c : Opd) : Prop :=
  (c.av e).live ∧ match (c.av e).strip with
  | .d (.lit (.bool _)) => True
  | _ => False

/-- A row of the call's own that lies in a cell, as it reads now. -/
def meltC (H : Heap) : AV → AV
  | .own id len => match hget H id with
    | some (.row _ n len' row) => if len' = len then .d (.sl n len row) else .own id len
    | _ => .own id len
  | a => a
/-- A box that a slot points to, of plain data, is stored into no more: it is plain data from now on. -/
def frz1 (p : Slot) (e : T) (H : Heap) : T × Heap :=
  match e.get p with
  | .ptr id 0 => match hget H id with
    | some (.box cs) => match allD (cs.map (meltC H)) with
      | some ds => (e.set p (.d (.cref ds 0)), hdel H id)
      | none => (e, H)
    | _ => (e, H)
  | .own id len => match hget H id with
    | some (.row _ n len' row) => if len' = len then (e.set p (.d (.sl n len row)), hdel H id) else (e, H)
    | _ => (e, H)
  | _ => (e, H)

/-- What holds behind a piece of code. -/
def awp (P : Program) : ACode → (AX → T → Heap → Nat → Prop) → T → Heap → Nat → Prop
  | .skip, Q, e, H, nx => Q .normal e H nx
  | .reg os, Q, e, H, nx => nx + os.length ≤ 1000000 ∧ awpOps P nx 0 os (fun e H => Q .normal e H (nx + os.length)) e H
  | .seq a b, Q, e, H, nx => awp P a (fun x e H nx => match x with | .normal => awp P b Q e H nx | x => Q x e H nx) e H nx
  | .cond c t f, Q, e, H, nx => cok e c ∧ (cval e c = true → awp P t Q e H nx) ∧ (cval e c = false → awp P f Q e H nx)
  | .block id b, Q, e, H, nx => awp P b (fun x e H nx => match x with | .exit id' => if id' = id then Q .normal e H nx else Q (.exit id') e H nx | x => Q x e H nx) e H nx
  | .loop b, Q, e, H, nx => ∃ I : Nat → T → List (Nat × AObj) → Nat → Prop, (∃ n g e' L nx', I n e' L nx' ∧ SLe g e H e' L nx') ∧
      ∀ n e L nx, I n e L nx → awp P b (fun x e H nx => match x with | .normal => ∃ m g e' L nx', m < n ∧ I m e' L nx' ∧ SLe g e H e' L nx' | x => Q x e H nx) e (hof L) nx
  | .exit id, Q, e, H, nx => Q (.exit id) e H nx
  | .ret, Q, e, H, nx => Q .ret e H nx
  | .frz p, Q, e, H, nx => Q .normal (frz1 p e H).1 (frz1 p e H).2 nx
  | .rng g ps asn body, Q, e, H, nx => (g.av e).live ∧ ∃ (F : FuncId) (caps : List DV) (xs : List (List DV)) (e1 : T) (pins : List Nat) (I : Nat → List (Nat × AObj) → Nat → Prop),
      (g.av e).strip = .d (.fn F caps) ∧ ASeq P F caps xs ∧ e1.pinned pins = true ∧ (∀ k (hk : k < xs.length), xs[k].length = ps.length) ∧ (∃ gg L nx', I 0 L nx' ∧ SLe gg e H e1 L nx') ∧
      (∀ k (hk : k < xs.length) L nx, I k L nx → awp P asn (fun x e H nx => match x with
        | .normal => awp P body (fun x e' H' nx' => match x with
          | .normal => ∃ gg L' nx'', I (k + 1) L' nx'' ∧ SLe gg e1 H' e1 L' nx''
          | x => Q x e1 H' nx') e H nx
        | _ => False) (setPs e1 ps xs[k]) (hof L) nx) ∧
      (∀ L nx, I xs.length L nx → Q .normal e1 (hof L) nx)
  | .bad, _, _, _, _ => False

/-- A loop, its invariant told by the slots that change and the objects that are there. -/
theorem awp_loop {P : Program} {b : ACode} {Q : AX → T → Heap → Nat → Prop} {e : T} {H : Heap} {nx : Nat} {κ : Type} (inv : κ → Prop) (μ : κ → Nat) (E : κ → T) (L : κ → List (Nat × AObj)) (nx' : Nat) (k0 : κ) (g0 : Nat → Src)
    (h0 : inv k0) (hs : SLe g0 e H (E k0) (L k0) nx')
    (hb : ∀ k, inv k → awp P b (fun x e H nx => match x with | .normal => ∃ k' g, inv k' ∧ μ k' < μ k ∧ SLe g e H (E k') (L k') nx' | x => Q x e H nx) (E k) (hof (L k)) nx') : awp P (.loop b) Q e H nx := by
  refine ⟨fun n e L' nx => ∃ k, inv k ∧ μ k = n ∧ e = E k ∧ L' = L k ∧ nx = nx', ⟨_, g0, _, _, _, ⟨k0, h0, rfl, rfl, rfl, rfl⟩, hs⟩, ?_⟩
  rintro n e L' nx ⟨k, hk, rfl, rfl, rfl, rfl⟩
  have h := hb k hk
  have e1 : (fun (x : AX) (e : T) (H : Heap) (nx1 : Nat) => (match x with | .normal => ∃ k' g, inv k' ∧ μ k' < μ k ∧ SLe g e H (E k') (L k') nx | x => Q x e H nx1 : Prop)) =
      (fun x e H nx1 => match x with | .normal => ∃ m g e' L' nx', m < μ k ∧ (∃ k, inv k ∧ μ k = m ∧ e' = E k ∧ L' = L k ∧ nx' = nx) ∧ SLe g e H e' L' nx' | x => Q x e H nx1) := by
    funext x e H nx1
    cases x with
    | normal =>
      apply propext
      constructor
      · rintro ⟨k', g, h1, h2, h3⟩
        exact ⟨μ k', g, E k', L k', nx, h2, ⟨k', h1, rfl, rfl, rfl, rfl⟩, h3⟩
      · rintro ⟨m, g, e', L', nx', h2, ⟨k', h1, rfl, rfl, rfl, rfl⟩, h3⟩
        exact ⟨k', g, h1, h2, h3⟩
    | _ => rfl
  rw [← e1]
  exact h

theorem awpOps_mono {P : Program} {nx : Nat} {K K' : T → Heap → Prop} (h : ∀ e H, K e H → K' e H) : ∀ {i : Nat} {os : List AOper} {e : T} {H : Heap}, awpOps P nx i os K e H → awpOps P nx i os K' e H := by
  intro i os
  induction os generalizing i with
  | nil => intro e H hk; exact h _ _ hk
  | cons o os ih =>
    intro e H hk
    unfold awpOps at hk ⊢
    split at hk
    · obtain ⟨r, h1, h2⟩ := hk
      exact ⟨r, h1, ih h2⟩
    · obtain ⟨r, h1, h2⟩ := hk
      exact ⟨r, h1, ih h2⟩
    · obtain ⟨r, h1, h2⟩ := hk
      exact ⟨r, h1, ih h2⟩
    · obtain ⟨r, h1, h2⟩ := hk
      exact ⟨r, h1, ih h2⟩
    · exact ⟨hk.1, ih hk.2⟩

section
variable {P : Program} {D N : Nat} {X0 : Nat → Nat → Prop} {W0 : World} {B : Bs} {γ : Nat → Option Value} {w : World} {H : Heap} {a : Act} {e : T}

/-- Objects, and others behind them. -/
def hjoin (H Hf : Heap) : Heap := fun k => match H k with
  | some o => some o
  | none => Hf k
/-- Does a slot's content name only objects from number 1000000 on? -/
def AV.far : AV → Bool
  | .d _ => true
  | .whn _ x => x.far
  | .ptr id _ => decide (1000000 ≤ id)
  | .own id _ => decide (1000000 ≤ id)
  | .mp id => decide (1000000 ≤ id)
  | .el id _ _ _ => decide (1000000 ≤ id)
  | .fn _ caps => farL caps
  | .agg cs => farL cs
  | .tup cs => farL cs
where farL : List AV → Bool
  | [] => true
  | a :: l => a.far && farL l
def AObj.far : AObj → Prop
  | .box cs => AV.far.farL cs = true
  | .vec _ _ len f => ∀ i, i < len → AV.far.farL (f i) = true
  | _ => True
/-- The objects behind: numbers from 1000000 on, of nobody else. -/
def HOk (H Hf : Heap) : Prop := ∀ k o, hget Hf k = some o → 1000000 ≤ k ∧ hget H k = none ∧ o.far
/-- A state (of all objects), and the numbers from nx on are free. -/
def FS0 (D N : Nat) (X0 : Nat → Nat → Prop) (W0 : World) (B : Bs) (γ : Nat → Option Value) (a : Act) (w : World) (e : T) (H : Heap) (nx : Nat) : Prop := FR D N X0 W0 B γ a w e H ∧ ∀ k, nx ≤ k → k < 1000000 → γ k = none
/-- A state, objects that nobody sees behind it, and the numbers from nx on are free. -/
def FZ (D N : Nat) (X0 : Nat → Nat → Prop) (W0 : World) (B : Bs) (γ : Nat → Option Value) (a : Act) (w : World) (e : T) (H : Heap) (nx : Nat) : Prop := FS0 D N X0 W0 B γ a w e (hjoin H B.Hf) nx ∧ HOk H B.Hf

def AX.of : Exit → Option AX
  | .normal => some .normal
  | .exit id => some (.exit id)
  | .ret => some .ret
  | _ => none

def lift (D N : Nat) (X0 : Nat → Nat → Prop) (W0 : World) (B : Bs) (Q : AX → T → Heap → Nat → Prop) : Exit → Act → World → Prop :=
  fun x a w => ∃ y γ e H nx, AX.of x = some y ∧ FZ D N X0 W0 B γ a w e H nx ∧ Q y e H nx

theorem noMk_at {os : List AOper} {i : Nat} (h : noMk os = true ∨ ∀ b, B.MB b) (hi : i < os.length) : ∀ kd, os[i].op = .mmk kd → ∀ b, B.MB b := by
  intro kd hk b
  rcases h with h | h
  · have := List.all_eq_true.1 h _ (List.getElem_mem hi)
    rw [hk] at this
    cases this
  · exact h b

/-- The region's operations do, in whatever order the model takes them, as the evaluator's list. -/
def RegOk (P : Program) (D N : Nat) (id : Nat) (ops : Array Oper) (draw : Bool) (os : List AOper) : Prop :=
  ∀ X0 W0 B γ a w e H nx (K : T → Heap → Prop) (Q : Exit → Act → World → Prop) (ro : Option Nat) (n : Nat), (noMk os = true ∨ ∀ b, B.MB b) → FZ D N X0 W0 B γ a w e H nx → nx + os.length ≤ 1000000 → awpOps P nx 0 os K e H →
    (∀ γ' a' w' e' H', K e' H' → FZ D N X0 W0 B γ' a' w' e' H' (nx + os.length) → Q .normal a' w') → (Code.region id ops draw).wpIn (FW ro) n P Q a w

theorem hjoin_nil (H : Heap) : hjoin H hnil = H := by
  funext k
  unfold hjoin hnil
  cases H k <;> rfl
theorem hjoin_get {H Hf : Heap} {k : Nat} {o : AObj} (h : hget (hjoin H Hf) k = some o) : hget H k = some o ∨ (hget H k = none ∧ hget Hf k = some o) := by
  unfold hget hjoin at h
  unfold hget
  cases hk : H k with
  | none => rw [hk] at h; exact .inr ⟨rfl, h⟩
  | some o' => rw [hk] at h; exact .inl h
theorem hjoin_sub (H Hf : Heap) : Sub H (hjoin H Hf) := by
  intro k o h
  unfold hget hjoin at *
  rw [h]
theorem hjoin_far {H Hf : Heap} {k : Nat} {o : AObj} (h0 : HOk H Hf) (h : hget Hf k = some o) : hget (hjoin H Hf) k = some o := by
  have := (h0 k o h).2.1
  unfold hget hjoin at *
  rw [this]
  exact h
theorem hjoin_hadd (H Hf : Heap) (i : Nat) (o : AObj) : hjoin (hadd i o H) Hf = hadd i o (hjoin H Hf) := by
  funext k
  unfold hjoin hadd
  by_cases h : i = k
  · simp [h]
  · simp [h]
theorem hjoin_hset {H Hf : Heap} {i : Nat} {o o' : AObj} (h : hget H i = some o') : hjoin (hset H i o) Hf = hset (hjoin H Hf) i o := by
  funext k
  unfold hget at h
  unfold hjoin hset
  by_cases e : i = k
  · subst e
    simp [h]
  · simp [e]
theorem hjoin_hdel {H Hf : Heap} {i : Nat} (h : Hf i = none) : hjoin (hdel H i) Hf = hdel (hjoin H Hf) i := by
  funext k
  unfold hjoin hdel
  by_cases e : i = k
  · subst e
    simp [h]
  · simp [e]
theorem HOk.at {H Hf : Heap} (h : HOk H Hf) {i : Nat} {o : AObj} (ho : hget H i = some o) : Hf i = none := by
  cases hi : Hf i with
  | none => rfl
  | some o' =>
    have := (h i o' hi).2.1
    rw [ho] at this
    cases this
theorem HOk.low {H Hf : Heap} (h : HOk H Hf) {i : Nat} (hi : i < 1000000) : Hf i = none := by
  cases he : Hf i with
  | none => rfl
  | some o' =>
    have := (h i o' he).1
    omega
theorem HOk.mono {H H' Hf : Heap} (h : HOk H Hf) (hh : ∀ k, Hf k ≠ none → hget H k = none → hget H' k = none) : HOk H' Hf := fun k o hk => by
  obtain ⟨h1, h2, h3⟩ := h k o hk
  exact ⟨h1, hh k (by unfold hget at hk; rw [hk]; simp) h2, h3⟩
theorem HOk.add {H Hf : Heap} (h : HOk H Hf) {i : Nat} (hi : Hf i = none) (o : AObj) : HOk (hadd i o H) Hf := h.mono fun k hk hn => by
  have hne : ¬ i = k := by
    rintro rfl
    exact hk hi
  rw [hget_add, if_neg hne]
  exact hn
theorem HOk.set {H Hf : Heap} (h : HOk H Hf) (i : Nat) (o : AObj) : HOk (hset H i o) Hf := h.mono fun k hk hn => by
  rw [hget_set, hn]
  split <;> rfl
theorem HOk.del {H Hf : Heap} (h : HOk H Hf) (i : Nat) : HOk (hdel H i) Hf := h.mono fun k hk hn => by
  rw [hget_del, hn]
  split <;> rfl

theorem HLe.sub {M : Rws} {g : Nat → Src} {H H1 : Heap} (hs : Sub H H1) : ∀ {L : List (Nat × AObj)}, HLe M g H L → HLe M g H1 L
  | [], _ => trivial
  | (i, o') :: r, ⟨h1, h2⟩ => by
    refine ⟨?_, HLe.sub hs h2⟩
    cases hg : g i with
    | none => rw [hg] at h1; exact h1
    | nil => rw [hg] at h1; exact h1
    | id k =>
      rw [hg] at h1
      simp only at h1 ⊢
      cases hk : hget H k with
      | none => rw [hk] at h1; exact h1.elim
      | some o =>
        rw [hk] at h1
        rw [hs _ _ hk]
        exact h1

theorem lowH_sub {lo : Option (Nat × List Slot)} {e : T} {id : Nat} {H H1 : Heap} (hs : Sub H H1) : Sub (lowH lo e id H) (lowH lo e id H1) := by
  unfold lowH
  split
  · refine hnot_mono e _ ?_
    intro k o h
    rw [hget_low] at h ⊢
    split at h
    · rename_i hk; rw [if_pos hk]; exact hs _ _ h
    · cases h
  · exact hs

theorem hput_join {τ : Nat → Nat} {L L' : List (Nat × AObj)} {H Hf : Heap} (hl : HLe noR (gOf τ L) H L) (h0 : HOk H Hf) (hids : idsOk L L') (hnew : Hf (τ 999999) = none) : hjoin (hput τ L L' H) Hf = hput τ L L' (hjoin H Hf) ∧ HOk (hput τ L L' H) Hf := by
  have hL : ∀ i o, (i, o) ∈ L → Hf (τ i) = none := by
    intro i o hm
    rcases hl.mem hm with ⟨k, o', h1, h2, _⟩ | ⟨h1, _⟩
    · rw [gOf_mem hm] at h1
      injection h1 with h1
      subst h1
      exact h0.at h2
    · exact absurd h1 (gOf_nil _)
  have hdel0 : ∀ R : List (Nat × AObj), (∀ i o, (i, o) ∈ R → Hf (τ i) = none) → hjoin (R.foldr (fun p h => hdel h (τ p.1)) H) Hf = R.foldr (fun p h => hdel h (τ p.1)) (hjoin H Hf) ∧ HOk (R.foldr (fun p h => hdel h (τ p.1)) H) Hf := by
    intro R
    induction R with
    | nil => intro _; exact ⟨rfl, h0⟩
    | cons p R ih =>
      intro hR
      obtain ⟨h1, h2⟩ := ih fun i o hm => hR i o (by simp [hm])
      refine ⟨?_, h2.del _⟩
      simp only [List.foldr_cons]
      rw [hjoin_hdel (hR p.1 p.2 (by simp)), h1]
  obtain ⟨d1, d2⟩ := hdel0 L hL
  have key : ∀ R : List (Nat × AObj), idsOk L R → hjoin (hput τ L R H) Hf = hput τ L R (hjoin H Hf) ∧ HOk (hput τ L R H) Hf := by
    intro R
    induction R with
    | nil => intro _; exact ⟨d1, d2⟩
    | cons p R ih =>
      obtain ⟨i, o⟩ := p
      intro hR
      obtain ⟨h1, h2⟩ := ih hR.2
      have hi : Hf (τ i) = none := by
        have hR1 := hR.1
        have hany : i = 999999 ∨ ∃ o', (i, o') ∈ L := by
          cases o with
          | map kd n f =>
            simp only at hR1
            split at hR1
            · rename_i q kd' n' f' hf
              have hm := List.mem_of_find?_eq_some hf
              have hq := List.find?_some hf
              simp only [beq_iff_eq] at hq
              subst hq
              exact .inr ⟨_, hm⟩
            · exact hR1.elim
          | box cs =>
            refine hR1.elim Or.inl fun h => Or.inr ?_
            obtain ⟨⟨j, oj⟩, hj, hj'⟩ := List.any_eq_true.1 h
            simp only [beq_iff_eq] at hj'
            subst hj'
            exact ⟨oj, hj⟩
          | row =>
            refine hR1.elim Or.inl fun h => Or.inr ?_
            obtain ⟨⟨j, oj⟩, hj, hj'⟩ := List.any_eq_true.1 h
            simp only [beq_iff_eq] at hj'
            subst hj'
            exact ⟨oj, hj⟩
          | vec =>
            refine hR1.elim Or.inl fun h => Or.inr ?_
            obtain ⟨⟨j, oj⟩, hj, hj'⟩ := List.any_eq_true.1 h
            simp only [beq_iff_eq] at hj'
            subst hj'
            exact ⟨oj, hj⟩
        rcases hany with rfl | ⟨o', hm⟩
        · exact hnew
        · exact hL i o' hm
      have e : ∀ H, hput τ L ((i, o) :: R) H = hadd (τ i) (o.ren τ) (hput τ L R H) := fun _ => rfl
      rw [e, e]
      exact ⟨by rw [hjoin_hadd, h1], h2.add hi _⟩
  exact key L' hids

/-- One operation does the same where there are objects behind. -/
theorem step_frame {r : Rz} {id : Nat} {o : AOper} {e : T} {H Hf : Heap} (h0 : HOk H Hf) (hid : id < 1000000) (hok : okS P r id o e H) (hg : gval e o.guard = true) :
    okS P r id o e (hjoin H Hf) ∧ stp r id o e (hjoin H Hf) = ((stp r id o e H).1, hjoin (stp r id o e H).2 Hf) ∧ HOk (stp r id o e H).2 Hf := by
  have hs : Sub H (hjoin H Hf) := hjoin_sub H Hf
  have hv : Sub (o.hv e id H) (o.hv e id (hjoin H Hf)) := lowH_sub hs
  have hidn : Hf id = none := h0.low hid
  have valcase : ∀ op, o.op = op → okS P r id o e H = (gok e o.guard ∧ (gval e o.guard = true → op.ok e (o.hv e id H))) → okS P r id o e (hjoin H Hf) = (gok e o.guard ∧ (gval e o.guard = true → op.ok e (o.hv e id (hjoin H Hf)))) →
      stp r id o e H = (setD e o.dst (wrap e o.guard (op.val e (o.hv e id H))), H) → stp r id o e (hjoin H Hf) = (setD e o.dst (wrap e o.guard (op.val e (o.hv e id (hjoin H Hf)))), hjoin H Hf) →
      okS P r id o e (hjoin H Hf) ∧ stp r id o e (hjoin H Hf) = ((stp r id o e H).1, hjoin (stp r id o e H).2 Hf) ∧ HOk (stp r id o e H).2 Hf := by
    intro op _ e1 e2 e3 e4
    rw [e1] at hok
    obtain ⟨g1, g2⟩ := AOp.sub hv (hok.2 hg)
    rw [e2, e3, e4, g2]
    exact ⟨⟨hok.1, fun _ => g1⟩, rfl, h0⟩
  obtain ⟨dst, gd, op, lo⟩ := o
  cases op with
  | call c f args =>
    obtain ⟨h1, h2⟩ := hok
    obtain ⟨h3, F, as, ds, h4, h5, h6⟩ := h2 hg
    have hcs : Sub (hc c (AOper.hv ⟨dst, gd, .call c f args, lo⟩ e id H)) (hc c (AOper.hv ⟨dst, gd, .call c f args, lo⟩ e id (hjoin H Hf))) := hv.hc c
    exact ⟨⟨h1, fun _ => ⟨h3, F, as, ds, h4, h5.elim (fun h => Or.inl (mapO_sub hcs h)) (fun h => Or.inr ⟨mapO_sub hcs h.1, h.2⟩), h6⟩⟩, rfl, h0⟩
  | callo te n f args =>
    obtain ⟨h1, h3, F, avs, ds, len, row, h4, h5, h6⟩ := hok
    refine ⟨⟨h1, h3, F, avs, ds, len, row, h4, mapO_sub hs h5, h6⟩, ?_, h0.add hidn _⟩
    simp only [stp, hjoin_hadd]
  | callv te n f args =>
    obtain ⟨h1, h3, F, avs, ds, len, row, h4, h5, h6⟩ := hok
    refine ⟨⟨h1, h3, F, avs, ds, len, row, h4, mapO_sub hs h5, h6⟩, ?_, h0.add hidn _⟩
    simp only [stp, hjoin_hadd]
  | calle f args =>
    obtain ⟨h1, h2⟩ := hok
    cases r with
    | d x => exact h2.elim
    | ef x τ L L' =>
      obtain ⟨h3, h4, h5, h6, h7, h8⟩ := h2
      subst h4
      obtain ⟨k1, k2⟩ := hput_join (H := H) h6 h0 h8 hidn
      refine ⟨⟨h1, h3, rfl, h5, HLe.sub hs h6, h7, h8⟩, ?_, k2⟩
      simp only [stp, effH, k1]
  | ini b a x k =>
    obtain ⟨h1, h2, h3, h4, h5, h6, h7, h8⟩ := hok
    split at h8
    · rename_i cs ho
      refine ⟨⟨h1, h2, h3, h4, h5, h6, h7, by rw [hs _ _ ho]; exact h8⟩, ?_, h0.set _ _⟩
      simp only [stp, hjoin_hset ho]
    · exact h8.elim
  | bad => exact hok.elim
  | box imm x =>
    obtain ⟨h1, h2, h3, h4, h5⟩ := hok
    have hok' : okS P r id ⟨dst, gd, .box imm x, lo⟩ e (hjoin H Hf) := ⟨h1, h2, h3, there_subs (hs.hc imm) h4, h5⟩
    cases imm with
    | true => exact ⟨hok', rfl, h0⟩
    | false =>
      refine ⟨hok', ?_, h0.add hidn _⟩
      simp only [stp, hjoin_hadd]
  | new zs =>
    refine ⟨hok, ?_, h0.add hidn _⟩
    simp only [stp, hjoin_hadd]
  | nrow te n =>
    refine ⟨hok, ?_, h0.add hidn _⟩
    simp only [stp, hjoin_hadd]
  | mmk kd =>
    refine ⟨hok, ?_, h0.add hidn _⟩
    simp only [stp, hjoin_hadd]
  | st a x k =>
    obtain ⟨h1, h2, h3, h4, h5, h6, h7⟩ := hok
    split at h7
    · rename_i i off ha
      split at h7
      · rename_i cs ho
        refine ⟨⟨h1, h2, h3, h4, h5, there_subs hs h6, by rw [ha]; simp only [hs _ _ ho]; exact h7⟩, ?_, ?_⟩
        · simp only [stp, stH, ha, ho, hs _ _ ho, hjoin_hset ho]
        · simp only [stp, stH, ha, ho]; exact h0.set _ _
      · exact h7.elim
    · rename_i i n j off ha
      split at h7
      · rename_i te n' len row ho
        refine ⟨⟨h1, h2, h3, h4, h5, there_subs hs h6, by rw [ha]; simp only [hs _ _ ho]; exact h7⟩, ?_, ?_⟩
        · simp only [stp, stH, ha, ho, hs _ _ ho, hjoin_hset ho]
        · simp only [stp, stH, ha, ho]; exact h0.set _ _
      · exact h7.elim
    · exact h7.elim
  | mset x k v kd =>
    obtain ⟨h1, h2, h3, h4, h5, h6⟩ := hok
    unfold msetOk at h6
    split at h6
    · rename_i i kv u e1 e2 e3
      obtain ⟨h7, h8⟩ := h6
      split at h7
      · rename_i kd' n f ho
        refine ⟨⟨h1, h2, h3, h4, h5, by unfold msetOk; rw [e1, e2, e3]; simp only [hs _ _ ho]; exact ⟨h7, h8⟩⟩, ?_, ?_⟩
        · simp only [stp, msetH, e1, e2, e3, ho, hs _ _ ho, hjoin_hset ho]
        · simp only [stp, msetH, e1, e2, e3, ho]; exact h0.set _ _
      · exact h7.elim
    · exact h6.elim
  | app te n b s x =>
    obtain ⟨h1, h2, h3, h4⟩ := hok
    have hbase : ∀ q, baseV H te n (s.av e).strip = some q → baseV (hjoin H Hf) te n (s.av e).strip = some q ∧ ∀ i, q.1 = some i → ∃ o, hget H i = some o := by
      intro q hq
      unfold baseV at hq ⊢
      split at hq
      · rename_i i len _
        split at hq
        · rename_i ho
          rw [hs _ _ ho]
          refine ⟨hq, fun j hj => ?_⟩
          split at hq
          · injection hq with hq
            subst hq
            injection hj with hj
            subst hj
            exact ⟨_, ho⟩
          · cases hq
        · cases hq
      · refine ⟨hq, fun j hj => ?_⟩
        injection hq with hq
        subst hq
        cases hj
      · cases hq
    unfold appOk at h4
    split at h4
    · rename_i o len row m more e1 e2
      obtain ⟨g1, g2⟩ := hbase _ e1
      have hdo : hjoin (hdelO o H) Hf = hdelO o (hjoin H Hf) ∧ HOk (hdelO o H) Hf := by
        cases o with
        | none => exact ⟨rfl, h0⟩
        | some i =>
          obtain ⟨o', ho'⟩ := g2 i rfl
          exact ⟨hjoin_hdel (h0.at ho'), h0.del _⟩
      refine ⟨⟨h1, h2, h3, by unfold appOk; rw [g1, e2]; exact h4⟩, ?_, ?_⟩
      · simp only [stp, appV, e1, g1, e2, hjoin_hadd, hdo.1]
      · simp only [stp, appV, e1, e2]; exact hdo.2.add hidn _
    · exact h4.elim
  | vapp te n b s x =>
    obtain ⟨h1, h2, h3, h4⟩ := hok
    have hbase : ∀ q, baseV H te n (s.av e).strip = some q → baseV (hjoin H Hf) te n (s.av e).strip = some q ∧ ∀ i, q.1 = some i → ∃ o, hget H i = some o := by
      intro q hq
      unfold baseV at hq ⊢
      split at hq
      · rename_i i len _
        split at hq
        · rename_i ho
          rw [hs _ _ ho]
          refine ⟨hq, fun j hj => ?_⟩
          split at hq
          · injection hq with hq
            subst hq
            injection hj with hj
            subst hj
            exact ⟨_, ho⟩
          · cases hq
        · cases hq
      · refine ⟨hq, fun j hj => ?_⟩
        injection hq with hq
        subst hq
        cases hj
      · cases hq
    unfold appGOk at h4
    split at h4
    · rename_i o len row m more e1 e2
      obtain ⟨g1, g2⟩ := hbase _ e1
      have hdo : hjoin (hdelO o H) Hf = hdelO o (hjoin H Hf) ∧ HOk (hdelO o H) Hf := by
        cases o with
        | none => exact ⟨rfl, h0⟩
        | some i =>
          obtain ⟨o', ho'⟩ := g2 i rfl
          exact ⟨hjoin_hdel (h0.at ho'), h0.del _⟩
      refine ⟨⟨h1, h2, h3, by unfold appGOk; rw [g1, e2]; exact h4⟩, ?_, ?_⟩
      · simp only [stp, appG, e1, g1, e2, hjoin_hadd, hdo.1]
      · simp only [stp, appG, e1, e2]; exact hdo.2.add hidn _
    · exact h4.elim
  | _ => exact valcase _ rfl rfl rfl rfl rfl

/-- The law of one operation, objects that nobody sees being behind. -/
theorem op_sound_f {ops : Array Oper} {o : Oper} {ao : AOper} {Q : Exit → Act → World → Prop} {K : Act → World → Prop} (tr : TrOper P D N ops o ao) {Hf : Heap} (h : FR D N X0 W0 B γ a w e (hjoin H Hf)) (h0 : HOk H Hf) {id : Nat} (hid : γ id = none) (hlt : id < 1000000) (r : Rz) (hok : okS P r id ao e H) (hmk : ∀ kd, ao.op = .mmk kd → ∀ b, B.MB b)
    (hK : ∀ γ' a' w', FR D N X0 W0 B γ' a' w' (stp r id ao e H).1 (hjoin (stp r id ao e H).2 Hf) → HOk (stp r id ao e H).2 Hf → Knows γ γ' → (∀ k, k ≠ id → γ' k = γ k) → K a' w') :
    if Region.wanted o (yielded ops a.tmps) = true then o.wp P a w K Q ∨ (o.asks P a w ∧ LetsOut Q) else K (a.put o.dst undef) w := by
  cases hg : gval e ao.guard with
  | true =>
    obtain ⟨h1, h2, h3⟩ := step_frame h0 hlt hok hg
    exact op_sound tr h hid r h1 hmk (fun γ' a' w' hR hkn hne => hK γ' a' w' (by rw [h2] at hR; exact hR) h3 hkn hne)
  | false =>
    have hno : ao.guard ≠ none := fun hn => by rw [hn] at hg; cases hg
    have hstp : gok e ao.guard ∧ ∃ x, stp r id ao e H = (setD e ao.dst (wrap e ao.guard x), H) := by
      obtain ⟨dst, gd, op, lo⟩ := ao
      cases op with
      | call c f args => exact ⟨hok.1, _, rfl⟩
      | callo => exact absurd hok.1 hno
      | callv => exact absurd hok.1 hno
      | calle => exact absurd hok.1 hno
      | ini => exact absurd hok.1 hno
      | bad => exact hok.elim
      | box => exact absurd hok.1 hno
      | new => exact absurd hok hno
      | nrow => exact absurd hok hno
      | mmk => exact absurd hok hno
      | st => exact absurd hok.1 hno
      | mset => exact absurd hok.1 hno
      | app => exact absurd hok.1 hno
      | vapp => exact absurd hok.1 hno
      | _ => exact ⟨hok.1, _, rfl⟩
    obtain ⟨hgo, x, hx⟩ := hstp
    rw [gok_wanted tr h.env h.size hgo, hg, if_neg (by simp)]
    rw [hx] at hK
    exact hK γ _ _ (h.put tr (Rep.wrapF hg x)) h0 (Knows.refl γ) (fun _ _ => rfl)

inductive TrCode (P : Program) (D N : Nat) : Code → ACode → Prop
  | skip : TrCode P D N .skip .skip
  | reg {id ops draw os} (h : RegOk P D N id ops draw os) : TrCode P D N (.region id ops draw) (.reg os)
  | seq {a b a' b'} (ha : TrCode P D N a a') (hb : TrCode P D N b b') : TrCode P D N (.seq a b) (.seq a' b')
  | cond {c t f c' t' f'} (hc : TrOpd D c c') (ht : TrCode P D N t t') (hf : TrCode P D N f f') : TrCode P D N (.cond c t f) (.cond c' t' f')
  | block {id b b'} (hb : TrCode P D N b b') : TrCode P D N (.block id b) (.block id b')
  | loop {b b'} (hb : TrCode P D N b b') : TrCode P D N (.loop b) (.loop b')
  | exit {id} : TrCode P D N (.exit id) (.exit id)
  | ret : TrCode P D N .ret .ret
  | scope {c c'} (h : TrCode P D N c c') : TrCode P D N (.scope c) c'
  | label {l} : TrCode P D N (.label l) .skip
  | frz {c c' p} (h : TrCode P D N c c') (hp : p.length = D) : TrCode P D N c (.seq c' (.frz p))
  | frzb {c c' p} (h : TrCode P D N c c') (hp : p.length = D) : TrCode P D N c (.seq (.frz p) c')
  | rng {g g' ps asn body asn' body'} (pl : List Slot) (hg : TrOpd D g g') (hps : ps = (pl.map Slot.idx).toArray) (hp : ∀ p, p ∈ pl → p.length = D ∧ p.idx < N) (ha : TrCode P D N asn asn') (hb : TrCode P D N body body') (pa : plainB asn' = true) (pb : plainB body' = true) : TrCode P D N (.rangeFunc g ps asn body) (.rng g' pl asn' body')
  | bad {c} : TrCode P D N c .bad

theorem melt_rep {γ : Nat → Option Value} {H1 : Heap} (hS : St X0 W0 γ w H) (hs : Sub H1 H) {v : Value} {c : AV} (h : Rep γ (XOf X0 γ H) w v c) : Rep γ (XOf X0 γ H) w v (meltC H1 c) := by
  unfold meltC
  split
  · split
    · rename_i ho
      split
      · rename_i hl
        subst hl
        cases h with | own _ _ _ hk => exact .d _ _ (own_rep hS (hs _ _ ho) hk)
      · exact h
    · exact h
  · exact h
theorem melt_reps {γ : Nat → Option Value} {H1 : Heap} (hS : St X0 W0 γ w H) (hs : Sub H1 H) {vs : List Value} {cs : List AV} (h : Reps γ (XOf X0 γ H) w vs cs) : Reps γ (XOf X0 γ H) w vs (cs.map (meltC H1)) :=
  ⟨by simp [h.1], fun i hi hi' => by
    simp only [List.getElem_map]
    exact melt_rep hS hs (h.2 i hi (by simpa using hi'))⟩

/-- A box of plain data, stored into no more. -/
theorem FR.frz' {H1 : Heap} (hs1 : Sub H1 H) {p : Slot} (hp : p.length = D) {id : Nat} {cs : List AV} {ds : List DV} (hR : FR D N X0 W0 B γ a w e H) (hget1 : e.get p = .ptr id 0) (ho : hget H id = some (.box cs)) (hds : allD (cs.map (meltC H1)) = some ds) : FR D N X0 W0 B γ a w (e.set p (.d (.cref ds 0))) (hdel H id) := by
  have hv := hR.env p hp
  rw [hget1] at hv
  generalize hva : a.tmps.getD p.idx undef = v at hv
  cases hv with
  | ptr b _ _ hγ =>
    obtain ⟨u, hu, b', arr, t, rfl, hB, hh, hr⟩ := hR.st.obj id _ ho
    rw [hγ] at hu
    injection hu with hu
    injection hu with hu
    injection hu with hu
    injection hu with hu
    subst hu
    have hX : ∀ b' q, XOf X0 γ (hdel H id) b' q → XOf X0 γ H b' q := by
      rintro b' q (h | ⟨k, o, u, h1, h2, h3, h4⟩)
      · exact .inl h
      · simp only [hget_del] at h1
        split at h1
        · cases h1
        · exact .inr ⟨k, o, u, h1, h2, h3, h4⟩
    have hn : ∀ q, ¬ XOf X0 γ (hdel H id) b q := by
      rintro q (h | ⟨k, o, u, h1, h2, h3, h4⟩)
      · have := hR.st.hx b q h; omega
      · simp only [hget_del] at h1
        split at h1
        · cases h1
        · rename_i hne
          exact hne (hR.st.dis id k _ o _ u b ho h1 hγ h2 rfl h3)
    have hK : Keeps (XOf X0 γ H) (XOf X0 γ (hdel H id)) w w := .same fun b q _ hb => hX b q hb
    have hd := ((melt_reps hR.st hs1 hr).mono (Knows.refl γ) hK).allD hds
    have hc := DRep.cref (X := XOf X0 γ (hdel H id)) (w := w) b 0 0 ds arr.toList (Array.getElem?_eq_some_iff.1 hh).1 (fun j _ => hn _) hd.1 (box_cells hh) hd.2
    refine ⟨⟨hR.st.hx, hR.st.ext, ?_, ?_⟩, ?_, hR.size, ?_, hR.base.trans hK, hR.pin, ?_⟩
    rotate_left 3
    · obtain ⟨Ks, h1, hn1, h2⟩ := hR.marks
      exact ⟨Ks, h1, hn1, fun K hKm => ⟨(h2 K hKm).1, (h2 K hKm).2.1, (fun h' => (h2 K hKm).2.2.1 (hX K 0 h')), (h2 K hKm).2.2.2⟩⟩
    · intro k kd n f v b2 h1 h2 h3
      obtain ⟨n', f', h4⟩ := MapsIn.del (H := H) (id := id) k kd n f h1
      exact hR.mb k kd n' f' v b2 h4 h2 h3
    · intro k o hk
      simp only [hget_del] at hk
      split at hk
      · cases hk
      · obtain ⟨u, hu, hor⟩ := hR.st.obj k o hk
        refine ⟨u, hu, ?_⟩
        cases o with
        | box cs' =>
          obtain ⟨b2, arr2, t2, h1, h2, h3, h4⟩ := hor
          exact ⟨b2, arr2, t2, h1, h2, h3, h4.mono (Knows.refl γ) hK⟩
        | row te n len row =>
          obtain ⟨xs, h1, h2⟩ := hor
          exact ⟨xs, h1, fun j hj => ⟨(h2 j hj).1, (h2 j hj).2.mono hK⟩⟩
        | vec te n len row =>
          obtain ⟨xs, h1, h2⟩ := hor
          exact ⟨xs, h1, fun j hj => ⟨(h2 j hj).1, (h2 j hj).2.mono (Knows.refl γ) hK⟩⟩
        | map kd n f => exact hor
    · intro i j o o' u u' b' h1 h2
      simp only [hget_del] at h1 h2
      split at h1
      · cases h1
      · split at h2
        · cases h2
        · exact hR.st.dis i j o o' u u' b' h1 h2
    · intro q hq
      by_cases hpq : p = q
      · subst hpq
        rw [T.get_set, hva]
        exact .d _ _ (by simpa using hc)
      · rw [T.get_set_ne _ p q e (hp.trans hq.symm) hpq]
        exact (hR.env q hq).mono (Knows.refl γ) hK

/-- An object is let go: nothing is stored into it any more. -/
theorem FR.letgo (id : Nat) (hR : FR D N X0 W0 B γ a w e H) : FR D N X0 W0 B γ a w e (hdel H id) ∧ Keeps (XOf X0 γ H) (XOf X0 γ (hdel H id)) w w := by
  have hX : ∀ b' q, XOf X0 γ (hdel H id) b' q → XOf X0 γ H b' q := by
    rintro b' q (h | ⟨k, o, u, h1, h2, h3, h4⟩)
    · exact .inl h
    · simp only [hget_del] at h1
      split at h1
      · cases h1
      · exact .inr ⟨k, o, u, h1, h2, h3, h4⟩
  have hK : Keeps (XOf X0 γ H) (XOf X0 γ (hdel H id)) w w := .same fun b q _ hb => hX b q hb
  refine ⟨⟨⟨hR.st.hx, hR.st.ext, ?_, ?_⟩, ?_, hR.size, ?_, hR.base.trans hK, hR.pin, ?_⟩, hK⟩
  rotate_left 3
  · obtain ⟨Ks, h1, hn1, h2⟩ := hR.marks
    exact ⟨Ks, h1, hn1, fun K hKm => ⟨(h2 K hKm).1, (h2 K hKm).2.1, (fun h' => (h2 K hKm).2.2.1 (hX K 0 h')), (h2 K hKm).2.2.2⟩⟩
  · intro k kd n f v b2 h1 h2 h3
    obtain ⟨n', f', h4⟩ := MapsIn.del (H := H) (id := id) k kd n f h1
    exact hR.mb k kd n' f' v b2 h4 h2 h3
  · intro k o hk
    simp only [hget_del] at hk
    split at hk
    · cases hk
    · obtain ⟨u, hu, hor⟩ := hR.st.obj k o hk
      exact ⟨u, hu, hor.mono (Knows.refl γ) hK (fun _ _ _ => rfl)⟩
  · intro i j o o' u u' b' h1 h2
    simp only [hget_del] at h1 h2
    split at h1
    · cases h1
    · split at h2
      · cases h2
      · exact hR.st.dis i j o o' u u' b' h1 h2
  · exact fun q hq => (hR.env q hq).mono (Knows.refl γ) hK
/-- A row of the call's own is appended to no more: it is plain data from now on. -/
theorem FR.frzRow {p : Slot} (hp : p.length = D) {id te n len : Nat} {row : Nat → List DV} (hR : FR D N X0 W0 B γ a w e H) (hget1 : e.get p = .own id len) (ho : hget H id = some (.row te n len row)) : FR D N X0 W0 B γ a w (e.set p (.d (.sl n len row))) (hdel H id) := by
  have hv := hR.env p hp
  rw [hget1] at hv
  generalize hva : a.tmps.getD p.idx undef = v at hv
  cases hv with
  | own _ _ _ hγ =>
    have hd := own_rep hR.st ho hγ
    obtain ⟨h1, hK⟩ := hR.letgo id
    refine ⟨h1.st, fun q hq => ?_, h1.size, h1.marks, h1.base, h1.pin, h1.mb⟩
    by_cases hpq : p = q
    · subst hpq
      rw [T.get_set, hva]
      exact .d _ _ (hd.mono hK)
    · rw [T.get_set_ne _ p q e (hp.trans hq.symm) hpq]
      exact h1.env q hq

theorem frz1_fs {p : Slot} (hp : p.length = D) {nx : Nat} (hF : FZ D N X0 W0 B γ a w e H nx) : FZ D N X0 W0 B γ a w (frz1 p e H).1 (frz1 p e H).2 nx := by
  unfold frz1
  split
  · rename_i id hget1
    split
    · rename_i cs ho
      split
      · rename_i ds hds
        obtain ⟨⟨hR, hfr⟩, h0⟩ := hF
        have h1 := hR.frz' (H1 := H) (hjoin_sub _ _) hp hget1 (hjoin_sub _ _ _ _ ho) hds
        rw [← hjoin_hdel (h0.at ho)] at h1
        exact ⟨⟨h1, hfr⟩, h0.del _⟩
      · exact hF
    · exact hF
  · rename_i id len hget1
    split
    · rename_i te n len' row ho
      split
      · rename_i hl
        subst hl
        obtain ⟨⟨hR, hfr⟩, h0⟩ := hF
        have h1 := hR.frzRow hp hget1 (hjoin_sub _ _ _ _ ho)
        rw [← hjoin_hdel (h0.at ho)] at h1
        exact ⟨⟨h1, hfr⟩, h0.del _⟩
      · exact hF
    · exact hF
  · exact hF

theorem regOk_seq {id : Nat} {ops : Array Oper} {os : List AOper} (hnd : noDefer ops = true) (hl : ops.size = os.length) (h : ∀ (i : Nat) (o : Oper) (ao : AOper), ops[i]? = some o → os[i]? = some ao → TrOper P D N ops o ao) : RegOk P D N id ops false os := by
  intro X0 W0 B γ a w e H nx K Q1 ro n hmk hF hbd hK hQ1
  let Q : Exit → Act → World → Prop := fun x a' w' => x = .normal ∧ ∃ γ' e' H', K e' H' ∧ FZ D N X0 W0 B γ' a' w' e' H' (nx + os.length)
  have hQ : ∀ γ' a' w' e' H', K e' H' → FZ D N X0 W0 B γ' a' w' e' H' (nx + os.length) → Q .normal a' w' := fun γ' a' w' e' H' h1 h2 => ⟨rfl, γ', e', H', h1, h2⟩
  have hlo : ¬ LetsOut Q := by rintro ⟨_, _, h, _⟩; cases h
  suffices hs : wpOps P ops Q (List.range ops.size) a w from wpIn_mono (wpIn_region (wpOpsIn_of (noDefer_at hnd) hlo _ _ _ hs)) (by
    rintro x a' w' ⟨rfl, γ', e', H', h1, h2⟩
    exact hQ1 γ' a' w' e' H' h1 h2)
  have key : ∀ (r i : Nat) (γ : Nat → Option Value) (a : Act) (w : World) (e : T) (H : Heap), i + r = ops.size → FR D N X0 W0 B γ a w e (hjoin H B.Hf) → HOk H B.Hf → (∀ k, nx + i ≤ k → k < 1000000 → γ k = none) → awpOps P nx i (os.drop i) K e H → wpOps P ops Q ((List.range r).map (i + ·)) a w := by
    intro r
    induction r with
    | zero =>
      intro i γ a w e H hi hR h0 hfr hk
      have : os.drop i = [] := List.drop_eq_nil_of_le (by omega)
      rw [this] at hk
      simp only [List.range_zero, List.map_nil, wpOps]
      exact hQ γ a w e H hk ⟨⟨hR, by have : i = os.length := by omega
                                     rw [← this]; exact hfr⟩, h0⟩
    | succ r ih =>
      intro i γ a w e H hi hR h0 hfr hk
      have hi1 : i < ops.size := by omega
      have hi2 : i < os.length := by omega
      have e1 : (List.range (r + 1)).map (i + ·) = i :: (List.range r).map (i + 1 + ·) := by
        rw [List.range_succ_eq_map, List.map_cons, List.map_map]
        simp only [Nat.add_zero, List.cons.injEq, true_and]
        apply List.map_congr_left
        intro k _
        simp only [Function.comp]; omega
      rw [e1, wpOps_cons]
      have hd : os.drop i = os[i] :: os.drop (i + 1) := List.drop_eq_getElem_cons hi2
      have tr := h i ops[i] os[i] (Array.getElem?_eq_getElem hi1) (List.getElem?_eq_getElem hi2)
      have step : ∀ r', okS P r' (nx + i) os[i] e H → awpOps P nx (i + 1) (os.drop (i + 1)) K (stp r' (nx + i) os[i] e H).1 (stp r' (nx + i) os[i] e H).2 → wpOp P ops Q i (wpOps P ops Q ((List.range r).map (i + 1 + ·))) a w := by
        intro r' hok hk'
        have := op_sound_f (Q := Q) (K := wpOps P ops Q ((List.range r).map (i + 1 + ·))) tr hR h0 (id := nx + i) (hfr _ (Nat.le_refl _) (by omega)) (by omega) r' hok (noMk_at hmk hi2) (fun γ' a' w' hR' h0' hkn hne => ih (i + 1) γ' a' w' _ _ (by omega) hR' h0' (fun k hk2 hk3 => by rw [hne k (by omega)]; exact hfr k (by omega) hk3) hk')
        unfold wpOp
        rw [Array.getElem?_eq_getElem hi1]
        exact this
      rw [hd] at hk
      unfold awpOps at hk
      split at hk
      · obtain ⟨r', h1, h2⟩ := hk
        exact step _ h1 h2
      · obtain ⟨r', h1, h2⟩ := hk
        exact step _ h1 h2
      · obtain ⟨r', h1, h2⟩ := hk
        exact step _ h1 h2
      · obtain ⟨r', h1, h2⟩ := hk
        exact step _ h1 h2
      · exact step _ hk.1 hk.2
  have := key ops.size 0 γ a w e H (by omega) hF.1.1 hF.2 (by simpa using hF.1.2) (by simpa using hK)
  simpa using this

theorem TLe.get {M : Rws} {g : Nat → Src} : ∀ (t' t : T), TLe M g t t' → ∀ p : Slot, AVLe M g (t.get p) (t'.get p)
  | .leaf b, .leaf a, h, p => by cases p <;> simpa only [TLe, T.get] using h
  | .leaf b, .node l r, h, p => by
    have h' : b = .d .top ∨ (TLe M g l (.leaf b) ∧ TLe M g r (.leaf b)) := by simpa only [TLe] using h
    rcases h' with rfl | ⟨h1, h2⟩
    · exact AVLe.top M g _
    · match p with
      | [] => exact TLe.get (.leaf b) l h1 []
      | false :: p => exact TLe.get (.leaf b) l h1 p
      | true :: p => exact TLe.get (.leaf b) r h2 p
  | .node l' r', .leaf a, h, p => by
    have h' : TLe M g (.leaf a) l' ∧ TLe M g (.leaf a) r' := by simpa only [TLe] using h
    match p with
    | [] => exact TLe.get l' (.leaf a) h'.1 []
    | false :: p => exact TLe.get l' (.leaf a) h'.1 p
    | true :: p => exact TLe.get r' (.leaf a) h'.2 p
  | .node l' r', .node l r, h, p => by
    have h' : TLe M g l l' ∧ TLe M g r r' := by simpa only [TLe] using h
    match p with
    | [] => exact TLe.get l' l h'.1 []
    | false :: p => exact TLe.get l' l h'.1 p
    | true :: p => exact TLe.get r' r h'.2 p
termination_by t' t => (t', t)

theorem AV.far_mem {cs : List AV} (h : AV.far.farL cs = true) : ∀ i (hi : i < cs.length), cs[i].far = true := by
  induction cs with
  | nil => intro i hi; simp at hi
  | cons a l ih =>
    simp only [AV.far.farL, Bool.and_eq_true] at h
    intro i hi
    cases i with
    | zero => exact h.1
    | succ i => exact ih h.2 i (by simpa using hi)
theorem Rep.far {γ γ' : Nat → Option Value} {X X' : Nat → Nat → Prop} {w w' : World} (hγ : ∀ k v, 1000000 ≤ k → γ k = some v → γ' k = some v) (k : Keeps X X' w w') {v : Value} {x : AV} (h : Rep γ X w v x) : x.far = true → Rep γ' X' w' v x := by
  induction h with
  | d v x h => exact fun _ => .d v x (h.mono k)
  | whn v g x _ h0 ih => exact fun hx => .whn v g x (fun hg => ih hg (by simpa [AV.far] using hx)) h0
  | ptr b id off h => exact fun hx => .ptr b id off (hγ _ _ (by simpa [AV.far] using hx) h)
  | own v id len h => exact fun hx => .own v id len (hγ _ _ (by simpa [AV.far] using hx) h)
  | mp b id h => exact fun hx => .mp b id (hγ _ _ (by simpa [AV.far] using hx) h)
  | el b len cap id n i off h => exact fun hx => .el b len cap id n i off (hγ _ _ (by simpa [AV.far] using hx) h)
  | fn f vs caps hl _ ih => exact fun hx => .fn f vs caps hl (fun i h1 h2 => ih i h1 h2 (AV.far_mem (by simpa [AV.far] using hx) i h2))
  | agg vs cs hl _ ih => exact fun hx => .agg vs cs hl (fun i h1 h2 => ih i h1 h2 (AV.far_mem (by simpa [AV.far] using hx) i h2))
  | tup vs cs hl _ ih => exact fun hx => .tup vs cs hl (fun i h1 h2 => ih i h1 h2 (AV.far_mem (by simpa [AV.far] using hx) i h2))
theorem ORep.far {γ γ' : Nat → Option Value} {X X' : Nat → Nat → Prop} {w : World} {n : Nat} (hγ : ∀ k v, 1000000 ≤ k → γ k = some v → γ' k = some v) (k : Keeps X X' w w) {v : Value} {o : AObj} (ho : o.far) (h : ORep γ X n w v o) : ORep γ' X' n w v o := by
  cases o with
  | box cs =>
    obtain ⟨b, arr, t, rfl, h1, h2, h3⟩ := h
    exact ⟨b, arr, t, rfl, h1, h2, h3.1, fun i hi hi' => (h3.2 i hi hi').far hγ k (AV.far_mem ho i hi')⟩
  | row e n len row =>
    obtain ⟨xs, h1, h2⟩ := h
    exact ⟨xs, h1, fun i hi => ⟨(h2 i hi).1, (h2 i hi).2.mono k⟩⟩
  | vec e n len row =>
    obtain ⟨xs, h1, h2⟩ := h
    exact ⟨xs, h1, fun i hi => ⟨(h2 i hi).1, (h2 i hi).2.1, fun j hj hj' => ((h2 i hi).2.2 j hj hj').far hγ k (AV.far_mem (ho i hi) j hj')⟩⟩
  | map kd n f => exact h

/-- What says less holds as well. -/
theorem SLe.fs {g : Nat → Src} {e' : T} {L : List (Nat × AObj)} {nx nx' : Nat} (hB : ∀ i v, B.γ1 i = some v → 1000000 ≤ i) (hs : SLe g e H e' L nx') (hF : FZ D N X0 W0 B γ a w e H nx) : FZ D N X0 W0 B (ren g γ) a w e' (hof L) nx' := by
  obtain ⟨hT, hH, hA, hN, hP⟩ := hs
  obtain ⟨⟨hR, hfr⟩, h0⟩ := hF
  have hg1 : ∀ i k, g i = .id k → ren g γ i = γ k := fun i k h => by simp [ren, h]
  have hg2 : ∀ i, g i = .nil → ren g γ i = some (.slice none 0 0) := fun i h => by simp [ren, h]
  have hg3 : ∀ i, 1000000 ≤ i → ren g γ i = γ i := fun i h => hg1 i i (hP i h)
  have h0' : HOk (hof L) B.Hf := by
    intro k o hk
    obtain ⟨h1, h2, h3⟩ := h0 k o hk
    refine ⟨h1, ?_, h3⟩
    cases ho : hget (hof L) k with
    | none => rfl
    | some o' =>
      rcases hH.mem (hof_get ho) with ⟨j, o2, hj, ho2, _⟩ | ⟨hj, _⟩
      · rw [hP k h1] at hj
        injection hj with hj
        subst hj
        rw [h2] at ho2; cases ho2
      · rw [hP k h1] at hj; cases hj
  have hsrc : ∀ i o', hget (hjoin (hof L) B.Hf) i = some o' → (∃ k o, g i = .id k ∧ hget H k = some o ∧ hget (hjoin H B.Hf) k = some o ∧ OLe (rowsOf H) g o o' ∧ (i, o') ∈ L) ∨ (g i = .nil ∧ (∃ e n row, o' = .row e n 0 row) ∧ (i, o') ∈ L) ∨ (g i = .id i ∧ 1000000 ≤ i ∧ hget H i = none ∧ hget (hjoin H B.Hf) i = some o' ∧ o'.far) := by
    intro i o' ho'
    rcases hjoin_get ho' with h | ⟨h1, h2⟩
    · rcases hH.mem (hof_get h) with ⟨k, o, hk, ho, hle⟩ | ⟨hk, hrow⟩
      · exact .inl ⟨k, o, hk, ho, hjoin_sub _ _ _ _ ho, hle, hof_get h⟩
      · exact .inr (.inl ⟨hk, hrow, hof_get h⟩)
    · obtain ⟨g1, g2, g3⟩ := h0 i o' h2
      exact .inr (.inr ⟨hP i g1, g1, g2, hjoin_far h0 h2, g3⟩)
  have hX : ∀ b q, XOf X0 (ren g γ) (hjoin (hof L) B.Hf) b q → XOf X0 γ (hjoin H B.Hf) b q := by
    rintro b q (h | ⟨i, o', v, h1, h2, h3, h4⟩)
    · exact .inl h
    · rcases hsrc i o' h1 with ⟨k, o, hk, _, ho, hle, _⟩ | ⟨hk, _, _⟩ | ⟨hk, _, _, ho, _⟩
      · rw [hg1 i k hk] at h2
        refine .inr ⟨k, o, v, ho, h2, h3, ?_⟩
        cases o with
        | box cs => trivial
        | row e n len row =>
          cases o' with
          | box => exact hle.elim
          | vec => exact hle.elim
          | map => exact hle.elim
          | row e' n' len' row' =>
            obtain ⟨_, rfl, rfl, _⟩ := hle
            exact h4
        | vec e n len row =>
          cases o' with
          | box => exact hle.elim
          | row => exact hle.elim
          | map => exact hle.elim
          | vec e' n' len' row' =>
            obtain ⟨_, rfl, rfl, _⟩ := hle
            exact h4
        | map kd n f => trivial
      · rw [hg2 i hk] at h2
        injection h2 with h2
        subst h2
        simp [blk] at h3
      · rw [hg1 i i hk] at h2
        exact .inr ⟨i, o', v, ho, h2, h3, h4⟩
  have hm : ∀ k n len row v, rowsOf H k = some (n, len, row) → γ k = some v → DRep (XOf X0 γ (hjoin H B.Hf)) w v (.sl n len row) := fun k n len row v hM hv => by
    unfold rowsOf at hM
    split at hM
    · rename_i te n' len' row' ho
      injection hM with hM
      injection hM with e1 e2
      injection e2 with e2 e3
      subst e1; subst e2; subst e3
      exact own_rep hR.st (hjoin_sub _ _ _ _ ho) hv
    · cases hM
  have hrep : ∀ v x y, AVLe (rowsOf H) g x y → Rep γ (XOf X0 γ (hjoin H B.Hf)) w v x → Rep (ren g γ) (XOf X0 (ren g γ) (hjoin (hof L) B.Hf)) w v y := fun v x y h hv => AVLe.rep hg1 hg2 (fun b q _ hb => hX b q hb) hm h hv
  have hK : Keeps (XOf X0 γ (hjoin H B.Hf)) (XOf X0 (ren g γ) (hjoin (hof L) B.Hf)) w w := .same fun b q _ hb => hX b q hb
  refine ⟨⟨⟨⟨hR.st.hx, hR.st.ext, ?_, ?_⟩, ?_, hR.size, ?_, hR.base.trans hK, (fun id v hv => by rw [hg3 id (hB id v hv)]; exact hR.pin id v hv), ?_⟩, ?_⟩, h0'⟩
  rotate_left 3
  · obtain ⟨Ks, h1, hn1, h2⟩ := hR.marks
    exact ⟨Ks, h1, hn1, fun K hKm => ⟨(h2 K hKm).1, (h2 K hKm).2.1, (fun h' => (h2 K hKm).2.2.1 (hX K 0 h')), (h2 K hKm).2.2.2⟩⟩
  · intro i kd n f v b h1 h2 h3
    rcases hsrc i _ h1 with ⟨k, o, hk, _, ho, hle, _⟩ | ⟨_, ⟨_, _, _, he⟩, _⟩ | ⟨hk, _, _, ho, _⟩
    · rw [hg1 i k hk] at h2
      cases o with
      | box => exact hle.elim
      | row => exact hle.elim
      | vec => exact hle.elim
      | map kd' n' f' => exact hR.mb k kd' n' f' v b ho h2 h3
    · cases he
    · rw [hg1 i i hk] at h2
      exact hR.mb i kd n f v b ho h2 h3
  · intro k hk hk'
    simp [ren, hN k hk hk']
  · intro i o' ho'
    rcases hsrc i o' ho' with ⟨k, o, hk, _, ho, hle, _⟩ | ⟨hk, ⟨te, tn, row, rfl⟩, _⟩ | ⟨hk, hi, _, ho, hfar⟩
    · obtain ⟨v, hv, hr⟩ := hR.st.obj k o ho
      refine ⟨v, (hg1 i k hk).trans hv, ?_⟩
      cases o with
      | box cs =>
        cases o' with
        | row => exact hle.elim
        | vec => exact hle.elim
        | map => exact hle.elim
        | box cs' =>
          obtain ⟨b, arr, t, rfl, h1, h2, h3⟩ := hr
          exact ⟨b, arr, t, rfl, h1, h2, cellsLe.reps hrep hle h3⟩
      | row e n len row =>
        cases o' with
        | box => exact hle.elim
        | vec => exact hle.elim
        | map => exact hle.elim
        | row e' n' len' row' =>
          obtain ⟨rfl, rfl, rfl, hrow⟩ := hle
          obtain ⟨xs, hown, hx⟩ := hr
          exact ⟨xs, hown, fun j hj => ⟨(hx j hj).1, by rw [← hrow j hj]; exact (hx j hj).2.mono hK⟩⟩
      | vec e n len row =>
        cases o' with
        | box => exact hle.elim
        | row => exact hle.elim
        | map => exact hle.elim
        | vec e' n' len' row' =>
          obtain ⟨rfl, rfl, rfl, hrow⟩ := hle
          obtain ⟨xs, hown, hx⟩ := hr
          exact ⟨xs, hown, fun j hj => ⟨(hx j hj).1, cellsLe.reps hrep (hrow j hj) (hx j hj).2⟩⟩
      | map kd n f =>
        cases o' with
        | box => exact hle.elim
        | row => exact hle.elim
        | vec => exact hle.elim
        | map kd' n' f' =>
          obtain ⟨rfl, rfl, hf⟩ := hle
          obtain ⟨b, ent, clock, rfl, h1, h2, h3, h4, h5⟩ := hr
          exact ⟨b, ent, clock, rfl, h1, h2, h3, h4, fun k hk => (h5 k hk).trans (hf k hk)⟩
    · exact ⟨_, hg2 i hk, fun _ => [], by simpa using World.ownsRow_nil w _ _ _, fun j hj => by omega⟩
    · obtain ⟨v, hv, hr⟩ := hR.st.obj i o' ho
      exact ⟨v, (hg1 i i hk).trans hv, hr.far (fun k u hk hu => by rw [hg3 k hk]; exact hu) hK hfar⟩
  · intro i j o o' v v' b h1 h2 h3 h4 h5 h6
    by_cases hne : i = j
    · exact hne
    · exfalso
      have nilcase : ∀ i v, g i = .nil → ren g γ i = some v → blk v = some b → False := fun i v hk hv hb => by
        rw [hg2 i hk] at hv
        injection hv with hv
        subst hv
        simp [blk] at hb
      rcases hsrc i o h1 with ⟨k, ok, hk, hkH, ho, _, m1⟩ | ⟨hk, _, _⟩ | ⟨hk, _, hiH, ho, _⟩
      · rw [hg1 _ _ hk] at h3
        rcases hsrc j o' h2 with ⟨k', ok', hk', _, ho', _, m2⟩ | ⟨hk', _, _⟩ | ⟨hk', _, hjH, ho', _⟩
        · rw [hg1 _ _ hk'] at h4
          have := hR.st.dis k k' ok ok' v v' b ho ho' h3 h4 h5 h6
          subst this
          exact hA.mem m1 m2 hne hk hk'
        · exact nilcase j v' hk' h4 h6
        · rw [hg1 _ _ hk'] at h4
          have := hR.st.dis k j ok o' v v' b ho ho' h3 h4 h5 h6
          subst this
          rw [hjH] at hkH; cases hkH
      · exact nilcase i v hk h3 h5
      · rw [hg1 _ _ hk] at h3
        rcases hsrc j o' h2 with ⟨k', ok', hk', hkH, ho', _, m2⟩ | ⟨hk', _, _⟩ | ⟨hk', _, _, ho', _⟩
        · rw [hg1 _ _ hk'] at h4
          have := hR.st.dis i k' o ok' v v' b ho ho' h3 h4 h5 h6
          subst this
          rw [hiH] at hkH; cases hkH
        · exact nilcase j v' hk' h4 h6
        · rw [hg1 _ _ hk'] at h4
          exact hne (hR.st.dis i j o o' v v' b ho ho' h3 h4 h5 h6)
  · intro p hp
    exact hrep _ _ _ (TLe.get _ _ hT p) (hR.env p hp)

theorem exists_min {p : Nat → Prop} (h : ∃ n, p n) : ∃ n, p n ∧ ∀ m, p m → n ≤ m := by
  obtain ⟨n, hn⟩ := h
  induction n using Nat.strongRecOn with
  | _ n ih =>
    by_cases hm : ∃ m, m < n ∧ p m
    · obtain ⟨m, h1, h2⟩ := hm
      exact ih m h1 h2
    · exact ⟨n, hn, fun m hp => Nat.le_of_not_lt fun hlt => hm ⟨m, hlt, hp⟩⟩

/-- A loop's law with a measure that the invariant bears. -/
theorem wpIn_loop_n {F : Fence} {n : Nat} {c : Code} {Q : Exit → Act → World → Prop} (J : Nat → Act → World → Prop) (h0 : ∃ n, J n a w) (round : ∀ (j : Nat) a w, J j a w → c.wpIn F n P (Exit.then (fun a' w' => ∃ m, m < j ∧ J m a' w') Q) a w) : (Code.loop c).wpIn F n P Q a w := by
  classical
  let μ : Act → World → Nat := fun a w => if h : ∃ n, J n a w then Classical.choose (exists_min h) else 0
  refine wpIn_loop (fun a w => ∃ n, J n a w) μ h0 fun a w hI => ?_
  have hsp := Classical.choose_spec (exists_min hI)
  have hμ : μ a w = Classical.choose (exists_min hI) := dif_pos hI
  refine wpIn_mono (round (μ a w) a w (hμ ▸ hsp.1)) fun x a' w' hq => ?_
  cases x with
  | normal =>
    obtain ⟨m, hlt, hJ⟩ := hq
    refine ⟨⟨m, hJ⟩, ?_⟩
    have hI' : ∃ n, J n a' w' := ⟨m, hJ⟩
    have hμ' : μ a' w' = Classical.choose (exists_min hI') := dif_pos hI'
    have := (Classical.choose_spec (exists_min hI')).2 m hJ
    show μ a' w' < μ a w
    omega
  | _ => exact hq

theorem cval_ok {c : Operand} {c' : Opd} (tr : TrOpd D c c') {X : Nat → Nat → Prop} (hE : EnvRep D γ X w a e) (hok : cok e c') : a.eval c = .bool (cval e c') := by
  obtain ⟨h1, h2⟩ := hok
  have hr := (tr.rep hE).strip h1
  unfold cval
  split at h2
  · rename_i b heq
    rw [heq] at hr
    exact hr.lit
  · exact h2.elim

end

end Go.Proofs.Ytndpejmebhcaaaa
/- A range over a function: its law for the evaluator; and that the evaluator tells of the model's run. -/
namespace Go.Proofs.Ytndpejmebhcaaaa
open Go.RowKit

section
variable {P : Program} {D N : Nat} {X0 : Nat → Nat → Prop} {W0 : World} {B : Bs} {γ : Nat → Option Value} {w : World} {H : Heap} {a : Act} {e : T}

theorem Rep.monoC {γ' : Nat → Option Value} {X X' : Nat → Nat → Prop} {w' : World} (hγ : Knows γ γ') (ksize : w.heap.size ≤ w'.heap.size) (kcells : ∀ b o v, b < w.heap.size → ¬ X b o → w.cell? ⟨b, o, none⟩ = some v → w'.cell? ⟨b, o, none⟩ = some v) (ksub : ∀ b o, b < w.heap.size → X' b o → X b o) {v : Value} {x : AV} (h : Rep γ X w v x) : Rep γ' X' w' v x := by
  induction h with
  | d v x h => exact .d v x (h.monoC ksize kcells ksub)
  | whn v g x _ h0 ih => exact .whn v g x ih h0
  | ptr b id off h => exact .ptr b id off (hγ _ _ h)
  | own v id len h => exact .own v id len (hγ _ _ h)
  | mp b id h => exact .mp b id (hγ _ _ h)
  | el b len cap id n i off h => exact .el b len cap id n i off (hγ _ _ h)
  | fn f vs caps hl _ ih => exact .fn f vs caps hl ih
  | agg vs cs hl _ ih => exact .agg vs cs hl ih
  | tup vs cs hl _ ih => exact .tup vs cs hl ih

/-- Objects of the machine's own book-keeping. -/
def isMark : Obj → Bool
  | .deferred _ => true
  | .loop _ => true
  | _ => false
theorem isMark_other {o : Obj} (h : isMark o = true) : objOther o = true := by cases o <;> simp_all [isMark, objOther]

theorem cell_mark {K : Nat} {o : Obj} {b q : Nat} {v : Value} (hd : w.heap[K]? = some o) (hm : isMark o = true) (hc : w.cell? ⟨b, q, none⟩ = some v) : b ≠ K := by
  rintro rfl
  cases o <;> simp_all [isMark, World.cell?]

theorem St.not_mark {K q : Nat} {o : Obj} (hS : St X0 W0 γ w H) (hK : W0.heap.size ≤ K) (hd : w.heap[K]? = some o) (hm : isMark o = true) : ¬ XOf X0 γ H K q := by
  rintro (h | ⟨id, ob, v, h1, h2, h3, _⟩)
  · have := hS.hx K q h; omega
  · obtain ⟨u, hu, hr⟩ := hS.obj id ob h1
    rw [h2] at hu
    injection hu with hu
    subst hu
    cases ob with
    | box cs =>
      obtain ⟨b, arr, t, rfl, _, h5, _⟩ := hr
      simp [blk] at h3
      subst h3
      rw [hd] at h5; injection h5 with h5; subst h5; cases hm
    | row e n len row =>
      obtain ⟨xs, hown, _⟩ := hr
      rcases hown.2 with ⟨rfl, _⟩ | ⟨g, cap, cur, rfl, hg, hh, rest⟩
      · simp [blk] at h3
      · simp [blk] at h3
        subst h3
        rw [hd] at hh; injection hh with hh; subst hh; cases hm
    | vec e n len row =>
      obtain ⟨xs, hown, _⟩ := hr
      rcases hown.2 with ⟨rfl, _⟩ | ⟨g, cap, cur, rfl, hg, hh, rest⟩
      · simp [blk] at h3
      · simp [blk] at h3
        subst h3
        rw [hd] at hh; injection hh with hh; subst hh; cases hm
    | map kd n f =>
      obtain ⟨b, ent, clock, rfl, _, h5, _⟩ := hr
      simp [blk] at h3
      subst h3
      rw [hd] at h5; injection h5 with h5; subst h5; cases hm

/-- A mark's own block turned: nothing else is. -/
theorem St.mark {K : Nat} {o o' : Obj} (hS : St X0 W0 γ w H) (hK : W0.heap.size ≤ K) (hd : w.heap[K]? = some o) (hm : isMark o = true) :
    St X0 W0 γ (w.putObj K o') H ∧ ∀ v x, Rep γ (XOf X0 γ H) w v x → Rep γ (XOf X0 γ H) (w.putObj K o') v x := by
  have hblk : ∀ b, b ≠ K → (w.putObj K o').heap[b]? = w.heap[b]? := fun b hb => World.putObj_heap_other hb
  have kc : ∀ b o v, b < w.heap.size → ¬ XOf X0 γ H b o → w.cell? ⟨b, o, none⟩ = some v → (w.putObj K o').cell? ⟨b, o, none⟩ = some v := fun b q v _ _ hc =>
    (World.cell?_of_block (w := w) (w' := w.putObj K o') (a := ⟨b, q, none⟩) (hblk b (cell_mark hd hm hc))).trans hc
  have hsz : w.heap.size ≤ (w.putObj K o').heap.size := by simp
  have hr : ∀ v x, Rep γ (XOf X0 γ H) w v x → Rep γ (XOf X0 γ H) (w.putObj K o') v x := fun v x h => h.monoC (Knows.refl γ) hsz kc (fun _ _ _ h => h)
  have hne : ∀ b ob, w.heap[b]? = some ob → isMark ob = false → b ≠ K := fun b ob h1 h2 e => by
    rw [e, hd] at h1; injection h1 with h1; subst h1; rw [hm] at h2; cases h2
  refine ⟨⟨hS.hx, ⟨hS.ext.os, hS.ext.tape, hS.ext.output, Nat.le_trans hS.ext.size hsz, fun k hk => (hblk k (by omega)).trans (hS.ext.block k hk)⟩, fun id ob ho => ?_, hS.dis⟩, hr⟩
  obtain ⟨v, hv, hob⟩ := hS.obj id ob ho
  refine ⟨v, hv, ?_⟩
  cases ob with
  | box cs =>
    obtain ⟨b, arr, t, rfl, h1, h2, h3⟩ := hob
    exact ⟨b, arr, t, rfl, h1, (hblk b (hne b _ h2 rfl)).trans h2, h3.1, fun i hi hi' => hr _ _ (h3.2 i hi hi')⟩
  | row e n len row =>
    obtain ⟨xs, hown, hx⟩ := hob
    refine ⟨xs, ⟨hown.1, ?_⟩, fun i hi => ⟨(hx i hi).1, (hx i hi).2.1, fun j hj hj' => ((hx i hi).2.2 j hj hj').monoC hsz kc (fun _ _ _ h => h)⟩⟩
    rcases hown.2 with hn | ⟨g, cap, cur, rfl, hg, hh, rest⟩
    · exact .inl hn
    · exact .inr ⟨g, cap, cur, rfl, hg, (hblk g (hne g _ hh rfl)).trans hh, rest⟩
  | vec e n len row =>
    obtain ⟨xs, hown, hx⟩ := hob
    refine ⟨xs, ⟨hown.1, ?_⟩, fun i hi => ⟨(hx i hi).1, (hx i hi).2.1, fun j hj hj' => hr _ _ ((hx i hi).2.2 j hj hj')⟩⟩
    rcases hown.2 with hn | ⟨g, cap, cur, rfl, hg, hh, rest⟩
    · exact .inl hn
    · exact .inr ⟨g, cap, cur, rfl, hg, (hblk g (hne g _ hh rfl)).trans hh, rest⟩
  | map kd n f =>
    obtain ⟨b, ent, clock, rfl, h1, h2, h3⟩ := hob
    exact ⟨b, ent, clock, rfl, h1, (hblk b (hne b _ h2 rfl)).trans h2, h3⟩

theorem KB.put {n K : Nat} {o o' : Obj} {X : Nat → Nat → Prop} (hd : w.heap[K]? = some o) (hm : isMark o = true) (hn : n ≤ K) : KB n X X w (w.putObj K o') :=
  ⟨by simp, fun b q v _ _ hc => (World.cell?_of_block (w := w) (w' := w.putObj K o') (a := ⟨b, q, none⟩) (World.putObj_heap_other (cell_mark hd hm hc))).trans hc, fun _ _ _ h => h,
    fun b ob hb ho _ _ => (World.putObj_heap_other (by omega)).trans ho⟩
theorem KB.keeps {n : Nat} {X X' : Nat → Nat → Prop} {w w' : World} (h : KB n X X' w w') (hn : w.heap.size ≤ n) : Keeps X X' w w' :=
  ⟨h.size, h.cells, h.sub, fun b o h1 h2 h3 => h.others b o (Nat.lt_of_lt_of_le (Array.getElem?_eq_some_iff.1 h1).1 hn) h1 h2 h3⟩

theorem Rep.pin {pins : List Nat} {γ' : Nat → Option Value} {X X' : Nat → Nat → Prop} {w' : World} {n : Nat} (hγ : Knows (fun i => if (decide (1000000 ≤ i) || pins.contains i) = true then γ i else none) γ') (k : KB n X X' w w') {v : Value} {x : AV} (hx : x.pinned pins = true) (h : Rep γ X w v x) : Rep γ' X' w' v x := by
  have hk : ∀ id u, (decide (1000000 ≤ id) || pins.contains id) = true → γ id = some u → γ' id = some u := fun id u h1 h2 => hγ id u (by simp only [h1, if_true]; exact h2)
  cases h with
  | d _ _ h => exact .d _ _ (h.monoC k.size k.cells k.sub)
  | ptr b id off h => exact .ptr b id off (hk _ _ hx h)
  | own v id len h => exact .own v id len (hk _ _ hx h)
  | mp b id h => exact .mp b id (hk _ _ hx h)
  | _ => cases hx

theorem env_setPs {X : Nat → Nat → Prop} {ds : List Deferred} : ∀ (pl : List Slot) (vs : List Value) (xs : List DV) (tmps : Array Value) (e : T), (∀ p, p ∈ pl → p.length = D ∧ p.idx < N) → tmps.size = N → vs.length = pl.length → DReps X w vs xs → EnvRep D γ X w { tmps := tmps, defers := ds } e →
    EnvRep D γ X w { tmps := ((pl.map Slot.idx).zip vs).foldl (fun t (q : Nat × Value) => t.setIfInBounds q.1 q.2) tmps, defers := ds } (setPs e pl xs) ∧ (((pl.map Slot.idx).zip vs).foldl (fun t (q : Nat × Value) => t.setIfInBounds q.1 q.2) tmps).size = N
  | [], vs, xs, tmps, e, _, hs, _, _, hE => by simpa [setPs] using ⟨hE, hs⟩
  | p :: pl, [], xs, tmps, e, _, _, hl, _, _ => by simp at hl
  | p :: pl, v :: vs, [], tmps, e, _, _, _, hv, _ => by have := hv.1; simp at this
  | p :: pl, v :: vs, x :: xs, tmps, e, hp, hs, hl, hv, hE => by
    obtain ⟨v', vs', he, h1, h2⟩ := hv.uncons
    injection he with he1 he2
    subst he1; subst he2
    have hp0 := hp p (by simp)
    have hput := hE.put (v := v) (x := .d x) hp0.1 (by rw [hs]; exact hp0.2) (.d _ _ h1)
    have := env_setPs pl vs xs (tmps.setIfInBounds p.idx v) (e.set p (.d x)) (fun q hq => hp q (by simp [hq])) (by simpa using hs) (by simpa using hl) h2 (by simpa [Act.put] using hput)
    simpa [setPs] using this

theorem marks_inj : ∀ {l l' : List Nat}, l.map markOf = l'.map markOf → l = l'
  | [], [], _ => rfl
  | [], _ :: _, h => by simp at h
  | _ :: _, [], h => by simp at h
  | a :: l, b :: l', h => by
    simp only [List.map_cons, List.cons.injEq] at h
    obtain ⟨h1, h2⟩ := h
    have : a = b := by
      simp only [markOf, Deferred.mk.injEq, Target.collected.injEq] at h1
      exact h1.1
    rw [this, marks_inj h2]

/-- A base of here and now. -/
def Bs.now (X : Nat → Nat → Prop) (w : World) (γ : Nat → Option Value) (Hf : Heap) (lo : Nat) : Bs := ⟨X, w, fun i => if 1000000 ≤ i then γ i else none, fun _ => True, Hf, lo⟩
theorem Bs.now_far {X : Nat → Nat → Prop} {w : World} {γ : Nat → Option Value} {Hf : Heap} {lo : Nat} : ∀ i v, (Bs.now X w γ Hf lo).γ1 i = some v → 1000000 ≤ i := by
  intro i v h
  simp only [Bs.now] at h
  split at h
  · assumption
  · cases h
theorem Bs.now_knows {X : Nat → Nat → Prop} {w : World} {γ : Nat → Option Value} {Hf : Heap} {lo : Nat} : Knows (Bs.now X w γ Hf lo).γ1 γ := by
  intro i v h
  simp only [Bs.now] at h
  split at h
  · exact h
  · cases h

/-- The law of a range over a function. -/
theorem rng_sound {n nx : Nat} {g : Operand} {g' : Opd} {pl : List Slot} {asn body : Code} {asn' body' : ACode} {Q : AX → T → Heap → Nat → Prop} (hg : TrOpd D g g') (hpl : ∀ p, p ∈ pl → p.length = D ∧ p.idx < N)
    (hA : ∀ (l : Nat) (Q : AX → T → Heap → Nat → Prop) (B : Bs) (γ : Nat → Option Value) (a : Act) (w : World) (e : T) (H : Heap) (nx : Nat), FZ D N X0 W0 B γ a w e H nx → awp P asn' Q e H nx → asn.wpIn (FW (some l)) 0 P (lift D N X0 W0 B Q) a w)
    (hB : ∀ (l : Nat) (Q : AX → T → Heap → Nat → Prop) (B : Bs) (γ : Nat → Option Value) (a : Act) (w : World) (e : T) (H : Heap) (nx : Nat), FZ D N X0 W0 B γ a w e H nx → awp P body' Q e H nx → body.wpIn (FW (some l)) 0 P (lift D N X0 W0 B Q) a w)
    (hBf : B.free) (hF : FZ D N X0 W0 B γ a w e H nx) (h : awp P (.rng g' pl asn' body') Q e H nx) : (Code.rangeFunc g (pl.map Slot.idx).toArray asn body).wpIn (FW none) n P (lift D N X0 W0 B Q) a w := by
  obtain ⟨hlive, F, caps, xs, e1, pins, I, hav, hseq, hpin, hlen, ⟨gg, L0, nx0, hI0, hs0⟩, hround, hdone⟩ := h
  have hFr := hF.1.1
  have hr := (hg.rep hFr.env).strip hlive
  rw [hav] at hr
  generalize hgv : a.eval g = gv at hr
  obtain ⟨us, rfl, hus⟩ : ∃ us : Array Value, gv = .func (.func F) #[] us ∧ DReps (XOf X0 γ (hjoin H B.Hf)) w us.toList caps := by
    cases hr with
    | d _ _ hd => cases hd with
      | fn _ vs _ hl hr' => exact ⟨vs.toArray, rfl, by simpa using hl, fun i hi hi' => by simpa using hr' i (by simpa using hi) hi'⟩
  have hF0 := hs0.fs (B := Bs.now (XOf X0 γ (hjoin H B.Hf)) w γ B.Hf B.lo) Bs.now_far ⟨⟨⟨hFr.st, hFr.env, hFr.size, (by obtain ⟨Ks, h1, h2, h3⟩ := hFr.marks; exact ⟨Ks, h1, h2, fun K hK => ⟨(h3 K hK).1, (h3 K hK).2.1, (h3 K hK).2.2.1, trivial, (h3 K hK).2.2.2.2⟩⟩), Keeps.refl _ _, Bs.now_knows, fun _ _ _ _ _ _ _ _ _ => trivial⟩, hF.1.2⟩, hF.2⟩
  have hBpin : ∀ id v, B.γ1 id = some v → (Bs.now (XOf X0 γ (hjoin H B.Hf)) w γ B.Hf B.lo).γ1 id = some v := fun id v hv => by
    simp only [Bs.now]
    rw [if_pos (hBf.1 id v hv)]
    exact hFr.pin id v hv
  generalize ren gg γ = γ0 at hF0
  have hbase0 := hFr.base
  have hKX : Keeps (XOf X0 γ (hjoin H B.Hf)) (XOf X0 γ0 (hjoin (hof L0) B.Hf)) w w := hF0.1.1.base
  obtain ⟨X, hX⟩ : ∃ X, X = XOf X0 γ0 (hjoin (hof L0) B.Hf) := ⟨_, rfl⟩
  obtain ⟨Bn, hBn⟩ : ∃ Bn, Bn = Bs.now X w γ B.Hf B.lo := ⟨_, rfl⟩
  have hnowpin : (Bs.now (XOf X0 γ (hjoin H B.Hf)) w γ B.Hf B.lo).γ1 = Bn.γ1 := by rw [hBn]; rfl
  rw [hnowpin] at hBpin
  have hBnf : ∀ i v, Bn.γ1 i = some v → 1000000 ≤ i := by rw [hBn]; exact Bs.now_far
  have hBnH : Bn.Hf = B.Hf := by rw [hBn]; rfl
  have hBnX : Bn.X1 = X := by rw [hBn]; rfl
  have hBnW : Bn.W1 = w := by rw [hBn]; rfl
  have hBnM : ∀ b, Bn.MB b := by rw [hBn]; exact fun _ => trivial
  have hBnL : Bn.lo = B.lo := by rw [hBn]; rfl
  have hlow : B.lo ≤ w.heap.size := Nat.le_trans hBf.2.2 hFr.base.size
  have hXlt : ∀ b q, X b q → b < w.heap.size := fun b q h => by rw [hX] at h; exact XOf.lt hF0.1.1.st h
  have hus' : DReps X w us.toList caps := by rw [hX]; exact hus.mono hKX
  have hW0 : W0.heap.size ≤ w.heap.size := hFr.st.ext.size
  obtain ⟨Ks, hKa, hKn, hKm⟩ := hF0.1.1.marks
  have hKlt : ∀ K, K ∈ Ks → K < w.heap.size := fun K hK => (Array.getElem?_eq_some_iff.1 (hKm K hK).2.1).1
  apply wpIn_rangeFunc
  intro fn hfn
  obtain ⟨rec, hrec⟩ : ∃ rec : LoopState → Option Code → Loop, rec = fun st pe => { state := st, pending := pe, fn, tmps := a.tmps, params := (pl.map Slot.idx).toArray, assign := asn, body, defers := w.heap.size } := ⟨_, rfl⟩
  obtain ⟨W1, hW1⟩ : ∃ W1, (w.alloc (.deferred (some []))).alloc (.loop (rec .ready none)) = W1 := ⟨_, rfl⟩
  have hx1 : Ext w W1 := by rw [← hW1]; exact (Ext.alloc w _).trans (Ext.alloc _ _)
  have hsz1 : W1.heap.size = w.heap.size + 2 := by rw [← hW1]; simp
  have hL1 : W1.heap[w.heap.size + 1]? = some (.loop (rec .ready none)) := by
    rw [← hW1]; have := World.alloc_heap_new (w.alloc (.deferred (some []))) (.loop (rec .ready none)); rwa [World.size_alloc] at this
  have hD1 : W1.heap[w.heap.size]? = some (.deferred (some [])) := by
    rw [← hW1]; exact ((Ext.alloc (w.alloc (.deferred (some []))) _).block _ (by simp)).trans (World.alloc_heap_new w _)
  have hcell1 : ∀ b o v, W1.cell? ⟨b, o, none⟩ = some v → b < w.heap.size ∧ w.cell? ⟨b, o, none⟩ = some v := by
    intro b o v hc
    have hb : b < W1.heap.size := World.block_lt_of_cell? W1 _ hc
    have h1 := cell_mark hL1 rfl hc
    have h2 := cell_mark hD1 rfl hc
    have hb' : b < w.heap.size := by omega
    exact ⟨hb', (World.cell?_of_block (w := W1) (w' := w) (a := ⟨b, o, none⟩) (hx1.block b hb').symm).trans hc⟩
  -- the state between two rounds
  let J : Nat → (Nat → Nat → Prop) → World → Prop := fun k Y W => ∃ γ L nx, Y = XOf X0 γ (hjoin (hof L) B.Hf) ∧ I k L nx ∧ FZ D N X0 W0 Bn γ a W e1 (hof L) nx ∧ W.heap[w.heap.size]? = some (.deferred (some [])) ∧ W.heap[w.heap.size + 1]? = some (.loop (rec .ready none))
  let Jx : World → Prop := fun W => ∃ c y γ H nx, ((c = .ret ∧ y = AX.ret) ∨ ∃ id, c = .exit id ∧ y = .exit id) ∧ Q y e1 H nx ∧ FZ D N X0 W0 Bn γ a W e1 H nx ∧ W.heap[w.heap.size]? = some (.deferred (some [])) ∧ W.heap[w.heap.size + 1]? = some (.loop (rec .done (some c)))
  have hFe : ∀ {γ : Nat → Option Value} {H : Heap} {nx : Nat} {W W' : World}, FZ D N X0 W0 Bn γ a W e1 H nx → Ext W W' → FZ D N X0 W0 Bn γ a W' e1 H nx := fun hF he => ⟨⟨hF.1.1.mono (Knows.refl _) (.of_ext he) (hF.1.1.st.stay he) (.refl _), hF.1.2⟩, hF.2⟩
  have hblk : ∀ {W W' : World} {b : Nat} {o : Obj}, Ext W W' → W.heap[b]? = some o → W'.heap[b]? = some o := fun he h => (he.block _ (Array.getElem?_eq_some_iff.1 h).1).trans h
  -- behind the loop
  have hend : ∀ (γ : Nat → Option Value) (H : Heap) (nx : Nat) (W : World) (r r' : Loop), FZ D N X0 W0 Bn γ a W e1 H nx → W.heap[w.heap.size]? = some (.deferred (some [])) → W.heap[w.heap.size + 1]? = some (.loop r) →
      FZ D N X0 W0 B γ { a with defers := markOf w.heap.size :: a.defers } (W.putObj (w.heap.size + 1) (.loop r')) e1 H nx := by
    intro γ H nx W r r' hF hD hl
    obtain ⟨⟨hF1, hF2⟩, hF3⟩ := hF
    rw [hBnH] at hF1 hF3
    obtain ⟨hst, hrep⟩ := hF1.st.mark (o' := .loop r') (by omega) hl rfl
    refine ⟨⟨⟨hst, fun p hp => hrep _ _ (hF1.env p hp), hF1.size, ⟨w.heap.size :: Ks, by simp [hKa], List.nodup_cons.2 ⟨fun hm => by have := hKlt _ hm; omega, hKn⟩, fun K hK => ?_⟩, ?_, ?_, fun _ _ _ _ _ b _ _ _ => hBf.2.1 b⟩, hF2⟩, hF3⟩
    · rcases List.mem_cons.1 hK with rfl | hK
      · exact ⟨hW0, (World.putObj_heap_other (by omega)).trans hD, hF1.st.not_mark hW0 hD rfl, hBf.2.1 _, hlow⟩
      · obtain ⟨Ks', h1, _, h2⟩ := hF1.marks
        have := marks_inj (hKa.symm.trans h1)
        subst this
        obtain ⟨g1, g2, g3⟩ := h2 K hK
        exact ⟨g1, (World.putObj_heap_other (by have := hKlt _ hK; omega)).trans g2, g3.1, hBf.2.1 _, by have := g3.2.2; omega⟩
    · have k1 : KB w.heap.size X (XOf X0 γ (hjoin H B.Hf)) w W := .of (by have := hF1.base; rw [hBnX, hBnW] at this; exact this)
      have k2 := k1.trans (KB.put (o' := .loop r') hl rfl (by omega))
      refine hbase0.trans (hKX.trans ?_)
      rw [← hX]
      exact k2.keeps (Nat.le_refl _)
    · exact fun id v hv => hF1.pin id v (hBpin id v hv)
  refine ⟨w.heap.size + 1, [{ target := .collected w.heap.size, args := #[] }], W1, { target := .fn (.func F) us, args := #[.func (.yield (w.heap.size + 1)) #[] #[]] }, W1, F,
    #[.func (.yield (w.heap.size + 1)) #[] #[]] ++ us, W1, ?_, ?_, ?_, ?_, (fun h => by cases h), ?_⟩
  · rw [← hW1, hrec]; exact run_enterLoop_outer _ _ _ _ _
  · simp only [resolve, hgv]
    simp [go_sem]
  · intro f' _; trivial
  · simp [invoke, go_sem, hseq.1.run]
  refine callsIn_fw (Calls.mono (hseq.2 X W1 us (fun b q h => by have := hXlt b q h; omega) (hus'.mono (.of_ext hx1)) (w.heap.size + 1) J Jx ?_ ?_ ?_ ?_ ?_) ?_)
  · rintro k Y W W' ⟨γ, L, nx, h0, h1, h2, h3, h4⟩ he
    exact ⟨γ, L, nx, h0, h1, hFe h2 he, hblk he h3, hblk he h4⟩
  · rintro W W' ⟨c, y, γ, H, nx, h1, h2, h3, h4, h5⟩ he
    exact ⟨c, y, γ, H, nx, h1, h2, hFe h3 he, hblk he h4, hblk he h5⟩
  · rintro k Y W ⟨γ, L, nx, rfl, h1, h2, h3, h4⟩ b o hY
    have h21 := h2.1.1.st
    rw [hBnH] at h21
    exact XOf.lt h21 hY
  · rintro k Y W vs hk ⟨γk, L, nxk, rfl, hI, hFk, hDk, hlk⟩ hvs
    obtain ⟨⟨hFk1, hFk2⟩, hFk3⟩ := hFk
    rw [hBnH] at hFk1 hFk3
    have hltk := (Array.getElem?_eq_some_iff.1 hlk).1
    have hvl : vs.size = pl.length := by have := hvs.1; simpa [hlen k hk] using this
    have hy := run_yield (P := P) (args := vs) hlk (by rw [hrec]; simpa using hvl)
    rw [hrec] at hy
    have hvs' : DReps (XOf X0 γk (hjoin (hof L) B.Hf)) W vs.toList xs[k] := hvs
    obtain ⟨hE1, hN1⟩ := env_setPs (γ := γk) (ds := []) pl vs.toList xs[k] a.tmps e1 hpl hFk1.size (by simpa using hvl) hvs' hFk1.env
    refine ⟨fn, _, asn, body, hy, roundIn_of_wpIn hfn ?_⟩
    have etm : ((pl.map Slot.idx).toArray.zip vs).foldl (fun t (q : Nat × Value) => t.setIfInBounds q.1 q.2) a.tmps = ((pl.map Slot.idx).zip vs.toList).foldl (fun t (q : Nat × Value) => t.setIfInBounds q.1 q.2) a.tmps := by
      rw [← Array.foldl_toList, Array.toList_zip]
    obtain ⟨γp, hγp⟩ : ∃ γp : Nat → Option Value, γp = fun i => if (decide (1000000 ≤ i) || pins.contains i) = true then γk i else none := ⟨_, rfl⟩
    have hγpk : Knows γp γk := by
      rw [hγp]
      intro i v hv
      simp only at hv
      split at hv
      · exact hv
      · cases hv
    have hF1 : FZ D N X0 W0 ⟨XOf X0 γk (hjoin (hof L) B.Hf), W, γp, fun _ => True, B.Hf, 0⟩ γk { tmps := ((pl.map Slot.idx).zip vs.toList).foldl (fun t (q : Nat × Value) => t.setIfInBounds q.1 q.2) a.tmps, defers := [] } W (setPs e1 pl xs[k]) (hof L) nxk :=
      ⟨⟨⟨hFk1.st, hE1, hN1, ⟨[], rfl, List.nodup_nil, fun K hK => by cases hK⟩, Keeps.refl _ _, hγpk, fun _ _ _ _ _ _ _ _ _ => trivial⟩, hFk2⟩, hFk3⟩
    have hw1 := hA (w.heap.size + 1) _ _ γk _ W _ _ nxk hF1 (hround k hk L nxk hI)
    rw [← etm] at hw1
    refine wpIn_mono hw1 ?_
    rintro x a1 w1 ⟨y, γ1, e', H', nx', hy1, ⟨⟨hF', hFf'⟩, hFo'⟩, hq⟩
    cases x <;> simp only [AX.of] at hy1 <;> (try cases hy1)
    · have hl1 : w1.heap[w.heap.size + 1]? = some (.loop (rec .ready none)) := hF'.base.others _ _ hlk rfl (hFk1.st.not_mark (by omega) hlk rfl)
      refine ⟨_, run_beginRound hl1 (by rw [hrec]), ?_⟩
      obtain ⟨hst1, hrep1⟩ := hF'.st.mark (o' := .loop { rec .ready none with state := .busy }) (by omega) hl1 rfl
      have hF2 : FZ D N X0 W0 ⟨XOf X0 γ1 (hjoin H' B.Hf), w1.putObj (w.heap.size + 1) (.loop { rec .ready none with state := .busy }), γp, fun _ => True, B.Hf, 0⟩ γ1 a1 (w1.putObj (w.heap.size + 1) (.loop { rec .ready none with state := .busy })) e' H' nx' := by
        refine ⟨⟨⟨hst1, fun p hp => hrep1 _ _ (hF'.env p hp), hF'.size, ?_, Keeps.refl _ _, hF'.pin, fun _ _ _ _ _ _ _ _ _ => trivial⟩, hFf'⟩, hFo'⟩
        obtain ⟨Ks1, g1, g2, g3⟩ := hF'.marks
        refine ⟨Ks1, g1, g2, fun K hK => ⟨(g3 K hK).1, (World.putObj_heap_other (fun e => ?_)).trans (g3 K hK).2.1, (g3 K hK).2.2⟩⟩
        have := (g3 K hK).2.1
        rw [e, hl1] at this
        cases this
      refine wpIn_mono (hB (w.heap.size + 1) _ _ γ1 a1 _ e' H' nx' hF2 hq) ?_
      rintro x2 a2 w2 ⟨y2, γ2, e2, H2, nx2, hy2, ⟨⟨hF3, hFf3⟩, hFo3⟩, hq2⟩
      have hl1' : (w1.putObj (w.heap.size + 1) (.loop { rec .ready none with state := .busy })).heap[w.heap.size + 1]? = some (.loop { rec .ready none with state := .busy }) := World.putObj_heap_same (Array.getElem?_eq_some_iff.1 hl1).1
      have hl2 : w2.heap[w.heap.size + 1]? = some (.loop { rec .ready none with state := .busy }) := hF3.base.others _ _ hl1' rfl (hst1.not_mark (by omega) hl1' rfl)
      have hkk : ∀ n r', n ≤ w.heap.size + 1 → KB n (XOf X0 γk (hjoin (hof L) B.Hf)) (XOf X0 γ2 (hjoin H2 B.Hf)) W (w2.putObj (w.heap.size + 1) (.loop r')) := by
        intro n r' hn
        have k1 : KB n (XOf X0 γk (hjoin (hof L) B.Hf)) (XOf X0 γ1 (hjoin H' B.Hf)) W w1 := .of hF'.base
        have k2 : KB n (XOf X0 γ1 (hjoin H' B.Hf)) (XOf X0 γ1 (hjoin H' B.Hf)) w1 (w1.putObj (w.heap.size + 1) (.loop { rec .ready none with state := .busy })) := .put hl1 rfl hn
        have k3 : KB n (XOf X0 γ1 (hjoin H' B.Hf)) (XOf X0 γ2 (hjoin H2 B.Hf)) (w1.putObj (w.heap.size + 1) (.loop { rec .ready none with state := .busy })) w2 := .of hF3.base
        have k4 : KB n (XOf X0 γ2 (hjoin H2 B.Hf)) (XOf X0 γ2 (hjoin H2 B.Hf)) w2 (w2.putObj (w.heap.size + 1) (.loop r')) := .put hl2 rfl hn
        exact ((k1.trans k2).trans k3).trans k4
      have fk : ∀ r', KB 0 (XOf X0 γk (hjoin (hof L) B.Hf)) (XOf X0 γ2 (hjoin H2 B.Hf)) W (w2.putObj (w.heap.size + 1) (.loop r')) := fun r' => hkk 0 r' (Nat.zero_le _)
      have fin : ∀ r', FZ D N X0 W0 Bn γ2 a (w2.putObj (w.heap.size + 1) (.loop r')) e1 H2 nx2 ∧ (w2.putObj (w.heap.size + 1) (.loop r')).heap[w.heap.size]? = some (.deferred (some [])) ∧ (w2.putObj (w.heap.size + 1) (.loop r')).heap[w.heap.size + 1]? = some (.loop r') := by
        intro r'
        obtain ⟨hst2, _⟩ := hF3.st.mark (o' := .loop r') (by omega) hl2 rfl
        have kk := hkk (w.heap.size + 1) r' (Nat.le_refl _)
        have hDf := kk.others _ _ (by omega) hDk rfl (hFk1.st.not_mark hW0 hDk rfl)
        have hpin3 : Knows γp γ2 := hF3.pin
        rw [hγp] at hpin3
        refine ⟨⟨⟨⟨by rw [hBnH]; exact hst2, by rw [hBnH]; exact fun p hp => (hFk1.env p hp).pin hpin3 kk (T.pinned_get e1 p hpin), hFk1.size, ?_, ?_, (fun id v hv => ?_), fun _ _ _ _ _ b _ _ _ => hBnM b⟩, hFf3⟩, by rw [hBnH]; exact hFo3⟩, hDf, World.putObj_heap_same (Array.getElem?_eq_some_iff.1 hl2).1⟩
        · refine ⟨Ks, hKa, hKn, fun K hK => ?_⟩
          obtain ⟨Ks', h1, _, h2⟩ := hFk1.marks
          have := marks_inj (hKa.symm.trans h1)
          subst this
          obtain ⟨g1, g2, g3⟩ := h2 K hK
          have hKd := kk.others K _ (by have := hKlt K hK; omega) g2 rfl g3.1
          exact ⟨g1, hKd, by rw [hBnH]; exact hst2.not_mark g1 hKd rfl, hBnM _, g3.2.2⟩
        · rw [hBnH, hBnX, hBnW]
          have hb := hFk1.base
          rw [hBnX, hBnW] at hb
          exact ((KB.of (n := w.heap.size + 1) hb).trans kk).keeps (by omega)
        · have h3 := hFk1.pin id v hv
          exact hpin3 id v (by simp only [decide_eq_true (hBnf id v hv), Bool.true_or, if_true]; exact h3)
      cases x2 <;> simp only [AX.of] at hy2 <;> (try cases hy2)
      · obtain ⟨gg', L', nx'', hI', hs⟩ := hq2
        obtain ⟨f1, f2, f3⟩ := fin (rec .ready none)
        have f1' := f1
        obtain ⟨⟨f1a, f1b⟩, f1c⟩ := f1'
        rw [hBnH] at f1a f1c
        have hsub := hs.fs (B := Bs.now (XOf X0 γ2 (hjoin H2 B.Hf)) (w2.putObj (w.heap.size + 1) (.loop (rec .ready none))) γ2 B.Hf B.lo) Bs.now_far ⟨⟨⟨f1a.st, f1a.env, f1a.size, (by obtain ⟨Ks, h1, h2, h3⟩ := f1a.marks; exact ⟨Ks, h1, h2, fun K hK => ⟨(h3 K hK).1, (h3 K hK).2.1, (h3 K hK).2.2.1, trivial, by have := (h3 K hK).2.2.2.2; rw [hBnL] at this; exact this⟩⟩), Keeps.refl _ _, Bs.now_knows, fun _ _ _ _ _ _ _ _ _ => trivial⟩, f1b⟩, f1c⟩
        have k5 : KB 0 (XOf X0 γ2 (hjoin H2 B.Hf)) (XOf X0 (ren gg' γ2) (hjoin (hof L') B.Hf)) (w2.putObj (w.heap.size + 1) (.loop (rec .ready none))) (w2.putObj (w.heap.size + 1) (.loop (rec .ready none))) := .of hsub.1.1.base
        refine ⟨_, _, run_endRound none hl2, .inl ⟨rfl, _, ⟨_, L', nx'', rfl, hI', hs.fs hBnf (by simpa [hrec] using f1), by simpa [hrec] using f2, by simpa [hrec] using f3⟩, ?_⟩⟩
        have k6 := (fk (rec .ready none)).trans k5
        simpa [hrec] using k6
      · rename_i id
        obtain ⟨f1, f2, f3⟩ := fin (rec .done (some (.exit id)))
        exact ⟨_, _, run_endRound (some (.exit id)) hl2, .inr ⟨rfl, .exit id, .exit id, γ2, H2, nx2, .inr ⟨id, rfl, rfl⟩, hq2, by simpa [hrec] using f1, by simpa [hrec] using f2, by simpa [hrec] using f3⟩⟩
      · obtain ⟨f1, f2, f3⟩ := fin (rec .done (some .ret))
        exact ⟨_, _, run_endRound (some .ret) hl2, .inr ⟨rfl, .ret, .ret, γ2, H2, nx2, .inl ⟨rfl, rfl⟩, hq2, by simpa [hrec] using f1, by simpa [hrec] using f2, by simpa [hrec] using f3⟩⟩
    · exact hq.elim
    · exact hq.elim
  · have hF0' : FZ D N X0 W0 Bn γ0 a w e1 (hof L0) nx0 := by
      obtain ⟨⟨q1, q2⟩, q3⟩ := hF0
      have q1' : FR D N X0 W0 (Bs.now (XOf X0 γ (hjoin H B.Hf)) w γ B.Hf B.lo) γ0 a w e1 (hjoin (hof L0) B.Hf) := q1
      refine ⟨⟨⟨by rw [hBnH]; exact q1'.st, by rw [hBnH]; exact q1'.env, q1'.size, ?_, by rw [hBnH, hBnX, hBnW, hX]; exact Keeps.refl _ _, by rw [← hnowpin]; exact q1'.pin, fun _ _ _ _ _ b _ _ _ => hBnM b⟩, q2⟩, by rw [hBnH]; exact q3⟩
      obtain ⟨Ks', h1, h2, h3⟩ := q1'.marks
      exact ⟨Ks', h1, h2, fun K hK => ⟨(h3 K hK).1, (h3 K hK).2.1, by rw [hBnH]; exact (h3 K hK).2.2.1, hBnM _, by rw [hBnL]; exact (h3 K hK).2.2.2.2⟩⟩
    exact ⟨γ0, L0, nx0, hX, hI0, hFe hF0' hx1, hD1, hL1⟩
  · rintro e3 W3 ⟨⟨v, rfl⟩, (⟨Y3, γ3, L3, nx3, _, h1, h2, h3, h4⟩ | ⟨c, y, γ3, H3, nx3, hc, h1, h2, h3, h4⟩)⟩
    · refine ⟨_, _, run_endLoop h4 (by rw [hrec]; simp), ?_⟩
      rw [hrec]
      exact ⟨.normal, γ3, e1, hof L3, nx3, rfl, hend γ3 _ nx3 W3 _ _ h2 h3 h4, hdone L3 nx3 h1⟩
    · refine ⟨_, _, run_endLoop h4 (by rw [hrec]; simp), ?_⟩
      rw [hrec]
      have hfin := hend γ3 _ nx3 W3 _ { state := LoopState.exhausted, pending := some c, fn, tmps := a.tmps, params := (pl.map Slot.idx).toArray, assign := asn, body, defers := w.heap.size } h2 h3 h4
      rcases hc with ⟨rfl, rfl⟩ | ⟨id, rfl, rfl⟩
      · exact wpIn_ret ⟨.ret, γ3, e1, H3, nx3, rfl, hfin, h1⟩
      · exact wpIn_exit ⟨.exit id, γ3, e1, H3, nx3, rfl, hfin, h1⟩

theorem plain_l {a b : Bool} {F : Prop} (h : (a && b) = true ∨ F) : a = true ∨ F := by
  rcases h with h | h
  · simp at h; exact .inl h.1
  · exact .inr h
theorem plain_r {a b : Bool} {F : Prop} (h : (a && b) = true ∨ F) : b = true ∨ F := by
  rcases h with h | h
  · simp at h; exact .inl h.2
  · exact .inr h


/-- A scope through which the run goes without a goto. -/
theorem wpIn_scope_straight {F : Fence} {n : Nat} {P : Program} {c : Code} {Q : Exit → Act → World → Prop} {a : Act} {w : World} (h : c.wpIn F n P (Exit.noGoto Q) a w) : (Code.scope c).wpIn F n P Q a w := by
  intro b k cs hro hb hr
  have h0 : (lone (b.atR a (.code (.scope c) :: k)) cs w).fenced P F := fenced_calm hb hr rfl
  have s1 : step P (lone (b.atR a (.code (.scope c) :: k)) cs w) = .next (lone (b.atR a (.code c :: .inScope c :: k)) cs w) := step_lone_go (by simp [stepG, stepG.exec, Frame.atR])
  have s2 : ∀ a w, step P (lone (b.atR a (.inScope c :: k)) cs w) = .next (lone (b.atR a k) cs w) := fun a w => step_lone_go (by simp [stepG, stepG.exec, Frame.atR])
  obtain ⟨e, a₁, w₁, hq, harr⟩ := h b (.inScope c :: k) cs hro hb hr
  cases e with
  | normal => exact ⟨.normal, a₁, w₁, hq, .head h0 s1 (StepsIn.trans harr (.one (fenced_calm hb hr rfl) (s2 a₁ w₁)))⟩
  | exit id =>
    have hx : exitTo id (.inScope c :: k) = exitTo id k := by simp [exitTo]
    exact ⟨.exit id, a₁, w₁, hq, fun k' hk => .head h0 s1 (harr.1 k' (by rw [hx]; exact hk)),
      fun hr' hk => let ⟨k₁, h1, h2⟩ := harr.2 hr' (by rw [hx]; exact hk); ⟨k₁, h1, .head h0 s1 h2⟩⟩
  | goto l => exact hq.elim
  | ret => exact ⟨_, a₁, w₁, hq, .of_steps (.one h0 s1) harr⟩
  | panic ch => exact ⟨_, a₁, w₁, hq, .of_steps (.one h0 s1) harr⟩
  | outgrown => exact ⟨_, a₁, w₁, hq, .of_steps (.one h0 s1) harr⟩

/-- The evaluator tells of the model's run. -/
theorem awp_sound {c : Code} {ac : ACode} (tr : TrCode P D N c ac) : ∀ (ro : Option Nat) (n : Nat) (Q : AX → T → Heap → Nat → Prop) (B : Bs) (_hm : plainB ac = true ∨ (B.free ∧ ro = none)) (γ : Nat → Option Value) (a : Act) (w : World) (e : T) (H : Heap) (nx : Nat), FZ D N X0 W0 B γ a w e H nx → awp P ac Q e H nx → c.wpIn (FW ro) n P (lift D N X0 W0 B Q) a w := by
  induction tr with
  | skip => exact fun ro n Q B hm γ a w e H nx hF h => wpIn_skip ⟨_, γ, e, H, nx, rfl, hF, h⟩
  | ret => exact fun ro n Q B hm γ a w e H nx hF h => wpIn_ret ⟨_, γ, e, H, nx, rfl, hF, h⟩
  | bad => exact fun ro n Q B hm γ a w e H nx hF h => h.elim
  | label => exact fun ro n Q B hm γ a w e H nx hF h => wpIn_label ⟨_, γ, e, H, nx, rfl, hF, h⟩
  | scope _ ih =>
    intro ro n Q B hm γ a w e H nx hF h
    refine wpIn_scope_straight (wpIn_mono (ih ro n Q B hm γ a w e H nx hF h) ?_)
    rintro x a' w' ⟨y, γ', e', H', nx', hy, hF', hq⟩
    cases x <;> simp only [AX.of] at hy <;> (try cases hy)
    · exact ⟨_, γ', e', H', nx', rfl, hF', hq⟩
    · exact ⟨_, γ', e', H', nx', rfl, hF', hq⟩
    · exact ⟨_, γ', e', H', nx', rfl, hF', hq⟩
  | exit => exact fun ro n Q B hm γ a w e H nx hF h => wpIn_exit ⟨_, γ, e, H, nx, rfl, hF, h⟩
  | frz _ hp ih =>
    intro ro n Q B hm γ a w e H nx hF h
    refine wpIn_mono (ih ro n _ B (plain_l hm) γ a w e H nx hF h) ?_
    rintro x a' w' ⟨y, γ', e', H', nx', hy, hF', hq⟩
    cases x <;> simp only [AX.of] at hy <;> (try cases hy)
    · exact ⟨_, γ', _, _, nx', rfl, frz1_fs hp hF', hq⟩
    · exact ⟨_, γ', e', H', nx', rfl, hF', hq⟩
    · exact ⟨_, γ', e', H', nx', rfl, hF', hq⟩
  | frzb _ hp ih =>
    intro ro n Q B hm γ a w e H nx hF h
    exact ih ro n Q B (plain_r hm) γ a w _ _ nx (frz1_fs hp hF) h
  | @reg id ops draw os hreg =>
    intro ro n Q B hm γ a w e H nx hF h
    exact hreg X0 W0 B γ a w e H nx _ _ ro n (hm.elim Or.inl (fun h => Or.inr h.1.2.1)) hF h.1 h.2 (fun γ' a' w' e' H' hk hF' => ⟨_, γ', e', H', _, rfl, hF', hk⟩)
  | seq _ _ iha ihb =>
    intro ro n Q B hm γ a w e H nx hF h
    refine wpIn_seq (wpIn_mono (iha ro n _ B (plain_l hm) γ a w e H nx hF h) ?_)
    rintro x a' w' ⟨y, γ', e', H', nx', hy, hF', hq⟩
    cases x <;> simp only [AX.of] at hy <;> (try cases hy)
    · exact ihb ro n Q B (plain_r hm) γ' a' w' e' H' nx' hF' hq
    · exact ⟨_, γ', e', H', nx', rfl, hF', hq⟩
    · exact ⟨_, γ', e', H', nx', rfl, hF', hq⟩
  | cond hc _ _ iht ihf =>
    intro ro n Q B hm γ a w e H nx hF h
    obtain ⟨h1, h2, h3⟩ := h
    refine wpIn_cond (cval_ok hc hF.1.1.env h1) ?_
    cases hb : cval e _ with
    | true => rw [if_pos rfl]; exact iht ro n Q B (plain_l hm) γ a w e H nx hF (h2 hb)
    | false => rw [if_neg (by simp)]; exact ihf ro n Q B (plain_r hm) γ a w e H nx hF (h3 hb)
  | @block id _ _ _ ih =>
    intro ro n Q B hm γ a w e H nx hF h
    refine wpIn_block (wpIn_mono (ih ro n _ B hm γ a w e H nx hF h) ?_)
    rintro x a' w' ⟨y, γ', e', H', nx', hy, hF', hq⟩
    cases x <;> simp only [AX.of] at hy <;> (try cases hy)
    · exact ⟨_, γ', e', H', nx', rfl, hF', hq⟩
    · rename_i id'
      simp only [Exit.inBlock]
      simp only at hq
      split at hq
      · rename_i hid
        first | (rw [if_pos hid]; exact ⟨_, γ', e', H', nx', rfl, hF', hq⟩) | (rw [if_pos hid.symm]; exact ⟨_, γ', e', H', nx', rfl, hF', hq⟩)
      · rename_i hid
        first | (rw [if_neg hid]; exact ⟨_, γ', e', H', nx', rfl, hF', hq⟩) | (rw [if_neg (Ne.symm hid)]; exact ⟨_, γ', e', H', nx', rfl, hF', hq⟩)
    · exact ⟨_, γ', e', H', nx', rfl, hF', hq⟩
  | loop _ ih =>
    intro ro n Q B hm γ a w e H nx hF h
    obtain ⟨hm, hro⟩ : B.free ∧ ro = none := hm.resolve_left (by simp [plainB])
    obtain ⟨I, ⟨n0, g0, e0, L0, nx0, hI0, hs0⟩, hb⟩ := h
    refine wpIn_loop_n (fun n a w => ∃ γ e L nx, I n e L nx ∧ FZ D N X0 W0 B γ a w e (hof L) nx) ⟨n0, _, e0, L0, nx0, hI0, hs0.fs hm.1 hF⟩ ?_
    rintro m a w ⟨γ, e, L, nx, hI, hF⟩
    refine wpIn_mono (ih ro n _ B (.inr ⟨hm, hro⟩) γ a w e (hof L) nx hF (hb m e L nx hI)) ?_
    rintro x a' w' ⟨y, γ', e', H', nx', hy, hF', hq⟩
    cases x <;> simp only [AX.of] at hy <;> (try cases hy)
    · obtain ⟨m, g, e'', L', nx'', hlt, hI', hs⟩ := hq
      exact ⟨m, hlt, _, e'', L', nx'', hI', hs.fs hm.1 hF'⟩
    · exact ⟨_, γ', e', H', nx', rfl, hF', hq⟩
    · exact ⟨_, γ', e', H', nx', rfl, hF', hq⟩
  | @rng g g' ps asn body asn' body' pl hg hps hp _ _ pa pb iha ihb =>
    intro ro n Q B hm γ a w e H nx hF h
    obtain ⟨hmf, rfl⟩ : B.free ∧ ro = none := hm.resolve_left (by simp [plainB])
    subst hps
    exact rng_sound hg hp (fun l Q B γ a w e H nx hF h => iha (some l) 0 Q B (.inl pa) γ a w e H nx hF h) (fun l Q B γ a w e H nx hF h => ihb (some l) 0 Q B (.inl pb) γ a w e H nx hF h) hmf hF h

end

end Go.Proofs.Ytndpejmebhcaaaa
/- A function's contract out of its body; the translation of a body into the evaluator's own code, by a function. -/
namespace Go.Proofs.Ytndpejmebhcaaaa
open Go.RowKit

/-- The lowest D bits of a number. -/
def bits : Nat → Nat → Slot
  | 0, _ => []
  | D + 1, n => (n % 2 == 1) :: bits D (n / 2)
theorem bits_length : ∀ (D n : Nat), (bits D n).length = D
  | 0, _ => rfl
  | D + 1, n => by simp [bits, bits_length D]
theorem idx_bits : ∀ (D n : Nat), n < 2 ^ D → (bits D n).idx = n
  | 0, n, h => by simp at h; subst h; rfl
  | D + 1, n, h => by
    have h2 : n / 2 < 2 ^ D := by rw [Nat.pow_succ] at h; omega
    simp only [bits, Slot.idx, idx_bits D _ h2]
    by_cases hm : n % 2 = 1
    · simp [hm]; omega
    · simp [hm]; omega

/-- The slots at a function's entry. -/
def setAll (D : Nat) (e : T) : Nat → List DV → T
  | _, [] => e
  | i, a :: as => setAll D (e.set (bits D i) (.d a)) (i + 1) as
theorem setAll_get (D : Nat) {p : Slot} (hp : p.length = D) : ∀ (as : List DV) (e : T) (i : Nat), i + as.length ≤ 2 ^ D → ((setAll D e i as).get p = e.get p ∧ (p.idx < i ∨ i + as.length ≤ p.idx)) ∨ ∃ k, ∃ h : k < as.length, p.idx = i + k ∧ (setAll D e i as).get p = .d as[k]
  | [], e, i, _ => .inl ⟨rfl, by simp; omega⟩
  | a :: as, e, i, hle => by
    simp only [List.length_cons] at hle
    rcases setAll_get D hp as (e.set (bits D i) (.d a)) (i + 1) (by omega) with ⟨h1, h2⟩ | ⟨k, hk, h1, h2⟩
    · by_cases hpi : p.idx = i
      · right
        have : bits D i = p := Slot.idx_inj ((bits_length D i).trans hp.symm) ((idx_bits D i (by omega)).trans hpi.symm)
        refine ⟨0, by simp, by omega, ?_⟩
        show (setAll D (e.set (bits D i) (.d a)) (i + 1) as).get p = _
        rw [h1, this, T.get_set]
        rfl
      · left
        have : bits D i ≠ p := fun h => hpi (by rw [← h]; exact idx_bits D i (by omega))
        refine ⟨?_, by simp only [List.length_cons]; omega⟩
        simp only [setAll, h1]
        exact T.get_set_ne _ _ _ _ ((bits_length D i).trans hp.symm) this
    · exact .inr ⟨k + 1, by simpa using hk, by omega, by simpa [setAll] using h2⟩

def initT (D : Nat) (as : List DV) : T := setAll D (.leaf (.d .top)) 0 as

inductive ARes where
  | tmp (p : Slot)
  | cell (p : Slot) (k : Option Nat)
def ARes.val (e : T) (H : Heap) : ARes → AV
  | .tmp p => e.get p
  | .cell p k => ldV H k (e.get p)
def ARes.ok (e : T) (H : Heap) : ARes → Prop
  | .tmp p => (e.get p).live
  | .cell p k => ldOk H k (e.get p)
def resV (e : T) (H : Heap) : List ARes → AV
  | [x] => x.val e H
  | xs => mkTup (xs.map (·.val e H))
/-- What a function hands back is right. -/
def Res (rs : List ARes) (r : DV) (x : AX) (e : T) (H : Heap) : Prop :=
  (match x with | .exit _ => False | _ => True) ∧ (∀ y ∈ rs, y.ok e H) ∧ ∃ d, frz true H 5 (resV e H rs) = some d ∧ DLe d r

inductive TrRes (P : Program) (D : Nat) : ResultVar → ARes → Prop
  | tmp (p : Slot) (hp : p.length = D) : TrRes P D (.tmp p.idx) (.tmp p)
  | cell1 {t d} (p : Slot) (hp : p.length = D) (hu : P.underlying t = some d) (hd : (match d with | .struct _ | .array _ _ => true | _ => false) = false) : TrRes P D (.cell p.idx t) (.cell p none)
  | cellk {t d inf} (p : Slot) (hp : p.length = D) (hu : P.underlying t = some d) (hd : (∃ fs, d = .struct fs) ∨ (∃ n e, d = .array n e)) (hi : P.info? t = some inf) : TrRes P D (.cell p.idx t) (.cell p (some inf.size))

section
variable {P : Program} {D N : Nat} {X0 : Nat → Nat → Prop} {W0 : World} {γ : Nat → Option Value} {w : World} {H : Heap} {a : Act} {e : T}

theorem run_mapM {α β : Type} {f : α → Sem β} : ∀ (l : List α) (r : List β), l.length = r.length → (∀ i (h : i < l.length) (h' : i < r.length), (f l[i]).run P w = .ok r[i] w) → (l.mapM f).run P w = .ok r w
  | [], [], _, _ => by simp
  | a :: l, b :: r, hl, h => by
    have h0 := h 0 (by simp) (by simp)
    have ih := run_mapM l r (by simpa using hl) (fun i hi hi' => h (i + 1) (by simpa using hi) (by simpa using hi'))
    simp only [List.getElem_cons_zero] at h0
    simp [List.mapM_cons, h0, ih]
  | [], b :: r, hl, _ => by simp at hl
  | a :: l, [], hl, _ => by simp at hl

theorem run_mapM_array {α β : Type} {f : α → Sem β} (l : Array α) (r : List β) (hl : l.size = r.length) (h : ∀ i (h : i < l.toList.length) (h' : i < r.length), (f l.toList[i]).run P w = .ok r[i] w) : (l.mapM f).run P w = .ok r.toArray w := by
  have hm := run_mapM (P := P) (w := w) l.toList r (by simpa using hl) h
  have e : l.mapM f = Functor.map List.toArray (l.toList.mapM f) := by
    conv => lhs; rw [← Array.toArray_toList (xs := l)]
    rw [List.mapM_toArray]
  rw [e]
  simp [hm]

theorem load_at {t : TypeId} {v v' : Value} {p : AV} (hp : Rep γ (XOf X0 γ H) w v p) (hi : ∀ k, ldOk H k p → isPtr p = true) {k : Option Nat} (hok : ldOk H k p) (h : (Instr.loadAt t v).run P w = .ok v' w) : (do loadVar t (← asAddr v) : Sem Value).run P w = .ok v' w := by
  have hptr := hi k hok
  have : ∃ ad, v = .pointer (some ad) := by
    cases hp with
    | d _ x h => cases h with
      | cref => exact ⟨_, rfl⟩
      | _ => simp [isPtr] at hptr
    | ptr => exact ⟨_, rfl⟩
    | el => exact ⟨_, rfl⟩
    | _ => simp [isPtr] at hptr
  obtain ⟨ad, rfl⟩ := this
  simpa [Instr.loadAt, Instr.sureAddr, asAddr] using h

theorem ldOk_ptr {k : Option Nat} {p : AV} (h : ldOk H k p) : isPtr p = true := by
  unfold ldOk at h
  split at h
  · rfl
  · rfl
  · rfl
  · exact h.elim

theorem TrRes.sound {rv : ResultVar} {ar : ARes} (tr : TrRes P D rv ar) (hS : St X0 W0 γ w H) (hE : EnvRep D γ (XOf X0 γ H) w a e) (hok : ar.ok e H) :
    ∃ v, ((match rv with | .tmp t => pure (a.tmps.getD t undef) | .cell ad t => do loadVar t (← asAddr (a.tmps.getD ad undef)) : Sem Value).run P w) = .ok v w ∧ (Rep γ (XOf X0 γ H) w v (ar.val e H).strip ∨ Rep γ (XOf X0 γ H) w v (ar.val e H)) := by
  cases tr with
  | tmp p hp => exact ⟨_, rfl, .inr (hE p hp)⟩
  | cell1 p hp hu hd =>
    obtain ⟨v', hr, hv⟩ := run_ld1 hu hd hS (hE p hp) hok
    exact ⟨v', load_at (hE p hp) (fun k => ldOk_ptr) hok hr, .inr hv⟩
  | cellk p hp hu hd hi =>
    obtain ⟨v', hr, hv⟩ := run_ldk hu hd hi rfl hS (hE p hp) hok
    exact ⟨v', load_at (hE p hp) (fun k => ldOk_ptr) hok hr, .inr hv⟩

theorem TrRes.sound' {rv : ResultVar} {ar : ARes} (tr : TrRes P D rv ar) (hS : St X0 W0 γ w H) (hE : EnvRep D γ (XOf X0 γ H) w a e) (hok : ar.ok e H) :
    ∃ v, ((match rv with | .tmp t => pure (a.tmps.getD t undef) | .cell ad t => do loadVar t (← asAddr (a.tmps.getD ad undef)) : Sem Value).run P w) = .ok v w ∧ Rep γ (XOf X0 γ H) w v (ar.val e H) := by
  cases tr with
  | tmp p hp => exact ⟨_, rfl, hE p hp⟩
  | cell1 p hp hu hd =>
    obtain ⟨v', hr, hv⟩ := run_ld1 hu hd hS (hE p hp) hok
    exact ⟨v', load_at (hE p hp) (fun k => ldOk_ptr) hok hr, hv⟩
  | cellk p hp hu hd hi =>
    obtain ⟨v', hr, hv⟩ := run_ldk hu hd hi rfl hS (hE p hp) hok
    exact ⟨v', load_at (hE p hp) (fun k => ldOk_ptr) hok hr, hv⟩

theorem results_rep {fn : Func} {rs : List ARes} (hl : fn.results.size = rs.length) (htr : ∀ i (h : i < fn.results.toList.length) (h' : i < rs.length), TrRes P D fn.results.toList[i] rs[i]) (hS : St X0 W0 γ w H) (hE : EnvRep D γ (XOf X0 γ H) w a e) (hok : ∀ y ∈ rs, y.ok e H) :
    ∃ v, (results fn a.tmps).run P w = .ok v w ∧ Rep γ (XOf X0 γ H) w v (resV e H rs) := by
  have hex : ∃ vs : List Value, vs.length = rs.length ∧ ∀ i (h : i < rs.length) (h' : i < vs.length), (∃ hr : i < fn.results.toList.length, ((match fn.results.toList[i] with | .tmp t => pure (a.tmps.getD t undef) | .cell ad t => do loadVar t (← asAddr (a.tmps.getD ad undef)) : Sem Value).run P w) = .ok vs[i] w) ∧ Rep γ (XOf X0 γ H) w vs[i] (rs[i].val e H) := by
    have hall : ∀ i (h : i < rs.length), ∃ v, (∃ hr : i < fn.results.toList.length, ((match fn.results.toList[i] with | .tmp t => pure (a.tmps.getD t undef) | .cell ad t => do loadVar t (← asAddr (a.tmps.getD ad undef)) : Sem Value).run P w) = .ok v w) ∧ Rep γ (XOf X0 γ H) w v (rs[i].val e H) := by
      intro i hi
      have hi' : i < fn.results.toList.length := by simpa [hl] using hi
      obtain ⟨v, h1, h2⟩ := (htr i hi' hi).sound' hS hE (hok _ (List.getElem_mem hi))
      exact ⟨v, ⟨hi', h1⟩, h2⟩
    refine ⟨List.ofFn (fun i : Fin rs.length => Classical.choose (hall i.1 i.2)), by simp, fun i hi hi' => ?_⟩
    simp only [List.getElem_ofFn]
    exact Classical.choose_spec (hall i hi)
  obtain ⟨vs, hvl, hvs⟩ := hex
  have hm := run_mapM_array (P := P) (w := w) (f := fun rv => (match rv with | .tmp t => pure (a.tmps.getD t undef) | .cell ad t => do loadVar t (← asAddr (a.tmps.getD ad undef)) : Sem Value)) fn.results vs (by rw [hl, hvl]) (fun i hi hi' => by
    obtain ⟨⟨_, h1⟩, _⟩ := hvs i (by omega) hi'
    exact h1)
  have hreps : Reps γ (XOf X0 γ H) w vs (rs.map (·.val e H)) := ⟨by simp [hvl], fun i hi hi' => by
    simp only [List.getElem_map]
    exact (hvs i (by omega) hi).2⟩
  refine ⟨if h : vs.toArray.size = 1 then vs.toArray[0] else .tuple vs.toArray, ?_, ?_⟩
  · unfold results
    simp only [Sem.run_bind]
    exact (congrArg (fun r => Result.andThen r _) hm).trans rfl
  · by_cases h1 : rs.length = 1
    · obtain ⟨x, rfl⟩ := List.length_eq_one_iff.1 h1
      obtain ⟨v, rfl⟩ := List.length_eq_one_iff.1 (hvl.trans h1)
      have := hreps.2 0 (by simp) (by simp)
      simpa [resV] using this
    · rw [dif_neg (by simp [hvl, h1])]
      have : resV e H rs = mkTup (rs.map (·.val e H)) := by
        unfold resV
        split
        · simp at h1
        · rfl
      rw [this]
      exact Rep.mkTup hreps

/-- At the function's end the marks are taken away, one by one. -/
theorem leaves_marks {fn : Func} {R : Ending → World → Prop} {n : Nat} {tmps : Array Value} : ∀ (Ks : List Nat) (w : World), Ks.Nodup → (∀ K, K ∈ Ks → W0.heap.size ≤ K ∧ w.heap[K]? = some (.deferred (some []))) → St X0 W0 γ w H →
    (∀ w', St X0 W0 γ w' H → (∀ v x, Rep γ (XOf X0 γ H) w v x → Rep γ (XOf X0 γ H) w' v x) → ∃ v, (results fn tmps).run P w' = .ok v w' ∧ R (.returned v) w') →
    LeavesInM Fence.wide n P fn tmps R (Ks.map markOf) .returning w
  | [], w, _, _, hS, h => h w hS (fun _ _ h => h)
  | K :: Ks, w, hnd, hm, hS, h => by
    obtain ⟨h1, h2⟩ := hm K (by simp)
    obtain ⟨hS', hr⟩ := hS.mark (o' := .deferred none) h1 h2 rfl
    have hnd' := List.nodup_cons.1 hnd
    refine ⟨by simp, .inl ⟨K, _, rfl, run_takeDeferred h2, ?_⟩⟩
    refine leaves_marks Ks _ hnd'.2 (fun K' hK' => ⟨(hm K' (by simp [hK'])).1, ?_⟩) hS' (fun w' hS'' hr' => h w' hS'' (fun v x hv => hr' v x (hr v x hv)))
    exact (World.putObj_heap_other (fun e => hnd'.1 (by rw [← e]; exact hK'))).trans (hm K' (by simp [hK'])).2

/-- The base of a whole call. -/
def Bs.top (X0 : Nat → Nat → Prop) (W0 : World) : Bs := ⟨X0, W0, fun _ => none, fun _ => True, hnil, 0⟩
theorem Bs.top_free : (Bs.top X0 W0).free := ⟨fun _ _ h => (by cases h), fun _ => trivial, Nat.zero_le _⟩
theorem FZ.top {B : Bs} {nx : Nat} (hB : B.Hf = hnil) (h : FR D N X0 W0 B γ a w e H) (hfr : ∀ k, nx ≤ k → γ k = none) : FZ D N X0 W0 B γ a w e H nx := by
  refine ⟨⟨?_, fun k hk _ => hfr k hk⟩, ?_⟩
  · rw [hB, hjoin_nil]; exact h
  · rw [hB]; intro k o hk; cases hk
theorem FZ.untop {B : Bs} {nx : Nat} (hB : B.Hf = hnil) (h : FZ D N X0 W0 B γ a w e H nx) : FR D N X0 W0 B γ a w e H := by
  have := h.1.1
  rw [hB, hjoin_nil] at this
  exact this

/-- A function's calls; R: what is known of what comes back. -/
theorem acalls {F : FuncId} {fn : Func} {c : Code} {ac : ACode} {as : List DV} {rs : List ARes} {Q : T → Heap → Prop} {R : (Nat → Nat → Prop) → World → Value → World → Prop} (D : Nat) (hf : P.funcs[F]? = some fn) (hn : (fn.name == "runtime.NumGoroutine") = false) (hb : fn.body = some c) (hN : fn.ntmps ≤ 2 ^ D) (hargs : as.length ≤ fn.ntmps)
    (tr : TrCode P D fn.ntmps c ac) (hl : fn.results.size = rs.length) (htr : ∀ i (h : i < fn.results.toList.length) (h' : i < rs.length), TrRes P D fn.results.toList[i] rs[i])
    (hQ : ∀ X w γ e H v w', Q e H → St X w γ w' H → Rep γ (XOf X γ H) w' v (resV e H rs) → R X w v w')
    (h : (∃ X w vs, DReps X w vs as) → awp P ac (fun x e H _ => (match x with | .exit _ => False | _ => True) ∧ (∀ y ∈ rs, y.ok e H) ∧ Q e H) (initT D as) hnil 0) :
    HasBody P F ∧ ∀ (X : Nat → Nat → Prop) (w : World) (vs : Array Value), (∀ b o, X b o → b < w.heap.size) → DReps X w vs.toList as → Calls P F vs w fun e w' => Ext w w' ∧ ∃ v, e = .returned v ∧ R X w v w' := by
  refine ⟨⟨fn, c, hf, hn, hb⟩, fun X w vs hX hvs => ?_⟩
  refine (callsIn_wide (n := 0)).1 (callsIn_of_wp_marks (F := Fence.wide) hf hb trivial ?_ rfl)
  have hvl : vs.size = as.length := by simpa using hvs.1
  have hF : FZ D fn.ntmps X w (Bs.top X w) (fun _ => none) { tmps := vs ++ Array.replicate (fn.ntmps - vs.size) undef, defers := [] } w (initT D as) hnil 0 := by
    have hXO : ∀ b q, XOf X (fun _ => none) hnil b q → X b q := by
      rintro b q (h | ⟨_, _, _, h, _⟩)
      · exact h
      · cases h
    refine FZ.top rfl ⟨⟨hX, Ext.refl w, (fun id o h => by cases h), (fun id id' o o' v v' b h => by cases h)⟩, fun p hp => ?_, by simp [hvl]; omega, ⟨[], rfl, List.nodup_nil, fun K hK => by cases hK⟩, .same fun b q _ hb => hXO b q hb, fun id v hv => (by cases hv), fun id kd n f v b h => (by cases h)⟩ fun _ _ => rfl
    rcases setAll_get D hp as (.leaf (.d .top)) 0 (by omega) with ⟨h1, h2⟩ | ⟨k, hk, h1, h2⟩
    · unfold initT
      rw [h1]
      exact .top _
    · unfold initT
      rw [h2]
      have hk' : k < vs.size := by omega
      have e1 : (vs ++ Array.replicate (fn.ntmps - vs.size) undef).getD p.idx undef = vs.toList[k]'(by simpa using hk') := by
        rw [h1, Nat.zero_add, Array.getD_eq_getD_getElem?, Array.getElem?_append_left hk', Array.getElem?_eq_getElem hk']
        simp
      show Rep _ _ _ ((vs ++ Array.replicate (fn.ntmps - vs.size) undef).getD p.idx undef) _
      rw [e1]
      exact .d _ _ ((hvs.2 k (by simpa using hk') hk).mono (.same fun b q _ hb => hXO b q hb))
  refine wpIn_mono (awp_sound tr none 0 _ _ (.inr ⟨Bs.top_free, rfl⟩) _ _ _ _ _ _ hF (h ⟨X, w, _, hvs⟩)) ?_
  rintro x a' w' ⟨y, γ', e', H', nx', hy, hF', hq⟩
  obtain ⟨hx, hok, hq⟩ := hq
  have fin : LeavesInM Fence.wide 0 P fn a'.tmps (fun e w' => Ext w w' ∧ ∃ v, e = .returned v ∧ R X w v w') a'.defers .returning w' := by
    have hR := hF'.untop rfl
    obtain ⟨Ks, h1, h2, h3⟩ := hR.marks
    rw [h1]
    refine leaves_marks Ks w' h2 (fun K hK => ⟨(h3 K hK).1, (h3 K hK).2.1⟩) hR.st (fun w'' hS hr => ?_)
    obtain ⟨v, hr, hv⟩ := results_rep hl htr hS (fun p hp => hr _ _ (hR.env p hp)) hok
    exact ⟨v, hr, hS.ext, v, rfl, hQ _ _ _ _ _ _ _ hq hS hv⟩
  cases x <;> simp only [AX.of] at hy <;> (try cases hy)
  · exact fin
  · exact hx.elim
  · exact fin

/-- A function's contract. -/
theorem apure {F : FuncId} {fn : Func} {c : Code} {ac : ACode} {as : List DV} {rs : List ARes} {r : DV} (D : Nat) (hf : P.funcs[F]? = some fn) (hn : (fn.name == "runtime.NumGoroutine") = false) (hb : fn.body = some c) (hN : fn.ntmps ≤ 2 ^ D) (hargs : as.length ≤ fn.ntmps)
    (tr : TrCode P D fn.ntmps c ac) (hl : fn.results.size = rs.length) (htr : ∀ i (h : i < fn.results.toList.length) (h' : i < rs.length), TrRes P D fn.results.toList[i] rs[i])
    (h : (∃ X w vs, DReps X w vs as) → awp P ac (fun x e H _ => Res rs r x e H) (initT D as) hnil 0) : APure P F as r :=
  acalls (R := fun X _ v w' => DRep X w' v r) D hf hn hb hN hargs tr hl htr (fun X w γ e H v w' hq hS hv => by
    obtain ⟨d, hd, hle⟩ := hq
    exact hle _ _ _ (frz_rep hS 5 hv hd)) h

/-- What a function hands back is a row of its own making. -/
def OwnRes (rs : List ARes) (te : TypeId) (n len : Nat) (row : Nat → List DV) (x : AX) (e : T) (H : Heap) : Prop :=
  (match x with | .exit _ => False | _ => True) ∧ (∀ y ∈ rs, y.ok e H) ∧ match resV e H rs with
    | .own id l => l = len ∧ (match hget H id with | some (.row te' n' l' row') => te' = te ∧ n' = n ∧ l' = len ∧ ∀ i, i < len → row' i = row i | _ => False)
    | .d (.lit (.slice none 0 0)) => len = 0
    | _ => False

theorem aown {F : FuncId} {fn : Func} {c : Code} {ac : ACode} {as : List DV} {rs : List ARes} {te : TypeId} {n len : Nat} {row : Nat → List DV} (D : Nat) (hf : P.funcs[F]? = some fn) (hn : (fn.name == "runtime.NumGoroutine") = false) (hb : fn.body = some c) (hN : fn.ntmps ≤ 2 ^ D) (hargs : as.length ≤ fn.ntmps)
    (tr : TrCode P D fn.ntmps c ac) (hl : fn.results.size = rs.length) (htr : ∀ i (h : i < fn.results.toList.length) (h' : i < rs.length), TrRes P D fn.results.toList[i] rs[i])
    (h : (∃ X w vs, DReps X w vs as) → awp P ac (fun x e H _ => OwnRes rs te n len row x e H) (initT D as) hnil 0) : AOwn P F as te n len row :=
  acalls (R := fun X w v w' => ∃ xs : Nat → List Value, w'.ownsRow w.heap.size te n v len ((List.range len).flatMap xs) ∧ ∀ i, i < len → (xs i).length = n ∧ DReps (fun b o => X b o ∨ (blk v = some b ∧ len * n ≤ o)) w' (xs i) (row i)) D hf hn hb hN hargs tr hl htr (fun X w γ e H v w' hq hS hv => by
    split at hq
    · rename_i id l hres
      obtain ⟨rfl, hq⟩ := hq
      split at hq
      · rename_i te' n' l' row' ho
        obtain ⟨rfl, rfl, rfl, hrow⟩ := hq
        rw [hres] at hv
        cases hv with
        | own _ _ _ hγ =>
          obtain ⟨u, hu, xs, hown, hxs⟩ := hS.obj id _ ho
          rw [hγ] at hu
          injection hu with hu
          subst hu
          refine ⟨xs, hown, fun i hi => ⟨(hxs i hi).1, ?_⟩⟩
          rw [← hrow i hi]
          refine (hxs i hi).2.mono (.same ?_)
          rintro b q _ (hX | ⟨h1, h2⟩)
          · exact .inl hX
          · exact .inr ⟨id, _, _, ho, hγ, h1, h2⟩
      · exact hq.elim
    · rename_i hres
      subst hq
      rw [hres] at hv
      cases hv with
      | d _ _ hd =>
        cases hd
        exact ⟨fun _ => [], by simpa using World.ownsRow_nil _ _ _ _, fun i hi => by omega⟩
    · exact hq.elim) h

/-- What a function hands back is a row of its own making, whose elements may turn. -/
def OwnResV (rs : List ARes) (te : TypeId) (n len : Nat) (row : Nat → List DV) (x : AX) (e : T) (H : Heap) : Prop :=
  (match x with | .exit _ => False | _ => True) ∧ (∀ y ∈ rs, y.ok e H) ∧ match resV e H rs with
    | .own id l => l = len ∧ (match hget H id with | some (.vec te' n' l' row') => te' = te ∧ n' = n ∧ l' = len ∧ ∀ i, i < len → row' i = (row i).map .d | _ => False)
    | .d (.lit (.slice none 0 0)) => len = 0
    | _ => False

theorem reps_d {γ : Nat → Option Value} {X : Nat → Nat → Prop} {w : World} {vs : List Value} {ds : List DV} (h : Reps γ X w vs (ds.map .d)) : DReps X w vs ds := by
  refine ⟨by simpa using h.1, fun i hi hi' => ?_⟩
  have := h.2 i hi (by simpa using hi')
  simp only [List.getElem_map] at this
  exact this.dv

theorem aownV {F : FuncId} {fn : Func} {c : Code} {ac : ACode} {as : List DV} {rs : List ARes} {te : TypeId} {n len : Nat} {row : Nat → List DV} (D : Nat) (hf : P.funcs[F]? = some fn) (hn : (fn.name == "runtime.NumGoroutine") = false) (hb : fn.body = some c) (hN : fn.ntmps ≤ 2 ^ D) (hargs : as.length ≤ fn.ntmps)
    (tr : TrCode P D fn.ntmps c ac) (hl : fn.results.size = rs.length) (htr : ∀ i (h : i < fn.results.toList.length) (h' : i < rs.length), TrRes P D fn.results.toList[i] rs[i])
    (h : (∃ X w vs, DReps X w vs as) → awp P ac (fun x e H _ => OwnResV rs te n len row x e H) (initT D as) hnil 0) : AOwnV P F as te n len row :=
  acalls (R := fun X w v w' => ∃ xs : Nat → List Value, w'.ownsRow w.heap.size te n v len ((List.range len).flatMap xs) ∧ ∀ i, i < len → (xs i).length = n ∧ DReps (fun b o => X b o ∨ blk v = some b) w' (xs i) (row i)) D hf hn hb hN hargs tr hl htr (fun X w γ e H v w' hq hS hv => by
    split at hq
    · rename_i id l hres
      obtain ⟨rfl, hq⟩ := hq
      split at hq
      · rename_i te' n' l' row' ho
        obtain ⟨rfl, rfl, rfl, hrow⟩ := hq
        rw [hres] at hv
        cases hv with
        | own _ _ _ hγ =>
          obtain ⟨u, hu, xs, hown, hxs⟩ := hS.obj id _ ho
          rw [hγ] at hu
          injection hu with hu
          subst hu
          refine ⟨xs, hown, fun i hi => ⟨(hxs i hi).1, ?_⟩⟩
          have hr := (hxs i hi).2
          rw [hrow i hi] at hr
          refine (reps_d hr).mono (.same ?_)
          rintro b q _ (hX | h1)
          · exact .inl hX
          · exact .inr ⟨id, _, _, ho, hγ, h1, trivial⟩
      · exact hq.elim
    · rename_i hres
      subst hq
      rw [hres] at hv
      cases hv with
      | d _ _ hd =>
        cases hd
        exact ⟨fun _ => [], by simpa using World.ownsRow_nil _ _ _ _, fun i hi => by omega⟩
    · exact hq.elim) h

/-- A row of its own making, as plain data. -/
theorem AOwn.pure {F : FuncId} {as : List DV} {te : TypeId} {n len : Nat} {row : Nat → List DV} (h : AOwn P F as te n len row) : APure P F as (.sl n len row) := by
  refine ⟨h.1, fun X w vs hX hvs => ?_⟩
  refine (h.2 X w vs hX hvs).mono ?_
  rintro e w' ⟨hx, v, rfl, xs, hown, hxs⟩
  refine ⟨hx, v, rfl, ?_⟩
  have hsub : ∀ b o, XOf X (fun _ => some v) (hadd 0 (.row te n len row) hnil) b o → X b o ∨ (blk v = some b ∧ len * n ≤ o) := by
    rintro b o (h1 | ⟨k, ob, u, h1, h2, h3, h4⟩)
    · exact .inl h1
    · injection h2 with h2
      subst h2
      simp only [hget_add] at h1
      split at h1
      · injection h1 with h1; subst h1; exact .inr ⟨h3, h4⟩
      · cases h1
  have hS : St X w (fun _ => some v) w' (hadd 0 (.row te n len row) hnil) := by
    refine ⟨hX, hx, fun id o ho => ?_, fun id id' o o' _ _ _ ho ho' _ _ _ _ => ?_⟩
    · simp only [hget_add] at ho
      split at ho
      · injection ho with ho
        subst ho
        exact ⟨v, rfl, xs, hown, fun i hi => ⟨(hxs i hi).1, (hxs i hi).2.mono (.same fun b o _ hb => hsub b o hb)⟩⟩
      · cases ho
    · simp only [hget_add] at ho ho'
      split at ho
      · split at ho'
        · omega
        · cases ho'
      · cases ho
  exact (own_rep hS (id := 0) (te := te) (by simp [hget_add]) rfl).mono (.same fun b o _ hb => .inl hb)

end

end Go.Proofs.Ytndpejmebhcaaaa
