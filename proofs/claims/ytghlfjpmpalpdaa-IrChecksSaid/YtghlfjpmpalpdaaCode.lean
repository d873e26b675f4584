/- Code: the evaluator's own, with loops; and that it tells of the model's run. A function's contract out of its body. -/
import Derived.Test.YtghlfjpmpalpdaaRun
import Derived.Test.YtghlfjpmpalpdaaIn
import Derived.RangeFuncRecord
import Derived.RangeFuncSeq
import Derived.RangeFuncLeaves
namespace Go.Proofs.Ytghlfjpmpalpdaa
open Go.RowKit

inductive ACode where
  | skip
  | reg (ops : List AOper)
  | seq (a b : ACode)
  | cond (c : Opd) (t f : ACode)
  | block (id : Nat) (b : ACode)
  | loop (b : ACode)
  | exit (id : Nat)
  | ret
  | frz (p : Slot)
  | rng (g : Opd) (ps : List Slot) (asn body : ACode)
  | bad

/-- No operation makes a map. -/
def noMk (os : List AOper) : Bool := os.all fun o => match o.op with | .mmk _ => false | _ => true
/-- No loop, and no map is made. -/
def plainB : ACode → Bool
  | .reg os => noMk os
  | .seq a b => plainB a && plainB b
  | .cond _ a b => plainB a && plainB b
  | .block _ a => plainB a
  | .loop _ => false
  | .rng _ _ _ _ => false
  | _ => true

/-- Does a slot's content name no object but these? -/
def AV.pinned (pins : List Nat) : AV → Bool
  | .d _ => true
  | .ptr id _ => pins.contains id
  | .mp id => pins.contains id
  | .own id _ => pins.contains id
  | _ => false
def T.pinned (pins : List Nat) : T → Bool
  | .leaf a => a.pinned pins
  | .node l r => l.pinned pins && r.pinned pins
theorem T.pinned_get {pins : List Nat} : ∀ (t : T) (p : Slot), t.pinned pins = true → (t.get p).pinned pins = true
  | .leaf a, p, h => by cases p <;> exact h
  | .node l r, [], h => T.pinned_get l [] (by simp only [T.pinned, Bool.and_eq_true] at h; exact h.1)
  | .node l r, false :: p, h => T.pinned_get l p (by simp only [T.pinned, Bool.and_eq_true] at h; exact h.1)
  | .node l r, true :: p, h => T.pinned_get r p (by simp only [T.pinned, Bool.and_eq_true] at h; exact h.2)

/-- Some slots are set to some data. -/
def setPs : T → List Slot → List DV → T
  | e, p :: ps, x :: xs => setPs (e.set p (.d x)) ps xs
  | e, _, _ => e

/-- What stays, of other objects those below n alone. -/
structure KB (n : Nat) (X X' : Nat → Nat → Prop) (w w' : World) : Prop where
  size : w.heap.size ≤ w'.heap.size
  cells : ∀ b o v, b < w.heap.size → ¬ X b o → w.cell? ⟨b, o, none⟩ = some v → w'.cell? ⟨b, o, none⟩ = some v
  sub : ∀ b o, b < w.heap.size → X' b o → X b o
  others : ∀ (b : Nat) (o : Obj), b < n → w.heap[b]? = some o → objOther o = true → ¬ X b 0 → w'.heap[b]? = some o
theorem KB.of {n : Nat} {X X' : Nat → Nat → Prop} {w w' : World} (h : Keeps X X' w w') : KB n X X' w w' := ⟨h.size, h.cells, h.sub, fun b o _ h1 h2 h3 => h.others b o h1 h2 h3⟩
theorem KB.trans {n : Nat} {X X' X'' : Nat → Nat → Prop} {w w' w'' : World} (h : KB n X X' w w') (k : KB n X' X'' w' w'') : KB n X X'' w w'' :=
  ⟨Nat.le_trans h.size k.size, fun b o v hb hX hc => k.cells b o v (Nat.lt_of_lt_of_le hb h.size) (fun h' => hX (h.sub b o hb h')) (h.cells b o v hb hX hc),
    fun b o hb hX => h.sub b o hb (k.sub b o (Nat.lt_of_lt_of_le hb h.size) hX),
    fun b o hn ho hp hX => k.others b o hn (h.others b o hn ho hp hX) hp (fun h' => hX (h.sub b 0 (Array.getElem?_eq_some_iff.1 ho).1 h'))⟩

/-- An iterator: its value at yield hands over what reads as xs, one after the other, and ends; or it ends whn yield has said no. Y: what the caller's rounds may turn. -/
def ASeq (P : Program) (F : FuncId) (caps : List DV) (xs : List (List DV)) : Prop :=
  HasBody P F ∧ ∀ (X : Nat → Nat → Prop) (w : World) (us : Array Value), (∀ b o, X b o → b < w.heap.size) → DReps X w us.toList caps →
    ∀ (l : Nat) (J : Nat → (Nat → Nat → Prop) → World → Prop) (Jx : World → Prop),
    (∀ k Y W W', J k Y W → Ext W W' → J k Y W') → (∀ W W', Jx W → Ext W W' → Jx W') →
    (∀ k Y W, J k Y W → ∀ b o, Y b o → b < W.heap.size) →
    (∀ k Y W (vs : Array Value) (hk : k < xs.length), J k Y W → DReps Y W vs.toList xs[k] → YieldAt Fence.wide 0 P l vs W fun e W' => (e = .returned (.bool true) ∧ ∃ Y', J (k + 1) Y' W' ∧ KB 0 Y Y' W W') ∨ (e = .returned (.bool false) ∧ Jx W')) →
    J 0 X w → Calls P F (#[.func (.yield l) #[] #[]] ++ us) w fun e W' => (∃ v, e = .returned v) ∧ ((∃ Y, J xs.length Y W') ∨ Jx W')

inductive AX where
  | normal
  | exit (id : Nat)
  | ret

/-- What holds behind some operations, one by one; nx: the first number that no object has. -/
def awpOps (P : Program) (nx : Nat) : Nat → List AOper → (T → Heap → Prop) → T → Heap → Prop
  | _, [], K, e, H => K e H
  | i, o :: os, K, e, H => match o.op with
    | .call _ _ _ => ∃ r, okS P r (nx + i) o e H ∧ awpOps P nx (i + 1) os K (stp r (nx + i) o e H).1 (stp r (nx + i) o e H).2
    | .callo _ _ _ _ => ∃ r, okS P r (nx + i) o e H ∧ awpOps P nx (i + 1) os K (stp r (nx + i) o e H).1 (stp r (nx + i) o e H).2
    | _ => okS P .top (nx + i) o e H ∧ awpOps P nx (i + 1) os K (stp .top (nx + i) o e H).1 (stp .top (nx + i) o e H).2

/-- Where an object's new number comes from: from another number, or from a nil slice. -/
inductive Src where
  | none
  | id (k : Nat)
  | nil

/-- x says no less than y, objects being numbered anew. -/
def AVLe (g : Nat → Src) : AV → AV → Prop
  | _, .d .top => True
  | .own k n, .own k' n' => g k' = .id k ∧ n = n'
  | .d (.lit (.slice .none 0 0)), .own k 0 => g k = .nil
  | .d x, .d y => DLe x y
  | .ptr k o, .ptr k' o' => g k' = .id k ∧ o = o'
  | .mp k, .mp k' => g k' = .id k
  | _, _ => False

def TLe (g : Nat → Src) : T → T → Prop
  | .leaf a, .leaf b => AVLe g a b
  | .node l r, .node l' r' => TLe g l l' ∧ TLe g r r'
  | .leaf a, .node l' r' => TLe g (.leaf a) l' ∧ TLe g (.leaf a) r'
  | .node l r, .leaf b => b = .d .top ∨ (TLe g l (.leaf b) ∧ TLe g r (.leaf b))

/-- Objects of a list. -/
def hof : List (Nat × AObj) → Heap
  | [] => hnil
  | (i, o) :: r => hadd i o (hof r)

def cellsLe (g : Nat → Src) : List AV → List AV → Prop
  | [], [] => True
  | a :: as, b :: bs => AVLe g a b ∧ cellsLe g as bs
  | _, _ => False
def OLe (g : Nat → Src) : AObj → AObj → Prop
  | .box cs, .box cs' => cellsLe g cs cs'
  | .row e n len row, .row e' n' len' row' => e = e' ∧ n = n' ∧ len = len' ∧ ∀ i, i < len → row i = row' i
  | .map kd n f, .map kd' n' f' => kd = kd' ∧ n = n' ∧ ∀ k, kdOk kd k = true → f k = f' k
  | _, _ => False
/-- Each object of a list comes from one of H, or is an empty row yet to be made. -/
def HLe (g : Nat → Src) (H : Heap) : List (Nat × AObj) → Prop
  | [] => True
  | (i, o') :: r => (match g i with
      | .id k => (match hget H k with | some o => OLe g o o' | none => False)
      | .nil => (match o' with | .row _ _ len _ => len = 0 | _ => False)
      | .none => False) ∧ HLe g H r
/-- No two of them come from one. -/
def srcApart (g : Nat → Src) : List (Nat × AObj) → Prop
  | [] => True
  | (i, _) :: r => (∀ j o, (j, o) ∈ r → i ≠ j → ∀ k, g i = .id k → g j ≠ .id k) ∧ srcApart g r

/-- One state says no less than another. -/
def SLe (g : Nat → Src) (e : T) (H : Heap) (e' : T) (L : List (Nat × AObj)) (nx' : Nat) : Prop :=
  TLe g e e' ∧ HLe g H L ∧ srcApart g L ∧ (∀ i, nx' ≤ i → g i = .none)

def cval (e : T) (c : Opd) : Bool :=
  match (c.av e).strip with
  | .d (.lit (.bool b)) => b
  | _ => false
def cok (e : T) (c : Opd) : Prop :=
  (c.av e).live ∧ match (c.av e).strip with
  | .d (.lit (.bool _)) => True
  | _ => False

/-- A box that a slot points to, of plain data, is stored into no more: it is plain data from now on. -/
def frz1 (p : Slot) (e : T) (H : Heap) : T × Heap :=
  match e.get p with
  | .ptr id 0 => match hget H id with
    | some (.box cs) => match allD cs with
      | some ds => (e.set p (.d (.cref ds 0)), hdel H id)
      | none => (e, H)
    | _ => (e, H)
  | _ => (e, H)

/-- What holds behind a piece of code. -/
def awp (P : Program) : ACode → (AX → T → Heap → Nat → Prop) → T → Heap → Nat → Prop
  | .skip, Q, e, H, nx => Q .normal e H nx
  | .reg os, Q, e, H, nx => awpOps P nx 0 os (fun e H => Q .normal e H (nx + os.length)) e H
  | .seq a b, Q, e, H, nx => awp P a (fun x e H nx => match x with | .normal => awp P b Q e H nx | x => Q x e H nx) e H nx
  | .cond c t f, Q, e, H, nx => cok e c ∧ (cval e c = true → awp P t Q e H nx) ∧ (cval e c = false → awp P f Q e H nx)
  | .block id b, Q, e, H, nx => awp P b (fun x e H nx => match x with | .exit id' => if id' = id then Q .normal e H nx else Q (.exit id') e H nx | x => Q x e H nx) e H nx
  | .loop b, Q, e, H, nx => ∃ I : Nat → T → List (Nat × AObj) → Nat → Prop, (∃ n g e' L nx', I n e' L nx' ∧ SLe g e H e' L nx') ∧
      ∀ n e L nx, I n e L nx → awp P b (fun x e H nx => match x with | .normal => ∃ m g e' L nx', m < n ∧ I m e' L nx' ∧ SLe g e H e' L nx' | x => Q x e H nx) e (hof L) nx
  | .exit id, Q, e, H, nx => Q (.exit id) e H nx
  | .ret, Q, e, H, nx => Q .ret e H nx
  | .frz p, Q, e, H, nx => Q .normal (frz1 p e H).1 (frz1 p e H).2 nx
  | .rng g ps asn body, Q, e, H, nx => (g.av e).live ∧ ∃ (F : FuncId) (caps : List DV) (xs : List (List DV)) (e1 : T) (pins : List Nat) (I : Nat → List (Nat × AObj) → Nat → Prop),
      (g.av e).strip = .d (.fn F caps) ∧ ASeq P F caps xs ∧ e1.pinned pins = true ∧ (∀ k (hk : k < xs.length), xs[k].length = ps.length) ∧ (∃ gg L nx', I 0 L nx' ∧ SLe gg e H e1 L nx') ∧
      (∀ k (hk : k < xs.length) L nx, I k L nx → awp P asn (fun x e H nx => match x with
        | .normal => awp P body (fun x e' H' nx' => match x with
          | .normal => ∃ gg L' nx'', I (k + 1) L' nx'' ∧ SLe gg e1 H' e1 L' nx''
          | x => Q x e1 H' nx') e H nx
        | _ => False) (setPs e1 ps xs[k]) (hof L) nx) ∧
      (∀ L nx, I xs.length L nx → Q .normal e1 (hof L) nx)
  | .bad, _, _, _, _ => False

/-- A loop, its invariant told by the slots that change and the objects that are there. -/
theorem awp_loop {P : Program} {b : ACode} {Q : AX → T → Heap → Nat → Prop} {e : T} {H : Heap} {nx : Nat} {κ : Type} (inv : κ → Prop) (μ : κ → Nat) (E : κ → T) (L : κ → List (Nat × AObj)) (nx' : Nat) (k0 : κ) (g0 : Nat → Src)
    (h0 : inv k0) (hs : SLe g0 e H (E k0) (L k0) nx')
    (hb : ∀ k, inv k → awp P b (fun x e H nx => match x with | .normal => ∃ k' g, inv k' ∧ μ k' < μ k ∧ SLe g e H (E k') (L k') nx' | x => Q x e H nx) (E k) (hof (L k)) nx') : awp P (.loop b) Q e H nx := by
  refine ⟨fun n e L' nx => ∃ k, inv k ∧ μ k = n ∧ e = E k ∧ L' = L k ∧ nx = nx', ⟨_, g0, _, _, _, ⟨k0, h0, rfl, rfl, rfl, rfl⟩, hs⟩, ?_⟩
  rintro n e L' nx ⟨k, hk, rfl, rfl, rfl, rfl⟩
  have h := hb k hk
  have e1 : (fun (x : AX) (e : T) (H : Heap) (nx1 : Nat) => (match x with | .normal => ∃ k' g, inv k' ∧ μ k' < μ k ∧ SLe g e H (E k') (L k') nx | x => Q x e H nx1 : Prop)) =
      (fun x e H nx1 => match x with | .normal => ∃ m g e' L' nx', m < μ k ∧ (∃ k, inv k ∧ μ k = m ∧ e' = E k ∧ L' = L k ∧ nx' = nx) ∧ SLe g e H e' L' nx' | x => Q x e H nx1) := by
    funext x e H nx1
    cases x with
    | normal =>
      apply propext
      constructor
      · rintro ⟨k', g, h1, h2, h3⟩
        exact ⟨μ k', g, E k', L k', nx, h2, ⟨k', h1, rfl, rfl, rfl, rfl⟩, h3⟩
      · rintro ⟨m, g, e', L', nx', h2, ⟨k', h1, rfl, rfl, rfl, rfl⟩, h3⟩
        exact ⟨k', g, h1, h2, h3⟩
    | _ => rfl
  rw [← e1]
  exact h

theorem awpOps_mono {P : Program} {nx : Nat} {K K' : T → Heap → Prop} (h : ∀ e H, K e H → K' e H) : ∀ {i : Nat} {os : List AOper} {e : T} {H : Heap}, awpOps P nx i os K e H → awpOps P nx i os K' e H := by
  intro i os
  induction os generalizing i with
  | nil => intro e H hk; exact h _ _ hk
  | cons o os ih =>
    intro e H hk
    unfold awpOps at hk ⊢
    split at hk
    · obtain ⟨r, h1, h2⟩ := hk
      exact ⟨r, h1, ih h2⟩
    · obtain ⟨r, h1, h2⟩ := hk
      exact ⟨r, h1, ih h2⟩
    · exact ⟨hk.1, ih hk.2⟩

section
variable {P : Program} {D N : Nat} {X0 : Nat → Nat → Prop} {W0 : World} {B : Bs} {γ : Nat → Option Value} {w : World} {H : Heap} {a : Act} {e : T}

/-- A state, and the numbers from nx on are free. -/
def FZ (D N : Nat) (X0 : Nat → Nat → Prop) (W0 : World) (B : Bs) (γ : Nat → Option Value) (a : Act) (w : World) (e : T) (H : Heap) (nx : Nat) : Prop := FR D N X0 W0 B γ a w e H ∧ ∀ k, nx ≤ k → γ k = none

def AX.of : Exit → Option AX
  | .normal => some .normal
  | .exit id => some (.exit id)
  | .ret => some .ret
  | _ => none

def lift (D N : Nat) (X0 : Nat → Nat → Prop) (W0 : World) (B : Bs) (Q : AX → T → Heap → Nat → Prop) : Exit → Act → World → Prop :=
  fun x a w => ∃ y γ e H nx, AX.of x = some y ∧ FZ D N X0 W0 B γ a w e H nx ∧ Q y e H nx

theorem noMk_at {os : List AOper} {i : Nat} (h : noMk os = true ∨ ∀ b, B.MB b) (hi : i < os.length) : ∀ kd, os[i].op = .mmk kd → ∀ b, B.MB b := by
  intro kd hk b
  rcases h with h | h
  · have := List.all_eq_true.1 h _ (List.getElem_mem hi)
    rw [hk] at this
    cases this
  · exact h b

/-- The region's operations do, in whatever order the model takes them, as the evaluator's list. -/
def RegOk (P : Program) (D N : Nat) (id : Nat) (ops : Array Oper) (draw : Bool) (os : List AOper) : Prop :=
  ∀ X0 W0 B γ a w e H nx (K : T → Heap → Prop) (Q : Exit → Act → World → Prop) (ro : Option Nat) (n : Nat), (noMk os = true ∨ ∀ b, B.MB b) → FZ D N X0 W0 B γ a w e H nx → awpOps P nx 0 os K e H →
    (∀ γ' a' w' e' H', K e' H' → FZ D N X0 W0 B γ' a' w' e' H' (nx + os.length) → Q .normal a' w') → (Code.region id ops draw).wpIn (FW ro) n P Q a w

inductive TrCode (P : Program) (D N : Nat) : Code → ACode → Prop
  | skip : TrCode P D N .skip .skip
  | reg {id ops draw os} (h : RegOk P D N id ops draw os) : TrCode P D N (.region id ops draw) (.reg os)
  | seq {a b a' b'} (ha : TrCode P D N a a') (hb : TrCode P D N b b') : TrCode P D N (.seq a b) (.seq a' b')
  | cond {c t f c' t' f'} (hc : TrOpd D c c') (ht : TrCode P D N t t') (hf : TrCode P D N f f') : TrCode P D N (.cond c t f) (.cond c' t' f')
  | block {id b b'} (hb : TrCode P D N b b') : TrCode P D N (.block id b) (.block id b')
  | loop {b b'} (hb : TrCode P D N b b') : TrCode P D N (.loop b) (.loop b')
  | exit {id} : TrCode P D N (.exit id) (.exit id)
  | ret : TrCode P D N .ret .ret
  | frz {c c' p} (h : TrCode P D N c c') (hp : p.length = D) : TrCode P D N c (.seq c' (.frz p))
  | rng {g g' ps asn body asn' body'} (pl : List Slot) (hg : TrOpd D g g') (hps : ps = (pl.map Slot.idx).toArray) (hp : ∀ p, p ∈ pl → p.length = D ∧ p.idx < N) (ha : TrCode P D N asn asn') (hb : TrCode P D N body body') (pa : plainB asn' = true) (pb : plainB body' = true) : TrCode P D N (.rangeFunc g ps asn body) (.rng g' pl asn' body')
  | bad {c} : TrCode P D N c .bad

theorem frz1_fs {p : Slot} (hp : p.length = D) {nx : Nat} (hF : FZ D N X0 W0 B γ a w e H nx) : FZ D N X0 W0 B γ a w (frz1 p e H).1 (frz1 p e H).2 nx := by
  unfold frz1
  split
  · rename_i id hget1
    split
    · rename_i cs ho
      split
      · rename_i ds hds
        obtain ⟨hR, hfr⟩ := hF
        have hv := hR.env p hp
        rw [hget1] at hv
        generalize hva : a.tmps.getD p.idx undef = v at hv
        cases hv with
        | ptr b _ _ hγ =>
          obtain ⟨u, hu, b', arr, t, rfl, hB, hh, hr⟩ := hR.st.obj id _ ho
          rw [hγ] at hu
          injection hu with hu
          injection hu with hu
          injection hu with hu
          injection hu with hu
          subst hu
          have hX : ∀ b' q, XOf X0 γ (hdel H id) b' q → XOf X0 γ H b' q := by
            rintro b' q (h | ⟨k, o, u, h1, h2, h3, h4⟩)
            · exact .inl h
            · simp only [hget_del] at h1
              split at h1
              · cases h1
              · exact .inr ⟨k, o, u, h1, h2, h3, h4⟩
          have hn : ∀ q, ¬ XOf X0 γ (hdel H id) b q := by
            rintro q (h | ⟨k, o, u, h1, h2, h3, h4⟩)
            · have := hR.st.hx b q h; omega
            · simp only [hget_del] at h1
              split at h1
              · cases h1
              · rename_i hne
                exact hne (hR.st.dis id k _ o _ u b ho h1 hγ h2 rfl h3)
          have hK : Keeps (XOf X0 γ H) (XOf X0 γ (hdel H id)) w w := .same fun b q _ hb => hX b q hb
          have hd := (hr.mono (Knows.refl γ) hK).allD hds
          have hc := DRep.cref (X := XOf X0 γ (hdel H id)) (w := w) b 0 0 ds arr.toList (Array.getElem?_eq_some_iff.1 hh).1 (fun j _ => hn _) hd.1 (box_cells hh) hd.2
          refine ⟨⟨⟨hR.st.hx, hR.st.ext, ?_, ?_⟩, ?_, hR.size, ?_, hR.base.trans hK, hR.pin, ?_⟩, hfr⟩
          rotate_left 3
          · obtain ⟨Ks, h1, hn1, h2⟩ := hR.marks
            exact ⟨Ks, h1, hn1, fun K hKm => ⟨(h2 K hKm).1, (h2 K hKm).2.1, (fun h' => (h2 K hKm).2.2.1 (hX K 0 h')), (h2 K hKm).2.2.2⟩⟩
          · intro k kd n f v b2 h1 h2 h3
            obtain ⟨n', f', h4⟩ := MapsIn.del (H := H) (id := id) k kd n f h1
            exact hR.mb k kd n' f' v b2 h4 h2 h3
          · intro k o hk
            simp only [hget_del] at hk
            split at hk
            · cases hk
            · obtain ⟨u, hu, hor⟩ := hR.st.obj k o hk
              refine ⟨u, hu, ?_⟩
              cases o with
              | box cs' =>
                obtain ⟨b2, arr2, t2, h1, h2, h3, h4⟩ := hor
                exact ⟨b2, arr2, t2, h1, h2, h3, h4.mono (Knows.refl γ) hK⟩
              | row te n len row =>
                obtain ⟨xs, h1, h2⟩ := hor
                exact ⟨xs, h1, fun j hj => ⟨(h2 j hj).1, (h2 j hj).2.mono hK⟩⟩
              | map kd n f => exact hor
          · intro i j o o' u u' b' h1 h2
            simp only [hget_del] at h1 h2
            split at h1
            · cases h1
            · split at h2
              · cases h2
              · exact hR.st.dis i j o o' u u' b' h1 h2
          · intro q hq
            by_cases hpq : p = q
            · subst hpq
              rw [T.get_set, hva]
              exact .d _ _ (by simpa using hc)
            · rw [T.get_set_ne _ p q e (hp.trans hq.symm) hpq]
              exact (hR.env q hq).mono (Knows.refl γ) hK
      · exact hF
    · exact hF
  · exact hF

theorem regOk_seq {id : Nat} {ops : Array Oper} {os : List AOper} (hnd : noDefer ops = true) (hl : ops.size = os.length) (h : ∀ (i : Nat) (o : Oper) (ao : AOper), ops[i]? = some o → os[i]? = some ao → TrOper P D N ops o ao) : RegOk P D N id ops false os := by
  intro X0 W0 B γ a w e H nx K Q1 ro n hmk hF hK hQ1
  let Q : Exit → Act → World → Prop := fun x a' w' => x = .normal ∧ ∃ γ' e' H', K e' H' ∧ FZ D N X0 W0 B γ' a' w' e' H' (nx + os.length)
  have hQ : ∀ γ' a' w' e' H', K e' H' → FZ D N X0 W0 B γ' a' w' e' H' (nx + os.length) → Q .normal a' w' := fun γ' a' w' e' H' h1 h2 => ⟨rfl, γ', e', H', h1, h2⟩
  have hlo : ¬ LetsOut Q := by rintro ⟨_, _, h, _⟩; cases h
  suffices hs : wpOps P ops Q (List.range ops.size) a w from wpIn_mono (wpIn_region (wpOpsIn_of (noDefer_at hnd) hlo _ _ _ hs)) (by
    rintro x a' w' ⟨rfl, γ', e', H', h1, h2⟩
    exact hQ1 γ' a' w' e' H' h1 h2)
  have key : ∀ (r i : Nat) (γ : Nat → Option Value) (a : Act) (w : World) (e : T) (H : Heap), i + r = ops.size → FR D N X0 W0 B γ a w e H → (∀ k, nx + i ≤ k → γ k = none) → awpOps P nx i (os.drop i) K e H → wpOps P ops Q ((List.range r).map (i + ·)) a w := by
    intro r
    induction r with
    | zero =>
      intro i γ a w e H hi hR hfr hk
      have : os.drop i = [] := List.drop_eq_nil_of_le (by omega)
      rw [this] at hk
      simp only [List.range_zero, List.map_nil, wpOps]
      exact hQ γ a w e H hk ⟨hR, by have : i = os.length := by omega
                                    rw [← this]; exact hfr⟩
    | succ r ih =>
      intro i γ a w e H hi hR hfr hk
      have hi1 : i < ops.size := by omega
      have hi2 : i < os.length := by omega
      have e1 : (List.range (r + 1)).map (i + ·) = i :: (List.range r).map (i + 1 + ·) := by
        rw [List.range_succ_eq_map, List.map_cons, List.map_map]
        simp only [Nat.add_zero, List.cons.injEq, true_and]
        apply List.map_congr_left
        intro k _
        simp only [Function.comp]; omega
      rw [e1, wpOps_cons]
      have hd : os.drop i = os[i] :: os.drop (i + 1) := List.drop_eq_getElem_cons hi2
      have tr := h i ops[i] os[i] (Array.getElem?_eq_getElem hi1) (List.getElem?_eq_getElem hi2)
      have step : ∀ r', okS P r' (nx + i) os[i] e H → awpOps P nx (i + 1) (os.drop (i + 1)) K (stp r' (nx + i) os[i] e H).1 (stp r' (nx + i) os[i] e H).2 → wpOp P ops Q i (wpOps P ops Q ((List.range r).map (i + 1 + ·))) a w := by
        intro r' hok hk'
        have := op_sound (Q := Q) (K := wpOps P ops Q ((List.range r).map (i + 1 + ·))) tr hR (id := nx + i) (hfr _ (Nat.le_refl _)) r' hok (noMk_at hmk hi2) (fun γ' a' w' hR' hkn hne => ih (i + 1) γ' a' w' _ _ (by omega) hR' (fun k hk2 => by rw [hne k (by omega)]; exact hfr k (by omega)) hk')
        unfold wpOp
        rw [Array.getElem?_eq_getElem hi1]
        exact this
      rw [hd] at hk
      unfold awpOps at hk
      split at hk
      · obtain ⟨r', h1, h2⟩ := hk
        exact step r' h1 h2
      · obtain ⟨r', h1, h2⟩ := hk
        exact step r' h1 h2
      · exact step .top hk.1 hk.2
  have := key ops.size 0 γ a w e H (by omega) hF.1 (by simpa using hF.2) (by simpa using hK)
  simpa using this

theorem AVLe.rep {γ' : Nat → Option Value} {X X' : Nat → Nat → Prop} {g : Nat → Src} (hg1 : ∀ i k, g i = .id k → γ' i = γ k) (hg2 : ∀ i, g i = .nil → γ' i = some (.slice none 0 0)) (hX : ∀ b q, b < w.heap.size → X' b q → X b q) {v : Value} {x y : AV}
    (h : AVLe g x y) (hv : Rep γ X w v x) : Rep γ' X' w v y := by
  have hK : Keeps X X' w w := .same hX
  unfold AVLe at h
  split at h
  · exact .top v
  · obtain ⟨h1, h2⟩ := h
    subst h2
    cases hv with | own _ _ _ hk => exact .own v _ _ (by rw [hg1 _ _ h1]; exact hk)
  · obtain rfl := hv.lit
    exact .own _ _ _ (hg2 _ h)
  · exact .d _ _ (h _ _ _ (hv.dv.mono hK))
  · obtain ⟨h1, h2⟩ := h
    subst h2
    cases hv with | ptr b _ _ hk => exact .ptr b _ _ (by rw [hg1 _ _ h1]; exact hk)
  · cases hv with | mp b _ hk => exact .mp b _ (by rw [hg1 _ _ h]; exact hk)
  · exact h.elim

theorem AVLe.top (g : Nat → Src) (a : AV) : AVLe g a (.d .top) := by
  cases a <;> simp [AVLe]

theorem TLe.get {g : Nat → Src} : ∀ (t' t : T), TLe g t t' → ∀ p : Slot, AVLe g (t.get p) (t'.get p)
  | .leaf b, .leaf a, h, p => by cases p <;> simpa only [TLe, T.get] using h
  | .leaf b, .node l r, h, p => by
    have h' : b = .d .top ∨ (TLe g l (.leaf b) ∧ TLe g r (.leaf b)) := by simpa only [TLe] using h
    rcases h' with rfl | ⟨h1, h2⟩
    · exact AVLe.top g _
    · match p with
      | [] => exact TLe.get (.leaf b) l h1 []
      | false :: p => exact TLe.get (.leaf b) l h1 p
      | true :: p => exact TLe.get (.leaf b) r h2 p
  | .node l' r', .leaf a, h, p => by
    have h' : TLe g (.leaf a) l' ∧ TLe g (.leaf a) r' := by simpa only [TLe] using h
    match p with
    | [] => exact TLe.get l' (.leaf a) h'.1 []
    | false :: p => exact TLe.get l' (.leaf a) h'.1 p
    | true :: p => exact TLe.get r' (.leaf a) h'.2 p
  | .node l' r', .node l r, h, p => by
    have h' : TLe g l l' ∧ TLe g r r' := by simpa only [TLe] using h
    match p with
    | [] => exact TLe.get l' l h'.1 []
    | false :: p => exact TLe.get l' l h'.1 p
    | true :: p => exact TLe.get r' r h'.2 p
termination_by t' t => (t', t)

/-- What an object's number now stands for. -/
def ren (g : Nat → Src) (γ : Nat → Option Value) : Nat → Option Value := fun i => match g i with
  | .none => none
  | .id k => γ k
  | .nil => some (.slice none 0 0)

theorem hof_get {L : List (Nat × AObj)} {i : Nat} {o : AObj} (h : hget (hof L) i = some o) : (i, o) ∈ L := by
  induction L with
  | nil => cases h
  | cons p L ih =>
    obtain ⟨j, o'⟩ := p
    simp only [hof, hget_add] at h
    split at h
    · rename_i e; subst e; injection h with h; subst h; simp
    · exact List.mem_cons_of_mem _ (ih h)

theorem HLe.mem {g : Nat → Src} {H : Heap} {L : List (Nat × AObj)} (h : HLe g H L) {i : Nat} {o' : AObj} (hm : (i, o') ∈ L) :
    (∃ k o, g i = .id k ∧ hget H k = some o ∧ OLe g o o') ∨ (g i = .nil ∧ ∃ e n row, o' = .row e n 0 row) := by
  induction L with
  | nil => cases hm
  | cons p L ih =>
    obtain ⟨j, oj⟩ := p
    obtain ⟨h1, h2⟩ := h
    rcases List.mem_cons.1 hm with e | hm
    · injection e with e1 e2
      subst e1; subst e2
      cases hg : g i with
      | none => simp [hg] at h1
      | id k =>
        simp only [hg] at h1
        cases ho : hget H k with
        | none => simp [ho] at h1
        | some o => simp only [ho] at h1; exact .inl ⟨k, o, rfl, ho, h1⟩
      | nil =>
        simp only [hg] at h1
        cases o' with
        | box cs => exact h1.elim
        | map => exact h1.elim
        | row e n len row =>
          have : len = 0 := h1
          subst this
          exact .inr ⟨rfl, e, n, row, rfl⟩
    · exact ih h2 hm

theorem srcApart.mem {g : Nat → Src} {L : List (Nat × AObj)} (h : srcApart g L) {i j : Nat} {o o' : AObj} (hi : (i, o) ∈ L) (hj : (j, o') ∈ L) (hne : i ≠ j) {k : Nat} (h1 : g i = .id k) (h2 : g j = .id k) : False := by
  induction L with
  | nil => cases hi
  | cons p L ih =>
    obtain ⟨q, oq⟩ := p
    obtain ⟨h3, h4⟩ := h
    rcases List.mem_cons.1 hi with e | hi' <;> rcases List.mem_cons.1 hj with e' | hj'
    · injection e with e1 e2; injection e' with e3 e4
      exact hne (e1.trans e3.symm)
    · injection e with e1 e2
      subst e1
      exact h3 j o' hj' hne k h1 h2
    · injection e' with e1 e2
      subst e1
      exact h3 i o hi' (Ne.symm hne) k h2 h1
    · exact ih h4 hi' hj'

theorem cellsLe.reps {γ' : Nat → Option Value} {X X' : Nat → Nat → Prop} {g : Nat → Src} (hf : ∀ v x y, AVLe g x y → Rep γ X w v x → Rep γ' X' w v y) : ∀ {vs : List Value} {as bs : List AV}, cellsLe g as bs → Reps γ X w vs as → Reps γ' X' w vs bs
  | vs, [], [], _, h => by
    have : vs = [] := by have := h.1; simpa using this
    subst this; exact Reps.nil _ _ _
  | [], a :: as, b :: bs, _, h => by exact absurd h.1 (by simp)
  | v :: vs, a :: as, b :: bs, hc, h => Reps.cons (hf v a b hc.1 (h.2 0 (by simp) (by simp))) (cellsLe.reps hf hc.2 ⟨by simpa using h.1, fun i hi hi' => h.2 (i + 1) (by simpa using hi) (by simpa using hi')⟩)
  | vs, [], b :: bs, hc, _ => hc.elim
  | vs, a :: as, [], hc, _ => hc.elim

/-- What says less holds as well. -/
theorem SLe.fs {g : Nat → Src} {e' : T} {L : List (Nat × AObj)} {nx nx' : Nat} (hB : B.γ1 = fun _ => none) (hs : SLe g e H e' L nx') (hF : FZ D N X0 W0 B γ a w e H nx) : FZ D N X0 W0 B (ren g γ) a w e' (hof L) nx' := by
  obtain ⟨hT, hH, hA, hN⟩ := hs
  obtain ⟨hR, hfr⟩ := hF
  have hg1 : ∀ i k, g i = .id k → ren g γ i = γ k := fun i k h => by simp [ren, h]
  have hg2 : ∀ i, g i = .nil → ren g γ i = some (.slice none 0 0) := fun i h => by simp [ren, h]
  have hX : ∀ b q, XOf X0 (ren g γ) (hof L) b q → XOf X0 γ H b q := by
    rintro b q (h | ⟨i, o', v, h1, h2, h3, h4⟩)
    · exact .inl h
    · rcases hH.mem (hof_get h1) with ⟨k, o, hk, ho, hle⟩ | ⟨hk, _⟩
      · rw [hg1 i k hk] at h2
        refine .inr ⟨k, o, v, ho, h2, h3, ?_⟩
        cases o with
        | box cs => trivial
        | row e n len row =>
          cases o' with
          | box => exact hle.elim
          | map => exact hle.elim
          | row e' n' len' row' =>
            obtain ⟨_, rfl, rfl, _⟩ := hle
            exact h4
        | map kd n f => trivial
      · rw [hg2 i hk] at h2
        injection h2 with h2
        subst h2
        simp [blk] at h3
  have hrep : ∀ v x y, AVLe g x y → Rep γ (XOf X0 γ H) w v x → Rep (ren g γ) (XOf X0 (ren g γ) (hof L)) w v y := fun v x y h hv => AVLe.rep hg1 hg2 (fun b q _ hb => hX b q hb) h hv
  have hK : Keeps (XOf X0 γ H) (XOf X0 (ren g γ) (hof L)) w w := .same fun b q _ hb => hX b q hb
  refine ⟨⟨⟨hR.st.hx, hR.st.ext, ?_, ?_⟩, ?_, hR.size, ?_, hR.base.trans hK, (fun id v hv => by rw [hB] at hv; cases hv), ?_⟩, ?_⟩
  rotate_left 3
  · obtain ⟨Ks, h1, hn1, h2⟩ := hR.marks
    exact ⟨Ks, h1, hn1, fun K hKm => ⟨(h2 K hKm).1, (h2 K hKm).2.1, (fun h' => (h2 K hKm).2.2.1 (hX K 0 h')), (h2 K hKm).2.2.2⟩⟩
  · intro i kd n f v b h1 h2 h3
    rcases hH.mem (hof_get h1) with ⟨k, o, hk, ho, hle⟩ | ⟨hk, te, tn, row, he⟩
    · rw [hg1 i k hk] at h2
      cases o with
      | box => exact hle.elim
      | row => exact hle.elim
      | map kd' n' f' => exact hR.mb k kd' n' f' v b ho h2 h3
    · cases he
  · intro k hk
    simp [ren, hN k hk]
  · intro i o' ho'
    rcases hH.mem (hof_get ho') with ⟨k, o, hk, ho, hle⟩ | ⟨hk, te, tn, row, rfl⟩
    · obtain ⟨v, hv, hr⟩ := hR.st.obj k o ho
      refine ⟨v, (hg1 i k hk).trans hv, ?_⟩
      cases o with
      | box cs =>
        cases o' with
        | row => exact hle.elim
        | map => exact hle.elim
        | box cs' =>
          obtain ⟨b, arr, t, rfl, h1, h2, h3⟩ := hr
          exact ⟨b, arr, t, rfl, h1, h2, cellsLe.reps hrep hle h3⟩
      | row e n len row =>
        cases o' with
        | box => exact hle.elim
        | map => exact hle.elim
        | row e' n' len' row' =>
          obtain ⟨rfl, rfl, rfl, hrow⟩ := hle
          obtain ⟨xs, hown, hx⟩ := hr
          exact ⟨xs, hown, fun j hj => ⟨(hx j hj).1, by rw [← hrow j hj]; exact (hx j hj).2.mono hK⟩⟩
      | map kd n f =>
        cases o' with
        | box => exact hle.elim
        | row => exact hle.elim
        | map kd' n' f' =>
          obtain ⟨rfl, rfl, hf⟩ := hle
          obtain ⟨b, ent, clock, rfl, h1, h2, h3, h4, h5⟩ := hr
          exact ⟨b, ent, clock, rfl, h1, h2, h3, h4, fun k hk => (h5 k hk).trans (hf k hk)⟩
    · exact ⟨_, hg2 i hk, fun _ => [], by simpa using World.ownsRow_nil w _ _ _, fun j hj => by omega⟩
  · intro i j o o' v v' b h1 h2 h3 h4 h5 h6
    have m1 := hof_get h1
    have m2 := hof_get h2
    by_cases hne : i = j
    · exact hne
    · exfalso
      rcases hH.mem m1 with ⟨k, ok, hk, ho, _⟩ | ⟨hk, _⟩
      · rcases hH.mem m2 with ⟨k', ok', hk', ho', _⟩ | ⟨hk', _⟩
        · rw [hg1 _ _ hk] at h3
          rw [hg1 _ _ hk'] at h4
          have := hR.st.dis k k' ok ok' v v' b ho ho' h3 h4 h5 h6
          subst this
          exact hA.mem m1 m2 hne hk hk'
        · rw [hg2 _ hk'] at h4
          injection h4 with h4
          subst h4
          simp [blk] at h6
      · rw [hg2 _ hk] at h3
        injection h3 with h3
        subst h3
        simp [blk] at h5
  · intro p hp
    exact hrep _ _ _ (TLe.get _ _ hT p) (hR.env p hp)

theorem exists_min {p : Nat → Prop} (h : ∃ n, p n) : ∃ n, p n ∧ ∀ m, p m → n ≤ m := by
  obtain ⟨n, hn⟩ := h
  induction n using Nat.strongRecOn with
  | _ n ih =>
    by_cases hm : ∃ m, m < n ∧ p m
    · obtain ⟨m, h1, h2⟩ := hm
      exact ih m h1 h2
    · exact ⟨n, hn, fun m hp => Nat.le_of_not_lt fun hlt => hm ⟨m, hlt, hp⟩⟩

/-- A loop's law with a measure that the invariant bears. -/
theorem wpIn_loop_n {F : Fence} {n : Nat} {c : Code} {Q : Exit → Act → World → Prop} (J : Nat → Act → World → Prop) (h0 : ∃ n, J n a w) (round : ∀ (j : Nat) a w, J j a w → c.wpIn F n P (Exit.then (fun a' w' => ∃ m, m < j ∧ J m a' w') Q) a w) : (Code.loop c).wpIn F n P Q a w := by
  classical
  let μ : Act → World → Nat := fun a w => if h : ∃ n, J n a w then Classical.choose (exists_min h) else 0
  refine wpIn_loop (fun a w => ∃ n, J n a w) μ h0 fun a w hI => ?_
  have hsp := Classical.choose_spec (exists_min hI)
  have hμ : μ a w = Classical.choose (exists_min hI) := dif_pos hI
  refine wpIn_mono (round (μ a w) a w (hμ ▸ hsp.1)) fun x a' w' hq => ?_
  cases x with
  | normal =>
    obtain ⟨m, hlt, hJ⟩ := hq
    refine ⟨⟨m, hJ⟩, ?_⟩
    have hI' : ∃ n, J n a' w' := ⟨m, hJ⟩
    have hμ' : μ a' w' = Classical.choose (exists_min hI') := dif_pos hI'
    have := (Classical.choose_spec (exists_min hI')).2 m hJ
    show μ a' w' < μ a w
    omega
  | _ => exact hq

theorem cval_ok {c : Operand} {c' : Opd} (tr : TrOpd D c c') {X : Nat → Nat → Prop} (hE : EnvRep D γ X w a e) (hok : cok e c') : a.eval c = .bool (cval e c') := by
  obtain ⟨h1, h2⟩ := hok
  have hr := (tr.rep hE).strip h1
  unfold cval
  split at h2
  · rename_i b heq
    rw [heq] at hr
    exact hr.lit
  · exact h2.elim

end

end Go.Proofs.Ytghlfjpmpalpdaa
