/- Code: the evaluator's own, with loops; and that it tells of the model's run. A function's contract out of its body. -/
import Derived.Test.YtghlfjpmpalpdaaRun
namespace Go.Proofs.Ytghlfjpmpalpdaa
open Go.RowKit

inductive ACode where
  | skip
  | reg (ops : List AOper)
  | seq (a b : ACode)
  | cond (c : Opd) (t f : ACode)
  | block (id : Nat) (b : ACode)
  | loop (b : ACode)
  | exit (id : Nat)
  | ret
  | frz (p : Slot)
  | bad

inductive AX where
  | normal
  | exit (id : Nat)
  | ret

/-- What holds behind some operations, one by one; nx: the first number that no object has. -/
def awpOps (P : Program) (nx : Nat) : Nat → List AOper → (T → Heap → Prop) → T → Heap → Prop
  | _, [], K, e, H => K e H
  | i, o :: os, K, e, H => match o.op with
    | .call _ _ _ => ∃ r, okS P r (nx + i) o e H ∧ awpOps P nx (i + 1) os K (stp r (nx + i) o e H).1 (stp r (nx + i) o e H).2
    | .callo _ _ _ _ => ∃ r, okS P r (nx + i) o e H ∧ awpOps P nx (i + 1) os K (stp r (nx + i) o e H).1 (stp r (nx + i) o e H).2
    | _ => okS P .top (nx + i) o e H ∧ awpOps P nx (i + 1) os K (stp .top (nx + i) o e H).1 (stp .top (nx + i) o e H).2

/-- Where an object's new number comes from: from another number, or from a nil slice. -/
inductive Src where
  | none
  | id (k : Nat)
  | nil

/-- x says no less than y, objects being numbered anew. -/
def AVLe (g : Nat → Src) : AV → AV → Prop
  | _, .d .top => True
  | .own k n, .own k' n' => g k' = .id k ∧ n = n'
  | .d (.lit (.slice .none 0 0)), .own k 0 => g k = .nil
  | .d x, .d y => DLe x y
  | .ptr k o, .ptr k' o' => g k' = .id k ∧ o = o'
  | _, _ => False

def TLe (g : Nat → Src) : T → T → Prop
  | .leaf a, .leaf b => AVLe g a b
  | .node l r, .node l' r' => TLe g l l' ∧ TLe g r r'
  | .leaf a, .node l' r' => TLe g (.leaf a) l' ∧ TLe g (.leaf a) r'
  | .node l r, .leaf b => b = .d .top ∨ (TLe g l (.leaf b) ∧ TLe g r (.leaf b))

/-- Objects of a list. -/
def hof : List (Nat × AObj) → Heap
  | [] => hnil
  | (i, o) :: r => hadd i o (hof r)

def cellsLe (g : Nat → Src) : List AV → List AV → Prop
  | [], [] => True
  | a :: as, b :: bs => AVLe g a b ∧ cellsLe g as bs
  | _, _ => False
def OLe (g : Nat → Src) : AObj → AObj → Prop
  | .box cs, .box cs' => cellsLe g cs cs'
  | .row e n len row, .row e' n' len' row' => e = e' ∧ n = n' ∧ len = len' ∧ ∀ i, i < len → row i = row' i
  | _, _ => False
/-- Each object of a list comes from one of H, or is an empty row yet to be made. -/
def HLe (g : Nat → Src) (H : Heap) : List (Nat × AObj) → Prop
  | [] => True
  | (i, o') :: r => (match g i with
      | .id k => (match hget H k with | some o => OLe g o o' | none => False)
      | .nil => (match o' with | .row _ _ len _ => len = 0 | _ => False)
      | .none => False) ∧ HLe g H r
/-- No two of them come from one. -/
def srcApart (g : Nat → Src) : List (Nat × AObj) → Prop
  | [] => True
  | (i, _) :: r => (∀ j o, (j, o) ∈ r → i ≠ j → ∀ k, g i = .id k → g j ≠ .id k) ∧ srcApart g r

/-- One state says no less than another. -/
def SLe (g : Nat → Src) (e : T) (H : Heap) (e' : T) (L : List (Nat × AObj)) (nx' : Nat) : Prop :=
  TLe g e e' ∧ HLe g H L ∧ srcApart g L ∧ (∀ i, nx' ≤ i → g i = .none)

def cval (e : T) (c : Opd) : Bool :=
  match (c.av e).strip with
  | .d (.lit (.bool b)) => b
  | _ => false
def cok (e : T) (c : Opd) : Prop :=
  (c.av e).live ∧ match (c.av e).strip with
  | .d (.lit (.bool _)) => True
  | _ => False

/-- A box that a slot points to, of plain data, is stored into no more: it is plain data from now on. -/
def frz1 (p : Slot) (e : T) (H : Heap) : T × Heap :=
  match e.get p with
  | .ptr id 0 => match hget H id with
    | some (.box cs) => match allD cs with
      | some ds => (e.set p (.d (.cref ds 0)), hdel H id)
      | none => (e, H)
    | _ => (e, H)
  | _ => (e, H)

/-- What holds behind a piece of code. -/
def awp (P : Program) : ACode → (AX → T → Heap → Nat → Prop) → T → Heap → Nat → Prop
  | .skip, Q, e, H, nx => Q .normal e H nx
  | .reg os, Q, e, H, nx => awpOps P nx 0 os (fun e H => Q .normal e H (nx + os.length)) e H
  | .seq a b, Q, e, H, nx => awp P a (fun x e H nx => match x with | .normal => awp P b Q e H nx | x => Q x e H nx) e H nx
  | .cond c t f, Q, e, H, nx => cok e c ∧ (cval e c = true → awp P t Q e H nx) ∧ (cval e c = false → awp P f Q e H nx)
  | .block id b, Q, e, H, nx => awp P b (fun x e H nx => match x with | .exit id' => if id' = id then Q .normal e H nx else Q (.exit id') e H nx | x => Q x e H nx) e H nx
  | .loop b, Q, e, H, nx => ∃ I : Nat → T → List (Nat × AObj) → Nat → Prop, (∃ n g e' L nx', I n e' L nx' ∧ SLe g e H e' L nx') ∧
      ∀ n e L nx, I n e L nx → awp P b (fun x e H nx => match x with | .normal => ∃ m g e' L nx', m < n ∧ I m e' L nx' ∧ SLe g e H e' L nx' | x => Q x e H nx) e (hof L) nx
  | .exit id, Q, e, H, nx => Q (.exit id) e H nx
  | .ret, Q, e, H, nx => Q .ret e H nx
  | .frz p, Q, e, H, nx => Q .normal (frz1 p e H).1 (frz1 p e H).2 nx
  | .bad, _, _, _, _ => False

/-- A loop, its invariant told by the slots that change and the objects that are there. -/
theorem awp_loop {P : Program} {b : ACode} {Q : AX → T → Heap → Nat → Prop} {e : T} {H : Heap} {nx : Nat} {κ : Type} (inv : κ → Prop) (μ : κ → Nat) (E : κ → T) (L : κ → List (Nat × AObj)) (nx' : Nat) (k0 : κ) (g0 : Nat → Src)
    (h0 : inv k0) (hs : SLe g0 e H (E k0) (L k0) nx')
    (hb : ∀ k, inv k → awp P b (fun x e H nx => match x with | .normal => ∃ k' g, inv k' ∧ μ k' < μ k ∧ SLe g e H (E k') (L k') nx' | x => Q x e H nx) (E k) (hof (L k)) nx') : awp P (.loop b) Q e H nx := by
  refine ⟨fun n e L' nx => ∃ k, inv k ∧ μ k = n ∧ e = E k ∧ L' = L k ∧ nx = nx', ⟨_, g0, _, _, _, ⟨k0, h0, rfl, rfl, rfl, rfl⟩, hs⟩, ?_⟩
  rintro n e L' nx ⟨k, hk, rfl, rfl, rfl, rfl⟩
  have h := hb k hk
  have e1 : (fun (x : AX) (e : T) (H : Heap) (nx1 : Nat) => (match x with | .normal => ∃ k' g, inv k' ∧ μ k' < μ k ∧ SLe g e H (E k') (L k') nx | x => Q x e H nx1 : Prop)) =
      (fun x e H nx1 => match x with | .normal => ∃ m g e' L' nx', m < μ k ∧ (∃ k, inv k ∧ μ k = m ∧ e' = E k ∧ L' = L k ∧ nx' = nx) ∧ SLe g e H e' L' nx' | x => Q x e H nx1) := by
    funext x e H nx1
    cases x with
    | normal =>
      apply propext
      constructor
      · rintro ⟨k', g, h1, h2, h3⟩
        exact ⟨μ k', g, E k', L k', nx, h2, ⟨k', h1, rfl, rfl, rfl, rfl⟩, h3⟩
      · rintro ⟨m, g, e', L', nx', h2, ⟨k', h1, rfl, rfl, rfl, rfl⟩, h3⟩
        exact ⟨k', g, h1, h2, h3⟩
    | _ => rfl
  rw [← e1]
  exact h

theorem awpOps_mono {P : Program} {nx : Nat} {K K' : T → Heap → Prop} (h : ∀ e H, K e H → K' e H) : ∀ {i : Nat} {os : List AOper} {e : T} {H : Heap}, awpOps P nx i os K e H → awpOps P nx i os K' e H := by
  intro i os
  induction os generalizing i with
  | nil => intro e H hk; exact h _ _ hk
  | cons o os ih =>
    intro e H hk
    unfold awpOps at hk ⊢
    split at hk
    · obtain ⟨r, h1, h2⟩ := hk
      exact ⟨r, h1, ih h2⟩
    · obtain ⟨r, h1, h2⟩ := hk
      exact ⟨r, h1, ih h2⟩
    · exact ⟨hk.1, ih hk.2⟩

section
variable {P : Program} {D N : Nat} {X0 : Nat → Nat → Prop} {W0 : World} {γ : Nat → Option Value} {w : World} {H : Heap} {a : Act} {e : T}

/-- A state, and the numbers from nx on are free. -/
def FZ (D N : Nat) (X0 : Nat → Nat → Prop) (W0 : World) (γ : Nat → Option Value) (a : Act) (w : World) (e : T) (H : Heap) (nx : Nat) : Prop := FR D N X0 W0 γ a w e H ∧ ∀ k, nx ≤ k → γ k = none

def AX.of : Exit → Option AX
  | .normal => some .normal
  | .exit id => some (.exit id)
  | .ret => some .ret
  | _ => none

def lift (D N : Nat) (X0 : Nat → Nat → Prop) (W0 : World) (Q : AX → T → Heap → Nat → Prop) : Exit → Act → World → Prop :=
  fun x a w => ∃ y γ e H nx, AX.of x = some y ∧ FZ D N X0 W0 γ a w e H nx ∧ Q y e H nx

/-- The region's operations do, in whatever order the model takes them, as the evaluator's list. -/
def RegOk (P : Program) (D N : Nat) (id : Nat) (ops : Array Oper) (draw : Bool) (os : List AOper) : Prop :=
  ∀ X0 W0 γ a w e H nx (K : T → Heap → Prop) (Q : Exit → Act → World → Prop), FZ D N X0 W0 γ a w e H nx → awpOps P nx 0 os K e H →
    (∀ γ' a' w' e' H', K e' H' → FZ D N X0 W0 γ' a' w' e' H' (nx + os.length) → Q .normal a' w') → (Code.region id ops draw).wp P Q a w

inductive TrCode (P : Program) (D N : Nat) : Code → ACode → Prop
  | skip : TrCode P D N .skip .skip
  | reg {id ops draw os} (h : RegOk P D N id ops draw os) : TrCode P D N (.region id ops draw) (.reg os)
  | seq {a b a' b'} (ha : TrCode P D N a a') (hb : TrCode P D N b b') : TrCode P D N (.seq a b) (.seq a' b')
  | cond {c t f c' t' f'} (hc : TrOpd D c c') (ht : TrCode P D N t t') (hf : TrCode P D N f f') : TrCode P D N (.cond c t f) (.cond c' t' f')
  | block {id b b'} (hb : TrCode P D N b b') : TrCode P D N (.block id b) (.block id b')
  | loop {b b'} (hb : TrCode P D N b b') : TrCode P D N (.loop b) (.loop b')
  | exit {id} : TrCode P D N (.exit id) (.exit id)
  | ret : TrCode P D N .ret .ret
  | frz {c c' p} (h : TrCode P D N c c') (hp : p.length = D) : TrCode P D N c (.seq c' (.frz p))
  | bad {c} : TrCode P D N c .bad

theorem frz1_fs {p : Slot} (hp : p.length = D) {nx : Nat} (hF : FZ D N X0 W0 γ a w e H nx) : FZ D N X0 W0 γ a w (frz1 p e H).1 (frz1 p e H).2 nx := by
  unfold frz1
  split
  · rename_i id hget1
    split
    · rename_i cs ho
      split
      · rename_i ds hds
        obtain ⟨hR, hfr⟩ := hF
        have hv := hR.env p hp
        rw [hget1] at hv
        generalize hva : a.tmps.getD p.idx undef = v at hv
        cases hv with
        | ptr b _ _ hγ =>
          obtain ⟨u, hu, b', arr, t, rfl, hB, hh, hr⟩ := hR.st.obj id _ ho
          rw [hγ] at hu
          injection hu with hu
          injection hu with hu
          injection hu with hu
          injection hu with hu
          subst hu
          have hX : ∀ b' q, XOf X0 γ (hdel H id) b' q → XOf X0 γ H b' q := by
            rintro b' q (h | ⟨k, o, u, h1, h2, h3, h4⟩)
            · exact .inl h
            · simp only [hget_del] at h1
              split at h1
              · cases h1
              · exact .inr ⟨k, o, u, h1, h2, h3, h4⟩
          have hn : ∀ q, ¬ XOf X0 γ (hdel H id) b q := by
            rintro q (h | ⟨k, o, u, h1, h2, h3, h4⟩)
            · have := hR.st.hx b q h; omega
            · simp only [hget_del] at h1
              split at h1
              · cases h1
              · rename_i hne
                exact hne (hR.st.dis id k _ o _ u b ho h1 hγ h2 rfl h3)
          have hK : Keeps (XOf X0 γ H) (XOf X0 γ (hdel H id)) w w := ⟨Nat.le_refl _, fun _ _ _ _ => rfl, fun b q _ hb => hX b q hb⟩
          have hd := (hr.mono (Knows.refl γ) hK).allD hds
          have hc := DRep.cref (X := XOf X0 γ (hdel H id)) (w := w) b 0 0 ds arr.toList (Array.getElem?_eq_some_iff.1 hh).1 (fun j _ => hn _) hd.1 (box_cells hh) hd.2
          refine ⟨⟨⟨hR.st.hx, hR.st.ext, ?_, ?_⟩, ?_, hR.size, hR.defers⟩, hfr⟩
          · intro k o hk
            simp only [hget_del] at hk
            split at hk
            · cases hk
            · obtain ⟨u, hu, hor⟩ := hR.st.obj k o hk
              refine ⟨u, hu, ?_⟩
              cases o with
              | box cs' =>
                obtain ⟨b2, arr2, t2, h1, h2, h3, h4⟩ := hor
                exact ⟨b2, arr2, t2, h1, h2, h3, h4.mono (Knows.refl γ) hK⟩
              | row te n len row =>
                obtain ⟨xs, h1, h2⟩ := hor
                exact ⟨xs, h1, fun j hj => ⟨(h2 j hj).1, (h2 j hj).2.mono hK⟩⟩
          · intro i j o o' u u' b' h1 h2
            simp only [hget_del] at h1 h2
            split at h1
            · cases h1
            · split at h2
              · cases h2
              · exact hR.st.dis i j o o' u u' b' h1 h2
          · intro q hq
            by_cases hpq : p = q
            · subst hpq
              rw [T.get_set, hva]
              exact .d _ _ (by simpa using hc)
            · rw [T.get_set_ne _ p q e (hp.trans hq.symm) hpq]
              exact (hR.env q hq).mono (Knows.refl γ) hK
      · exact hF
    · exact hF
  · exact hF

theorem regOk_seq {id : Nat} {ops : Array Oper} {os : List AOper} (hl : ops.size = os.length) (h : ∀ (i : Nat) (o : Oper) (ao : AOper), ops[i]? = some o → os[i]? = some ao → TrOper P D N ops o ao) : RegOk P D N id ops false os := by
  intro X0 W0 γ a w e H nx K Q hF hK hQ
  apply wp_region
  have key : ∀ (r i : Nat) (γ : Nat → Option Value) (a : Act) (w : World) (e : T) (H : Heap), i + r = ops.size → FR D N X0 W0 γ a w e H → (∀ k, nx + i ≤ k → γ k = none) → awpOps P nx i (os.drop i) K e H → wpOps P ops Q ((List.range r).map (i + ·)) a w := by
    intro r
    induction r with
    | zero =>
      intro i γ a w e H hi hR hfr hk
      have : os.drop i = [] := List.drop_eq_nil_of_le (by omega)
      rw [this] at hk
      simp only [List.range_zero, List.map_nil, wpOps]
      exact hQ γ a w e H hk ⟨hR, by have : i = os.length := by omega
                                    rw [← this]; exact hfr⟩
    | succ r ih =>
      intro i γ a w e H hi hR hfr hk
      have hi1 : i < ops.size := by omega
      have hi2 : i < os.length := by omega
      have e1 : (List.range (r + 1)).map (i + ·) = i :: (List.range r).map (i + 1 + ·) := by
        rw [List.range_succ_eq_map, List.map_cons, List.map_map]
        simp only [Nat.add_zero, List.cons.injEq, true_and]
        apply List.map_congr_left
        intro k _
        simp only [Function.comp]; omega
      rw [e1, wpOps_cons]
      have hd : os.drop i = os[i] :: os.drop (i + 1) := List.drop_eq_getElem_cons hi2
      have tr := h i ops[i] os[i] (Array.getElem?_eq_getElem hi1) (List.getElem?_eq_getElem hi2)
      have step : ∀ r', okS P r' (nx + i) os[i] e H → awpOps P nx (i + 1) (os.drop (i + 1)) K (stp r' (nx + i) os[i] e H).1 (stp r' (nx + i) os[i] e H).2 → wpOp P ops Q i (wpOps P ops Q ((List.range r).map (i + 1 + ·))) a w := by
        intro r' hok hk'
        have := op_sound (Q := Q) (K := wpOps P ops Q ((List.range r).map (i + 1 + ·))) tr hR (id := nx + i) (hfr _ (Nat.le_refl _)) r' hok (fun γ' a' w' hR' hkn hne => ih (i + 1) γ' a' w' _ _ (by omega) hR' (fun k hk2 => by rw [hne k (by omega)]; exact hfr k (by omega)) hk')
        unfold wpOp
        rw [Array.getElem?_eq_getElem hi1]
        exact this
      rw [hd] at hk
      unfold awpOps at hk
      split at hk
      · obtain ⟨r', h1, h2⟩ := hk
        exact step r' h1 h2
      · obtain ⟨r', h1, h2⟩ := hk
        exact step r' h1 h2
      · exact step .top hk.1 hk.2
  have := key ops.size 0 γ a w e H (by omega) hF.1 (by simpa using hF.2) (by simpa using hK)
  simpa using this

theorem AVLe.rep {γ' : Nat → Option Value} {X X' : Nat → Nat → Prop} {g : Nat → Src} (hg1 : ∀ i k, g i = .id k → γ' i = γ k) (hg2 : ∀ i, g i = .nil → γ' i = some (.slice none 0 0)) (hX : ∀ b q, b < w.heap.size → X' b q → X b q) {v : Value} {x y : AV}
    (h : AVLe g x y) (hv : Rep γ X w v x) : Rep γ' X' w v y := by
  have hK : Keeps X X' w w := ⟨Nat.le_refl _, fun _ _ _ _ => rfl, hX⟩
  unfold AVLe at h
  split at h
  · exact .top v
  · obtain ⟨h1, h2⟩ := h
    subst h2
    cases hv with | own _ _ _ hk => exact .own v _ _ (by rw [hg1 _ _ h1]; exact hk)
  · obtain rfl := hv.lit
    exact .own _ _ _ (hg2 _ h)
  · exact .d _ _ (h _ _ _ (hv.dv.mono hK))
  · obtain ⟨h1, h2⟩ := h
    subst h2
    cases hv with | ptr b _ _ hk => exact .ptr b _ _ (by rw [hg1 _ _ h1]; exact hk)
  · exact h.elim

theorem AVLe.top (g : Nat → Src) (a : AV) : AVLe g a (.d .top) := by
  cases a <;> simp [AVLe]

theorem TLe.get {g : Nat → Src} : ∀ (t' t : T), TLe g t t' → ∀ p : Slot, AVLe g (t.get p) (t'.get p)
  | .leaf b, .leaf a, h, p => by cases p <;> simpa only [TLe, T.get] using h
  | .leaf b, .node l r, h, p => by
    have h' : b = .d .top ∨ (TLe g l (.leaf b) ∧ TLe g r (.leaf b)) := by simpa only [TLe] using h
    rcases h' with rfl | ⟨h1, h2⟩
    · exact AVLe.top g _
    · match p with
      | [] => exact TLe.get (.leaf b) l h1 []
      | false :: p => exact TLe.get (.leaf b) l h1 p
      | true :: p => exact TLe.get (.leaf b) r h2 p
  | .node l' r', .leaf a, h, p => by
    have h' : TLe g (.leaf a) l' ∧ TLe g (.leaf a) r' := by simpa only [TLe] using h
    match p with
    | [] => exact TLe.get l' (.leaf a) h'.1 []
    | false :: p => exact TLe.get l' (.leaf a) h'.1 p
    | true :: p => exact TLe.get r' (.leaf a) h'.2 p
  | .node l' r', .node l r, h, p => by
    have h' : TLe g l l' ∧ TLe g r r' := by simpa only [TLe] using h
    match p with
    | [] => exact TLe.get l' l h'.1 []
    | false :: p => exact TLe.get l' l h'.1 p
    | true :: p => exact TLe.get r' r h'.2 p
termination_by t' t => (t', t)

/-- What an object's number now stands for. -/
def ren (g : Nat → Src) (γ : Nat → Option Value) : Nat → Option Value := fun i => match g i with
  | .none => none
  | .id k => γ k
  | .nil => some (.slice none 0 0)

theorem hof_get {L : List (Nat × AObj)} {i : Nat} {o : AObj} (h : hget (hof L) i = some o) : (i, o) ∈ L := by
  induction L with
  | nil => cases h
  | cons p L ih =>
    obtain ⟨j, o'⟩ := p
    simp only [hof, hget_add] at h
    split at h
    · rename_i e; subst e; injection h with h; subst h; simp
    · exact List.mem_cons_of_mem _ (ih h)

theorem HLe.mem {g : Nat → Src} {H : Heap} {L : List (Nat × AObj)} (h : HLe g H L) {i : Nat} {o' : AObj} (hm : (i, o') ∈ L) :
    (∃ k o, g i = .id k ∧ hget H k = some o ∧ OLe g o o') ∨ (g i = .nil ∧ ∃ e n row, o' = .row e n 0 row) := by
  induction L with
  | nil => cases hm
  | cons p L ih =>
    obtain ⟨j, oj⟩ := p
    obtain ⟨h1, h2⟩ := h
    rcases List.mem_cons.1 hm with e | hm
    · injection e with e1 e2
      subst e1; subst e2
      cases hg : g i with
      | none => simp [hg] at h1
      | id k =>
        simp only [hg] at h1
        cases ho : hget H k with
        | none => simp [ho] at h1
        | some o => simp only [ho] at h1; exact .inl ⟨k, o, rfl, ho, h1⟩
      | nil =>
        simp only [hg] at h1
        cases o' with
        | box cs => exact h1.elim
        | row e n len row =>
          have : len = 0 := h1
          subst this
          exact .inr ⟨rfl, e, n, row, rfl⟩
    · exact ih h2 hm

theorem srcApart.mem {g : Nat → Src} {L : List (Nat × AObj)} (h : srcApart g L) {i j : Nat} {o o' : AObj} (hi : (i, o) ∈ L) (hj : (j, o') ∈ L) (hne : i ≠ j) {k : Nat} (h1 : g i = .id k) (h2 : g j = .id k) : False := by
  induction L with
  | nil => cases hi
  | cons p L ih =>
    obtain ⟨q, oq⟩ := p
    obtain ⟨h3, h4⟩ := h
    rcases List.mem_cons.1 hi with e | hi' <;> rcases List.mem_cons.1 hj with e' | hj'
    · injection e with e1 e2; injection e' with e3 e4
      exact hne (e1.trans e3.symm)
    · injection e with e1 e2
      subst e1
      exact h3 j o' hj' hne k h1 h2
    · injection e' with e1 e2
      subst e1
      exact h3 i o hi' (Ne.symm hne) k h2 h1
    · exact ih h4 hi' hj'

theorem cellsLe.reps {γ' : Nat → Option Value} {X X' : Nat → Nat → Prop} {g : Nat → Src} (hf : ∀ v x y, AVLe g x y → Rep γ X w v x → Rep γ' X' w v y) : ∀ {vs : List Value} {as bs : List AV}, cellsLe g as bs → Reps γ X w vs as → Reps γ' X' w vs bs
  | vs, [], [], _, h => by
    have : vs = [] := by have := h.1; simpa using this
    subst this; exact Reps.nil _ _ _
  | [], a :: as, b :: bs, _, h => by exact absurd h.1 (by simp)
  | v :: vs, a :: as, b :: bs, hc, h => Reps.cons (hf v a b hc.1 (h.2 0 (by simp) (by simp))) (cellsLe.reps hf hc.2 ⟨by simpa using h.1, fun i hi hi' => h.2 (i + 1) (by simpa using hi) (by simpa using hi')⟩)
  | vs, [], b :: bs, hc, _ => hc.elim
  | vs, a :: as, [], hc, _ => hc.elim

/-- What says less holds as well. -/
theorem SLe.fs {g : Nat → Src} {e' : T} {L : List (Nat × AObj)} {nx nx' : Nat} (hs : SLe g e H e' L nx') (hF : FZ D N X0 W0 γ a w e H nx) : FZ D N X0 W0 (ren g γ) a w e' (hof L) nx' := by
  obtain ⟨hT, hH, hA, hN⟩ := hs
  obtain ⟨hR, hfr⟩ := hF
  have hg1 : ∀ i k, g i = .id k → ren g γ i = γ k := fun i k h => by simp [ren, h]
  have hg2 : ∀ i, g i = .nil → ren g γ i = some (.slice none 0 0) := fun i h => by simp [ren, h]
  have hX : ∀ b q, XOf X0 (ren g γ) (hof L) b q → XOf X0 γ H b q := by
    rintro b q (h | ⟨i, o', v, h1, h2, h3, h4⟩)
    · exact .inl h
    · rcases hH.mem (hof_get h1) with ⟨k, o, hk, ho, hle⟩ | ⟨hk, _⟩
      · rw [hg1 i k hk] at h2
        refine .inr ⟨k, o, v, ho, h2, h3, ?_⟩
        cases o with
        | box cs => trivial
        | row e n len row =>
          cases o' with
          | box => exact hle.elim
          | row e' n' len' row' =>
            obtain ⟨_, rfl, rfl, _⟩ := hle
            exact h4
      · rw [hg2 i hk] at h2
        injection h2 with h2
        subst h2
        simp [blk] at h3
  have hrep : ∀ v x y, AVLe g x y → Rep γ (XOf X0 γ H) w v x → Rep (ren g γ) (XOf X0 (ren g γ) (hof L)) w v y := fun v x y h hv => AVLe.rep hg1 hg2 (fun b q _ hb => hX b q hb) h hv
  have hK : Keeps (XOf X0 γ H) (XOf X0 (ren g γ) (hof L)) w w := ⟨Nat.le_refl _, fun _ _ _ _ => rfl, fun b q _ hb => hX b q hb⟩
  refine ⟨⟨⟨hR.st.hx, hR.st.ext, ?_, ?_⟩, ?_, hR.size, hR.defers⟩, ?_⟩
  · intro i o' ho'
    rcases hH.mem (hof_get ho') with ⟨k, o, hk, ho, hle⟩ | ⟨hk, te, tn, row, rfl⟩
    · obtain ⟨v, hv, hr⟩ := hR.st.obj k o ho
      refine ⟨v, (hg1 i k hk).trans hv, ?_⟩
      cases o with
      | box cs =>
        cases o' with
        | row => exact hle.elim
        | box cs' =>
          obtain ⟨b, arr, t, rfl, h1, h2, h3⟩ := hr
          exact ⟨b, arr, t, rfl, h1, h2, cellsLe.reps hrep hle h3⟩
      | row e n len row =>
        cases o' with
        | box => exact hle.elim
        | row e' n' len' row' =>
          obtain ⟨rfl, rfl, rfl, hrow⟩ := hle
          obtain ⟨xs, hown, hx⟩ := hr
          exact ⟨xs, hown, fun j hj => ⟨(hx j hj).1, by rw [← hrow j hj]; exact (hx j hj).2.mono hK⟩⟩
    · exact ⟨_, hg2 i hk, fun _ => [], by simpa using World.ownsRow_nil w _ _ _, fun j hj => by omega⟩
  · intro i j o o' v v' b h1 h2 h3 h4 h5 h6
    have m1 := hof_get h1
    have m2 := hof_get h2
    by_cases hne : i = j
    · exact hne
    · exfalso
      rcases hH.mem m1 with ⟨k, ok, hk, ho, _⟩ | ⟨hk, _⟩
      · rcases hH.mem m2 with ⟨k', ok', hk', ho', _⟩ | ⟨hk', _⟩
        · rw [hg1 _ _ hk] at h3
          rw [hg1 _ _ hk'] at h4
          have := hR.st.dis k k' ok ok' v v' b ho ho' h3 h4 h5 h6
          subst this
          exact hA.mem m1 m2 hne hk hk'
        · rw [hg2 _ hk'] at h4
          injection h4 with h4
          subst h4
          simp [blk] at h6
      · rw [hg2 _ hk] at h3
        injection h3 with h3
        subst h3
        simp [blk] at h5
  · intro p hp
    exact hrep _ _ _ (TLe.get _ _ hT p) (hR.env p hp)
  · intro k hk
    simp [ren, hN k hk]

theorem exists_min {p : Nat → Prop} (h : ∃ n, p n) : ∃ n, p n ∧ ∀ m, p m → n ≤ m := by
  obtain ⟨n, hn⟩ := h
  induction n using Nat.strongRecOn with
  | _ n ih =>
    by_cases hm : ∃ m, m < n ∧ p m
    · obtain ⟨m, h1, h2⟩ := hm
      exact ih m h1 h2
    · exact ⟨n, hn, fun m hp => Nat.le_of_not_lt fun hlt => hm ⟨m, hlt, hp⟩⟩

/-- A loop's law with a measure that the invariant bears. -/
theorem wp_loop_n {c : Code} {Q : Exit → Act → World → Prop} (J : Nat → Act → World → Prop) (h0 : ∃ n, J n a w) (round : ∀ n a w, J n a w → c.wp P (Exit.then (fun a' w' => ∃ m, m < n ∧ J m a' w') Q) a w) : (Code.loop c).wp P Q a w := by
  classical
  let μ : Act → World → Nat := fun a w => if h : ∃ n, J n a w then Classical.choose (exists_min h) else 0
  refine wp_loop (fun a w => ∃ n, J n a w) μ h0 fun a w hI => ?_
  have hsp := Classical.choose_spec (exists_min hI)
  have hμ : μ a w = Classical.choose (exists_min hI) := dif_pos hI
  refine wp_mono (round (μ a w) a w (hμ ▸ hsp.1)) fun x a' w' hq => ?_
  cases x with
  | normal =>
    obtain ⟨m, hlt, hJ⟩ := hq
    refine ⟨⟨m, hJ⟩, ?_⟩
    have hI' : ∃ n, J n a' w' := ⟨m, hJ⟩
    have hμ' : μ a' w' = Classical.choose (exists_min hI') := dif_pos hI'
    have := (Classical.choose_spec (exists_min hI')).2 m hJ
    show μ a' w' < μ a w
    omega
  | _ => exact hq

theorem cval_ok {c : Operand} {c' : Opd} (tr : TrOpd D c c') {X : Nat → Nat → Prop} (hE : EnvRep D γ X w a e) (hok : cok e c') : a.eval c = .bool (cval e c') := by
  obtain ⟨h1, h2⟩ := hok
  have hr := (tr.rep hE).strip h1
  unfold cval
  split at h2
  · rename_i b heq
    rw [heq] at hr
    exact hr.lit
  · exact h2.elim

/-- The evaluator tells of the model's run. -/
theorem awp_sound {c : Code} {ac : ACode} (tr : TrCode P D N c ac) : ∀ (Q : AX → T → Heap → Nat → Prop) (γ : Nat → Option Value) (a : Act) (w : World) (e : T) (H : Heap) (nx : Nat), FZ D N X0 W0 γ a w e H nx → awp P ac Q e H nx → c.wp P (lift D N X0 W0 Q) a w := by
  induction tr with
  | skip => exact fun Q γ a w e H nx hF h => wp_skip ⟨_, γ, e, H, nx, rfl, hF, h⟩
  | ret => exact fun Q γ a w e H nx hF h => wp_ret ⟨_, γ, e, H, nx, rfl, hF, h⟩
  | bad => exact fun Q γ a w e H nx hF h => h.elim
  | exit => exact fun Q γ a w e H nx hF h => wp_exit ⟨_, γ, e, H, nx, rfl, hF, h⟩
  | frz _ hp ih =>
    intro Q γ a w e H nx hF h
    refine wp_mono (ih _ γ a w e H nx hF h) ?_
    rintro x a' w' ⟨y, γ', e', H', nx', hy, hF', hq⟩
    cases x <;> simp only [AX.of] at hy <;> (try cases hy)
    · exact ⟨_, γ', _, _, nx', rfl, frz1_fs hp hF', hq⟩
    · exact ⟨_, γ', e', H', nx', rfl, hF', hq⟩
    · exact ⟨_, γ', e', H', nx', rfl, hF', hq⟩
  | @reg id ops draw os hreg =>
    intro Q γ a w e H nx hF h
    exact hreg X0 W0 γ a w e H nx _ _ hF h (fun γ' a' w' e' H' hk hF' => ⟨_, γ', e', H', _, rfl, hF', hk⟩)
  | seq _ _ iha ihb =>
    intro Q γ a w e H nx hF h
    refine wp_seq (wp_mono (iha _ γ a w e H nx hF h) ?_)
    rintro x a' w' ⟨y, γ', e', H', nx', hy, hF', hq⟩
    cases x <;> simp only [AX.of] at hy <;> (try cases hy)
    · exact ihb Q γ' a' w' e' H' nx' hF' hq
    · exact ⟨_, γ', e', H', nx', rfl, hF', hq⟩
    · exact ⟨_, γ', e', H', nx', rfl, hF', hq⟩
  | cond hc _ _ iht ihf =>
    intro Q γ a w e H nx hF h
    obtain ⟨h1, h2, h3⟩ := h
    refine wp_cond (cval_ok hc hF.1.env h1) ?_
    cases hb : cval e _ with
    | true => rw [if_pos rfl]; exact iht Q γ a w e H nx hF (h2 hb)
    | false => rw [if_neg (by simp)]; exact ihf Q γ a w e H nx hF (h3 hb)
  | @block id _ _ _ ih =>
    intro Q γ a w e H nx hF h
    refine wp_block (wp_mono (ih _ γ a w e H nx hF h) ?_)
    rintro x a' w' ⟨y, γ', e', H', nx', hy, hF', hq⟩
    cases x <;> simp only [AX.of] at hy <;> (try cases hy)
    · exact ⟨_, γ', e', H', nx', rfl, hF', hq⟩
    · rename_i id'
      simp only [Exit.inBlock]
      simp only at hq
      split at hq
      · rename_i hid
        first | (rw [if_pos hid]; exact ⟨_, γ', e', H', nx', rfl, hF', hq⟩) | (rw [if_pos hid.symm]; exact ⟨_, γ', e', H', nx', rfl, hF', hq⟩)
      · rename_i hid
        first | (rw [if_neg hid]; exact ⟨_, γ', e', H', nx', rfl, hF', hq⟩) | (rw [if_neg (Ne.symm hid)]; exact ⟨_, γ', e', H', nx', rfl, hF', hq⟩)
    · exact ⟨_, γ', e', H', nx', rfl, hF', hq⟩
  | loop _ ih =>
    intro Q γ a w e H nx hF h
    obtain ⟨I, ⟨n0, g0, e0, L0, nx0, hI0, hs0⟩, hb⟩ := h
    refine wp_loop_n (fun n a w => ∃ γ e L nx, I n e L nx ∧ FZ D N X0 W0 γ a w e (hof L) nx) ⟨n0, _, e0, L0, nx0, hI0, hs0.fs hF⟩ ?_
    rintro n a w ⟨γ, e, L, nx, hI, hF⟩
    refine wp_mono (ih _ γ a w e (hof L) nx hF (hb n e L nx hI)) ?_
    rintro x a' w' ⟨y, γ', e', H', nx', hy, hF', hq⟩
    cases x <;> simp only [AX.of] at hy <;> (try cases hy)
    · obtain ⟨m, g, e'', L', nx'', hlt, hI', hs⟩ := hq
      exact ⟨m, hlt, _, e'', L', nx'', hI', hs.fs hF'⟩
    · exact ⟨_, γ', e', H', nx', rfl, hF', hq⟩
    · exact ⟨_, γ', e', H', nx', rfl, hF', hq⟩

end

end Go.Proofs.Ytghlfjpmpalpdaa
