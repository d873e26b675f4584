/- The evaluator with what is still to come avs data: one rule for each piece of code; calls; loops. -/
import Derived.Test.YtghlfjpmpalpdaaSimp
namespace Go.Proofs.Ytghlfjpmpalpdaa
open Go.RowKit

/-- What is still to come: code, or the end of a block. -/
inductive Kt where
  | code (c : ACode)
  | blk (id : Nat)

/-- Where an exit leads. -/
def dropTo (id : Nat) : List Kt → Option (List Kt)
  | [] => none
  | .blk j :: ks => if j = id then some ks else dropTo id ks
  | .code _ :: ks => dropTo id ks

mutual
def G (P : Program) : List Kt → (AX → T → Heap → Nat → Prop) → T → Heap → Nat → Prop
  | [], Q, e, H, nx => Q .normal e H nx
  | .blk _ :: ks, Q, e, H, nx => G P ks Q e H nx
  | .code c :: ks, Q, e, H, nx => awp P c (fun x e H nx => match x with | .normal => G P ks Q e H nx | .exit id => Gx P id ks Q e H nx | .ret => Q .ret e H nx) e H nx
def Gx (P : Program) (id : Nat) : List Kt → (AX → T → Heap → Nat → Prop) → T → Heap → Nat → Prop
  | [], Q, e, H, nx => Q (.exit id) e H nx
  | .blk j :: ks, Q, e, H, nx => if id = j then G P ks Q e H nx else Gx P id ks Q e H nx
  | .code _ :: ks, Q, e, H, nx => Gx P id ks Q e H nx
end

/-- Operations i, i + 1, .., then the rest; n: the first free number behind the region. -/
def GO (P : Program) (nx n i : Nat) (os : List AOper) (ks : List Kt) (Q : AX → T → Heap → Nat → Prop) (e : T) (H : Heap) : Prop := awpOps P nx i os (fun e H => G P ks Q e H n) e H

/-- A call that is to come next. -/
def CallK (P : Program) (nx n i : Nat) (d : Option Slot) (g : Option (Slot × Bool)) (lo : Option Nat) (c : Bool) (f : Opd) (args : List Opd) (os : List AOper) (ks : List Kt) (Q : AX → T → Heap → Nat → Prop) (e : T) (H : Heap) : Prop :=
  GO P nx n i (⟨d, g, .call c f args, lo⟩ :: os) ks Q e H
/-- A call that hands back a row of its own making is to come next. -/
def CalloK (P : Program) (nx n i : Nat) (d : Option Slot) (g : Option (Slot × Bool)) (lo : Option Nat) (te : TypeId) (m : Nat) (f : Opd) (args : List Opd) (os : List AOper) (ks : List Kt) (Q : AX → T → Heap → Nat → Prop) (e : T) (H : Heap) : Prop :=
  GO P nx n i (⟨d, g, .callo te m f args, lo⟩ :: os) ks Q e H

/-- A loop that is to come next. -/
def LoopK (P : Program) (b : ACode) (ks : List Kt) (Q : AX → T → Heap → Nat → Prop) (e : T) (H : Heap) (nx : Nat) : Prop := G P (.code (.loop b) :: ks) Q e H nx

/-- A range over a function that is to come next. -/
def RngK (P : Program) (g : Opd) (ps : List Slot) (asn body : ACode) (ks : List Kt) (Q : AX → T → Heap → Nat → Prop) (e : T) (H : Heap) (nx : Nat) : Prop := G P (.code (.rng g ps asn body) :: ks) Q e H nx

section
variable {P : Program} {Q : AX → T → Heap → Nat → Prop} {e : T} {H : Heap} {nx n i : Nat} {ks : List Kt}

theorem G_start (c : ACode) (h : G P [.code c] Q e H nx) : awp P c Q e H nx := by
  simp only [G, Gx] at h
  have e1 : (fun (x : AX) (e : T) (H : Heap) (nx : Nat) => (match x with | .normal => Q .normal e H nx | .exit id => Q (.exit id) e H nx | .ret => Q .ret e H nx : Prop)) = Q := by
    funext x e H nx
    cases x <;> rfl
  rw [e1] at h
  exact h
theorem G_nil : G P [] Q e H nx = Q .normal e H nx := by simp only [G]
theorem G_blk {id : Nat} : G P (.blk id :: ks) Q e H nx = G P ks Q e H nx := by simp only [G]
theorem G_skip : G P (.code .skip :: ks) Q e H nx = G P ks Q e H nx := by simp only [G, awp]
theorem G_ret : G P (.code .ret :: ks) Q e H nx = Q .ret e H nx := by simp only [G, awp]
theorem G_frz {p : Slot} : G P (.code (.frz p) :: ks) Q e H nx = G P ks Q (frz1 p e H).1 (frz1 p e H).2 nx := by simp only [G, awp]
theorem G_exit {id : Nat} : G P (.code (.exit id) :: ks) Q e H nx = Gx P id ks Q e H nx := by simp only [G, awp]
theorem G_seq {a b : ACode} : G P (.code (.seq a b) :: ks) Q e H nx = G P (.code a :: .code b :: ks) Q e H nx := by
  simp only [G, awp]
  congr 1
  funext x e H nx
  cases x <;> simp only [Gx]
theorem G_block {id : Nat} {b : ACode} : G P (.code (.block id b) :: ks) Q e H nx = G P (.code b :: .blk id :: ks) Q e H nx := by
  simp only [G, awp]
  congr 1
  funext x e H nx
  cases x with
  | exit j => simp only [Gx]
  | _ => rfl
theorem G_cond {c : Opd} {t f : ACode} : G P (.code (.cond c t f) :: ks) Q e H nx = (cok e c ∧ (cval e c = true → G P (.code t :: ks) Q e H nx) ∧ (cval e c = false → G P (.code f :: ks) Q e H nx)) := by
  simp only [G, awp]
theorem G_reg {os : List AOper} : G P (.code (.reg os) :: ks) Q e H nx = GO P nx (nx + os.length) 0 os ks Q e H := by
  simp only [G, awp, GO]
theorem G_loop {b : ACode} : G P (.code (.loop b) :: ks) Q e H nx = LoopK P b ks Q e H nx := rfl
theorem G_rng {g : Opd} {ps : List Slot} {asn body : ACode} : G P (.code (.rng g ps asn body) :: ks) Q e H nx = RngK P g ps asn body ks Q e H nx := rfl
theorem Gx_nil {id : Nat} : Gx P id [] Q e H nx = Q (.exit id) e H nx := by simp only [Gx]
theorem Gx_blk {id j : Nat} : Gx P id (.blk j :: ks) Q e H nx = if id = j then G P ks Q e H nx else Gx P id ks Q e H nx := by simp only [Gx]
theorem Gx_code {id : Nat} {c : ACode} : Gx P id (.code c :: ks) Q e H nx = Gx P id ks Q e H nx := by simp only [Gx]
theorem GO_nil : GO P nx n i [] ks Q e H = G P ks Q e H n := by simp only [GO, awpOps]
theorem GO_call {d : Option Slot} {g : Option (Slot × Bool)} {lo : Option Nat} {c : Bool} {f : Opd} {args : List Opd} {os : List AOper} : GO P nx n i (⟨d, g, .call c f args, lo⟩ :: os) ks Q e H = CallK P nx n i d g lo c f args os ks Q e H := rfl
theorem GO_callo {d : Option Slot} {g : Option (Slot × Bool)} {lo : Option Nat} {te : TypeId} {m : Nat} {f : Opd} {args : List Opd} {os : List AOper} : GO P nx n i (⟨d, g, .callo te m f args, lo⟩ :: os) ks Q e H = CalloK P nx n i d g lo te m f args os ks Q e H := rfl

variable {d : Option Slot} {g : Option (Slot × Bool)} {lo : Option Nat} {os : List AOper}
theorem GO_mv {x : Opd} : GO P nx n i (⟨d, g, .mv x, lo⟩ :: os) ks Q e H = (gok e g ∧ (gval e g = true → (x.av e).live) ∧ GO P nx n (i + 1) os ks Q (setD e d (wrap e g (x.av e).strip)) H) := by
  simp only [GO, awpOps, okS, stp, AOp.ok, AOp.val, and_assoc]
theorem GO_val {op : AOp} (h : (match op with | .call _ _ _ | .callo _ _ _ _ | .box _ _ | .new _ | .nrow _ _ | .st _ _ _ | .app _ _ _ _ _ | .ini _ _ _ _ | .mmk _ | .mset _ _ _ _ | .bad => false | _ => true) = true) :
    GO P nx n i (⟨d, g, op, lo⟩ :: os) ks Q e H = (gok e g ∧ (gval e g = true → op.ok e (lowH lo (nx + i) H)) ∧ GO P nx n (i + 1) os ks Q (setD e d (wrap e g (op.val e (lowH lo (nx + i) H)))) H) := by
  cases op <;> first
    | (simp at h; done)
    | simp only [GO, awpOps, okS, stp, and_assoc, AOper.hv]
theorem GO_obj {op : AOp} (h : (match op with | .box _ _ | .new _ | .nrow _ _ | .st _ _ _ | .app _ _ _ _ _ | .ini _ _ _ _ | .mmk _ | .mset _ _ _ _ | .bad => true | _ => false) = true) :
    GO P nx n i (⟨d, g, op, lo⟩ :: os) ks Q e H = (okS P .top (nx + i) ⟨d, g, op, lo⟩ e H ∧ GO P nx n (i + 1) os ks Q (stp .top (nx + i) ⟨d, g, op, lo⟩ e H).1 (stp .top (nx + i) ⟨d, g, op, lo⟩ e H).2) := by
  cases op <;> first
    | (simp at h; done)
    | simp only [GO, awpOps]

/-- The data that a call is handed; p: pointers to the call's own objects are let through. -/
def callD (p : Bool) (e : T) (H : Heap) (f : Opd) (args : List Opd) : Option (FuncId × List DV) :=
  match callArgs (f.av e).strip (args.map fun x => (x.av e).strip) with
  | some (F, avs) => match mapO (frz p H 5) avs with
    | some ds => some (F, ds)
    | none => none
  | none => none

theorem call_plain {c : Bool} {f : Opd} {args : List Opd} {F : FuncId} {ds : List DV} (r : DV) (hg : gok e g) (hl : gval e g = true → liveAll e (f :: args)) (hd : gval e g = true → callD false e (hc c (lowH lo (nx + i) H)) f args = some (F, ds)) (hF : gval e g = true → APure P F ds r)
    (h : GO P nx n (i + 1) os ks Q (setD e d (wrap e g (.d r))) H) : CallK P nx n i d g lo c f args os ks Q e H := by
  unfold CallK GO
  unfold awpOps
  refine ⟨r, ⟨hg, fun hgv => ⟨hl hgv, ?_⟩⟩, h⟩
  have hd := hd hgv
  unfold callD at hd
  split at hd
  · rename_i F' avs hca
    split at hd
    · rename_i ds' hds
      injection hd with hd
      injection hd with h1 h2
      subst h1; subst h2
      exact ⟨_, avs, ds', hca, .inl hds, hF hgv⟩
    · cases hd
  · cases hd
theorem call_read {c : Bool} {f : Opd} {args : List Opd} {F : FuncId} {ds : List DV} (r : DV) (hr : r.flat = true) (hg : gok e g) (hl : gval e g = true → liveAll e (f :: args)) (hd : gval e g = true → callD true e (hc c (lowH lo (nx + i) H)) f args = some (F, ds)) (hF : gval e g = true → APure P F ds r)
    (h : GO P nx n (i + 1) os ks Q (setD e d (wrap e g (.d r))) H) : CallK P nx n i d g lo c f args os ks Q e H := by
  unfold CallK GO
  unfold awpOps
  refine ⟨r, ⟨hg, fun hgv => ⟨hl hgv, ?_⟩⟩, h⟩
  have hd := hd hgv
  unfold callD at hd
  split at hd
  · rename_i F' avs hca
    split at hd
    · rename_i ds' hds
      injection hd with hd
      injection hd with h1 h2
      subst h1; subst h2
      exact ⟨_, avs, ds', hca, .inr ⟨hds, hr⟩, hF hgv⟩
    · cases hd
  · cases hd

/-- Where objects come from, told by a list. -/
def srcs : List (Nat × Src) → Nat → Src
  | [], _ => .none
  | (i, s) :: l, j => if j = i then s else srcs l j
theorem srcs_none {l : List (Nat × Src)} {n : Nat} (h : l.all (fun p => decide (p.1 < n)) = true) : (∀ i, n ≤ i → srcs l i = .none) = True := by
  apply eq_true
  induction l with
  | nil => intro i _; rfl
  | cons p l ih =>
    obtain ⟨j, s⟩ := p
    simp at h
    intro i hi
    have := ih (by simp; exact fun a b hb => h.2 a b hb) i hi
    simp only [srcs]
    rw [if_neg (by omega)]
    exact this
theorem srcs_none0 {l : List (Nat × Src)} (h : l = []) : (∀ i, srcs l i = .none) = True := by subst h; simp [srcs]

def srcNe : Src → Src → Prop
  | .id j, .id k => j ≠ k
  | _, _ => True
def apart1 (g : Nat → Src) (i : Nat) : List (Nat × AObj) → Prop
  | [] => True
  | (j, _) :: r => (i = j ∨ srcNe (g i) (g j)) ∧ apart1 g i r
theorem apart1_iff {g : Nat → Src} {i : Nat} : ∀ {r : List (Nat × AObj)}, apart1 g i r ↔ ∀ j o, (j, o) ∈ r → i ≠ j → ∀ k, g i = .id k → g j ≠ .id k
  | [] => by simp [apart1]
  | (j, o) :: r => by
    simp only [apart1, apart1_iff (r := r), List.mem_cons]
    constructor
    · rintro ⟨h1, h2⟩ j' o' (h3 | h3) hne k hk
      · injection h3 with h3 h4
        subst h3
        rcases h1 with h1 | h1
        · exact absurd h1 hne
        · intro hk'
          rw [hk, hk'] at h1
          exact h1 rfl
      · exact h2 j' o' h3 hne k hk
    · intro h
      refine ⟨?_, fun j' o' h' => h j' o' (.inr h')⟩
      by_cases hne : i = j
      · exact .inl hne
      · right
        have := h j o (.inl rfl) hne
        revert this
        cases g i <;> cases g j <;> simp [srcNe]
        intro h e
        exact h e.symm
theorem srcApart_cons {g : Nat → Src} {i : Nat} {o : AObj} {r : List (Nat × AObj)} : srcApart g ((i, o) :: r) = (apart1 g i r ∧ srcApart g r) := by
  rw [apart1_iff]; rfl
theorem srcApart_nil {g : Nat → Src} : srcApart g [] = True := rfl

/-- Some data say no less than others, one by one. -/
def DLes : List DV → List DV → Prop
  | [], [] => True
  | a :: l, b :: r => DLe a b ∧ DLes l r
  | _, _ => False
theorem DLes.arg {F : FuncId} {r : DV} : ∀ {as' bs' : List DV}, DLes as' bs' → as'.length = bs'.length ∧ ∀ i (h : i < as'.length) (h' : i < bs'.length), DLe as'[i] bs'[i]
  | [], [], _ => ⟨rfl, fun i h => by simp at h⟩
  | a :: l, b :: r', h => by
    obtain ⟨h1, h2⟩ := DLes.arg (F := F) (r := r) h.2
    refine ⟨by simp [h1], fun i hi hi' => ?_⟩
    cases i with
    | zero => exact h.1
    | succ i => exact h2 i (by simpa using hi) (by simpa using hi')
  | [], _ :: _, h => h.elim
  | _ :: _, [], h => h.elim
/-- A call, its arguments read as less. -/
theorem call_arg {c : Bool} {f : Opd} {args : List Opd} {F : FuncId} {ds ds' : List DV} {r : DV} (hF : APure P F ds' r) (hg : gok e g) (hl : gval e g = true → liveAll e (f :: args)) (hd : gval e g = true → callD false e (hc c (lowH lo (nx + i) H)) f args = some (F, ds)) (hle : gval e g = true → DLes ds ds')
    (h : GO P nx n (i + 1) os ks Q (setD e d (wrap e g (.d r))) H) : CallK P nx n i d g lo c f args os ks Q e H :=
  call_plain r hg hl hd (fun hv => have h1 := DLes.arg (F := F) (r := r) (hle hv); hF.arg h1.1 h1.2) h

theorem AOwn.arg {F : FuncId} {as' bs' : List DV} {te : TypeId} {m len : Nat} {row : Nat → List DV} (h : AOwn P F bs' te m len row) (hle : DLes as' bs') : AOwn P F as' te m len row := by
  obtain ⟨hl, hle⟩ := DLes.arg (F := F) (r := .top) hle
  refine ⟨h.1, fun X w vs hX hvs => ?_⟩
  exact h.2 X w vs hX ⟨hvs.1.trans hl, fun i hi hi' => hle i (by have := hvs.1; omega) hi' _ _ _ (hvs.2 i hi (by have := hvs.1; omega))⟩
theorem AOwn.rows {F : FuncId} {as' : List DV} {te : TypeId} {m len len' : Nat} {row row' : Nat → List DV} (h : AOwn P F as' te m len row) (hl : len = len') (hr : ∀ i, i < len → row i = row' i) : AOwn P F as' te m len' row' := by
  subst hl
  refine ⟨h.1, fun X w vs hX hvs => (h.2 X w vs hX hvs).mono ?_⟩
  rintro e w' ⟨hx, v, he, xs, hown, hxs⟩
  exact ⟨hx, v, he, xs, hown, fun i hi => ⟨(hxs i hi).1, by rw [← hr i hi]; exact (hxs i hi).2⟩⟩

theorem callo_k {te : TypeId} {m : Nat} {f : Opd} {args : List Opd} {F : FuncId} {ds : List DV} (len : Nat) (row : Nat → List DV) (hg : g = none) (hl : liveAll e (f :: args)) (hd : callD false e H f args = some (F, ds)) (hF : AOwn P F ds te m len row)
    (h : GO P nx n (i + 1) os ks Q (setD e d (.own (nx + i) len)) (hadd (nx + i) (.row te m len row) H)) : CalloK P nx n i d g lo te m f args os ks Q e H := by
  unfold CalloK GO
  unfold awpOps
  unfold callD at hd
  split at hd
  · rename_i F' avs hca
    split at hd
    · rename_i ds' hds
      injection hd with hd
      injection hd with h1 h2
      subst h1; subst h2
      exact ⟨.sl m len row, ⟨hg, hl, _, avs, ds', len, row, hca, hds, rfl, hF⟩, h⟩
    · cases hd
  · cases hd

theorem callo_arg {te : TypeId} {m : Nat} {f : Opd} {args : List Opd} {F : FuncId} {ds ds' : List DV} {len : Nat} {row : Nat → List DV} (hF : AOwn P F ds' te m len row) (hg : g = none) (hl : liveAll e (f :: args)) (hd : callD false e H f args = some (F, ds)) (hle : DLes ds ds')
    (h : GO P nx n (i + 1) os ks Q (setD e d (.own (nx + i) len)) (hadd (nx + i) (.row te m len row) H)) : CalloK P nx n i d g lo te m f args os ks Q e H :=
  callo_k len row hg hl hd (hF.arg hle) h

theorem awp_mono' {c : ACode} : ∀ {Q Q' : AX → T → Heap → Nat → Prop} {e : T} {H : Heap} {nx : Nat}, awp P c Q e H nx → (∀ x e H nx, Q x e H nx → Q' x e H nx) → awp P c Q' e H nx := by
  induction c with
  | skip => intro Q Q' e H nx h hq; exact hq _ _ _ _ h
  | reg os => intro Q Q' e H nx h hq; exact awpOps_mono (fun e H h => hq _ _ _ _ h) h
  | seq a b iha ihb =>
    intro Q Q' e H nx h hq
    refine iha h ?_
    intro x e H nx h
    cases x with
    | normal => exact ihb h hq
    | _ => exact hq _ _ _ _ h
  | cond c t f iht ihf => intro Q Q' e H nx h hq; exact ⟨h.1, fun hc => iht (h.2.1 hc) hq, fun hc => ihf (h.2.2 hc) hq⟩
  | block id b ih =>
    intro Q Q' e H nx h hq
    refine ih h ?_
    intro x e H nx h
    cases x with
    | exit j =>
      simp only at h ⊢
      split
      · rename_i hj; rw [if_pos hj] at h; exact hq _ _ _ _ h
      · rename_i hj; rw [if_neg hj] at h; exact hq _ _ _ _ h
    | _ => exact hq _ _ _ _ h
  | loop b ih =>
    intro Q Q' e H nx h hq
    obtain ⟨I, h0, hb⟩ := h
    refine ⟨I, h0, fun n e L nx hI => ih (hb n e L nx hI) ?_⟩
    intro x e H nx h
    cases x with
    | normal => exact h
    | _ => exact hq _ _ _ _ h
  | exit => intro Q Q' e H nx h hq; exact hq _ _ _ _ h
  | ret => intro Q Q' e H nx h hq; exact hq _ _ _ _ h
  | frz => intro Q Q' e H nx h hq; exact hq _ _ _ _ h
  | rng g ps asn body iha ihb =>
    intro Q Q' e H nx h hq
    obtain ⟨hl, F, caps, xs, e1, pins, I, h1, h2, h3, h4, h5, h6, h7⟩ := h
    refine ⟨hl, F, caps, xs, e1, pins, I, h1, h2, h3, h4, h5, fun k hk L nx hI => iha (h6 k hk L nx hI) ?_, fun L nx hI => hq _ _ _ _ (h7 L nx hI)⟩
    intro x e H nx h
    cases x with
    | normal =>
      refine ihb h ?_
      intro x e H nx h
      cases x with
      | normal => exact h
      | _ => exact hq _ _ _ _ h
    | _ => exact h
  | bad => intro Q Q' e H nx h hq; exact h

/-- Many slots, set anew. -/
def setL (e : T) : List (Slot × AV) → T
  | [] => e
  | (p, x) :: l => setL (e.set p x) l

/-- A loop: κ tells how far it is; S: the slots that change; L: the objects. -/
theorem loop_k {b : ACode} {κ : Type} (inv : κ → Prop) (μ : κ → Nat) (S : κ → List (Slot × AV)) (L : κ → List (Nat × AObj)) (nx' : Nat) (k0 : κ) (g0 : Nat → Src)
    (h0 : inv k0) (hs : SLe g0 e H (setL e (S k0)) (L k0) nx')
    (hb : ∀ k, inv k → G P [.code b] (fun x e' H' nx1 => match x with | .normal => ∃ k' g, inv k' ∧ μ k' < μ k ∧ SLe g e' H' (setL e (S k')) (L k') nx' | .exit id => Gx P id ks Q e' H' nx1 | .ret => Q .ret e' H' nx1) (setL e (S k)) (hof (L k)) nx') : LoopK P b ks Q e H nx := by
  unfold LoopK
  simp only [G]
  refine awp_loop inv μ (fun k => setL e (S k)) L nx' k0 g0 h0 hs (fun k hk => ?_)
  have h := G_start _ (hb k hk)
  have e1 : (fun (x : AX) (e' : T) (H' : Heap) (nx1 : Nat) => (match x with | .normal => ∃ k' g, inv k' ∧ μ k' < μ k ∧ SLe g e' H' (setL e (S k')) (L k') nx' | .exit id => Gx P id ks Q e' H' nx1 | .ret => Q .ret e' H' nx1 : Prop)) =
      (fun x e' H' nx1 => match x with
        | .normal => ∃ k' g, inv k' ∧ μ k' < μ k ∧ SLe g e' H' (setL e (S k')) (L k') nx'
        | x => (match x with | .normal => G P ks Q e' H' nx1 | .exit id => Gx P id ks Q e' H' nx1 | .ret => Q .ret e' H' nx1)) := by
    funext x e' H' nx1
    cases x <;> rfl
  rw [e1] at h
  exact h

/-- A state without what is known under a condition alone, and without rows of the call's own. -/
def T.clean : T → T
  | .leaf (.whn _ _) => .leaf (.d .top)
  | .leaf (.own _ _) => .leaf (.d .top)
  | .leaf x => .leaf x
  | .node a b => .node a.clean b.clean

/-- What a round of a loop must bring about. -/
def LoopQ (P : Program) (ks : List Kt) (Q : AX → T → Heap → Nat → Prop) {κ : Type} (inv : κ → Prop) (μ : κ → Nat) (S : κ → List (Slot × AV)) (L : κ → List (Nat × AObj)) (nx' : Nat) (e0 : T) (k : κ) : AX → T → Heap → Nat → Prop :=
  fun x e' H' nx1 => match x with | .normal => ∃ k' g, inv k' ∧ μ k' < μ k ∧ SLe g e' H' (setL e0 (S k')) (L k') nx' | .exit id => Gx P id ks Q e' H' nx1 | .ret => Q .ret e' H' nx1
theorem LoopQ_normal {κ : Type} {inv : κ → Prop} {μ : κ → Nat} {S : κ → List (Slot × AV)} {L : κ → List (Nat × AObj)} {nx' : Nat} {e0 : T} {k : κ} {e' : T} {H' : Heap} {nx1 : Nat} :
    LoopQ P ks Q inv μ S L nx' e0 k .normal e' H' nx1 = ∃ k' g, inv k' ∧ μ k' < μ k ∧ SLe g e' H' (setL e0 (S k')) (L k') nx' := rfl
theorem LoopQ_exit {κ : Type} {inv : κ → Prop} {μ : κ → Nat} {S : κ → List (Slot × AV)} {L : κ → List (Nat × AObj)} {nx' : Nat} {e0 : T} {k : κ} {e' : T} {H' : Heap} {nx1 id : Nat} :
    LoopQ P ks Q inv μ S L nx' e0 k (.exit id) e' H' nx1 = Gx P id ks Q e' H' nx1 := rfl
theorem LoopQ_ret {κ : Type} {inv : κ → Prop} {μ : κ → Nat} {S : κ → List (Slot × AV)} {L : κ → List (Nat × AObj)} {nx' : Nat} {e0 : T} {k : κ} {e' : T} {H' : Heap} {nx1 : Nat} :
    LoopQ P ks Q inv μ S L nx' e0 k .ret e' H' nx1 = Q .ret e' H' nx1 := rfl

/-- The same; what was known under a condition is let go. -/
theorem loop_c {b : ACode} {κ : Type} (inv : κ → Prop) (μ : κ → Nat) (S : κ → List (Slot × AV)) (L : κ → List (Nat × AObj)) (nx' : Nat) (k0 : κ) (g0 : Nat → Src)
    (h0 : inv k0) (hs : SLe g0 e H (setL e.clean (S k0)) (L k0) nx')
    (hb : ∀ k, inv k → G P [.code b] (LoopQ P ks Q inv μ S L nx' e.clean k) (setL e.clean (S k)) (hof (L k)) nx') : LoopK P b ks Q e H nx := by
  unfold LoopK
  simp only [G]
  refine awp_loop inv μ (fun k => setL e.clean (S k)) L nx' k0 g0 h0 hs (fun k hk => ?_)
  have h := G_start _ (hb k hk)
  have e1 : LoopQ P ks Q inv μ S L nx' e.clean k =
      (fun x e' H' nx1 => match x with
        | .normal => ∃ k' g, inv k' ∧ μ k' < μ k ∧ SLe g e' H' (setL e.clean (S k')) (L k') nx'
        | x => (match x with | .normal => G P ks Q e' H' nx1 | .exit id => Gx P id ks Q e' H' nx1 | .ret => Q .ret e' H' nx1)) := by
    funext x e' H' nx1
    cases x <;> rfl
  rw [e1] at h
  exact h

/-- A round's end agrees with the loop's next state (folded). -/
def SLeK (g : Nat → Src) (e' : T) (H' : Heap) (e0 : T) {κ : Type} (S : κ → List (Slot × AV)) (L : κ → List (Nat × AObj)) (nx' : Nat) (k' : κ) : Prop := SLe g e' H' (setL e0 (S k')) (L k') nx'
/-- What a round of a loop must bring about. -/
def LoopS (P : Program) (ks : List Kt) (Q : AX → T → Heap → Nat → Prop) {κ : Type} (inv : κ → Prop) (μ : κ → Nat) (S : κ → List (Slot × AV)) (L : κ → List (Nat × AObj)) (nx' : Nat) (e0 : T) (k : κ) : AX → T → Heap → Nat → Prop :=
  fun x e' H' nx1 => match x with | .normal => ∃ k' g, inv k' ∧ μ k' < μ k ∧ SLeK g e' H' e0 S L nx' k' | .exit id => Gx P id ks Q e' H' nx1 | .ret => Q .ret e' H' nx1
theorem LoopS_normal {κ : Type} {inv : κ → Prop} {μ : κ → Nat} {S : κ → List (Slot × AV)} {L : κ → List (Nat × AObj)} {nx' : Nat} {e0 : T} {k : κ} {e' : T} {H' : Heap} {nx1 : Nat} :
    LoopS P ks Q inv μ S L nx' e0 k .normal e' H' nx1 = ∃ k' g, inv k' ∧ μ k' < μ k ∧ SLeK g e' H' e0 S L nx' k' := rfl
theorem LoopS_exit {κ : Type} {inv : κ → Prop} {μ : κ → Nat} {S : κ → List (Slot × AV)} {L : κ → List (Nat × AObj)} {nx' : Nat} {e0 : T} {k : κ} {e' : T} {H' : Heap} {nx1 id : Nat} :
    LoopS P ks Q inv μ S L nx' e0 k (.exit id) e' H' nx1 = Gx P id ks Q e' H' nx1 := rfl
theorem LoopS_ret {κ : Type} {inv : κ → Prop} {μ : κ → Nat} {S : κ → List (Slot × AV)} {L : κ → List (Nat × AObj)} {nx' : Nat} {e0 : T} {k : κ} {e' : T} {H' : Heap} {nx1 : Nat} :
    LoopS P ks Q inv μ S L nx' e0 k .ret e' H' nx1 = Q .ret e' H' nx1 := rfl

/-- The same, a round's end folded. -/
theorem loop_s {b : ACode} {κ : Type} (inv : κ → Prop) (μ : κ → Nat) (S : κ → List (Slot × AV)) (L : κ → List (Nat × AObj)) (nx' : Nat) (k0 : κ) (g0 : Nat → Src)
    (h0 : inv k0) (hs : SLe g0 e H (setL e.clean (S k0)) (L k0) nx')
    (hb : ∀ k, inv k → G P [.code b] (LoopS P ks Q inv μ S L nx' e.clean k) (setL e.clean (S k)) (hof (L k)) nx') : LoopK P b ks Q e H nx := by
  unfold LoopK
  simp only [G]
  refine awp_loop inv μ (fun k => setL e.clean (S k)) L nx' k0 g0 h0 hs (fun k hk => ?_)
  have h := G_start _ (hb k hk)
  have e1 : LoopS P ks Q inv μ S L nx' e.clean k =
      (fun x e' H' nx1 => match x with
        | .normal => ∃ k' g, inv k' ∧ μ k' < μ k ∧ SLeK g e' H' e.clean S L nx' k'
        | x => (match x with | .normal => G P ks Q e' H' nx1 | .exit id => Gx P id ks Q e' H' nx1 | .ret => Q .ret e' H' nx1)) := by
    funext x e' H' nx1
    cases x <;> rfl
  rw [e1] at h
  exact h

/-- A state that names the call's own objects by pointers and maps alone. -/
def T.bare : T → T
  | .leaf (.d x) => .leaf (.d x)
  | .leaf (.ptr id o) => .leaf (.ptr id o)
  | .leaf (.mp id) => .leaf (.mp id)
  | .leaf _ => .leaf (.d .top)
  | .node a b => .node a.bare b.bare
/-- A round's end (folded). -/
def RngE (g : Nat → Src) (e1 : T) (H' : Heap) (L : List (Nat × AObj)) (nx' : Nat) : Prop := SLe g e1 H' e1 L nx'
/-- What a round of a range over a function must bring about. -/
def RngQ (P : Program) (ks : List Kt) (Q : AX → T → Heap → Nat → Prop) {κ : Type} (inv : Nat → κ → Prop) (L : κ → List (Nat × AObj)) (nx' : Nat) (e1 : T) (k : Nat) : AX → T → Heap → Nat → Prop :=
  fun x _ H' nx1 => match x with | .normal => ∃ s' g, inv (k + 1) s' ∧ RngE g e1 H' (L s') nx' | .exit id => Gx P id ks Q e1 H' nx1 | .ret => Q .ret e1 H' nx1
theorem RngQ_normal {κ : Type} {inv : Nat → κ → Prop} {L : κ → List (Nat × AObj)} {nx' : Nat} {e1 : T} {k : Nat} {e' : T} {H' : Heap} {nx1 : Nat} :
    RngQ P ks Q inv L nx' e1 k .normal e' H' nx1 = ∃ s' g, inv (k + 1) s' ∧ RngE g e1 H' (L s') nx' := rfl
theorem RngQ_exit {κ : Type} {inv : Nat → κ → Prop} {L : κ → List (Nat × AObj)} {nx' : Nat} {e1 : T} {k : Nat} {e' : T} {H' : Heap} {nx1 id : Nat} :
    RngQ P ks Q inv L nx' e1 k (.exit id) e' H' nx1 = Gx P id ks Q e1 H' nx1 := rfl
theorem RngQ_ret {κ : Type} {inv : Nat → κ → Prop} {L : κ → List (Nat × AObj)} {nx' : Nat} {e1 : T} {k : Nat} {e' : T} {H' : Heap} {nx1 : Nat} :
    RngQ P ks Q inv L nx' e1 k .ret e' H' nx1 = Q .ret e1 H' nx1 := rfl
/-- The assignment to the loop's variables, then the body. -/
def RngA (P : Program) (body : ACode) (Q : AX → T → Heap → Nat → Prop) : AX → T → Heap → Nat → Prop :=
  fun x e H nx => match x with | .normal => G P [.code body] Q e H nx | _ => False
theorem RngA_normal {body : ACode} : RngA P body Q .normal e H nx = G P [.code body] Q e H nx := rfl

/-- A range over a function; S: the slots that are told anew ahead of it; L: the objects, by the rounds' own state. -/
theorem rng_s {gop : Opd} {ps : List Slot} {asn body : ACode} {F : FuncId} {caps : List DV} {xs : List (List DV)} (hseq : ASeq P F caps xs) {κ : Type} (inv : Nat → κ → Prop) (S : List (Slot × AV)) (L : κ → List (Nat × AObj)) (nx' : Nat) (pins : List Nat) (k0 : κ) (g0 : Nat → Src)
    (hl : (gop.av e).live) (hg : (gop.av e).strip = .d (.fn F caps)) (hpin : (setL e.bare S).pinned pins = true) (hlen : ∀ k (hk : k < xs.length), xs[k].length = ps.length) (h0 : inv 0 k0) (hs : SLe g0 e H (setL e.bare S) (L k0) nx')
    (hb : ∀ k (hk : k < xs.length) s, inv k s → G P [.code asn] (RngA P body (RngQ P ks Q inv L nx' (setL e.bare S) k)) (setPs (setL e.bare S) ps xs[k]) (hof (L s)) nx')
    (hd : ∀ s, inv xs.length s → G P ks Q (setL e.bare S) (hof (L s)) nx') : RngK P gop ps asn body ks Q e H nx := by
  unfold RngK
  simp only [G]
  refine ⟨hl, F, caps, xs, setL e.bare S, pins, fun k L' n' => ∃ s, inv k s ∧ L' = L s ∧ n' = nx', hg, hseq, hpin, hlen, ⟨g0, L k0, nx', ⟨k0, h0, rfl, rfl⟩, hs⟩, ?_, ?_⟩
  · rintro k hk L' n' ⟨s, hinv, rfl, rfl⟩
    have h := G_start _ (hb k hk s hinv)
    refine awp_mono' h ?_
    intro x e' H' nx1 hq
    cases x with
    | normal =>
      refine awp_mono' (G_start _ hq) ?_
      intro x e2 H2 nx2 hq
      cases x with
      | normal =>
        obtain ⟨s', g, h1, h2⟩ := hq
        exact ⟨g, L s', _, ⟨s', h1, rfl, rfl⟩, h2⟩
      | exit id => exact hq
      | ret => exact hq
    | _ => exact hq
  · rintro L' n' ⟨s, hinv, rfl, rfl⟩
    exact hd s hinv

end

theorem G_bad {P : Program} {Q : AX → T → Heap → Nat → Prop} {e : T} {H : Heap} {nx : Nat} {ks : List Kt} : G P (.code .bad :: ks) Q e H nx = False := by simp only [G, awp]

attribute [simp ↓] srcs_none srcs_none0
attribute [simp] RngQ_normal RngQ_exit RngQ_ret RngA_normal G_rng T.bare setPs LoopS_normal LoopS_exit LoopS_ret LoopQ_normal LoopQ_exit LoopQ_ret srcNe apart1 srcApart_cons srcApart_nil srcs DLes OwnRes T.clean frz1 G_frz hset_hadd hset_nil hdel_hadd hdel_nil lowH G_bad GO_callo G_nil G_blk G_skip G_ret G_exit G_seq G_block G_cond G_reg G_loop Gx_nil Gx_blk Gx_code GO_nil GO_call GO_mv GO_val GO_obj setL callD

/-- What a function hands back, as a call's end asks for it. -/
def ResQ (rs : List ARes) (r : DV) : AX → T → Heap → Nat → Prop := fun x e H _ => Res rs r x e H
def OwnQ (rs : List ARes) (te : TypeId) (n len : Nat) (row : Nat → List DV) : AX → T → Heap → Nat → Prop := fun x e H _ => OwnRes rs te n len row x e H
theorem ResQ_app {rs : List ARes} {r : DV} {x : AX} {e : T} {H : Heap} {nx : Nat} : ResQ rs r x e H nx = Res rs r x e H := rfl
theorem OwnQ_app {rs : List ARes} {te : TypeId} {n len : Nat} {row : Nat → List DV} {x : AX} {e : T} {H : Heap} {nx : Nat} : OwnQ rs te n len row x e H nx = OwnRes rs te n len row x e H := rfl
attribute [simp] ResQ_app OwnQ_app

theorem apureG {F : FuncId} {fn : Func} {ac : ACode} {vs : List DV} {rs : List ARes} {r : DV} (ms : List Nat) (ows : List (FuncId × TypeId × Nat)) (hf : Try.prog.funcs[F]? = some fn) (hn : (fn.name == "runtime.NumGoroutine") = false)
    (ht : fn.body.bind (trCode Try.prog 8 fn.ntmps ms ows (drOk 8)) = some ac) (hr : trRess Try.prog 8 fn.results.toList = some rs) (hN : Nat.ble fn.ntmps 256 = true) (ha : Nat.ble vs.length fn.ntmps = true)
    (h : (∃ X w us, DReps X w us vs) → G Try.prog [.code ac] (ResQ rs r) (initT 8 vs) hnil 0) : APure Try.prog F vs r :=
  apureT ms ows hf hn ht hr hN ha fun hx => G_start ac (h hx)

theorem aownG {F : FuncId} {fn : Func} {ac : ACode} {vs : List DV} {rs : List ARes} {te : TypeId} {n len : Nat} {row : Nat → List DV} (ms : List Nat) (ows : List (FuncId × TypeId × Nat)) (hf : Try.prog.funcs[F]? = some fn) (hn : (fn.name == "runtime.NumGoroutine") = false)
    (ht : fn.body.bind (trCode Try.prog 8 fn.ntmps ms ows (drOk 8)) = some ac) (hr : trRess Try.prog 8 fn.results.toList = some rs) (hN : Nat.ble fn.ntmps 256 = true) (ha : Nat.ble vs.length fn.ntmps = true)
    (h : (∃ X w us, DReps X w us vs) → G Try.prog [.code ac] (OwnQ rs te n len row) (initT 8 vs) hnil 0) : AOwn Try.prog F vs te n len row :=
  aownT ms ows hf hn ht hr hN ha fun hx => G_start ac (h hx)

theorem DLe_cells {n len : Nat} {row row' : Nat → List DV} (h : ∀ i, i < len → DLes (row i) (row' i)) : DLe (.sl n len row) (.sl n len row') := by
  intro X w v hv
  cases hv with
  | nil => exact .nil n row'
  | emp a => exact .emp a n row'
  | sl b off cap n len _ vals h1 h2 hb hX hl hc hr =>
    refine .sl b off cap n len row' vals h1 h2 hb hX (fun i hi => ?_) hc (fun i hi j hj hj' => ?_)
    · have := (DLes.arg (F := 0) (r := .top) (h i hi)).1
      exact ⟨this ▸ (hl i hi).1, (hl i hi).2⟩
    · obtain ⟨e1, e2⟩ := DLes.arg (F := 0) (r := .top) (h i hi)
      exact e2 j (by omega) hj' _ _ _ (hr i hi j hj (by omega))

theorem DLe_agg {cs cs' : List DV} (h : DLes cs cs') : DLe (.agg cs) (.agg cs') := have h1 := DLes.arg (F := 0) (r := .top) h; DLe.agg h1.1 h1.2
theorem DLe_tup {cs cs' : List DV} (h : DLes cs cs') : DLe (.tup cs) (.tup cs') := have h1 := DLes.arg (F := 0) (r := .top) h; DLe.tup h1.1 h1.2

end Go.Proofs.Ytghlfjpmpalpdaa
