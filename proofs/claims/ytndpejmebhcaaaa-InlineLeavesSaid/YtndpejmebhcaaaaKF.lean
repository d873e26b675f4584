/- Some texts of one kind, one behind the other. -/
import Derived.Test.YtndpejmebhcaaaaKE
/- The evaluator's own rules, for simp. -/
namespace Go.Proofs.Ytndpejmebhcaaaa
open Go.RowKit

@[simp] theorem cell_lit (v : Value) : DV.cell (.lit v) = v.oneCell' := rfl
@[simp] theorem cell_sl (n len : Nat) (row : Nat → List DV) : DV.cell (.sl n len row) = true := rfl
@[simp] theorem cell_cref (cs : List DV) (off : Nat) : DV.cell (.cref cs off) = true := rfl
@[simp] theorem cell_fn (F : FuncId) (cs : List DV) : DV.cell (.fn F cs) = true := rfl

attribute [simp] okS stp setD wrap gval gok Opd.av AOp.val AOp.ok AV.strip AV.live initT setAll bits T.get T.set fldV isPtr ldV ldOk idxV idxOk binA binOk binV binSide nzV nnV catOk cnvV cnvOk cnvsV cnvsOk bytesOf sidxV sidxOk isBoolV notV notOk lenV lenOk extV extOk slcV slcOk bndV bndOk slLen pickV pickOk pickB mkAgg mkTup mkFn allD
  partsV fillV fillOk spl AV.cells AV.cellOk AV.cell AV.there Value.oneCell' liveAll callArgs mapO frz DV.isLit DV.flat cval cok Res resV ARes.val ARes.ok hget_nil hget_add hget_del hget_set appV appOk baseV moreV hdelO stH stOk hc ownOf lenOf iniOk hget_low rowOf idxH idxHOk mgetV mgetOk mlenV mlenOk isnilV isnilOk eqsV eqsOk fldsEq fldEq msetH msetOk kdOk

end Go.Proofs.Ytndpejmebhcaaaa
/- The evaluator with what is still to come avs data: one rule for each piece of code; calls; loops. -/
namespace Go.Proofs.Ytndpejmebhcaaaa
open Go.RowKit

/-- What is still to come: code, or the end of a block. -/
inductive Kt where
  | code (c : ACode)
  | blk (id : Nat)

/-- Where an exit leads. -/
def dropTo (id : Nat) : List Kt → Option (List Kt)
  | [] => none
  | .blk j :: ks => if j = id then some ks else dropTo id ks
  | .code _ :: ks => dropTo id ks

mutual
def G (P : Program) : List Kt → (AX → T → Heap → Nat → Prop) → T → Heap → Nat → Prop
  | [], Q, e, H, nx => Q .normal e H nx
  | .blk _ :: ks, Q, e, H, nx => G P ks Q e H nx
  | .code c :: ks, Q, e, H, nx => awp P c (fun x e H nx => match x with | .normal => G P ks Q e H nx | .exit id => Gx P id ks Q e H nx | .ret => Q .ret e H nx) e H nx
def Gx (P : Program) (id : Nat) : List Kt → (AX → T → Heap → Nat → Prop) → T → Heap → Nat → Prop
  | [], Q, e, H, nx => Q (.exit id) e H nx
  | .blk j :: ks, Q, e, H, nx => if id = j then G P ks Q e H nx else Gx P id ks Q e H nx
  | .code _ :: ks, Q, e, H, nx => Gx P id ks Q e H nx
end

/-- Operations i, i + 1, .., then the rest; n: the first free number behind the region. -/
def GO (P : Program) (nx n i : Nat) (os : List AOper) (ks : List Kt) (Q : AX → T → Heap → Nat → Prop) (e : T) (H : Heap) : Prop := awpOps P nx i os (fun e H => G P ks Q e H n) e H

/-- A call that is to come next. -/
def CallK (P : Program) (nx n i : Nat) (d : Option Slot) (g : Option (Slot × Bool)) (lo : Option (Nat × List Slot)) (c : Bool) (f : Opd) (args : List Opd) (os : List AOper) (ks : List Kt) (Q : AX → T → Heap → Nat → Prop) (e : T) (H : Heap) : Prop :=
  GO P nx n i (⟨d, g, .call c f args, lo⟩ :: os) ks Q e H
/-- A call that hands back a row of its own making is to come next. -/
def CalloK (P : Program) (nx n i : Nat) (d : Option Slot) (g : Option (Slot × Bool)) (lo : Option (Nat × List Slot)) (te : TypeId) (m : Nat) (f : Opd) (args : List Opd) (os : List AOper) (ks : List Kt) (Q : AX → T → Heap → Nat → Prop) (e : T) (H : Heap) : Prop :=
  GO P nx n i (⟨d, g, .callo te m f args, lo⟩ :: os) ks Q e H

/-- The same, its elements may turn. -/
def CallvK (P : Program) (nx n i : Nat) (d : Option Slot) (g : Option (Slot × Bool)) (lo : Option (Nat × List Slot)) (te : TypeId) (m : Nat) (f : Opd) (args : List Opd) (os : List AOper) (ks : List Kt) (Q : AX → T → Heap → Nat → Prop) (e : T) (H : Heap) : Prop :=
  GO P nx n i (⟨d, g, .callv te m f args, lo⟩ :: os) ks Q e H
/-- A call that turns objects of the call's own is to come next. -/
def CalleK (P : Program) (nx n i : Nat) (d : Option Slot) (g : Option (Slot × Bool)) (lo : Option (Nat × List Slot)) (f : Opd) (args : List Opd) (os : List AOper) (ks : List Kt) (Q : AX → T → Heap → Nat → Prop) (e : T) (H : Heap) : Prop :=
  GO P nx n i (⟨d, g, .calle f args, lo⟩ :: os) ks Q e H

/-- A loop that is to come next. -/
def LoopK (P : Program) (b : ACode) (ks : List Kt) (Q : AX → T → Heap → Nat → Prop) (e : T) (H : Heap) (nx : Nat) : Prop := G P (.code (.loop b) :: ks) Q e H nx

/-- A range over a function that is to come next. -/
def RngK (P : Program) (g : Opd) (ps : List Slot) (asn body : ACode) (ks : List Kt) (Q : AX → T → Heap → Nat → Prop) (e : T) (H : Heap) (nx : Nat) : Prop := G P (.code (.rng g ps asn body) :: ks) Q e H nx

section
variable {P : Program} {Q : AX → T → Heap → Nat → Prop} {e : T} {H : Heap} {nx n i : Nat} {ks : List Kt}

theorem G_start (c : ACode) (h : G P [.code c] Q e H nx) : awp P c Q e H nx := by
  simp only [G, Gx] at h
  have e1 : (fun (x : AX) (e : T) (H : Heap) (nx : Nat) => (match x with | .normal => Q .normal e H nx | .exit id => Q (.exit id) e H nx | .ret => Q .ret e H nx : Prop)) = Q := by
    funext x e H nx
    cases x <;> rfl
  rw [e1] at h
  exact h
theorem G_nil : G P [] Q e H nx = Q .normal e H nx := by simp only [G]
theorem G_blk {id : Nat} : G P (.blk id :: ks) Q e H nx = G P ks Q e H nx := by simp only [G]
theorem G_skip : G P (.code .skip :: ks) Q e H nx = G P ks Q e H nx := by simp only [G, awp]
theorem G_ret : G P (.code .ret :: ks) Q e H nx = Q .ret e H nx := by simp only [G, awp]
theorem G_frz {p : Slot} : G P (.code (.frz p) :: ks) Q e H nx = G P ks Q (frz1 p e H).1 (frz1 p e H).2 nx := by simp only [G, awp]
theorem G_exit {id : Nat} : G P (.code (.exit id) :: ks) Q e H nx = Gx P id ks Q e H nx := by simp only [G, awp]
theorem G_seq {a b : ACode} : G P (.code (.seq a b) :: ks) Q e H nx = G P (.code a :: .code b :: ks) Q e H nx := by
  simp only [G, awp]
  congr 1
  funext x e H nx
  cases x <;> simp only [Gx]
theorem G_block {id : Nat} {b : ACode} : G P (.code (.block id b) :: ks) Q e H nx = G P (.code b :: .blk id :: ks) Q e H nx := by
  simp only [G, awp]
  congr 1
  funext x e H nx
  cases x with
  | exit j => simp only [Gx]
  | _ => rfl
theorem G_cond {c : Opd} {t f : ACode} : G P (.code (.cond c t f) :: ks) Q e H nx = (cok e c ∧ (cval e c = true → G P (.code t :: ks) Q e H nx) ∧ (cval e c = false → G P (.code f :: ks) Q e H nx)) := by
  simp only [G, awp]
theorem G_reg {os : List AOper} : G P (.code (.reg os) :: ks) Q e H nx = (nx + os.length ≤ 1000000 ∧ GO P nx (nx + os.length) 0 os ks Q e H) := by
  simp only [G, awp, GO]
theorem G_loop {b : ACode} : G P (.code (.loop b) :: ks) Q e H nx = LoopK P b ks Q e H nx := rfl
theorem G_rng {g : Opd} {ps : List Slot} {asn body : ACode} : G P (.code (.rng g ps asn body) :: ks) Q e H nx = RngK P g ps asn body ks Q e H nx := rfl
theorem Gx_nil {id : Nat} : Gx P id [] Q e H nx = Q (.exit id) e H nx := by simp only [Gx]
theorem Gx_blk {id j : Nat} : Gx P id (.blk j :: ks) Q e H nx = if id = j then G P ks Q e H nx else Gx P id ks Q e H nx := by simp only [Gx]
theorem Gx_code {id : Nat} {c : ACode} : Gx P id (.code c :: ks) Q e H nx = Gx P id ks Q e H nx := by simp only [Gx]
theorem GO_nil : GO P nx n i [] ks Q e H = G P ks Q e H n := by simp only [GO, awpOps]
theorem GO_call {d : Option Slot} {g : Option (Slot × Bool)} {lo : Option (Nat × List Slot)} {c : Bool} {f : Opd} {args : List Opd} {os : List AOper} : GO P nx n i (⟨d, g, .call c f args, lo⟩ :: os) ks Q e H = CallK P nx n i d g lo c f args os ks Q e H := rfl
theorem GO_callo {d : Option Slot} {g : Option (Slot × Bool)} {lo : Option (Nat × List Slot)} {te : TypeId} {m : Nat} {f : Opd} {args : List Opd} {os : List AOper} : GO P nx n i (⟨d, g, .callo te m f args, lo⟩ :: os) ks Q e H = CalloK P nx n i d g lo te m f args os ks Q e H := rfl
theorem GO_callv {d : Option Slot} {g : Option (Slot × Bool)} {lo : Option (Nat × List Slot)} {te : TypeId} {m : Nat} {f : Opd} {args : List Opd} {os : List AOper} : GO P nx n i (⟨d, g, .callv te m f args, lo⟩ :: os) ks Q e H = CallvK P nx n i d g lo te m f args os ks Q e H := rfl
theorem GO_calle {d : Option Slot} {g : Option (Slot × Bool)} {lo : Option (Nat × List Slot)} {f : Opd} {args : List Opd} {os : List AOper} : GO P nx n i (⟨d, g, .calle f args, lo⟩ :: os) ks Q e H = CalleK P nx n i d g lo f args os ks Q e H := rfl

variable {d : Option Slot} {g : Option (Slot × Bool)} {lo : Option (Nat × List Slot)} {os : List AOper}
theorem GO_mv {x : Opd} : GO P nx n i (⟨d, g, .mv x, lo⟩ :: os) ks Q e H = (gok e g ∧ (gval e g = true → (x.av e).live) ∧ GO P nx n (i + 1) os ks Q (setD e d (wrap e g (x.av e).strip)) H) := by
  simp only [GO, awpOps, okS, stp, AOp.ok, AOp.val, and_assoc]
theorem GO_val {op : AOp} (h : (match op with | .call _ _ _ | .callo _ _ _ _ | .callv _ _ _ _ | .calle _ _ | .box _ _ | .new _ | .nrow _ _ | .st _ _ _ | .app _ _ _ _ _ | .vapp _ _ _ _ _ | .ini _ _ _ _ | .mmk _ | .mset _ _ _ _ | .bad => false | _ => true) = true) :
    GO P nx n i (⟨d, g, op, lo⟩ :: os) ks Q e H = (gok e g ∧ (gval e g = true → op.ok e (lowH lo e (nx + i) H)) ∧ GO P nx n (i + 1) os ks Q (setD e d (wrap e g (op.val e (lowH lo e (nx + i) H)))) H) := by
  cases op <;> first
    | (simp at h; done)
    | simp only [GO, awpOps, okS, stp, and_assoc, AOper.hv]
theorem GO_obj {op : AOp} (h : (match op with | .box _ _ | .new _ | .nrow _ _ | .st _ _ _ | .app _ _ _ _ _ | .vapp _ _ _ _ _ | .ini _ _ _ _ | .mmk _ | .mset _ _ _ _ | .bad => true | _ => false) = true) :
    GO P nx n i (⟨d, g, op, lo⟩ :: os) ks Q e H = (okS P (.d .top) (nx + i) ⟨d, g, op, lo⟩ e H ∧ GO P nx n (i + 1) os ks Q (stp (.d .top) (nx + i) ⟨d, g, op, lo⟩ e H).1 (stp (.d .top) (nx + i) ⟨d, g, op, lo⟩ e H).2) := by
  cases op <;> first
    | (simp at h; done)
    | simp only [GO, awpOps]

/-- The data that a call is handed; p: pointers to the call's own objects are let through. -/
def callD (p : Bool) (e : T) (H : Heap) (f : Opd) (args : List Opd) : Option (FuncId × List DV) :=
  match callArgs (f.av e).strip (args.map fun x => (x.av e).strip) with
  | some (F, avs) => match mapO (frz p H 5) avs with
    | some ds => some (F, ds)
    | none => none
  | none => none

theorem call_plain {c : Bool} {f : Opd} {args : List Opd} {F : FuncId} {ds : List DV} (r : DV) (hg : gok e g) (hl : gval e g = true → liveAll e (f :: args)) (hd : gval e g = true → callD false e (hc c (lowH lo e (nx + i) H)) f args = some (F, ds)) (hF : gval e g = true → APure P F ds r)
    (h : GO P nx n (i + 1) os ks Q (setD e d (wrap e g (.d r))) H) : CallK P nx n i d g lo c f args os ks Q e H := by
  unfold CallK GO
  unfold awpOps
  refine ⟨r, ⟨hg, fun hgv => ⟨hl hgv, ?_⟩⟩, h⟩
  have hd := hd hgv
  unfold callD at hd
  split at hd
  · rename_i F' avs hca
    split at hd
    · rename_i ds' hds
      injection hd with hd
      injection hd with h1 h2
      subst h1; subst h2
      exact ⟨_, avs, ds', hca, .inl hds, hF hgv⟩
    · cases hd
  · cases hd
theorem call_read {c : Bool} {f : Opd} {args : List Opd} {F : FuncId} {ds : List DV} (r : DV) (hr : r.flat = true) (hg : gok e g) (hl : gval e g = true → liveAll e (f :: args)) (hd : gval e g = true → callD true e (hc c (lowH lo e (nx + i) H)) f args = some (F, ds)) (hF : gval e g = true → APure P F ds r)
    (h : GO P nx n (i + 1) os ks Q (setD e d (wrap e g (.d r))) H) : CallK P nx n i d g lo c f args os ks Q e H := by
  unfold CallK GO
  unfold awpOps
  refine ⟨r, ⟨hg, fun hgv => ⟨hl hgv, ?_⟩⟩, h⟩
  have hd := hd hgv
  unfold callD at hd
  split at hd
  · rename_i F' avs hca
    split at hd
    · rename_i ds' hds
      injection hd with hd
      injection hd with h1 h2
      subst h1; subst h2
      exact ⟨_, avs, ds', hca, .inr ⟨hds, hr⟩, hF hgv⟩
    · cases hd
  · cases hd

/-- Where objects come from, told by a list. -/
def srcs : List (Nat × Src) → Nat → Src
  | [], j => if 1000000 ≤ j then .id j else .none
  | (i, s) :: l, j => if j = i then s else srcs l j
theorem srcs_none {l : List (Nat × Src)} {n : Nat} (h : l.all (fun p => decide (p.1 < n)) = true) (h2 : l.all (fun p => decide (p.1 < 1000000)) = true) : SrcEnd (srcs l) n = True := by
  apply eq_true
  induction l with
  | nil =>
    refine ⟨fun i hi hi2 => ?_, fun i hi => ?_⟩
    · simp only [srcs]; rw [if_neg (by omega)]
    · simp only [srcs]; rw [if_pos hi]
  | cons p l ih =>
    obtain ⟨j, s⟩ := p
    simp at h h2
    obtain ⟨h3, h4⟩ := ih (by simp; exact fun a b hb => h.2 a b hb) (by simp; exact fun a b hb => h2.2 a b hb)
    refine ⟨fun i hi hi2 => ?_, fun i hi => ?_⟩
    · simp only [srcs]
      rw [if_neg (by omega)]
      exact h3 i hi hi2
    · simp only [srcs]
      rw [if_neg (by omega)]
      exact h4 i hi

theorem srcs_none0 {n : Nat} : SrcEnd (srcs []) n = True := srcs_none (by simp) (by simp)

def srcNe : Src → Src → Prop
  | .id j, .id k => j ≠ k
  | _, _ => True
def apart1 (g : Nat → Src) (i : Nat) : List (Nat × AObj) → Prop
  | [] => True
  | (j, _) :: r => (i = j ∨ srcNe (g i) (g j)) ∧ apart1 g i r
theorem apart1_iff {g : Nat → Src} {i : Nat} : ∀ {r : List (Nat × AObj)}, apart1 g i r ↔ ∀ j o, (j, o) ∈ r → i ≠ j → ∀ k, g i = .id k → g j ≠ .id k
  | [] => by simp [apart1]
  | (j, o) :: r => by
    simp only [apart1, apart1_iff (r := r), List.mem_cons]
    constructor
    · rintro ⟨h1, h2⟩ j' o' (h3 | h3) hne k hk
      · injection h3 with h3 h4
        subst h3
        rcases h1 with h1 | h1
        · exact absurd h1 hne
        · intro hk'
          rw [hk, hk'] at h1
          exact h1 rfl
      · exact h2 j' o' h3 hne k hk
    · intro h
      refine ⟨?_, fun j' o' h' => h j' o' (.inr h')⟩
      by_cases hne : i = j
      · exact .inl hne
      · right
        have := h j o (.inl rfl) hne
        revert this
        cases g i <;> cases g j <;> simp [srcNe]
        intro h e
        exact h e.symm
theorem srcApart_cons {g : Nat → Src} {i : Nat} {o : AObj} {r : List (Nat × AObj)} : srcApart g ((i, o) :: r) = (apart1 g i r ∧ srcApart g r) := by
  rw [apart1_iff]; rfl
theorem srcApart_nil {g : Nat → Src} : srcApart g [] = True := rfl

/-- Some data say no less than others, one by one. -/
def DLes : List DV → List DV → Prop
  | [], [] => True
  | a :: l, b :: r => DLe a b ∧ DLes l r
  | _, _ => False
theorem DLes.arg {F : FuncId} {r : DV} : ∀ {as' bs' : List DV}, DLes as' bs' → as'.length = bs'.length ∧ ∀ i (h : i < as'.length) (h' : i < bs'.length), DLe as'[i] bs'[i]
  | [], [], _ => ⟨rfl, fun i h => by simp at h⟩
  | a :: l, b :: r', h => by
    obtain ⟨h1, h2⟩ := DLes.arg (F := F) (r := r) h.2
    refine ⟨by simp [h1], fun i hi hi' => ?_⟩
    cases i with
    | zero => exact h.1
    | succ i => exact h2 i (by simpa using hi) (by simpa using hi')
  | [], _ :: _, h => h.elim
  | _ :: _, [], h => h.elim
/-- A call, its arguments read as less. -/
theorem call_arg {c : Bool} {f : Opd} {args : List Opd} {F : FuncId} {ds ds' : List DV} {r : DV} (hF : APure P F ds' r) (hg : gok e g) (hl : gval e g = true → liveAll e (f :: args)) (hd : gval e g = true → callD false e (hc c (lowH lo e (nx + i) H)) f args = some (F, ds)) (hle : gval e g = true → DLes ds ds')
    (h : GO P nx n (i + 1) os ks Q (setD e d (wrap e g (.d r))) H) : CallK P nx n i d g lo c f args os ks Q e H :=
  call_plain r hg hl hd (fun hv => have h1 := DLes.arg (F := F) (r := r) (hle hv); hF.arg h1.1 h1.2) h

theorem AOwn.arg {F : FuncId} {as' bs' : List DV} {te : TypeId} {m len : Nat} {row : Nat → List DV} (h : AOwn P F bs' te m len row) (hle : DLes as' bs') : AOwn P F as' te m len row := by
  obtain ⟨hl, hle⟩ := DLes.arg (F := F) (r := .top) hle
  refine ⟨h.1, fun X w vs hX hvs => ?_⟩
  exact h.2 X w vs hX ⟨hvs.1.trans hl, fun i hi hi' => hle i (by have := hvs.1; omega) hi' _ _ _ (hvs.2 i hi (by have := hvs.1; omega))⟩
theorem AOwn.rows {F : FuncId} {as' : List DV} {te : TypeId} {m len len' : Nat} {row row' : Nat → List DV} (h : AOwn P F as' te m len row) (hl : len = len') (hr : ∀ i, i < len → row i = row' i) : AOwn P F as' te m len' row' := by
  subst hl
  refine ⟨h.1, fun X w vs hX hvs => (h.2 X w vs hX hvs).mono ?_⟩
  rintro e w' ⟨hx, v, he, xs, hown, hxs⟩
  exact ⟨hx, v, he, xs, hown, fun i hi => ⟨(hxs i hi).1, by rw [← hr i hi]; exact (hxs i hi).2⟩⟩

theorem callo_k {te : TypeId} {m : Nat} {f : Opd} {args : List Opd} {F : FuncId} {ds : List DV} (len : Nat) (row : Nat → List DV) (hg : g = none) (hl : liveAll e (f :: args)) (hd : callD false e H f args = some (F, ds)) (hF : AOwn P F ds te m len row)
    (h : GO P nx n (i + 1) os ks Q (setD e d (.own (nx + i) len)) (hadd (nx + i) (.row te m len row) H)) : CalloK P nx n i d g lo te m f args os ks Q e H := by
  unfold CalloK GO
  unfold awpOps
  unfold callD at hd
  split at hd
  · rename_i F' avs hca
    split at hd
    · rename_i ds' hds
      injection hd with hd
      injection hd with h1 h2
      subst h1; subst h2
      exact ⟨.sl m len row, ⟨hg, hl, _, avs, ds', len, row, hca, hds, rfl, hF⟩, h⟩
    · cases hd
  · cases hd

theorem AOwn.toV {F : FuncId} {ds : List DV} {te : TypeId} {m len : Nat} {row : Nat → List DV} (hF : AOwn P F ds te m len row) (hflat : ∀ i, i < len → (row i).all DV.isLit = true) : AOwnV P F ds te m len row :=
  ⟨hF.1, fun X w vs hX hvs => (hF.2 X w vs hX hvs).mono fun e' w' ⟨hx, v, he, xs, h1, h2⟩ => ⟨hx, v, he, xs, h1, fun i hi => ⟨(h2 i hi).1, (h2 i hi).2.1, fun j hj hj' => by
    have h3 := (h2 i hi).2.2 j hj hj'
    have h4 := List.all_eq_true.1 (hflat i hi) _ (List.getElem_mem hj')
    generalize (row i)[j] = d at h3 h4
    generalize (xs i)[j] = u at h3
    cases d with
    | lit u => cases h3; exact .lit u
    | _ => cases h4⟩⟩⟩
theorem callvv_k {te : TypeId} {m : Nat} {f : Opd} {args : List Opd} {F : FuncId} {ds : List DV} (len : Nat) (row : Nat → List DV) (hg : g = none) (hl : liveAll e (f :: args)) (hd : callD false e H f args = some (F, ds)) (hF : AOwnV P F ds te m len row)
    (h : GO P nx n (i + 1) os ks Q (setD e d (.own (nx + i) len)) (hadd (nx + i) (.vec te m len fun i => (row i).map .d) H)) : CallvK P nx n i d g lo te m f args os ks Q e H := by
  unfold CallvK GO
  unfold awpOps
  unfold callD at hd
  split at hd
  · rename_i F' avs hca
    split at hd
    · rename_i ds' hds
      injection hd with hd
      injection hd with h1 h2
      subst h1; subst h2
      exact ⟨.sl m len row, ⟨hg, hl, _, avs, ds', len, row, hca, hds, rfl, hF⟩, h⟩
    · cases hd
  · cases hd
theorem callv_k {te : TypeId} {m : Nat} {f : Opd} {args : List Opd} {F : FuncId} {ds : List DV} (len : Nat) (row : Nat → List DV) (hg : g = none) (hl : liveAll e (f :: args)) (hd : callD false e H f args = some (F, ds)) (hF : AOwn P F ds te m len row) (hflat : ∀ i, i < len → (row i).all DV.isLit = true)
    (h : GO P nx n (i + 1) os ks Q (setD e d (.own (nx + i) len)) (hadd (nx + i) (.vec te m len fun i => (row i).map .d) H)) : CallvK P nx n i d g lo te m f args os ks Q e H :=
  callvv_k len row hg hl hd (hF.toV hflat) h

theorem callo_arg {te : TypeId} {m : Nat} {f : Opd} {args : List Opd} {F : FuncId} {ds ds' : List DV} {len : Nat} {row : Nat → List DV} (hF : AOwn P F ds' te m len row) (hg : g = none) (hl : liveAll e (f :: args)) (hd : callD false e H f args = some (F, ds)) (hle : DLes ds ds')
    (h : GO P nx n (i + 1) os ks Q (setD e d (.own (nx + i) len)) (hadd (nx + i) (.row te m len row) H)) : CalloK P nx n i d g lo te m f args os ks Q e H :=
  callo_k len row hg hl hd (hF.arg hle) h

/-- A call that turns objects of the call's own: τ tells which of them the contract's are. -/
theorem calle_k {f : Opd} {args : List Opd} {F : FuncId} {as1 : List AV} {L : List (Nat × AObj)} {x : DV} {L' : List (Nat × AObj)} (hF : AEff P F as1 L x L') (τ : Nat → Nat) (hτ : τ 999999 = nx + i) (avs : List AV) (hg : g = none) (hl : liveAll e (f :: args)) (hd : callArgs (f.av e).strip (args.map fun x => (x.av e).strip) = some (F, avs))
    (ha : cellsLe noR (gOf τ L) avs as1) (hL : HLe noR (gOf τ L) H L) (hap : srcApart (gOf τ L) L) (hids : idsOk L L')
    (h : GO P nx n (i + 1) os ks Q (setD e d (.d x)) (hput τ L L' H)) : CalleK P nx n i d g lo f args os ks Q e H := by
  unfold CalleK GO
  unfold awpOps
  exact ⟨.ef x τ L L', ⟨hg, hl, hτ, ⟨F, avs, as1, hd, ha, hF⟩, hL, hap, hids⟩, h⟩

theorem awp_mono' {c : ACode} : ∀ {Q Q' : AX → T → Heap → Nat → Prop} {e : T} {H : Heap} {nx : Nat}, awp P c Q e H nx → (∀ x e H nx, Q x e H nx → Q' x e H nx) → awp P c Q' e H nx := by
  induction c with
  | skip => intro Q Q' e H nx h hq; exact hq _ _ _ _ h
  | reg os => intro Q Q' e H nx h hq; exact ⟨h.1, awpOps_mono (fun e H h => hq _ _ _ _ h) h.2⟩
  | seq a b iha ihb =>
    intro Q Q' e H nx h hq
    refine iha h ?_
    intro x e H nx h
    cases x with
    | normal => exact ihb h hq
    | _ => exact hq _ _ _ _ h
  | cond c t f iht ihf => intro Q Q' e H nx h hq; exact ⟨h.1, fun hc => iht (h.2.1 hc) hq, fun hc => ihf (h.2.2 hc) hq⟩
  | block id b ih =>
    intro Q Q' e H nx h hq
    refine ih h ?_
    intro x e H nx h
    cases x with
    | exit j =>
      simp only at h ⊢
      split
      · rename_i hj; rw [if_pos hj] at h; exact hq _ _ _ _ h
      · rename_i hj; rw [if_neg hj] at h; exact hq _ _ _ _ h
    | _ => exact hq _ _ _ _ h
  | loop b ih =>
    intro Q Q' e H nx h hq
    obtain ⟨I, h0, hb⟩ := h
    refine ⟨I, h0, fun n e L nx hI => ih (hb n e L nx hI) ?_⟩
    intro x e H nx h
    cases x with
    | normal => exact h
    | _ => exact hq _ _ _ _ h
  | exit => intro Q Q' e H nx h hq; exact hq _ _ _ _ h
  | ret => intro Q Q' e H nx h hq; exact hq _ _ _ _ h
  | frz => intro Q Q' e H nx h hq; exact hq _ _ _ _ h
  | rng g ps asn body iha ihb =>
    intro Q Q' e H nx h hq
    obtain ⟨hl, F, caps, xs, e1, pins, I, h1, h2, h3, h4, h5, h6, h7⟩ := h
    refine ⟨hl, F, caps, xs, e1, pins, I, h1, h2, h3, h4, h5, fun k hk L nx hI => iha (h6 k hk L nx hI) ?_, fun L nx hI => hq _ _ _ _ (h7 L nx hI)⟩
    intro x e H nx h
    cases x with
    | normal =>
      refine ihb h ?_
      intro x e H nx h
      cases x with
      | normal => exact h
      | _ => exact hq _ _ _ _ h
    | _ => exact h
  | bad => intro Q Q' e H nx h hq; exact h

/-- Many slots, set anew. -/
def setL (e : T) : List (Slot × AV) → T
  | [] => e
  | (p, x) :: l => setL (e.set p x) l

/-- A loop: κ tells how far it is; S: the slots that change; L: the objects. -/
theorem loop_k {b : ACode} {κ : Type} (inv : κ → Prop) (μ : κ → Nat) (S : κ → List (Slot × AV)) (L : κ → List (Nat × AObj)) (nx' : Nat) (k0 : κ) (g0 : Nat → Src)
    (h0 : inv k0) (hs : SLe g0 e H (setL e (S k0)) (L k0) nx')
    (hb : ∀ k, inv k → G P [.code b] (fun x e' H' nx1 => match x with | .normal => ∃ k' g, inv k' ∧ μ k' < μ k ∧ SLe g e' H' (setL e (S k')) (L k') nx' | .exit id => Gx P id ks Q e' H' nx1 | .ret => Q .ret e' H' nx1) (setL e (S k)) (hof (L k)) nx') : LoopK P b ks Q e H nx := by
  unfold LoopK
  simp only [G]
  refine awp_loop inv μ (fun k => setL e (S k)) L nx' k0 g0 h0 hs (fun k hk => ?_)
  have h := G_start _ (hb k hk)
  have e1 : (fun (x : AX) (e' : T) (H' : Heap) (nx1 : Nat) => (match x with | .normal => ∃ k' g, inv k' ∧ μ k' < μ k ∧ SLe g e' H' (setL e (S k')) (L k') nx' | .exit id => Gx P id ks Q e' H' nx1 | .ret => Q .ret e' H' nx1 : Prop)) =
      (fun x e' H' nx1 => match x with
        | .normal => ∃ k' g, inv k' ∧ μ k' < μ k ∧ SLe g e' H' (setL e (S k')) (L k') nx'
        | x => (match x with | .normal => G P ks Q e' H' nx1 | .exit id => Gx P id ks Q e' H' nx1 | .ret => Q .ret e' H' nx1)) := by
    funext x e' H' nx1
    cases x <;> rfl
  rw [e1] at h
  exact h

/-- A state without what is known under a condition alone, and without rows of the call's own. -/
def T.clean : T → T
  | .leaf (.whn _ _) => .leaf (.d .top)
  | .leaf (.own _ _) => .leaf (.d .top)
  | .leaf x => .leaf x
  | .node a b => .node a.clean b.clean

/-- What a round of a loop must bring about. -/
def LoopQ (P : Program) (ks : List Kt) (Q : AX → T → Heap → Nat → Prop) {κ : Type} (inv : κ → Prop) (μ : κ → Nat) (S : κ → List (Slot × AV)) (L : κ → List (Nat × AObj)) (nx' : Nat) (e0 : T) (k : κ) : AX → T → Heap → Nat → Prop :=
  fun x e' H' nx1 => match x with | .normal => ∃ k' g, inv k' ∧ μ k' < μ k ∧ SLe g e' H' (setL e0 (S k')) (L k') nx' | .exit id => Gx P id ks Q e' H' nx1 | .ret => Q .ret e' H' nx1
theorem LoopQ_normal {κ : Type} {inv : κ → Prop} {μ : κ → Nat} {S : κ → List (Slot × AV)} {L : κ → List (Nat × AObj)} {nx' : Nat} {e0 : T} {k : κ} {e' : T} {H' : Heap} {nx1 : Nat} :
    LoopQ P ks Q inv μ S L nx' e0 k .normal e' H' nx1 = ∃ k' g, inv k' ∧ μ k' < μ k ∧ SLe g e' H' (setL e0 (S k')) (L k') nx' := rfl
theorem LoopQ_exit {κ : Type} {inv : κ → Prop} {μ : κ → Nat} {S : κ → List (Slot × AV)} {L : κ → List (Nat × AObj)} {nx' : Nat} {e0 : T} {k : κ} {e' : T} {H' : Heap} {nx1 id : Nat} :
    LoopQ P ks Q inv μ S L nx' e0 k (.exit id) e' H' nx1 = Gx P id ks Q e' H' nx1 := rfl
theorem LoopQ_ret {κ : Type} {inv : κ → Prop} {μ : κ → Nat} {S : κ → List (Slot × AV)} {L : κ → List (Nat × AObj)} {nx' : Nat} {e0 : T} {k : κ} {e' : T} {H' : Heap} {nx1 : Nat} :
    LoopQ P ks Q inv μ S L nx' e0 k .ret e' H' nx1 = Q .ret e' H' nx1 := rfl

/-- The same; what was known under a condition is let go. -/
theorem loop_c {b : ACode} {κ : Type} (inv : κ → Prop) (μ : κ → Nat) (S : κ → List (Slot × AV)) (L : κ → List (Nat × AObj)) (nx' : Nat) (k0 : κ) (g0 : Nat → Src)
    (h0 : inv k0) (hs : SLe g0 e H (setL e.clean (S k0)) (L k0) nx')
    (hb : ∀ k, inv k → G P [.code b] (LoopQ P ks Q inv μ S L nx' e.clean k) (setL e.clean (S k)) (hof (L k)) nx') : LoopK P b ks Q e H nx := by
  unfold LoopK
  simp only [G]
  refine awp_loop inv μ (fun k => setL e.clean (S k)) L nx' k0 g0 h0 hs (fun k hk => ?_)
  have h := G_start _ (hb k hk)
  have e1 : LoopQ P ks Q inv μ S L nx' e.clean k =
      (fun x e' H' nx1 => match x with
        | .normal => ∃ k' g, inv k' ∧ μ k' < μ k ∧ SLe g e' H' (setL e.clean (S k')) (L k') nx'
        | x => (match x with | .normal => G P ks Q e' H' nx1 | .exit id => Gx P id ks Q e' H' nx1 | .ret => Q .ret e' H' nx1)) := by
    funext x e' H' nx1
    cases x <;> rfl
  rw [e1] at h
  exact h

/-- A round's end agrees with the loop's next state (folded). -/
def SLeK (g : Nat → Src) (e' : T) (H' : Heap) (e0 : T) {κ : Type} (S : κ → List (Slot × AV)) (L : κ → List (Nat × AObj)) (nx' : Nat) (k' : κ) : Prop := SLe g e' H' (setL e0 (S k')) (L k') nx'
/-- What a round of a loop must bring about. -/
def LoopS (P : Program) (ks : List Kt) (Q : AX → T → Heap → Nat → Prop) {κ : Type} (inv : κ → Prop) (μ : κ → Nat) (S : κ → List (Slot × AV)) (L : κ → List (Nat × AObj)) (nx' : Nat) (e0 : T) (k : κ) : AX → T → Heap → Nat → Prop :=
  fun x e' H' nx1 => match x with | .normal => ∃ k' g, inv k' ∧ μ k' < μ k ∧ SLeK g e' H' e0 S L nx' k' | .exit id => Gx P id ks Q e' H' nx1 | .ret => Q .ret e' H' nx1
theorem LoopS_normal {κ : Type} {inv : κ → Prop} {μ : κ → Nat} {S : κ → List (Slot × AV)} {L : κ → List (Nat × AObj)} {nx' : Nat} {e0 : T} {k : κ} {e' : T} {H' : Heap} {nx1 : Nat} :
    LoopS P ks Q inv μ S L nx' e0 k .normal e' H' nx1 = ∃ k' g, inv k' ∧ μ k' < μ k ∧ SLeK g e' H' e0 S L nx' k' := rfl
theorem LoopS_exit {κ : Type} {inv : κ → Prop} {μ : κ → Nat} {S : κ → List (Slot × AV)} {L : κ → List (Nat × AObj)} {nx' : Nat} {e0 : T} {k : κ} {e' : T} {H' : Heap} {nx1 id : Nat} :
    LoopS P ks Q inv μ S L nx' e0 k (.exit id) e' H' nx1 = Gx P id ks Q e' H' nx1 := rfl
theorem LoopS_ret {κ : Type} {inv : κ → Prop} {μ : κ → Nat} {S : κ → List (Slot × AV)} {L : κ → List (Nat × AObj)} {nx' : Nat} {e0 : T} {k : κ} {e' : T} {H' : Heap} {nx1 : Nat} :
    LoopS P ks Q inv μ S L nx' e0 k .ret e' H' nx1 = Q .ret e' H' nx1 := rfl

/-- The same, a round's end folded. -/
theorem loop_s {b : ACode} {κ : Type} (inv : κ → Prop) (μ : κ → Nat) (S : κ → List (Slot × AV)) (L : κ → List (Nat × AObj)) (nx' : Nat) (k0 : κ) (g0 : Nat → Src)
    (h0 : inv k0) (hs : SLe g0 e H (setL e.clean (S k0)) (L k0) nx')
    (hb : ∀ k, inv k → G P [.code b] (LoopS P ks Q inv μ S L nx' e.clean k) (setL e.clean (S k)) (hof (L k)) nx') : LoopK P b ks Q e H nx := by
  unfold LoopK
  simp only [G]
  refine awp_loop inv μ (fun k => setL e.clean (S k)) L nx' k0 g0 h0 hs (fun k hk => ?_)
  have h := G_start _ (hb k hk)
  have e1 : LoopS P ks Q inv μ S L nx' e.clean k =
      (fun x e' H' nx1 => match x with
        | .normal => ∃ k' g, inv k' ∧ μ k' < μ k ∧ SLeK g e' H' e.clean S L nx' k'
        | x => (match x with | .normal => G P ks Q e' H' nx1 | .exit id => Gx P id ks Q e' H' nx1 | .ret => Q .ret e' H' nx1)) := by
    funext x e' H' nx1
    cases x <;> rfl
  rw [e1] at h
  exact h

/-- A state that names the call's own objects by pointers and maps alone. -/
def T.bare : T → T
  | .leaf (.d x) => .leaf (.d x)
  | .leaf (.ptr id o) => .leaf (.ptr id o)
  | .leaf (.mp id) => .leaf (.mp id)
  | .leaf _ => .leaf (.d .top)
  | .node a b => .node a.bare b.bare
/-- A round's end (folded). -/
def RngE (g : Nat → Src) (e1 : T) (H' : Heap) (L : List (Nat × AObj)) (nx' : Nat) : Prop := SLe g e1 H' e1 L nx'
/-- What a round of a range over a function must bring about. -/
def RngQ (P : Program) (ks : List Kt) (Q : AX → T → Heap → Nat → Prop) {κ : Type} (inv : Nat → κ → Prop) (L : κ → List (Nat × AObj)) (nx' : Nat) (e1 : T) (k : Nat) : AX → T → Heap → Nat → Prop :=
  fun x _ H' nx1 => match x with | .normal => ∃ s' g, inv (k + 1) s' ∧ RngE g e1 H' (L s') nx' | .exit id => Gx P id ks Q e1 H' nx1 | .ret => Q .ret e1 H' nx1
theorem RngQ_normal {κ : Type} {inv : Nat → κ → Prop} {L : κ → List (Nat × AObj)} {nx' : Nat} {e1 : T} {k : Nat} {e' : T} {H' : Heap} {nx1 : Nat} :
    RngQ P ks Q inv L nx' e1 k .normal e' H' nx1 = ∃ s' g, inv (k + 1) s' ∧ RngE g e1 H' (L s') nx' := rfl
theorem RngQ_exit {κ : Type} {inv : Nat → κ → Prop} {L : κ → List (Nat × AObj)} {nx' : Nat} {e1 : T} {k : Nat} {e' : T} {H' : Heap} {nx1 id : Nat} :
    RngQ P ks Q inv L nx' e1 k (.exit id) e' H' nx1 = Gx P id ks Q e1 H' nx1 := rfl
theorem RngQ_ret {κ : Type} {inv : Nat → κ → Prop} {L : κ → List (Nat × AObj)} {nx' : Nat} {e1 : T} {k : Nat} {e' : T} {H' : Heap} {nx1 : Nat} :
    RngQ P ks Q inv L nx' e1 k .ret e' H' nx1 = Q .ret e1 H' nx1 := rfl
/-- The assignment to the loop's variables, then the body. -/
def RngA (P : Program) (body : ACode) (Q : AX → T → Heap → Nat → Prop) : AX → T → Heap → Nat → Prop :=
  fun x e H nx => match x with | .normal => G P [.code body] Q e H nx | _ => False
theorem RngA_normal {body : ACode} : RngA P body Q .normal e H nx = G P [.code body] Q e H nx := rfl

/-- A range over a function; S: the slots that are told anew ahead of it; L: the objects, by the rounds' own state. -/
theorem rng_s {gop : Opd} {ps : List Slot} {asn body : ACode} {F : FuncId} {caps : List DV} {xs : List (List DV)} (hseq : ASeq P F caps xs) {κ : Type} (inv : Nat → κ → Prop) (S : List (Slot × AV)) (L : κ → List (Nat × AObj)) (nx' : Nat) (pins : List Nat) (k0 : κ) (g0 : Nat → Src)
    (hl : (gop.av e).live) (hg : (gop.av e).strip = .d (.fn F caps)) (hpin : (setL e.bare S).pinned pins = true) (hlen : ∀ k (hk : k < xs.length), xs[k].length = ps.length) (h0 : inv 0 k0) (hs : SLe g0 e H (setL e.bare S) (L k0) nx')
    (hb : ∀ k (hk : k < xs.length) s, inv k s → G P [.code asn] (RngA P body (RngQ P ks Q inv L nx' (setL e.bare S) k)) (setPs (setL e.bare S) ps xs[k]) (hof (L s)) nx')
    (hd : ∀ s, inv xs.length s → G P ks Q (setL e.bare S) (hof (L s)) nx') : RngK P gop ps asn body ks Q e H nx := by
  unfold RngK
  simp only [G]
  refine ⟨hl, F, caps, xs, setL e.bare S, pins, fun k L' n' => ∃ s, inv k s ∧ L' = L s ∧ n' = nx', hg, hseq, hpin, hlen, ⟨g0, L k0, nx', ⟨k0, h0, rfl, rfl⟩, hs⟩, ?_, ?_⟩
  · rintro k hk L' n' ⟨s, hinv, rfl, rfl⟩
    have h := G_start _ (hb k hk s hinv)
    refine awp_mono' h ?_
    intro x e' H' nx1 hq
    cases x with
    | normal =>
      refine awp_mono' (G_start _ hq) ?_
      intro x e2 H2 nx2 hq
      cases x with
      | normal =>
        obtain ⟨s', g, h1, h2⟩ := hq
        exact ⟨g, L s', _, ⟨s', h1, rfl, rfl⟩, h2⟩
      | exit id => exact hq
      | ret => exact hq
    | _ => exact hq
  · rintro L' n' ⟨s, hinv, rfl, rfl⟩
    exact hd s hinv

end

theorem G_bad {P : Program} {Q : AX → T → Heap → Nat → Prop} {e : T} {H : Heap} {nx : Nat} {ks : List Kt} : G P (.code .bad :: ks) Q e H nx = False := by simp only [G, awp]

attribute [simp ↓] srcs_none srcs_none0
attribute [simp] hget_nr hnot appG appGOk mkRow updR vecAt vecOk AV.dv RngQ_normal RngQ_exit RngQ_ret RngA_normal G_rng T.bare setPs LoopS_normal LoopS_exit LoopS_ret LoopQ_normal LoopQ_exit LoopQ_ret srcNe apart1 srcApart_cons srcApart_nil srcs DLes OwnRes T.clean frz1 meltC G_frz hset_hadd hset_nil hdel_hadd hdel_nil lowH G_bad GO_callo GO_callv GO_calle Rz.x vecOf G_nil G_blk G_skip G_ret G_exit G_seq G_block G_cond G_reg G_loop Gx_nil Gx_blk Gx_code GO_nil GO_call GO_mv GO_val GO_obj setL callD

/-- What a function hands back, as a call's end asks for it. -/
def ResQ (rs : List ARes) (r : DV) : AX → T → Heap → Nat → Prop := fun x e H _ => Res rs r x e H
def OwnQV (rs : List ARes) (te : TypeId) (n len : Nat) (row : Nat → List DV) : AX → T → Heap → Nat → Prop := fun x e H _ => OwnResV rs te n len row x e H
theorem OwnQV_app {rs : List ARes} {te : TypeId} {n len : Nat} {row : Nat → List DV} {x : AX} {e : T} {H : Heap} {nx : Nat} : OwnQV rs te n len row x e H nx = OwnResV rs te n len row x e H := rfl
attribute [simp] OwnQV_app OwnResV
def OwnQ (rs : List ARes) (te : TypeId) (n len : Nat) (row : Nat → List DV) : AX → T → Heap → Nat → Prop := fun x e H _ => OwnRes rs te n len row x e H
theorem ResQ_app {rs : List ARes} {r : DV} {x : AX} {e : T} {H : Heap} {nx : Nat} : ResQ rs r x e H nx = Res rs r x e H := rfl
theorem OwnQ_app {rs : List ARes} {te : TypeId} {n len : Nat} {row : Nat → List DV} {x : AX} {e : T} {H : Heap} {nx : Nat} : OwnQ rs te n len row x e H nx = OwnRes rs te n len row x e H := rfl
attribute [simp] ResQ_app OwnQ_app

theorem apureG {F : FuncId} {fn : Func} {ac : ACode} {vs : List DV} {rs : List ARes} {r : DV} (ms : List Nat) (ows : List (FuncId × TypeId × Nat)) (hf : Try.prog.funcs[F]? = some fn) (hn : (fn.name == "runtime.NumGoroutine") = false)
    (ht : fn.body.bind (trCode Try.prog 8 fn.ntmps ms ows (drOk 8)) = some ac) (hr : trRess Try.prog 8 fn.results.toList = some rs) (hN : Nat.ble fn.ntmps 256 = true) (ha : Nat.ble vs.length fn.ntmps = true)
    (h : (∃ X w us, DReps X w us vs) → G Try.prog [.code ac] (ResQ rs r) (initT 8 vs) hnil 0) : APure Try.prog F vs r :=
  apureT ms ows hf hn ht hr hN ha fun hx => G_start ac (h hx)

theorem aownG {F : FuncId} {fn : Func} {ac : ACode} {vs : List DV} {rs : List ARes} {te : TypeId} {n len : Nat} {row : Nat → List DV} (ms : List Nat) (ows : List (FuncId × TypeId × Nat)) (hf : Try.prog.funcs[F]? = some fn) (hn : (fn.name == "runtime.NumGoroutine") = false)
    (ht : fn.body.bind (trCode Try.prog 8 fn.ntmps ms ows (drOk 8)) = some ac) (hr : trRess Try.prog 8 fn.results.toList = some rs) (hN : Nat.ble fn.ntmps 256 = true) (ha : Nat.ble vs.length fn.ntmps = true)
    (h : (∃ X w us, DReps X w us vs) → G Try.prog [.code ac] (OwnQ rs te n len row) (initT 8 vs) hnil 0) : AOwn Try.prog F vs te n len row :=
  aownT ms ows hf hn ht hr hN ha fun hx => G_start ac (h hx)

theorem aownVG {F : FuncId} {fn : Func} {ac : ACode} {vs : List DV} {rs : List ARes} {te : TypeId} {n len : Nat} {row : Nat → List DV} (ms : List Nat) (ows : List (FuncId × TypeId × Nat)) (hf : Try.prog.funcs[F]? = some fn) (hn : (fn.name == "runtime.NumGoroutine") = false)
    (ht : fn.body.bind (trCode Try.prog 8 fn.ntmps ms ows (drOk 8)) = some ac) (hr : trRess Try.prog 8 fn.results.toList = some rs) (hN : Nat.ble fn.ntmps 256 = true) (ha : Nat.ble vs.length fn.ntmps = true)
    (h : (∃ X w us, DReps X w us vs) → G Try.prog [.code ac] (OwnQV rs te n len row) (initT 8 vs) hnil 0) : AOwnV Try.prog F vs te n len row :=
  aownVT ms ows hf hn ht hr hN ha fun hx => G_start ac (h hx)

/-- What a function that turns objects of its callers hands back, as a call's end asks for it. -/
def EffQ (rs : List ARes) (x : DV) (L L' : List (Nat × AObj)) : AX → T → Heap → Nat → Prop := fun y e H _ => EffRes rs x L L' y e H
theorem EffQ_app {rs : List ARes} {x : DV} {L L' : List (Nat × AObj)} {y : AX} {e : T} {H : Heap} {nx : Nat} : EffQ rs x L L' y e H nx = EffRes rs x L L' y e H := rfl
attribute [simp] EffQ_app EffRes initA setAllA hput AObj.ren AV.ren AV.ren.renL effH
theorem aeffG {F : FuncId} {fn : Func} {ac : ACode} {vs : List AV} {rs : List ARes} {L L' : List (Nat × AObj)} {x : DV} (ms : List Nat) (ows : List (FuncId × TypeId × Nat)) (hf : Try.prog.funcs[F]? = some fn) (hn : (fn.name == "runtime.NumGoroutine") = false)
    (ht : fn.body.bind (trCode Try.prog 8 fn.ntmps ms ows (drOk 8)) = some ac) (hr : trRess Try.prog 8 fn.results.toList = some rs) (hN : Nat.ble fn.ntmps 256 = true) (ha : Nat.ble vs.length fn.ntmps = true)
    (hL : L.all (fun p => decide (1000000 ≤ p.1) && decide (p.1 < 1001000)) = true) (hids : idsOk L L')
    (h : (∃ γ X w us, Reps γ X w us vs) → G Try.prog [.code ac] (EffQ rs x L L') (initA 8 vs) (hof L) 0) : AEff Try.prog F vs L x L' :=
  aeffT ms ows hf hn ht hr hN ha hL hids fun hx => G_start ac (h hx)

theorem DLe_cells {n len : Nat} {row row' : Nat → List DV} (h : ∀ i, i < len → DLes (row i) (row' i)) : DLe (.sl n len row) (.sl n len row') := by
  intro X w v hv
  cases hv with
  | nil => exact .nil n row'
  | emp a => exact .emp a n row'
  | sl b off cap n len _ vals h1 h2 hb hX hl hc hr =>
    refine .sl b off cap n len row' vals h1 h2 hb hX (fun i hi => ?_) hc (fun i hi j hj hj' => ?_)
    · have := (DLes.arg (F := 0) (r := .top) (h i hi)).1
      exact ⟨this ▸ (hl i hi).1, (hl i hi).2⟩
    · obtain ⟨e1, e2⟩ := DLes.arg (F := 0) (r := .top) (h i hi)
      exact e2 j (by omega) hj' _ _ _ (hr i hi j hj (by omega))

theorem DLe_agg {cs cs' : List DV} (h : DLes cs cs') : DLe (.agg cs) (.agg cs') := have h1 := DLes.arg (F := 0) (r := .top) h; DLe.agg h1.1 h1.2
theorem DLe_tup {cs cs' : List DV} (h : DLes cs cs') : DLe (.tup cs) (.tup cs') := have h1 := DLes.arg (F := 0) (r := .top) h; DLe.tup h1.1 h1.2

end Go.Proofs.Ytndpejmebhcaaaa
/- Iterators by the evaluator: stretches between two calls of yield; a call of yield. -/
namespace Go.Proofs.Ytndpejmebhcaaaa
open Go.RowKit

/-- A base that lets no map and no mark in. -/
def Bs.bare (Y : Nat → Nat → Prop) (w : World) : Bs := ⟨Y, w, fun _ => none, fun _ => False, hnil, 0⟩
/-- A plain state: it is read in world w; Y may turn. -/
def P1 (N : Nat) (Y : Nat → Nat → Prop) (a : Act) (w : World) (e : T) : Prop := FR 8 N Y w (Bs.bare Y w) (fun _ => none) a w e hnil

section
variable {P : Program} {N : Nat} {Y : Nat → Nat → Prop} {a : Act} {w : World} {e : T}

theorem XOf_nil {X0 : Nat → Nat → Prop} {γ : Nat → Option Value} {b q : Nat} (h : XOf X0 γ hnil b q) : X0 b q := by
  rcases h with h | ⟨_, _, _, h, _⟩
  · exact h
  · cases h

theorem P1.of (hY : ∀ b o, Y b o → b < w.heap.size) (hE : EnvRep 8 (fun _ => none) Y w a e) (hs : a.tmps.size = N) (hd : a.defers = []) : P1 N Y a w e :=
  ⟨⟨hY, Ext.refl w, (fun id o h => by cases h), (fun id id' o o' v v' b h => by cases h)⟩, fun p hp => (hE p hp).mono (Knows.refl _) (.same fun b q _ h => XOf_nil h), hs, ⟨[], hd, List.nodup_nil, fun K hK => by cases hK⟩, .same fun b q _ h => XOf_nil h, (fun _ _ h => by cases h), fun id kd n f v b h => by cases h⟩
theorem P1.envR (h : P1 N Y a w e) : EnvRep 8 (fun _ => none) Y w a e := fun p hp => (FR.env h p hp).mono (Knows.refl _) (.same fun _ _ _ h => .inl h)
theorem P1.defers (h : P1 N Y a w e) : a.defers = [] := by
  obtain ⟨Ks, h1, _, h2⟩ := FR.marks h
  cases Ks with
  | nil => exact h1
  | cons K Ks => exact (h2 K (by simp)).2.2.2.1.elim
theorem P1.move {Y' : Nat → Nat → Prop} {w' : World} (h : P1 N Y a w e) (hY : ∀ b o, Y' b o → b < w'.heap.size) (k : KB 0 Y Y' w w') : P1 N Y' a w' e :=
  .of hY (fun p hp => (h.envR p hp).monoC (Knows.refl _) k.size k.cells k.sub) (FR.size h) h.defers

theorem TLe.env0 {γ : Nat → Option Value} {X : Nat → Nat → Prop} {e' : T} (h : TLe noR (fun _ => .none) e e') (hE : EnvRep 8 γ X w a e) (hX : ∀ b q, Y b q → X b q) : EnvRep 8 (fun _ => none) Y w a e' := fun p hp =>
  AVLe.rep (γ' := fun _ => none) (fun i k h => by cases h) (fun i h => by cases h) (fun b q _ h => hX b q h) (fun _ _ _ _ _ hM => by cases hM) (TLe.get _ _ h p) (hE p hp)

/-- A stretch of code. -/
theorem stretch {c : Code} {ac : ACode} {e' : T} {n : Nat} (tr : TrCode P 8 N c ac) (hp : plainB ac = true) (h1 : P1 N Y a w e) (h : awp P ac (fun x e2 _ _ => x = .normal ∧ TLe noR (fun _ => .none) e2 e') e hnil 0) :
    c.wpIn Fence.wide n P (fun x a' w' => x = .normal ∧ Ext w w' ∧ P1 N Y a' w' e') a w := by
  refine wpIn_mono (awp_sound tr none n _ _ (.inl hp) _ _ _ _ _ _ (FZ.top rfl h1 (fun _ _ => rfl)) h) ?_
  rintro x a' w' ⟨y, γ', e2, H2, nx', hy, hF, rfl, hs⟩
  cases x <;> simp only [AX.of] at hy <;> (try cases hy)
  have hF' := hF.untop rfl
  refine ⟨rfl, hF'.st.ext, .of (fun b o hY => Nat.lt_of_lt_of_le ((FR.st h1).hx b o hY) hF'.st.ext.size) (hs.env0 hF'.env (fun b q h => .inl h)) hF'.size ?_⟩
  obtain ⟨Ks, g1, _, g2⟩ := hF'.marks
  cases Ks with
  | nil => exact g1
  | cons K Ks => exact (g2 K (by simp)).2.2.2.1.elim

/-- Less is said. -/
theorem P1.le {e' : T} (h : P1 N Y a w e) (hs : TLe noR (fun _ => .none) e e') : P1 N Y a w e' :=
  .of (FR.st h).hx (hs.env0 (FR.env h) (fun _ _ h => .inl h)) (FR.size h) h.defers

theorem P1.put (h : P1 N Y a w e) {p : Slot} (hp : p.length = 8) (hN : p.idx < N) {v : Value} {x : AV} (hv : Rep (fun _ => none) Y w v x) : P1 N Y (a.put (some p.idx) v) w (e.set p x) :=
  .of (FR.st h).hx (h.envR.put hp (by rw [FR.size h]; exact hN) hv) ((put_size _ _ _).trans (FR.size h)) ((put_defers _ _ _).trans h.defers)

/-- The state at a function's entry. -/
theorem P1.init {ds : List DV} {vs : Array Value} (hY : ∀ b o, Y b o → b < w.heap.size) (hN : N ≤ 2 ^ 8) (hargs : ds.length ≤ N) (hvs : DReps Y w vs.toList ds) : P1 N Y { tmps := vs ++ Array.replicate (N - vs.size) undef, defers := [] } w (initT 8 ds) := by
  have hvl : vs.size = ds.length := by simpa using hvs.1
  refine .of hY (fun p hp => ?_) (by simp [hvl]; omega) rfl
  rcases setAll_get 8 hp ds (.leaf (.d .top)) 0 (by omega) with ⟨h1, h2⟩ | ⟨k, hk, h1, h2⟩
  · unfold initT
    rw [h1]
    exact .top _
  · unfold initT
    rw [h2]
    have hk' : k < vs.size := by omega
    have e1 : (vs ++ Array.replicate (N - vs.size) undef).getD p.idx undef = vs.toList[k]'(by simpa using hk') := by
      rw [h1, Nat.zero_add, Array.getD_eq_getD_getElem?, Array.getElem?_append_left hk', Array.getElem?_eq_getElem hk']
      simp
    show Rep _ _ _ ((vs ++ Array.replicate (N - vs.size) undef).getD p.idx undef) _
    rw [e1]
    exact .d _ _ (hvs.2 k (by simpa using hk') hk)

/-- One operation of a region, in a plain state. -/
theorem valStep {ops : Array Oper} {o : Oper} {ao : AOper} {Q : Exit → Act → World → Prop} {i : Nat} {rest : List Nat} {n : Nat} {e' : T} (ho : ops[i]? = some o) (hnd : noDefer ops = true) (hlo : ¬ LetsOut Q) (tr : TrOper P 8 N ops o ao) (h1 : P1 N Y a w e)
    (hok : okS P (.d .top) 0 ao e hnil) (hmk : noMk [ao] = true) (hs : TLe noR (fun _ => .none) (stp (.d .top) 0 ao e hnil).1 e') (h : ∀ a' w', Ext w w' → P1 N Y a' w' e' → wpOpsIn Fence.wide n P ops Q rest a' w') : wpOpsIn Fence.wide n P ops Q (i :: rest) a w := by
  rw [wpOpsIn_cons]
  refine wpOpIn_of (ro := none) (noDefer_at hnd i) hlo ?_
  unfold wpOp
  rw [ho]
  refine op_sound tr h1 (id := 0) rfl (.d .top) hok (fun kd hk b => ?_) (fun γ' a' w' hR hkn hne => ?_)
  · simp [noMk, hk] at hmk
  refine h a' w' hR.st.ext (.of (fun b o hY => Nat.lt_of_lt_of_le ((FR.st h1).hx b o hY) hR.st.ext.size) (hs.env0 hR.env (fun b q h => .inl h)) hR.size ?_)
  obtain ⟨Ks, g1, _, g2⟩ := hR.marks
  cases Ks with
  | nil => exact g1
  | cons K Ks => exact (g2 K (by simp)).2.2.2.1.elim

/-- A test, in a plain state. -/
theorem condStep {c : Operand} {t f : Code} {p : Slot} {b : Bool} {Q : Exit → Act → World → Prop} {n : Nat} (h1 : P1 N Y a w e) (tr : TrOpd 8 c (.s p)) (he : e.get p = .d (.lit (.bool b))) (ht : b = true → t.wpIn Fence.wide n P Q a w) (hf : b = false → f.wpIn Fence.wide n P Q a w) : (Code.cond c t f).wpIn Fence.wide n P Q a w := by
  have hv : a.eval c = .bool b := by
    have := tr.rep h1.envR
    simp only [Opd.av, he] at this
    exact this.lit
  refine wpIn_cond hv ?_
  cases b with
  | true => rw [if_pos rfl]; exact ht rfl
  | false => rw [if_neg (by simp)]; exact hf rfl

theorem P1.len {p : Slot} {n len : Nat} {row : Nat → List DV} (h : P1 N Y a w e) (hp : p.length = 8) (he : e.get p = .d (.sl n len row)) : len ≤ 9223372036854775807 := by
  have := h.envR p hp
  rw [he] at this
  generalize a.tmps.getD p.idx undef = v at this
  cases this with
  | d _ _ hd =>
    have : len ≤ maxLen := by
      cases hd with
      | nil => exact Nat.zero_le _
      | emp => exact Nat.zero_le _
      | sl b off cap n len row vals h1 h2 => exact Nat.le_trans h1 h2
    simpa [maxLen] using this

/-- A call of yield. -/
theorem yieldStep {ops : Array Oper} {o : Oper} {f x : Operand} {ts : Array TypeId} {Q : Exit → Act → World → Prop} {i l : Nat} {rest : List Nat} {R : Ending → World → Prop} (ho : ops[i]? = some o) (hg : o.guard = none) (hop : o.op = .call { callee := .value f, args := #[x], argTypes := ts })
    (hf : a.eval f = .func (.yield l) #[] #[]) (hy : YieldAt Fence.wide 0 P l #[a.eval x] w R) (h : ∀ en w', R en w' → ∃ v, en = .returned v ∧ wpOpsIn Fence.wide 0 P ops Q rest (a.put o.dst v) w') : wpOpsIn Fence.wide 0 P ops Q (i :: rest) a w := by
  rw [wpOpsIn_cons]
  unfold wpOpIn
  rw [ho]
  simp only
  rw [if_pos (by simp [Region.wanted, hg])]
  refine ⟨fun _ _ => trivial, ?_⟩
  rw [Oper.semAt_eq _ _ _ (fun c hc => by rw [hop] at hc; cases hc)]
  obtain ⟨fn, tmps, asn, body, hr, hR⟩ := hy
  have hrun : (execOp a.eval o).run P w = .ok (.round l fn tmps asn body) w := by
    unfold execOp
    simp only [hop, resolve, hf]
    simp [Deferred.ofValue, invoke, hr]
  rw [hrun, Oper.uponIn_round]
  refine ⟨fun h => (by cases h), hR.mono ?_⟩
  intro en w' hq
  obtain ⟨v, rfl, hk⟩ := h en w' hq
  exact hk

/-- A region: two operations, a call of yield, an operation more. -/
theorem yieldReg {id l : Nat} {o0 o1 o2 o3 : Oper} {a0 a1 a2 a3 : AOper} {f x : Operand} {fo xo : Opd} {ts : Array TypeId} {p2 : Slot} {e1 e2 e4 f4 : T} {xd : DV} {JT : (Nat → Nat → Prop) → World → Prop} {Jx : World → Prop}
    (hnd : noDefer #[o0, o1, o2, o3] = true) (ht : trOpers P 8 N [] [] #[o0, o1, o2, o3] none 0 [o0, o1, o2, o3] = some [a0, a1, a2, a3]) (hop : o2.op = .call { callee := .value f, args := #[x], argTypes := ts }) (hg : o2.guard = none) (hd : o2.dst = some p2.idx) (hp2 : p2.length = 8) (hp2N : p2.idx < N)
    (hf : TrOpd 8 f fo) (hx : TrOpd 8 x xo) (hP : P1 N Y a w e)
    (m0 : noMk [a0] = true) (s0 : okS P (.d .top) 0 a0 e hnil ∧ TLe noR (fun _ => .none) (stp (.d .top) 0 a0 e hnil).1 e1)
    (m1 : noMk [a1] = true) (s1 : okS P (.d .top) 0 a1 e1 hnil ∧ TLe noR (fun _ => .none) (stp (.d .top) 0 a1 e1 hnil).1 e2)
    (hfv : fo.av e2 = .d (.lit (.func (.yield l) #[] #[]))) (hxv : xo.av e2 = .d xd)
    (hy : ∀ W' (vs : Array Value), Ext w W' → DReps Y W' vs.toList [xd] → YieldAt Fence.wide 0 P l vs W' fun en W'' => (en = .returned (.bool true) ∧ ∃ Y', JT Y' W'' ∧ KB 0 Y Y' W' W'') ∨ (en = .returned (.bool false) ∧ Jx W''))
    (hJY : ∀ Y W, JT Y W → ∀ b o, Y b o → b < W.heap.size) (hJe : ∀ Y W W', JT Y W → Ext W W' → JT Y W') (hJxe : ∀ W W', Jx W → Ext W W' → Jx W')
    (m3 : noMk [a3] = true) (s3 : okS P (.d .top) 0 a3 (e2.set p2 (.d (.lit (.bool true)))) hnil ∧ TLe noR (fun _ => .none) (stp (.d .top) 0 a3 (e2.set p2 (.d (.lit (.bool true)))) hnil).1 e4)
    (n3 : okS P (.d .top) 0 a3 ((T.leaf (.d .top)).set p2 (.d (.lit (.bool false)))) hnil ∧ TLe noR (fun _ => .none) (stp (.d .top) 0 a3 ((T.leaf (.d .top)).set p2 (.d (.lit (.bool false)))) hnil).1 f4) :
    (Code.region id #[o0, o1, o2, o3] false).wpIn Fence.wide 0 P (fun x a' W' => x = .normal ∧ ((∃ Y', JT Y' W' ∧ P1 N Y' a' W' e4) ∨ (Jx W' ∧ P1 N (fun _ _ => False) a' W' f4))) a w := by
  have htr := (trOpers_sound ht).2
  have hlo : ¬ LetsOut (fun (x : Exit) (a' : Act) (W' : World) => x = .normal ∧ ((∃ Y', JT Y' W' ∧ P1 N Y' a' W' e4) ∨ (Jx W' ∧ P1 N (fun _ _ => False) a' W' f4))) := by rintro ⟨_, _, h, _⟩; cases h
  refine wpIn_region ?_
  show wpOpsIn _ _ _ _ _ [0, 1, 2, 3] a w
  refine valStep (ao := a0) (o := o0) rfl hnd hlo (htr 0 o0 a0 rfl rfl) hP s0.1 m0 s0.2 (fun b1 w1 hx1 hP1 => ?_)
  refine valStep (ao := a1) (o := o1) rfl hnd hlo (htr 1 o1 a1 rfl rfl) hP1 s1.1 m1 s1.2 (fun b2 w2 hx2 hP2 => ?_)
  have hfr := hf.rep hP2.envR
  rw [hfv] at hfr
  have hxr := hx.rep hP2.envR
  rw [hxv] at hxr
  have hxr' : DReps Y w2 #[b2.eval x].toList [xd] := DReps.cons hxr.dv (DReps.nil _ _)
  refine yieldStep (o := o2) (f := f) (x := x) rfl hg hop hfr.lit (hy w2 _ (hx1.trans hx2) hxr') ?_
  rintro en w3 (⟨rfl, Y', hJ, hK⟩ | ⟨rfl, hJx⟩)
  · refine ⟨_, rfl, ?_⟩
    rw [hd]
    have hP3 := (hP2.move (hJY _ _ hJ) hK).put (v := .bool true) (x := .d (.lit (.bool true))) hp2 hp2N (.ofLit _)
    refine valStep (ao := a3) (o := o3) rfl hnd hlo (htr 3 o3 a3 rfl rfl) hP3 s3.1 m3 s3.2 (fun b4 w4 hx4 hP4 => ?_)
    exact ⟨rfl, .inl ⟨Y', hJe _ _ _ hJ hx4, hP4⟩⟩
  · refine ⟨_, rfl, ?_⟩
    rw [hd]
    have hP3 : P1 N (fun _ _ => False) b2 w3 (.leaf (.d .top)) := .of (fun _ _ h => h.elim) (fun p hp => by cases p <;> exact .top _) (FR.size hP2) hP2.defers
    have hP3' := hP3.put (v := .bool false) (x := .d (.lit (.bool false))) hp2 hp2N (.ofLit _)
    refine valStep (ao := a3) (o := o3) rfl hnd hlo (htr 3 o3 a3 rfl rfl) hP3' n3.1 m3 n3.2 (fun b4 w4 hx4 hP4 => ?_)
    exact ⟨rfl, .inr ⟨hJxe _ _ hJx hx4, hP4⟩⟩

end

end Go.Proofs.Ytndpejmebhcaaaa
/- Contracts of functions that turn objects, shown without the evaluator; an object that is used up. -/
namespace Go.Proofs.Ytndpejmebhcaaaa
open Go.RowKit

theorem Reps.uncons {γ : Nat → Option Value} {X : Nat → Nat → Prop} {w : World} {vs : List Value} {a : AV} {as' : List AV} (h : Reps γ X w vs (a :: as')) : ∃ v vs', vs = v :: vs' ∧ Rep γ X w v a ∧ Reps γ X w vs' as' := by
  obtain ⟨hl, hr⟩ := h
  cases vs with
  | nil => simp at hl
  | cons v vs' => exact ⟨v, vs', rfl, hr 0 (by simp) (by simp), by simpa using hl, fun i hi hi' => hr (i + 1) (by simpa using hi) (by simpa using hi')⟩
theorem Reps.unnil {γ : Nat → Option Value} {X : Nat → Nat → Prop} {w : World} {vs : List Value} (h : Reps γ X w vs []) : vs = [] := by
  have := h.1
  simpa using this

section
variable {P : Program} {X0 : Nat → Nat → Prop} {W0 : World} {γ : Nat → Option Value} {w : World} {H : Heap}

theorem aeff_raw {F : FuncId} {args : List AV} {L L' : List (Nat × AObj)} {x : DV} {H' : Heap} (hB : HasBody P F) (hL : L.all (fun p => decide (1000000 ≤ p.1) && decide (p.1 < 1001000)) = true) (hids : idsOk L L') (hend : EffEnd L L' H')
    (h : ∀ X0 W0 γ w Hf (vs : Array Value), St X0 W0 γ w (hjoin (hof L) Hf) → HOk (hof L) Hf → Reps γ (XOf X0 γ (hjoin (hof L) Hf)) w vs.toList args →
      Calls P F vs w fun e w' => ∃ v, e = .returned v ∧ St X0 W0 γ w' (hjoin H' Hf) ∧ HOk H' Hf ∧ Keeps (XOf X0 γ (hjoin (hof L) Hf)) (XOf X0 γ (hjoin H' Hf)) w w' ∧ DRep (XOf X0 γ (hjoin H' Hf)) w' v x) : AEff P F args L x L' := by
  refine ⟨hB, fun X0 W0 γ w H τ vs hS hnew hHL hap hvs => ?_⟩
  obtain ⟨ρ, γc, Hf, hE⟩ := eff_enter hS hL hHL hap
  have hvs' : Reps γc (XOf X0 γc (hjoin (hof L) Hf)) w vs.toList args := by
    refine hvs.mono (fun i v hv => ?_) (.same fun b q _ hb => hE.sub b q hb)
    have hv' : (match gOf τ L i with | .none => none | .id k => γ k | .nil => some (.slice none 0 0)) = some v := hv
    unfold gOf at hv'
    split at hv'
    · cases hv'
    · rename_i k hk
      split at hk
      · rename_i hin
        injection hk with hk
        subst hk
        obtain ⟨⟨j, o⟩, hm, he⟩ := List.any_eq_true.1 hin
        simp only [beq_iff_eq] at he
        subst he
        rw [← hE.back j o hm, hE.val]
        exact hv'
      · cases hk
    · rename_i hk
      split at hk <;> cases hk
  refine (h X0 W0 γc w Hf vs hE.st hE.ok hvs').mono ?_
  rintro e w' ⟨v, rfl, hS', hO', hK, hd⟩
  obtain ⟨s, hs, hsap⟩ := hend
  obtain ⟨γ', g1, g2, g3, g4⟩ := eff_leave hS hL hHL hE hnew hids hS' hO' (fun _ _ _ hv => hv) hK hs hsap
  exact ⟨v, γ', rfl, g1, g2, g3, g4 _ _ hd⟩

/-- An object is used up: its block alone has turned. -/
theorem St.spend {j : Nat} {o : AObj} {u : Value} {w' : World} (hS : St X0 W0 γ w H) (ho : hget H j = some o) (hu : γ j = some u) (ht : ∀ q, turns o q) (hext : Ext W0 w') (hsz : w.heap.size ≤ w'.heap.size)
    (hb : ∀ b, blk u ≠ some b → b < w.heap.size → w'.heap[b]? = w.heap[b]?) : St X0 W0 γ w' (hdel H j) ∧ Keeps (XOf X0 γ H) (XOf X0 γ (hdel H j)) w w' := by
  have hsub : ∀ b q, XOf X0 γ (hdel H j) b q → XOf X0 γ H b q := by
    rintro b q (h | ⟨id, ob, v, h1, h2, h3, h4⟩)
    · exact .inl h
    · rw [hget_del] at h1
      split at h1
      · cases h1
      · exact .inr ⟨id, ob, v, h1, h2, h3, h4⟩
  have hK : Keeps (XOf X0 γ H) (XOf X0 γ (hdel H j)) w w' := by
    refine .of_blocks hsz (fun b hlt => ?_) (fun b q _ h => hsub b q h)
    by_cases e : blk u = some b
    · exact .inl fun q => .inr ⟨j, o, u, ho, hu, e, ht q⟩
    · exact .inr (hb b e hlt)
  refine ⟨⟨hS.hx, hext, fun id o' h => ?_, fun id id' o1 o2 v v' b h1 h2 h3 h4 h5 h6 => ?_⟩, hK⟩
  · rw [hget_del] at h
    split at h
    · cases h
    · rename_i hne
      obtain ⟨v, hv, hr⟩ := hS.obj id o' h
      refine ⟨v, hv, hr.mono (Knows.refl _) hK fun b hbv hlt => hb b (fun e => hne ?_) hlt⟩
      exact hS.dis j id o o' u v b ho h hu hv e hbv
  · rw [hget_del] at h1 h2
    split at h1
    · cases h1
    split at h2
    · cases h2
    exact hS.dis id id' o1 o2 v v' b h1 h2 h3 h4 h5 h6

end
end Go.Proofs.Ytndpejmebhcaaaa
