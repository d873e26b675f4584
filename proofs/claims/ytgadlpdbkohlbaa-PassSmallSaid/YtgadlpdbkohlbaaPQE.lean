/- Texts of one kind, one behind the other (merged by program; the bodies of functions are printed by program). -/
import Derived.Test.YtgadlpdbkohlbaaPQD
import Derived.WalkKit
/- The evaluator's own rules, for simp. -/
namespace Go.Proofs.Ytgadlpdbkohlbaa
open Go.RowKit
@[simp] theorem cell_lit (v : Value) : DV.cell (.lit v) = v.oneCell' := rfl
@[simp] theorem cell_sl (n len : Nat) (row : Nat → List DV) : DV.cell (.sl n len row) = true := rfl
@[simp] theorem cell_cref (cs : List DV) (off : Nat) : DV.cell (.cref cs off) = true := rfl
@[simp] theorem cell_fn (F : FuncId) (cs : List DV) : DV.cell (.fn F cs) = true := rfl
attribute [simp] okS stp setD wrap gval gok mxV mxOk vopG vopOk mkLen mkZs mkDs vecBase AV.isP Opd.av AOp.val AOp.ok AV.strip AV.live initT setAll bits T.get T.set fldV isPtr ldV ldOk idxV idxOk binA binOk binV binSide nzV nnV catOk cnvV cnvOk cnvsV cnvsOk bytesOf sidxV sidxOk sslcV sslcOk strLen strIf strAV aidxV aidxOk isBoolV notV notOk lenV lenOk extV extOk slcV slcOk bndV bndOk slLen pickV pickOk pickB mkAgg mkTup mkFn allD
 partsV fillV fillOk spl AV.cells AV.cellOk AV.cell AV.there Value.oneCell' liveAll callArgs mapO frz DV.isLit DV.flat cval cok Res resV ARes.val ARes.ok hget_nil hget_add hget_del hget_set appV appOk baseV moreV hdelO stH stOk hc ownOf lenOf iniOk hget_low rowOf idxH idxHOk keyV litsOf mgetV mgetOk mlenV mlenOk isnilV isnilOk eqsV eqsOk fldsEq fldEq msetH msetOk kdOk
end Go.Proofs.Ytgadlpdbkohlbaa
/- The evaluator with what is still to come avs data: one rule for each piece of code; calls; loops. -/
namespace Go.Proofs.Ytgadlpdbkohlbaa
open Go.RowKit
inductive Kt where
 | code (c : ACode)
 | blk (id : Nat)
mutual
def G (P : Program) : List Kt → (AX → T → Heap → Nat → Prop) → T → Heap → Nat → Prop
 | [], Q, e, H, nx => Q .normal e H nx
 | .blk _ :: ks, Q, e, H, nx => G P ks Q e H nx
 | .code c :: ks, Q, e, H, nx => awp P c (fun x e H nx => match x with | .normal => G P ks Q e H nx | .exit id => Gx P id ks Q e H nx | .ret => Q .ret e H nx) e H nx
def Gx (P : Program) (id : Nat) : List Kt → (AX → T → Heap → Nat → Prop) → T → Heap → Nat → Prop
 | [], Q, e, H, nx => Q (.exit id) e H nx
 | .blk j :: ks, Q, e, H, nx => if id = j then G P ks Q e H nx else Gx P id ks Q e H nx
 | .code _ :: ks, Q, e, H, nx => Gx P id ks Q e H nx
end
def GO (P : Program) (nx n i : Nat) (os : List AOper) (ks : List Kt) (Q : AX → T → Heap → Nat → Prop) (e : T) (H : Heap) : Prop := awpOps P nx i os (fun e H => G P ks Q e H n) e H
def CallK (P : Program) (nx n i : Nat) (d : Option Slot) (g : Option (Slot × Bool)) (lo : Option (Nat × List Slot)) (c : Bool) (f : Opd) (args : List Opd) (os : List AOper) (ks : List Kt) (Q : AX → T → Heap → Nat → Prop) (e : T) (H : Heap) : Prop :=
 GO P nx n i (⟨d, g, .call c f args, lo⟩ :: os) ks Q e H
def CalloK (P : Program) (nx n i : Nat) (d : Option Slot) (g : Option (Slot × Bool)) (lo : Option (Nat × List Slot)) (te : TypeId) (m : Nat) (f : Opd) (args : List Opd) (os : List AOper) (ks : List Kt) (Q : AX → T → Heap → Nat → Prop) (e : T) (H : Heap) : Prop :=
 GO P nx n i (⟨d, g, .callo te m f args, lo⟩ :: os) ks Q e H
def CallvK (P : Program) (nx n i : Nat) (d : Option Slot) (g : Option (Slot × Bool)) (lo : Option (Nat × List Slot)) (te : TypeId) (m : Nat) (f : Opd) (args : List Opd) (os : List AOper) (ks : List Kt) (Q : AX → T → Heap → Nat → Prop) (e : T) (H : Heap) : Prop :=
 GO P nx n i (⟨d, g, .callv te m f args, lo⟩ :: os) ks Q e H
def CalleK (P : Program) (nx n i : Nat) (d : Option Slot) (g : Option (Slot × Bool)) (lo : Option (Nat × List Slot)) (f : Opd) (args : List Opd) (os : List AOper) (ks : List Kt) (Q : AX → T → Heap → Nat → Prop) (e : T) (H : Heap) : Prop :=
 GO P nx n i (⟨d, g, .calle f args, lo⟩ :: os) ks Q e H
def CallkK (P : Program) (nx n i : Nat) (d : Option Slot) (g : Option (Slot × Bool)) (lo : Option (Nat × List Slot)) (k : Nat) (f : Opd) (args : List Opd) (os : List AOper) (ks : List Kt) (Q : AX → T → Heap → Nat → Prop) (e : T) (H : Heap) : Prop :=
 GO P nx n i (⟨d, g, .callk k f args, lo⟩ :: os) ks Q e H
def CallmK (P : Program) (nx n i : Nat) (d : Option Slot) (g : Option (Slot × Bool)) (lo : Option (Nat × List Slot)) (kd : KD) (f : Opd) (args : List Opd) (os : List AOper) (ks : List Kt) (Q : AX → T → Heap → Nat → Prop) (e : T) (H : Heap) : Prop :=
 GO P nx n i (⟨d, g, .callm kd f args, lo⟩ :: os) ks Q e H
def LoopK (P : Program) (b : ACode) (ks : List Kt) (Q : AX → T → Heap → Nat → Prop) (e : T) (H : Heap) (nx : Nat) : Prop := G P (.code (.loop b) :: ks) Q e H nx
def RngK (P : Program) (g : Opd) (ps : List Slot) (asn body : ACode) (ks : List Kt) (Q : AX → T → Heap → Nat → Prop) (e : T) (H : Heap) (nx : Nat) : Prop := G P (.code (.rng g ps asn body) :: ks) Q e H nx
section
variable {P : Program} {Q : AX → T → Heap → Nat → Prop} {e : T} {H : Heap} {nx n i : Nat} {ks : List Kt}
theorem G_start (c : ACode) (h : G P [.code c] Q e H nx) : awp P c Q e H nx := by
 simp only [G, Gx] at h
 have e1 : (fun (x : AX) (e : T) (H : Heap) (nx : Nat) => (match x with | .normal => Q .normal e H nx | .exit id => Q (.exit id) e H nx | .ret => Q .ret e H nx : Prop)) = Q := by
  funext x e H nx
  cases x <;> rfl
 rw [e1] at h
 exact h
theorem G_nil : G P [] Q e H nx = Q .normal e H nx := by simp only [G]
theorem G_blk {id : Nat} : G P (.blk id :: ks) Q e H nx = G P ks Q e H nx := by simp only [G]
theorem G_skip : G P (.code .skip :: ks) Q e H nx = G P ks Q e H nx := by simp only [G, awp]
theorem G_ret : G P (.code .ret :: ks) Q e H nx = Q .ret e H nx := by simp only [G, awp]
theorem G_frz {p : Slot} : G P (.code (.frz p) :: ks) Q e H nx = G P ks Q (frz1 p e H).1 (frz1 p e H).2 nx := by simp only [G, awp]
theorem G_exit {id : Nat} : G P (.code (.exit id) :: ks) Q e H nx = Gx P id ks Q e H nx := by simp only [G, awp]
theorem G_seq {a b : ACode} : G P (.code (.seq a b) :: ks) Q e H nx = G P (.code a :: .code b :: ks) Q e H nx := by
 simp only [G, awp]
 congr 1
 funext x e H nx
 cases x <;> simp only [Gx]
theorem G_block {id : Nat} {b : ACode} : G P (.code (.block id b) :: ks) Q e H nx = G P (.code b :: .blk id :: ks) Q e H nx := by
 simp only [G, awp]
 congr 1
 funext x e H nx
 cases x with
 | exit j => simp only [Gx]
 | _ => rfl
theorem G_cond {c : Opd} {t f : ACode} : G P (.code (.cond c t f) :: ks) Q e H nx = (cok e c ∧ (cval e c = true → G P (.code t :: ks) Q e H nx) ∧ (cval e c = false → G P (.code f :: ks) Q e H nx)) := by
 simp only [G, awp]
theorem G_reg {os : List AOper} : G P (.code (.reg os) :: ks) Q e H nx = (nx + os.length ≤ 500000 ∧ GO P nx (nx + os.length) 0 os ks Q e H) := by
 simp only [G, awp, GO]
theorem G_loop {b : ACode} : G P (.code (.loop b) :: ks) Q e H nx = LoopK P b ks Q e H nx := rfl
theorem G_rng {g : Opd} {ps : List Slot} {asn body : ACode} : G P (.code (.rng g ps asn body) :: ks) Q e H nx = RngK P g ps asn body ks Q e H nx := rfl
theorem Gx_nil {id : Nat} : Gx P id [] Q e H nx = Q (.exit id) e H nx := by simp only [Gx]
theorem Gx_blk {id j : Nat} : Gx P id (.blk j :: ks) Q e H nx = if id = j then G P ks Q e H nx else Gx P id ks Q e H nx := by simp only [Gx]
theorem Gx_code {id : Nat} {c : ACode} : Gx P id (.code c :: ks) Q e H nx = Gx P id ks Q e H nx := by simp only [Gx]
theorem GO_nil : GO P nx n i [] ks Q e H = G P ks Q e H n := by simp only [GO, awpOps]
theorem GO_call {d : Option Slot} {g : Option (Slot × Bool)} {lo : Option (Nat × List Slot)} {c : Bool} {f : Opd} {args : List Opd} {os : List AOper} : GO P nx n i (⟨d, g, .call c f args, lo⟩ :: os) ks Q e H = CallK P nx n i d g lo c f args os ks Q e H := rfl
theorem GO_callo {d : Option Slot} {g : Option (Slot × Bool)} {lo : Option (Nat × List Slot)} {te : TypeId} {m : Nat} {f : Opd} {args : List Opd} {os : List AOper} : GO P nx n i (⟨d, g, .callo te m f args, lo⟩ :: os) ks Q e H = CalloK P nx n i d g lo te m f args os ks Q e H := rfl
theorem GO_callv {d : Option Slot} {g : Option (Slot × Bool)} {lo : Option (Nat × List Slot)} {te : TypeId} {m : Nat} {f : Opd} {args : List Opd} {os : List AOper} : GO P nx n i (⟨d, g, .callv te m f args, lo⟩ :: os) ks Q e H = CallvK P nx n i d g lo te m f args os ks Q e H := rfl
theorem GO_calle {d : Option Slot} {g : Option (Slot × Bool)} {lo : Option (Nat × List Slot)} {f : Opd} {args : List Opd} {os : List AOper} : GO P nx n i (⟨d, g, .calle f args, lo⟩ :: os) ks Q e H = CalleK P nx n i d g lo f args os ks Q e H := rfl
theorem GO_callk {d : Option Slot} {g : Option (Slot × Bool)} {lo : Option (Nat × List Slot)} {k : Nat} {f : Opd} {args : List Opd} {os : List AOper} : GO P nx n i (⟨d, g, .callk k f args, lo⟩ :: os) ks Q e H = CallkK P nx n i d g lo k f args os ks Q e H := rfl
theorem GO_callm {d : Option Slot} {g : Option (Slot × Bool)} {lo : Option (Nat × List Slot)} {kd : KD} {f : Opd} {args : List Opd} {os : List AOper} : GO P nx n i (⟨d, g, .callm kd f args, lo⟩ :: os) ks Q e H = CallmK P nx n i d g lo kd f args os ks Q e H := rfl
variable {d : Option Slot} {g : Option (Slot × Bool)} {lo : Option (Nat × List Slot)} {os : List AOper}
theorem GO_mv {x : Opd} : GO P nx n i (⟨d, g, .mv x, lo⟩ :: os) ks Q e H = (gok e g ∧ (gval e g = true → (x.av e).live) ∧ GO P nx n (i + 1) os ks Q (setD e d (wrap e g (x.av e).strip)) H) := by
 simp only [GO, awpOps, okS, stp, AOp.ok, AOp.val, and_assoc]
theorem GO_val {op : AOp} (h : (match op with | .call _ _ _ | .callo _ _ _ _ | .callv _ _ _ _ | .calle _ _ | .callk _ _ _ | .callm _ _ _ | .boxo _ _ _ | .new _ | .nrow _ _ | .st _ _ _ | .appo _ _ _ _ _ _ | .vapp _ _ _ _ _ | .vop _ _ _ _ _ _ | .ini _ _ _ _ | .mmk _ | .mset _ _ _ _ _ | .bad => false | _ => true) = true) :
  GO P nx n i (⟨d, g, op, lo⟩ :: os) ks Q e H = (gok e g ∧ (gval e g = true → op.ok e (lowH lo e (nx + i) H)) ∧ GO P nx n (i + 1) os ks Q (setD e d (wrap e g (op.val e (lowH lo e (nx + i) H)))) H) := by
 cases op <;> first
  | (simp at h; done)
  | simp only [GO, awpOps, okS, stp, and_assoc, AOper.hv]
theorem GO_obj {op : AOp} (h : (match op with | .boxo _ _ _ | .new _ | .nrow _ _ | .st _ _ _ | .appo _ _ _ _ _ _ | .vapp _ _ _ _ _ | .vop _ _ _ _ _ _ | .ini _ _ _ _ | .mmk _ | .mset _ _ _ _ _ | .bad => true | _ => false) = true) :
  GO P nx n i (⟨d, g, op, lo⟩ :: os) ks Q e H = (okS P (.d .top) (nx + i) ⟨d, g, op, lo⟩ e H ∧ GO P nx n (i + 1) os ks Q (stp (.d .top) (nx + i) ⟨d, g, op, lo⟩ e H).1 (stp (.d .top) (nx + i) ⟨d, g, op, lo⟩ e H).2) := by
 cases op <;> first
  | (simp at h; done)
  | simp only [GO, awpOps]
def callD (p : Bool) (e : T) (H : Heap) (f : Opd) (args : List Opd) : Option (FuncId × List DV) :=
  match callArgs (f.av e).strip (args.map fun x => (x.av e).strip) with
  | some (F, avs) => match mapO (frz p H 5) avs with
    | some ds => some (F, ds)
    | none => none
  | none => none
theorem call_plain {c : Bool} {f : Opd} {args : List Opd} {F : FuncId} {ds : List DV} (r : DV) (hg : gok e g) (hl : gval e g = true → liveAll e (f :: args)) (hd : gval e g = true → callD false e (hc c (lowH lo e (nx + i) H)) f args = some (F, ds)) (hF : gval e g = true → APure P F ds r)
  (h : GO P nx n (i + 1) os ks Q (setD e d (wrap e g (.d r))) H) : CallK P nx n i d g lo c f args os ks Q e H := by
 unfold CallK GO
 unfold awpOps
 refine ⟨r, ⟨hg, fun hgv => ⟨hl hgv, ?_⟩⟩, h⟩
 have hd := hd hgv
 unfold callD at hd
 split at hd
 ·rename_i F' avs hca
  split at hd
  ·rename_i ds' hds
   injection hd with hd
   injection hd with h1 h2
   subst h1; subst h2
   exact ⟨_, avs, ds', hca, .inl hds, hF hgv⟩
  ·cases hd
 ·cases hd
theorem call_read {c : Bool} {f : Opd} {args : List Opd} {F : FuncId} {ds : List DV} (r : DV) (hr : r.flat = true) (hg : gok e g) (hl : gval e g = true → liveAll e (f :: args)) (hd : gval e g = true → callD true e (hc c (lowH lo e (nx + i) H)) f args = some (F, ds)) (hF : gval e g = true → APure P F ds r)
  (h : GO P nx n (i + 1) os ks Q (setD e d (wrap e g (.d r))) H) : CallK P nx n i d g lo c f args os ks Q e H := by
 unfold CallK GO
 unfold awpOps
 refine ⟨r, ⟨hg, fun hgv => ⟨hl hgv, ?_⟩⟩, h⟩
 have hd := hd hgv
 unfold callD at hd
 split at hd
 ·rename_i F' avs hca
  split at hd
  ·rename_i ds' hds
   injection hd with hd
   injection hd with h1 h2
   subst h1; subst h2
   exact ⟨_, avs, ds', hca, .inr ⟨hds, hr⟩, hF hgv⟩
  ·cases hd
 ·cases hd
def srcs : List (Nat × Src) → Nat → Src
 | [], j => if 1000000 ≤ j then .id j else .none
 | (i, s) :: l, j => if j = i then s else srcs l j
theorem srcs_none {l : List (Nat × Src)} {n : Nat} (h : l.all (fun p => decide (p.1 < n)) = true) (h2 : l.all (fun p => decide (p.1 < 1000000)) = true) : SrcEnd (srcs l) n = True := by
  apply eq_true
  induction l with
  | nil =>
    refine ⟨fun i hi hi2 => ?_, fun i hi => ?_⟩
    · simp only [srcs]; rw [if_neg (by omega)]
    · simp only [srcs]; rw [if_pos hi]
  | cons p l ih =>
    obtain ⟨j, s⟩ := p
    simp at h h2
    obtain ⟨h3, h4⟩ := ih (by simp; exact fun a b hb => h.2 a b hb) (by simp; exact fun a b hb => h2.2 a b hb)
    refine ⟨fun i hi hi2 => ?_, fun i hi => ?_⟩
    · simp only [srcs]
      rw [if_neg (by omega)]
      exact h3 i hi hi2
    · simp only [srcs]
      rw [if_neg (by omega)]
      exact h4 i hi
theorem srcs_none0 {n : Nat} : SrcEnd (srcs []) n = True := srcs_none (by simp) (by simp)
def srcNe : Src → Src → Prop
 | .id j, .id k => j ≠ k
 | _, _ => True
def apart1 (g : Nat → Src) (i : Nat) : List (Nat × AObj) → Prop
 | [] => True
 | (j, _) :: r => (i = j ∨ srcNe (g i) (g j)) ∧ apart1 g i r
theorem apart1_iff {g : Nat → Src} {i : Nat} : ∀ {r : List (Nat × AObj)}, apart1 g i r ↔ ∀ j o, (j, o) ∈ r → i ≠ j → ∀ k, g i = .id k → g j ≠ .id k
  | [] => by simp [apart1]
  | (j, o) :: r => by
    simp only [apart1, apart1_iff (r := r), List.mem_cons]
    constructor
    · rintro ⟨h1, h2⟩ j' o' (h3 | h3) hne k hk
      · injection h3 with h3 h4
        subst h3
        rcases h1 with h1 | h1
        · exact absurd h1 hne
        · intro hk'
          rw [hk, hk'] at h1
          exact h1 rfl
      · exact h2 j' o' h3 hne k hk
    · intro h
      refine ⟨?_, fun j' o' h' => h j' o' (.inr h')⟩
      by_cases hne : i = j
      · exact .inl hne
      · right
        have := h j o (.inl rfl) hne
        revert this
        cases g i <;> cases g j <;> simp [srcNe]
        intro h e
        exact h e.symm
theorem srcApart_cons {g : Nat → Src} {i : Nat} {o : AObj} {r : List (Nat × AObj)} : srcApart g ((i, o) :: r) = (apart1 g i r ∧ srcApart g r) := by
 rw [apart1_iff]; rfl
theorem srcApart_nil {g : Nat → Src} : srcApart g [] = True := rfl
def DLes : List DV → List DV → Prop
 | [], [] => True
 | a :: l, b :: r => DLe a b ∧ DLes l r
 | _, _ => False
theorem DLes.arg {F : FuncId} {r : DV} : ∀ {as' bs' : List DV}, DLes as' bs' → as'.length = bs'.length ∧ ∀ i (h : i < as'.length) (h' : i < bs'.length), DLe as'[i] bs'[i]
  | [], [], _ => ⟨rfl, fun i h => by simp at h⟩
  | a :: l, b :: r', h => by
    obtain ⟨h1, h2⟩ := DLes.arg (F := F) (r := r) h.2
    refine ⟨by simp [h1], fun i hi hi' => ?_⟩
    cases i with
    | zero => exact h.1
    | succ i => exact h2 i (by simpa using hi) (by simpa using hi')
  | [], _ :: _, h => h.elim
  | _ :: _, [], h => h.elim
theorem call_arg {c : Bool} {f : Opd} {args : List Opd} {F : FuncId} {ds ds' : List DV} {r : DV} (hF : APure P F ds' r) (hg : gok e g) (hl : gval e g = true → liveAll e (f :: args)) (hd : gval e g = true → callD false e (hc c (lowH lo e (nx + i) H)) f args = some (F, ds)) (hle : gval e g = true → DLes ds ds')
  (h : GO P nx n (i + 1) os ks Q (setD e d (wrap e g (.d r))) H) : CallK P nx n i d g lo c f args os ks Q e H :=
 call_plain r hg hl hd (fun hv => have h1 := DLes.arg (F := F) (r := r) (hle hv); hF.arg h1.1 h1.2) h
theorem AOwn.arg {F : FuncId} {as' bs' : List DV} {te : TypeId} {m len : Nat} {row : Nat → List DV} (h : AOwn P F bs' te m len row) (hle : DLes as' bs') : AOwn P F as' te m len row := by
 obtain ⟨hl, hle⟩ := DLes.arg (F := F) (r := .top) hle
 refine ⟨h.1, fun X w vs hX hvs => ?_⟩
 exact h.2 X w vs hX ⟨hvs.1.trans hl, fun i hi hi' => hle i (by have := hvs.1; omega) hi' _ _ _ (hvs.2 i hi (by have := hvs.1; omega))⟩
theorem AOwn.rows {F : FuncId} {as' : List DV} {te : TypeId} {m len len' : Nat} {row row' : Nat → List DV} (h : AOwn P F as' te m len row) (hl : len = len') (hr : ∀ i, i < len → row i = row' i) : AOwn P F as' te m len' row' := by
 subst hl
 refine ⟨h.1, fun X w vs hX hvs => (h.2 X w vs hX hvs).mono ?_⟩
 rintro e w' ⟨hx, v, he, xs, hown, hxs⟩
 exact ⟨hx, v, he, xs, hown, fun i hi => ⟨(hxs i hi).1, by rw [← hr i hi]; exact (hxs i hi).2⟩⟩
theorem callo_k {te : TypeId} {m : Nat} {f : Opd} {args : List Opd} {F : FuncId} {ds : List DV} (len : Nat) (row : Nat → List DV) (hg : g = none) (hl : liveAll e (f :: args)) (hd : callD false e H f args = some (F, ds)) (hF : AOwn P F ds te m len row)
  (h : GO P nx n (i + 1) os ks Q (setD e d (.own (nx + i) len)) (hadd (nx + i) (.row te m len row) H)) : CalloK P nx n i d g lo te m f args os ks Q e H := by
 unfold CalloK GO
 unfold awpOps
 unfold callD at hd
 split at hd
 ·rename_i F' avs hca
  split at hd
  ·rename_i ds' hds
   injection hd with hd
   injection hd with h1 h2
   subst h1; subst h2
   exact ⟨.sl m len row, ⟨hg, hl, _, avs, ds', len, row, hca, .inl hds, rfl, hF⟩, h⟩
  ·cases hd
 ·cases hd
theorem AOwn.toV {F : FuncId} {ds : List DV} {te : TypeId} {m len : Nat} {row : Nat → List DV} (hF : AOwn P F ds te m len row) (hflat : ∀ i, i < len → (row i).all DV.isLit = true) : AOwnV P F ds te m len row :=
 ⟨hF.1, fun X w vs hX hvs => (hF.2 X w vs hX hvs).mono fun e' w' ⟨hx, v, he, xs, h1, h2⟩ => ⟨hx, v, he, xs, h1, fun i hi => ⟨(h2 i hi).1, (h2 i hi).2.1, fun j hj hj' => by
  have h3 := (h2 i hi).2.2 j hj hj'
  have h4 := List.all_eq_true.1 (hflat i hi) _ (List.getElem_mem hj')
  generalize (row i)[j] = d at h3 h4
  generalize (xs i)[j] = u at h3
  cases d with
  | lit u => cases h3; exact .lit u
  | _ => cases h4⟩⟩⟩
theorem callvv_k {te : TypeId} {m : Nat} {f : Opd} {args : List Opd} {F : FuncId} {ds : List DV} (len : Nat) (row : Nat → List DV) (hg : g = none) (hl : liveAll e (f :: args)) (hd : callD false e H f args = some (F, ds)) (hF : AOwnV P F ds te m len row)
  (h : GO P nx n (i + 1) os ks Q (setD e d (.own (nx + i) len)) (hadd (nx + i) (.vec te m len fun i => (row i).map .d) H)) : CallvK P nx n i d g lo te m f args os ks Q e H := by
 unfold CallvK GO
 unfold awpOps
 unfold callD at hd
 split at hd
 ·rename_i F' avs hca
  split at hd
  ·rename_i ds' hds
   injection hd with hd
   injection hd with h1 h2
   subst h1; subst h2
   exact ⟨.sl m len row, ⟨hg, hl, _, avs, ds', len, row, hca, .inl hds, rfl, hF⟩, h⟩
  ·cases hd
 ·cases hd
theorem callv_k {te : TypeId} {m : Nat} {f : Opd} {args : List Opd} {F : FuncId} {ds : List DV} (len : Nat) (row : Nat → List DV) (hg : g = none) (hl : liveAll e (f :: args)) (hd : callD false e H f args = some (F, ds)) (hF : AOwn P F ds te m len row) (hflat : ∀ i, i < len → (row i).all DV.isLit = true)
  (h : GO P nx n (i + 1) os ks Q (setD e d (.own (nx + i) len)) (hadd (nx + i) (.vec te m len fun i => (row i).map .d) H)) : CallvK P nx n i d g lo te m f args os ks Q e H :=
 callvv_k len row hg hl hd (hF.toV hflat) h
def tau2 (id : Nat) (τ : Nat → Nat) : Nat → Nat := fun i => if i = 999998 then id + 500000 else τ i
theorem calle_k {f : Opd} {args : List Opd} {F : FuncId} {as1 : List AV} {L : List (Nat × AObj)} {x : DV} {L' : List (Nat × AObj)} (hF : AEff P F as1 L x L') (τ : Nat → Nat) (hτ : τ 999999 = nx + i) (avs : List AV) (hg : g = none) (hl : liveAll e (f :: args)) (hd : callArgs (f.av e).strip (args.map fun x => (x.av e).strip) = some (F, avs))
  (ha : cellsLe noR (gOf (tau2 (nx + i) τ) L) avs as1) (hL : HLe noR (gOf (tau2 (nx + i) τ) L) H L) (hap : srcApart (gOf (tau2 (nx + i) τ) L) L) (hids : idsOk L L')
  (h : GO P nx n (i + 1) os ks Q (setD e d (.d x)) (hput (tau2 (nx + i) τ) L L' H)) : CalleK P nx n i d g lo f args os ks Q e H := by
 unfold CalleK GO
 unfold awpOps
 exact ⟨.ef x (tau2 (nx + i) τ) L L', ⟨hg, hl, ⟨by simpa [tau2] using hτ, by simp [tau2]⟩, ⟨F, avs, as1, hd, ha, hF⟩, hL, hap, hids⟩, h⟩
theorem callk_k {kk : Nat} {f : Opd} {args : List Opd} {F : FuncId} {as1 : List AV} {L : List (Nat × AObj)} {x : DV} {L' : List (Nat × AObj)} (hF : AEff P F as1 L x L') (τ : Nat → Nat) (hτ : τ 999999 = nx + i) (avs : List AV) (hg : g = none) (hl : liveAll e (f :: args)) (hd : callArgs (f.av e).strip (args.map fun x => (x.av e).strip) = some (F, avs))
  (ha : cellsLe noR (gOf (tau2 (nx + i) τ) L) avs as1) (hL : HLe noR (gOf (tau2 (nx + i) τ) L) H L) (hap : srcApart (gOf (tau2 (nx + i) τ) L) L) (hids : idsOk L L') (hkeep : hget (hput (tau2 (nx + i) τ) L L' H) kk = hget H kk)
  (h : GO P nx n (i + 1) os ks Q (setD e d (.d x)) (hput (tau2 (nx + i) τ) L L' H)) : CallkK P nx n i d g lo kk f args os ks Q e H := by
 unfold CallkK GO
 unfold awpOps
 have hEK : effK kk (.ef x (tau2 (nx + i) τ) L L') H = hput (tau2 (nx + i) τ) L L' H := by
  funext q
  unfold effK
  split
  ·rename_i e
   subst e
   exact hkeep.symm
  ·rfl
 exact ⟨.ef x (tau2 (nx + i) τ) L L', ⟨hg, ⟨hl, ⟨by simpa [tau2] using hτ, by simp [tau2]⟩, ⟨F, avs, as1, hd, ha, hF⟩, hL, hap, hids⟩, hkeep⟩, by unfold GO at h; simpa only [stp, hEK, Rz.x] using h⟩
theorem awp_mono' {c : ACode} : ∀ {Q Q' : AX → T → Heap → Nat → Prop} {e : T} {H : Heap} {nx : Nat}, awp P c Q e H nx → (∀ x e H nx, Q x e H nx → Q' x e H nx) → awp P c Q' e H nx := by
  induction c with
  | skip => intro Q Q' e H nx h hq; exact hq _ _ _ _ h
  | reg os => intro Q Q' e H nx h hq; exact ⟨h.1, awpOps_mono (fun e H h => hq _ _ _ _ h) h.2⟩
  | seq a b iha ihb =>
    intro Q Q' e H nx h hq
    refine iha h ?_
    intro x e H nx h
    cases x with
    | normal => exact ihb h hq
    | _ => exact hq _ _ _ _ h
  | cond c t f iht ihf => intro Q Q' e H nx h hq; exact ⟨h.1, fun hc => iht (h.2.1 hc) hq, fun hc => ihf (h.2.2 hc) hq⟩
  | block id b ih =>
    intro Q Q' e H nx h hq
    refine ih h ?_
    intro x e H nx h
    cases x with
    | exit j =>
      simp only at h ⊢
      split
      · rename_i hj; rw [if_pos hj] at h; exact hq _ _ _ _ h
      · rename_i hj; rw [if_neg hj] at h; exact hq _ _ _ _ h
    | _ => exact hq _ _ _ _ h
  | loop b ih =>
    intro Q Q' e H nx h hq
    obtain ⟨I, h0, hb⟩ := h
    refine ⟨I, h0, fun n e L nx hI => ih (hb n e L nx hI) ?_⟩
    intro x e H nx h
    cases x with
    | normal => exact h
    | _ => exact hq _ _ _ _ h
  | exit => intro Q Q' e H nx h hq; exact hq _ _ _ _ h
  | ret => intro Q Q' e H nx h hq; exact hq _ _ _ _ h
  | frz => intro Q Q' e H nx h hq; exact hq _ _ _ _ h
  | rng g ps asn body iha ihb =>
    intro Q Q' e H nx h hq
    obtain ⟨hl, F, caps, xs, e1, pins, I, h1, h2, h3, h4, h5, h6, h7⟩ := h
    refine ⟨hl, F, caps, xs, e1, pins, I, h1, h2, h3, h4, h5, fun k hk L nx hI => iha (h6 k hk L nx hI) ?_, fun L nx hI => hq _ _ _ _ (h7 L nx hI)⟩
    intro x e H nx h
    cases x with
    | normal =>
      refine ihb h ?_
      intro x e H nx h
      cases x with
      | normal => exact h
      | _ => exact hq _ _ _ _ h
    | _ => exact h
  | bad => intro Q Q' e H nx h hq; exact h
def setL (e : T) : List (Slot × AV) → T
 | [] => e
 | (p, x) :: l => setL (e.set p x) l
def T.clean : T → T
 | .leaf (.whn _ _) => .leaf (.d .top)
 | .leaf (.own _ _) => .leaf (.d .top)
 | .leaf x => .leaf x
 | .node a b => .node a.clean b.clean
def LoopQ (P : Program) (ks : List Kt) (Q : AX → T → Heap → Nat → Prop) {κ : Type} (inv : κ → Prop) (μ : κ → Nat) (S : κ → List (Slot × AV)) (L : κ → List (Nat × AObj)) (nx' : Nat) (e0 : T) (k : κ) : AX → T → Heap → Nat → Prop :=
 fun x e' H' nx1 => match x with | .normal => ∃ k' g, inv k' ∧ μ k' < μ k ∧ SLe g e' H' (setL e0 (S k')) (L k') nx' | .exit id => Gx P id ks Q e' H' nx1 | .ret => Q .ret e' H' nx1
theorem LoopQ_normal {κ : Type} {inv : κ → Prop} {μ : κ → Nat} {S : κ → List (Slot × AV)} {L : κ → List (Nat × AObj)} {nx' : Nat} {e0 : T} {k : κ} {e' : T} {H' : Heap} {nx1 : Nat} :
  LoopQ P ks Q inv μ S L nx' e0 k .normal e' H' nx1 = ∃ k' g, inv k' ∧ μ k' < μ k ∧ SLe g e' H' (setL e0 (S k')) (L k') nx' := rfl
theorem LoopQ_exit {κ : Type} {inv : κ → Prop} {μ : κ → Nat} {S : κ → List (Slot × AV)} {L : κ → List (Nat × AObj)} {nx' : Nat} {e0 : T} {k : κ} {e' : T} {H' : Heap} {nx1 id : Nat} :
  LoopQ P ks Q inv μ S L nx' e0 k (.exit id) e' H' nx1 = Gx P id ks Q e' H' nx1 := rfl
theorem LoopQ_ret {κ : Type} {inv : κ → Prop} {μ : κ → Nat} {S : κ → List (Slot × AV)} {L : κ → List (Nat × AObj)} {nx' : Nat} {e0 : T} {k : κ} {e' : T} {H' : Heap} {nx1 : Nat} :
  LoopQ P ks Q inv μ S L nx' e0 k .ret e' H' nx1 = Q .ret e' H' nx1 := rfl
theorem loop_c {b : ACode} {κ : Type} (inv : κ → Prop) (μ : κ → Nat) (S : κ → List (Slot × AV)) (L : κ → List (Nat × AObj)) (nx' : Nat) (k0 : κ) (g0 : Nat → Src)
  (h0 : inv k0) (hs : SLe g0 e H (setL e.clean (S k0)) (L k0) nx')
  (hb : ∀ k, inv k → G P [.code b] (LoopQ P ks Q inv μ S L nx' e.clean k) (setL e.clean (S k)) (hof (L k)) nx') : LoopK P b ks Q e H nx := by
 unfold LoopK
 simp only [G]
 refine awp_loop inv μ (fun k => setL e.clean (S k)) L nx' k0 g0 h0 hs (fun k hk => ?_)
 have h := G_start _ (hb k hk)
 have e1 : LoopQ P ks Q inv μ S L nx' e.clean k =
   (fun x e' H' nx1 => match x with
    | .normal => ∃ k' g, inv k' ∧ μ k' < μ k ∧ SLe g e' H' (setL e.clean (S k')) (L k') nx'
    | x => (match x with | .normal => G P ks Q e' H' nx1 | .exit id => Gx P id ks Q e' H' nx1 | .ret => Q .ret e' H' nx1)) := by
  funext x e' H' nx1
  cases x <;> rfl
 rw [e1] at h
 exact h
def SLeK (g : Nat → Src) (e' : T) (H' : Heap) (e0 : T) {κ : Type} (S : κ → List (Slot × AV)) (L : κ → List (Nat × AObj)) (nx' : Nat) (k' : κ) : Prop := SLe g e' H' (setL e0 (S k')) (L k') nx'
def LoopS (P : Program) (ks : List Kt) (Q : AX → T → Heap → Nat → Prop) {κ : Type} (inv : κ → Prop) (μ : κ → Nat) (S : κ → List (Slot × AV)) (L : κ → List (Nat × AObj)) (nx' : Nat) (e0 : T) (k : κ) : AX → T → Heap → Nat → Prop :=
 fun x e' H' nx1 => match x with | .normal => ∃ k' g, inv k' ∧ μ k' < μ k ∧ SLeK g e' H' e0 S L nx' k' | .exit id => Gx P id ks Q e' H' nx1 | .ret => Q .ret e' H' nx1
theorem LoopS_normal {κ : Type} {inv : κ → Prop} {μ : κ → Nat} {S : κ → List (Slot × AV)} {L : κ → List (Nat × AObj)} {nx' : Nat} {e0 : T} {k : κ} {e' : T} {H' : Heap} {nx1 : Nat} :
  LoopS P ks Q inv μ S L nx' e0 k .normal e' H' nx1 = ∃ k' g, inv k' ∧ μ k' < μ k ∧ SLeK g e' H' e0 S L nx' k' := rfl
theorem LoopS_exit {κ : Type} {inv : κ → Prop} {μ : κ → Nat} {S : κ → List (Slot × AV)} {L : κ → List (Nat × AObj)} {nx' : Nat} {e0 : T} {k : κ} {e' : T} {H' : Heap} {nx1 id : Nat} :
  LoopS P ks Q inv μ S L nx' e0 k (.exit id) e' H' nx1 = Gx P id ks Q e' H' nx1 := rfl
theorem LoopS_ret {κ : Type} {inv : κ → Prop} {μ : κ → Nat} {S : κ → List (Slot × AV)} {L : κ → List (Nat × AObj)} {nx' : Nat} {e0 : T} {k : κ} {e' : T} {H' : Heap} {nx1 : Nat} :
  LoopS P ks Q inv μ S L nx' e0 k .ret e' H' nx1 = Q .ret e' H' nx1 := rfl
theorem loop_s {b : ACode} {κ : Type} (inv : κ → Prop) (μ : κ → Nat) (S : κ → List (Slot × AV)) (L : κ → List (Nat × AObj)) (nx' : Nat) (k0 : κ) (g0 : Nat → Src)
  (h0 : inv k0) (hs : SLe g0 e H (setL e.clean (S k0)) (L k0) nx')
  (hb : ∀ k, inv k → G P [.code b] (LoopS P ks Q inv μ S L nx' e.clean k) (setL e.clean (S k)) (hof (L k)) nx') : LoopK P b ks Q e H nx := by
 unfold LoopK
 simp only [G]
 refine awp_loop inv μ (fun k => setL e.clean (S k)) L nx' k0 g0 h0 hs (fun k hk => ?_)
 have h := G_start _ (hb k hk)
 have e1 : LoopS P ks Q inv μ S L nx' e.clean k =
   (fun x e' H' nx1 => match x with
    | .normal => ∃ k' g, inv k' ∧ μ k' < μ k ∧ SLeK g e' H' e.clean S L nx' k'
    | x => (match x with | .normal => G P ks Q e' H' nx1 | .exit id => Gx P id ks Q e' H' nx1 | .ret => Q .ret e' H' nx1)) := by
  funext x e' H' nx1
  cases x <;> rfl
 rw [e1] at h
 exact h
def T.bare : T → T
 | .leaf (.d x) => .leaf (.d x)
 | .leaf (.ptr id o) => .leaf (.ptr id o)
 | .leaf (.mp id) => .leaf (.mp id)
 | .leaf _ => .leaf (.d .top)
 | .node a b => .node a.bare b.bare
def RngE (g : Nat → Src) (e1 : T) (H' : Heap) (L : List (Nat × AObj)) (nx' : Nat) : Prop := SLe g e1 H' e1 L nx'
def RngQ (P : Program) (ks : List Kt) (Q : AX → T → Heap → Nat → Prop) {κ : Type} (inv : Nat → κ → Prop) (L : κ → List (Nat × AObj)) (nx' : Nat) (e1 : T) (k : Nat) : AX → T → Heap → Nat → Prop :=
 fun x _ H' nx1 => match x with | .normal => ∃ s' g, inv (k + 1) s' ∧ RngE g e1 H' (L s') nx' | .exit id => Gx P id ks Q e1 H' nx1 | .ret => Q .ret e1 H' nx1
theorem RngQ_normal {κ : Type} {inv : Nat → κ → Prop} {L : κ → List (Nat × AObj)} {nx' : Nat} {e1 : T} {k : Nat} {e' : T} {H' : Heap} {nx1 : Nat} :
  RngQ P ks Q inv L nx' e1 k .normal e' H' nx1 = ∃ s' g, inv (k + 1) s' ∧ RngE g e1 H' (L s') nx' := rfl
theorem RngQ_exit {κ : Type} {inv : Nat → κ → Prop} {L : κ → List (Nat × AObj)} {nx' : Nat} {e1 : T} {k : Nat} {e' : T} {H' : Heap} {nx1 id : Nat} :
  RngQ P ks Q inv L nx' e1 k (.exit id) e' H' nx1 = Gx P id ks Q e1 H' nx1 := rfl
theorem RngQ_ret {κ : Type} {inv : Nat → κ → Prop} {L : κ → List (Nat × AObj)} {nx' : Nat} {e1 : T} {k : Nat} {e' : T} {H' : Heap} {nx1 : Nat} :
  RngQ P ks Q inv L nx' e1 k .ret e' H' nx1 = Q .ret e1 H' nx1 := rfl
def RngA (P : Program) (body : ACode) (Q : AX → T → Heap → Nat → Prop) : AX → T → Heap → Nat → Prop :=
 fun x e H nx => match x with | .normal => G P [.code body] Q e H nx | _ => False
theorem RngA_normal {body : ACode} : RngA P body Q .normal e H nx = G P [.code body] Q e H nx := rfl
theorem rng_s {gop : Opd} {ps : List Slot} {asn body : ACode} {F : FuncId} {caps : List DV} {xs : List (List DV)} (hseq : ASeq P F caps xs) {κ : Type} (inv : Nat → κ → Prop) (S : List (Slot × AV)) (L : κ → List (Nat × AObj)) (nx' : Nat) (pins : List Nat) (k0 : κ) (g0 : Nat → Src)
    (hl : (gop.av e).live) (hg : (gop.av e).strip = .d (.fn F caps)) (hpin : (setL e.bare S).pinned pins = true) (hlen : ∀ k (hk : k < xs.length), xs[k].length = ps.length) (h0 : inv 0 k0) (hs : SLe g0 e H (setL e.bare S) (L k0) nx')
    (hb : ∀ k (hk : k < xs.length) s, inv k s → G P [.code asn] (RngA P body (RngQ P ks Q inv L nx' (setL e.bare S) k)) (setPs (setL e.bare S) ps xs[k]) (hof (L s)) nx')
    (hd : ∀ s, inv xs.length s → G P ks Q (setL e.bare S) (hof (L s)) nx') : RngK P gop ps asn body ks Q e H nx := by
  unfold RngK
  simp only [G]
  refine ⟨hl, F, caps, xs, setL e.bare S, pins, fun k L' n' => ∃ s, inv k s ∧ L' = L s ∧ n' = nx', hg, hseq, hpin, hlen, ⟨g0, L k0, nx', ⟨k0, h0, rfl, rfl⟩, hs⟩, ?_, ?_⟩
  · rintro k hk L' n' ⟨s, hinv, rfl, rfl⟩
    have h := G_start _ (hb k hk s hinv)
    refine awp_mono' h ?_
    intro x e' H' nx1 hq
    cases x with
    | normal =>
      refine awp_mono' (G_start _ hq) ?_
      intro x e2 H2 nx2 hq
      cases x with
      | normal =>
        obtain ⟨s', g, h1, h2⟩ := hq
        exact ⟨g, L s', _, ⟨s', h1, rfl, rfl⟩, h2⟩
      | exit id => exact hq
      | ret => exact hq
    | _ => exact hq
  · rintro L' n' ⟨s, hinv, rfl, rfl⟩
    exact hd s hinv
end
theorem G_bad {P : Program} {Q : AX → T → Heap → Nat → Prop} {e : T} {H : Heap} {nx : Nat} {ks : List Kt} : G P (.code .bad :: ks) Q e H nx = False := by simp only [G, awp]
attribute [simp ↓] srcs_none srcs_none0
attribute [simp] hget_only tau2 hget_nr hnot appG appGOk mkRow updR vecAt vecOk AV.dv RngQ_normal RngQ_exit RngQ_ret RngA_normal G_rng T.bare setPs LoopS_normal LoopS_exit LoopS_ret LoopQ_normal LoopQ_exit LoopQ_ret srcNe apart1 srcApart_cons srcApart_nil srcs DLes OwnRes T.clean frz1 meltC G_frz hset_hadd hset_nil hdel_hadd hdel_nil lowH G_bad GO_callo GO_callv GO_calle GO_callk GO_callm mpOf Rz.x vecOf G_nil G_blk G_skip G_ret G_exit G_seq G_block G_cond G_reg G_loop Gx_nil Gx_blk Gx_code GO_nil GO_call GO_mv GO_val GO_obj setL callD
def ResQ (rs : List ARes) (r : DV) : AX → T → Heap → Nat → Prop := fun x e H _ => Res rs r x e H
def OwnQV (rs : List ARes) (te : TypeId) (n len : Nat) (row : Nat → List DV) : AX → T → Heap → Nat → Prop := fun x e H _ => OwnResV rs te n len row x e H
theorem OwnQV_app {rs : List ARes} {te : TypeId} {n len : Nat} {row : Nat → List DV} {x : AX} {e : T} {H : Heap} {nx : Nat} : OwnQV rs te n len row x e H nx = OwnResV rs te n len row x e H := rfl
attribute [simp] OwnQV_app OwnResV
def OwnQ (rs : List ARes) (te : TypeId) (n len : Nat) (row : Nat → List DV) : AX → T → Heap → Nat → Prop := fun x e H _ => OwnRes rs te n len row x e H
theorem ResQ_app {rs : List ARes} {r : DV} {x : AX} {e : T} {H : Heap} {nx : Nat} : ResQ rs r x e H nx = Res rs r x e H := rfl
theorem OwnQ_app {rs : List ARes} {te : TypeId} {n len : Nat} {row : Nat → List DV} {x : AX} {e : T} {H : Heap} {nx : Nat} : OwnQ rs te n len row x e H nx = OwnRes rs te n len row x e H := rfl
attribute [simp] ResQ_app OwnQ_app
theorem apureG {F : FuncId} {fn : Func} {ac : ACode} {vs : List DV} {rs : List ARes} {r : DV} (ms : List Nat) (ows : List (FuncId × TypeId × Nat)) (hf : Try.prog.funcs[F]? = some fn) (hn : (fn.name == "runtime.NumGoroutine") = false)
  (ht : fn.body.bind (trCode Try.prog 8 fn.ntmps ms ows (drOk 8)) = some ac) (hr : trRess Try.prog 8 fn.results.toList = some rs) (hN : Nat.ble fn.ntmps 256 = true) (ha : Nat.ble vs.length fn.ntmps = true)
  (h : (∃ X w us, DReps X w us vs) → G Try.prog [.code ac] (ResQ rs r) (initT 8 vs) hnil 0) : APure Try.prog F vs r :=
 apureT ms ows hf hn ht hr hN ha fun hx => G_start ac (h hx)
theorem aownG {F : FuncId} {fn : Func} {ac : ACode} {vs : List DV} {rs : List ARes} {te : TypeId} {n len : Nat} {row : Nat → List DV} (ms : List Nat) (ows : List (FuncId × TypeId × Nat)) (hf : Try.prog.funcs[F]? = some fn) (hn : (fn.name == "runtime.NumGoroutine") = false)
  (ht : fn.body.bind (trCode Try.prog 8 fn.ntmps ms ows (drOk 8)) = some ac) (hr : trRess Try.prog 8 fn.results.toList = some rs) (hN : Nat.ble fn.ntmps 256 = true) (ha : Nat.ble vs.length fn.ntmps = true)
  (h : (∃ X w us, DReps X w us vs) → G Try.prog [.code ac] (OwnQ rs te n len row) (initT 8 vs) hnil 0) : AOwn Try.prog F vs te n len row :=
 aownT ms ows hf hn ht hr hN ha fun hx => G_start ac (h hx)
theorem aownVG {F : FuncId} {fn : Func} {ac : ACode} {vs : List DV} {rs : List ARes} {te : TypeId} {n len : Nat} {row : Nat → List DV} (ms : List Nat) (ows : List (FuncId × TypeId × Nat)) (hf : Try.prog.funcs[F]? = some fn) (hn : (fn.name == "runtime.NumGoroutine") = false)
  (ht : fn.body.bind (trCode Try.prog 8 fn.ntmps ms ows (drOk 8)) = some ac) (hr : trRess Try.prog 8 fn.results.toList = some rs) (hN : Nat.ble fn.ntmps 256 = true) (ha : Nat.ble vs.length fn.ntmps = true)
  (h : (∃ X w us, DReps X w us vs) → G Try.prog [.code ac] (OwnQV rs te n len row) (initT 8 vs) hnil 0) : AOwnV Try.prog F vs te n len row :=
 aownVT ms ows hf hn ht hr hN ha fun hx => G_start ac (h hx)
def MapQ (rs : List ARes) (kd : KD) (m : Nat) (fm : Value → Option Value) : AX → T → Heap → Nat → Prop := fun x e H _ => MapRes rs kd m fm x e H
theorem MapQ_app {rs : List ARes} {kd : KD} {m : Nat} {fm : Value → Option Value} {x : AX} {e : T} {H : Heap} {nx : Nat} : MapQ rs kd m fm x e H nx = MapRes rs kd m fm x e H := rfl
attribute [simp] MapQ_app MapRes
def EffQ (rs : List ARes) (x : DV) (L L' : List (Nat × AObj)) : AX → T → Heap → Nat → Prop := fun y e H _ => EffRes rs x L L' y e H
theorem EffQ_app {rs : List ARes} {x : DV} {L L' : List (Nat × AObj)} {y : AX} {e : T} {H : Heap} {nx : Nat} : EffQ rs x L L' y e H nx = EffRes rs x L L' y e H := rfl
attribute [simp] EffQ_app EffRes initA setAllA hput AObj.ren AV.ren AV.ren.renL effH
theorem aeffG {F : FuncId} {fn : Func} {ac : ACode} {vs : List AV} {rs : List ARes} {L L' : List (Nat × AObj)} {x : DV} (ms : List Nat) (ows : List (FuncId × TypeId × Nat)) (hf : Try.prog.funcs[F]? = some fn) (hn : (fn.name == "runtime.NumGoroutine") = false)
  (ht : fn.body.bind (trCode Try.prog 8 fn.ntmps ms ows (drOk 8)) = some ac) (hr : trRess Try.prog 8 fn.results.toList = some rs) (hN : Nat.ble fn.ntmps 256 = true) (ha : Nat.ble vs.length fn.ntmps = true)
  (hL : L.all (fun p => decide (1000000 ≤ p.1) && decide (p.1 < 1001000)) = true) (hids : idsOk L L')
  (h : (∃ γ X w us, Reps γ X w us vs) → G Try.prog [.code ac] (EffQ rs x L L') (initA 8 vs) (hof L) 0) : AEff Try.prog F vs L x L' :=
 aeffT ms ows hf hn ht hr hN ha hL hids fun hx => G_start ac (h hx)
theorem DLe_cells {n len : Nat} {row row' : Nat → List DV} (h : ∀ i, i < len → DLes (row i) (row' i)) : DLe (.sl n len row) (.sl n len row') := by
  intro X w v hv
  cases hv with
  | nil => exact .nil n row'
  | emp a => exact .emp a n row'
  | sl b off cap n len _ vals h1 h2 hb hX hl hc hr =>
    refine .sl b off cap n len row' vals h1 h2 hb hX (fun i hi => ?_) hc (fun i hi j hj hj' => ?_)
    · have := (DLes.arg (F := 0) (r := .top) (h i hi)).1
      exact ⟨this ▸ (hl i hi).1, (hl i hi).2⟩
    · obtain ⟨e1, e2⟩ := DLes.arg (F := 0) (r := .top) (h i hi)
      exact e2 j (by omega) hj' _ _ _ (hr i hi j hj (by omega))
theorem DLe_agg {cs cs' : List DV} (h : DLes cs cs') : DLe (.agg cs) (.agg cs') := have h1 := DLes.arg (F := 0) (r := .top) h; DLe.agg h1.1 h1.2
theorem DLe_tup {cs cs' : List DV} (h : DLes cs cs') : DLe (.tup cs) (.tup cs') := have h1 := DLes.arg (F := 0) (r := .top) h; DLe.tup h1.1 h1.2
end Go.Proofs.Ytgadlpdbkohlbaa
/- Iterators by the evaluator: stretches between two calls of yield; a call of yield. -/
namespace Go.Proofs.Ytgadlpdbkohlbaa
open Go.RowKit
def Bs.bare (Y : Nat → Nat → Prop) (w : World) : Bs := ⟨Y, w, fun _ => none, fun _ => False, hnil, 0⟩
def P1 (N : Nat) (Y : Nat → Nat → Prop) (a : Act) (w : World) (e : T) : Prop := FR 8 N Y w (Bs.bare Y w) (fun _ => none) a w e hnil
section
variable {P : Program} {N : Nat} {Y : Nat → Nat → Prop} {a : Act} {w : World} {e : T}
theorem XOf_nil {X0 : Nat → Nat → Prop} {γ : Nat → Option Value} {b q : Nat} (h : XOf X0 γ hnil b q) : X0 b q := by
 rcases h with h | ⟨_, _, _, h, _⟩
 ·exact h
 ·cases h
theorem P1.of (hY : ∀ b o, Y b o → b < w.heap.size) (hE : EnvRep 8 (fun _ => none) Y w a e) (hs : a.tmps.size = N) (hd : a.defers = []) : P1 N Y a w e :=
 ⟨⟨hY, Ext.refl w, (fun id o h => by cases h), (fun id id' o o' v v' b h => by cases h)⟩, fun p hp => (hE p hp).mono (Knows.refl _) (.same fun b q _ h => XOf_nil h), hs, ⟨[], hd, List.nodup_nil, fun K hK => by cases hK⟩, .same fun b q _ h => XOf_nil h, (fun _ _ h => by cases h), fun id kd n f v b h => by cases h⟩
theorem P1.envR (h : P1 N Y a w e) : EnvRep 8 (fun _ => none) Y w a e := fun p hp => (FR.env h p hp).mono (Knows.refl _) (.same fun _ _ _ h => .inl h)
theorem P1.defers (h : P1 N Y a w e) : a.defers = [] := by
 obtain ⟨Ks, h1, _, h2⟩ := FR.marks h
 cases Ks with
 | nil => exact h1
 | cons K Ks => exact (h2 K (by simp)).2.2.2.1.elim
theorem P1.move {Y' : Nat → Nat → Prop} {w' : World} (h : P1 N Y a w e) (hY : ∀ b o, Y' b o → b < w'.heap.size) (k : KB 0 Y Y' w w') : P1 N Y' a w' e :=
 .of hY (fun p hp => (h.envR p hp).monoC (Knows.refl _) k.size k.cells k.sub) (FR.size h) h.defers
theorem TLe.env0 {γ : Nat → Option Value} {X : Nat → Nat → Prop} {e' : T} (h : TLe noR (fun _ => .none) e e') (hE : EnvRep 8 γ X w a e) (hX : ∀ b q, Y b q → X b q) : EnvRep 8 (fun _ => none) Y w a e' := fun p hp =>
 AVLe.rep (γ' := fun _ => none) (fun i k h => by cases h) (fun i h => by cases h) (fun b q _ h => hX b q h) (fun _ _ _ _ _ hM => by cases hM) (TLe.get _ _ h p) (hE p hp)
theorem stretch {c : Code} {ac : ACode} {e' : T} {n : Nat} (tr : TrCode P 8 N c ac) (hp : plainB ac = true) (h1 : P1 N Y a w e) (h : awp P ac (fun x e2 _ _ => x = .normal ∧ TLe noR (fun _ => .none) e2 e') e hnil 0) :
  c.wpIn Fence.wide n P (fun x a' w' => x = .normal ∧ Ext w w' ∧ P1 N Y a' w' e') a w := by
 refine wpIn_mono (awp_sound tr none n _ _ (.inl hp) _ _ _ _ _ _ (FZ.top rfl h1 (fun _ _ => rfl)) h) ?_
 rintro x a' w' ⟨y, γ', e2, H2, nx', hy, hF, rfl, hs⟩
 cases x <;> simp only [AX.of] at hy <;> (try cases hy)
 have hF' := hF.untop rfl
 refine ⟨rfl, hF'.st.ext, .of (fun b o hY => Nat.lt_of_lt_of_le ((FR.st h1).hx b o hY) hF'.st.ext.size) (hs.env0 hF'.env (fun b q h => .inl h)) hF'.size ?_⟩
 obtain ⟨Ks, g1, _, g2⟩ := hF'.marks
 cases Ks with
 | nil => exact g1
 | cons K Ks => exact (g2 K (by simp)).2.2.2.1.elim
theorem P1.le {e' : T} (h : P1 N Y a w e) (hs : TLe noR (fun _ => .none) e e') : P1 N Y a w e' :=
 .of (FR.st h).hx (hs.env0 (FR.env h) (fun _ _ h => .inl h)) (FR.size h) h.defers
theorem P1.put (h : P1 N Y a w e) {p : Slot} (hp : p.length = 8) (hN : p.idx < N) {v : Value} {x : AV} (hv : Rep (fun _ => none) Y w v x) : P1 N Y (a.put (some p.idx) v) w (e.set p x) :=
 .of (FR.st h).hx (h.envR.put hp (by rw [FR.size h]; exact hN) hv) ((put_size _ _ _).trans (FR.size h)) ((put_defers _ _ _).trans h.defers)
theorem P1.init {ds : List DV} {vs : Array Value} (hY : ∀ b o, Y b o → b < w.heap.size) (hN : N ≤ 2 ^ 8) (hargs : ds.length ≤ N) (hvs : DReps Y w vs.toList ds) : P1 N Y { tmps := vs ++ Array.replicate (N - vs.size) undef, defers := [] } w (initT 8 ds) := by
 have hvl : vs.size = ds.length := by simpa using hvs.1
 refine .of hY (fun p hp => ?_) (by simp [hvl]; omega) rfl
 rcases setAll_get 8 hp ds (.leaf (.d .top)) 0 (by omega) with ⟨h1, h2⟩ | ⟨k, hk, h1, h2⟩
 ·unfold initT
  rw [h1]
  exact .top _
 ·unfold initT
  rw [h2]
  have hk' : k < vs.size := by omega
  have e1 : (vs ++ Array.replicate (N - vs.size) undef).getD p.idx undef = vs.toList[k]'(by simpa using hk') := by
   rw [h1, Nat.zero_add, Array.getD_eq_getD_getElem?, Array.getElem?_append_left hk', Array.getElem?_eq_getElem hk']
   simp
  show Rep _ _ _ ((vs ++ Array.replicate (N - vs.size) undef).getD p.idx undef) _
  rw [e1]
  exact .d _ _ (hvs.2 k (by simpa using hk') hk)
theorem valStep {ops : Array Oper} {o : Oper} {ao : AOper} {Q : Exit → Act → World → Prop} {i : Nat} {rest : List Nat} {n : Nat} {e' : T} (ho : ops[i]? = some o) (hnd : noDefer ops = true) (hlo : ¬ LetsOut Q) (tr : TrOper P 8 N ops o ao) (h1 : P1 N Y a w e)
  (hok : okS P (.d .top) 0 ao e hnil) (hmk : noMk [ao] = true) (hs : TLe noR (fun _ => .none) (stp (.d .top) 0 ao e hnil).1 e') (h : ∀ a' w', Ext w w' → P1 N Y a' w' e' → wpOpsIn Fence.wide n P ops Q rest a' w') : wpOpsIn Fence.wide n P ops Q (i :: rest) a w := by
 rw [wpOpsIn_cons]
 refine wpOpIn_of (ro := none) (noDefer_at hnd i) hlo ?_
 unfold wpOp
 rw [ho]
 refine op_sound tr h1 (id := 0) rfl rfl (.d .top) hok (fun hk b => ?_) (fun γ' a' w' hR hkn hne => ?_)
 ·simp [noMk, hk] at hmk
 refine h a' w' hR.st.ext (.of (fun b o hY => Nat.lt_of_lt_of_le ((FR.st h1).hx b o hY) hR.st.ext.size) (hs.env0 hR.env (fun b q h => .inl h)) hR.size ?_)
 obtain ⟨Ks, g1, _, g2⟩ := hR.marks
 cases Ks with
 | nil => exact g1
 | cons K Ks => exact (g2 K (by simp)).2.2.2.1.elim
theorem condStep {c : Operand} {t f : Code} {p : Slot} {b : Bool} {Q : Exit → Act → World → Prop} {n : Nat} (h1 : P1 N Y a w e) (tr : TrOpd 8 c (.s p)) (he : e.get p = .d (.lit (.bool b))) (ht : b = true → t.wpIn Fence.wide n P Q a w) (hf : b = false → f.wpIn Fence.wide n P Q a w) : (Code.cond c t f).wpIn Fence.wide n P Q a w := by
 have hv : a.eval c = .bool b := by
  have := tr.rep h1.envR
  simp only [Opd.av, he] at this
  exact this.lit
 refine wpIn_cond hv ?_
 cases b with
 | true => rw [if_pos rfl]; exact ht rfl
 | false => rw [if_neg (by simp)]; exact hf rfl
theorem P1.len {p : Slot} {n len : Nat} {row : Nat → List DV} (h : P1 N Y a w e) (hp : p.length = 8) (he : e.get p = .d (.sl n len row)) : len ≤ 9223372036854775807 := by
  have := h.envR p hp
  rw [he] at this
  generalize a.tmps.getD p.idx undef = v at this
  cases this with
  | d _ _ hd =>
    have : len ≤ maxLen := by
      cases hd with
      | nil => exact Nat.zero_le _
      | emp => exact Nat.zero_le _
      | sl b off cap n len row vals h1 h2 => exact Nat.le_trans h1 h2
    simpa [maxLen] using this
theorem yieldStep {ops : Array Oper} {o : Oper} {f x : Operand} {ts : Array TypeId} {Q : Exit → Act → World → Prop} {i l : Nat} {rest : List Nat} {R : Ending → World → Prop} (ho : ops[i]? = some o) (hg : o.guard = none) (hop : o.op = .call { callee := .value f, args := #[x], argTypes := ts })
  (hf : a.eval f = .func (.yield l) #[] #[]) (hy : YieldAt Fence.wide 0 P l #[a.eval x] w R) (h : ∀ en w', R en w' → ∃ v, en = .returned v ∧ wpOpsIn Fence.wide 0 P ops Q rest (a.put o.dst v) w') : wpOpsIn Fence.wide 0 P ops Q (i :: rest) a w := by
 rw [wpOpsIn_cons]
 unfold wpOpIn
 rw [ho]
 simp only
 rw [if_pos (by simp [Region.wanted, hg])]
 refine ⟨fun _ _ => trivial, ?_⟩
 rw [Oper.semAt_eq _ _ _ (fun c hc => by rw [hop] at hc; cases hc)]
 obtain ⟨fn, tmps, asn, body, hr, hR⟩ := hy
 have hrun : (execOp a.eval o).run P w = .ok (.round l fn tmps asn body) w := by
  unfold execOp
  simp only [hop, resolve, hf]
  simp [Deferred.ofValue, invoke, hr]
 rw [hrun, Oper.uponIn_round]
 refine ⟨fun h => (by cases h), hR.mono ?_⟩
 intro en w' hq
 obtain ⟨v, rfl, hk⟩ := h en w' hq
 exact hk
theorem yieldReg {id l : Nat} {o0 o1 o2 o3 : Oper} {a0 a1 a2 a3 : AOper} {f x : Operand} {fo xo : Opd} {ts : Array TypeId} {p2 : Slot} {e1 e2 e4 f4 : T} {xd : DV} {JT : (Nat → Nat → Prop) → World → Prop} {Jx : World → Prop}
  (hnd : noDefer #[o0, o1, o2, o3] = true) (ht : trOpers P 8 N [] [] #[o0, o1, o2, o3] none 0 [o0, o1, o2, o3] = some [a0, a1, a2, a3]) (hop : o2.op = .call { callee := .value f, args := #[x], argTypes := ts }) (hg : o2.guard = none) (hd : o2.dst = some p2.idx) (hp2 : p2.length = 8) (hp2N : p2.idx < N)
  (hf : TrOpd 8 f fo) (hx : TrOpd 8 x xo) (hP : P1 N Y a w e)
  (m0 : noMk [a0] = true) (s0 : okS P (.d .top) 0 a0 e hnil ∧ TLe noR (fun _ => .none) (stp (.d .top) 0 a0 e hnil).1 e1)
  (m1 : noMk [a1] = true) (s1 : okS P (.d .top) 0 a1 e1 hnil ∧ TLe noR (fun _ => .none) (stp (.d .top) 0 a1 e1 hnil).1 e2)
  (hfv : fo.av e2 = .d (.lit (.func (.yield l) #[] #[]))) (hxv : xo.av e2 = .d xd)
  (hy : ∀ W' (vs : Array Value), Ext w W' → DReps Y W' vs.toList [xd] → YieldAt Fence.wide 0 P l vs W' fun en W'' => (en = .returned (.bool true) ∧ ∃ Y', JT Y' W'' ∧ KB 0 Y Y' W' W'') ∨ (en = .returned (.bool false) ∧ Jx W''))
  (hJY : ∀ Y W, JT Y W → ∀ b o, Y b o → b < W.heap.size) (hJe : ∀ Y W W', JT Y W → Ext W W' → JT Y W') (hJxe : ∀ W W', Jx W → Ext W W' → Jx W')
  (m3 : noMk [a3] = true) (s3 : okS P (.d .top) 0 a3 (e2.set p2 (.d (.lit (.bool true)))) hnil ∧ TLe noR (fun _ => .none) (stp (.d .top) 0 a3 (e2.set p2 (.d (.lit (.bool true)))) hnil).1 e4)
  (n3 : okS P (.d .top) 0 a3 ((T.leaf (.d .top)).set p2 (.d (.lit (.bool false)))) hnil ∧ TLe noR (fun _ => .none) (stp (.d .top) 0 a3 ((T.leaf (.d .top)).set p2 (.d (.lit (.bool false)))) hnil).1 f4) :
  (Code.region id #[o0, o1, o2, o3] false).wpIn Fence.wide 0 P (fun x a' W' => x = .normal ∧ ((∃ Y', JT Y' W' ∧ P1 N Y' a' W' e4) ∨ (Jx W' ∧ P1 N (fun _ _ => False) a' W' f4))) a w := by
 have htr := (trOpers_sound ht).2
 have hlo : ¬ LetsOut (fun (x : Exit) (a' : Act) (W' : World) => x = .normal ∧ ((∃ Y', JT Y' W' ∧ P1 N Y' a' W' e4) ∨ (Jx W' ∧ P1 N (fun _ _ => False) a' W' f4))) := by rintro ⟨_, _, h, _⟩; cases h
 refine wpIn_region ?_
 show wpOpsIn _ _ _ _ _ [0, 1, 2, 3] a w
 refine valStep (ao := a0) (o := o0) rfl hnd hlo (htr 0 o0 a0 rfl rfl) hP s0.1 m0 s0.2 (fun b1 w1 hx1 hP1 => ?_)
 refine valStep (ao := a1) (o := o1) rfl hnd hlo (htr 1 o1 a1 rfl rfl) hP1 s1.1 m1 s1.2 (fun b2 w2 hx2 hP2 => ?_)
 have hfr := hf.rep hP2.envR
 rw [hfv] at hfr
 have hxr := hx.rep hP2.envR
 rw [hxv] at hxr
 have hxr' : DReps Y w2 #[b2.eval x].toList [xd] := DReps.cons hxr.dv (DReps.nil _ _)
 refine yieldStep (o := o2) (f := f) (x := x) rfl hg hop hfr.lit (hy w2 _ (hx1.trans hx2) hxr') ?_
 rintro en w3 (⟨rfl, Y', hJ, hK⟩ | ⟨rfl, hJx⟩)
 ·refine ⟨_, rfl, ?_⟩
  rw [hd]
  have hP3 := (hP2.move (hJY _ _ hJ) hK).put (v := .bool true) (x := .d (.lit (.bool true))) hp2 hp2N (.ofLit _)
  refine valStep (ao := a3) (o := o3) rfl hnd hlo (htr 3 o3 a3 rfl rfl) hP3 s3.1 m3 s3.2 (fun b4 w4 hx4 hP4 => ?_)
  exact ⟨rfl, .inl ⟨Y', hJe _ _ _ hJ hx4, hP4⟩⟩
 ·refine ⟨_, rfl, ?_⟩
  rw [hd]
  have hP3 : P1 N (fun _ _ => False) b2 w3 (.leaf (.d .top)) := .of (fun _ _ h => h.elim) (fun p hp => by cases p <;> exact .top _) (FR.size hP2) hP2.defers
  have hP3' := hP3.put (v := .bool false) (x := .d (.lit (.bool false))) hp2 hp2N (.ofLit _)
  refine valStep (ao := a3) (o := o3) rfl hnd hlo (htr 3 o3 a3 rfl rfl) hP3' n3.1 m3 n3.2 (fun b4 w4 hx4 hP4 => ?_)
  exact ⟨rfl, .inr ⟨hJxe _ _ hJx hx4, hP4⟩⟩
end
end Go.Proofs.Ytgadlpdbkohlbaa
/- Contracts of functions that turn objects, shown without the evaluator; an object that is used up. -/
namespace Go.Proofs.Ytgadlpdbkohlbaa
open Go.RowKit
theorem Reps.uncons {γ : Nat → Option Value} {X : Nat → Nat → Prop} {w : World} {vs : List Value} {a : AV} {as' : List AV} (h : Reps γ X w vs (a :: as')) : ∃ v vs', vs = v :: vs' ∧ Rep γ X w v a ∧ Reps γ X w vs' as' := by
 obtain ⟨hl, hr⟩ := h
 cases vs with
 | nil => simp at hl
 | cons v vs' => exact ⟨v, vs', rfl, hr 0 (by simp) (by simp), by simpa using hl, fun i hi hi' => hr (i + 1) (by simpa using hi) (by simpa using hi')⟩
theorem Reps.unnil {γ : Nat → Option Value} {X : Nat → Nat → Prop} {w : World} {vs : List Value} (h : Reps γ X w vs []) : vs = [] := by
 have := h.1
 simpa using this
section
variable {P : Program} {X0 : Nat → Nat → Prop} {W0 : World} {γ : Nat → Option Value} {w : World} {H : Heap}
theorem aeff_raw {F : FuncId} {args : List AV} {L L' : List (Nat × AObj)} {x : DV} {H' : Heap} (hB : HasBody P F) (hL : L.all (fun p => decide (1000000 ≤ p.1) && decide (p.1 < 1001000)) = true) (hids : idsOk L L') (hend : EffEnd L L' H')
  (h : ∀ X0 W0 γ w Hf (vs : Array Value), St X0 W0 γ w (hjoin (hof L) Hf) → HOk (hof L) Hf → Reps γ (XOf X0 γ (hjoin (hof L) Hf)) w vs.toList args →
   Calls P F vs w fun e w' => ∃ v, e = .returned v ∧ St X0 W0 γ w' (hjoin H' Hf) ∧ HOk H' Hf ∧ Keeps (XOf X0 γ (hjoin (hof L) Hf)) (XOf X0 γ (hjoin H' Hf)) w w' ∧ DRep (XOf X0 γ (hjoin H' Hf)) w' v x) : AEff P F args L x L' := by
 refine ⟨hB, fun X0 W0 γ w H τ vs hS hnew hnew2 hnn hHL hap hvs => ?_⟩
 obtain ⟨ρ, γc, Hf, hE⟩ := eff_enter hS hL hHL hap
 have hvs' : Reps γc (XOf X0 γc (hjoin (hof L) Hf)) w vs.toList args := by
  refine hvs.mono (fun i v hv => ?_) (.same fun b q _ hb => hE.sub b q hb)
  have hv' : (match gOf τ L i with | .none => none | .id k => γ k | .nil => some (.slice none 0 0)) = some v := hv
  unfold gOf at hv'
  split at hv'
  ·cases hv'
  ·rename_i k hk
   split at hk
   ·rename_i hin
    injection hk with hk
    subst hk
    obtain ⟨⟨j, o⟩, hm, he⟩ := List.any_eq_true.1 hin
    simp only [beq_iff_eq] at he
    subst he
    rw [← hE.back j o hm, hE.val]
    exact hv'
   ·cases hk
  ·rename_i hk
   split at hk <;> cases hk
 refine (h X0 W0 γc w Hf vs hE.st hE.ok hvs').mono ?_
 rintro e w' ⟨v, rfl, hS', hO', hK, hd⟩
 obtain ⟨s, hs, hsap⟩ := hend
 obtain ⟨γ', g1, g2, g3, g4⟩ := eff_leave hS hL hHL hE hnew hnew2 hnn hids hS' hO' (fun _ _ _ hv => hv) hK hs hsap
 exact ⟨v, γ', rfl, g1, g2, g3, g4 _ _ hd⟩
theorem St.spend {j : Nat} {o : AObj} {u : Value} {w' : World} (hS : St X0 W0 γ w H) (ho : hget H j = some o) (hu : γ j = some u) (ht : ∀ q, turns o q) (hext : Ext W0 w') (hsz : w.heap.size ≤ w'.heap.size)
  (hb : ∀ b, blk u ≠ some b → b < w.heap.size → w'.heap[b]? = w.heap[b]?) : St X0 W0 γ w' (hdel H j) ∧ Keeps (XOf X0 γ H) (XOf X0 γ (hdel H j)) w w' := by
 have hsub : ∀ b q, XOf X0 γ (hdel H j) b q → XOf X0 γ H b q := by
  rintro b q (h | ⟨id, ob, v, h1, h2, h3, h4⟩)
  ·exact .inl h
  ·rw [hget_del] at h1
   split at h1
   ·cases h1
   ·exact .inr ⟨id, ob, v, h1, h2, h3, h4⟩
 have hK : Keeps (XOf X0 γ H) (XOf X0 γ (hdel H j)) w w' := by
  refine .of_blocks hsz (fun b hlt => ?_) (fun b q _ h => hsub b q h)
  by_cases e : blk u = some b
  ·exact .inl fun q => .inr ⟨j, o, u, ho, hu, e, ht q⟩
  ·exact .inr (hb b e hlt)
 refine ⟨⟨hS.hx, hext, fun id o' h => ?_, fun id id' o1 o2 v v' b h1 h2 h3 h4 h5 h6 => ?_⟩, hK⟩
 ·rw [hget_del] at h
  split at h
  ·cases h
  ·rename_i hne
   obtain ⟨v, hv, hr⟩ := hS.obj id o' h
   refine ⟨v, hv, hr.mono (Knows.refl _) hK fun b hbv hlt => hb b (fun e => hne ?_) hlt⟩
   exact hS.dis j id o o' u v b ho h hu hv e hbv
 ·rw [hget_del] at h1 h2
  split at h1
  ·cases h1
  split at h2
  ·cases h2
  exact hS.dis id id' o1 o2 v v' b h1 h2 h3 h4 h5 h6
end
end Go.Proofs.Ytgadlpdbkohlbaa
/- Modules as plain data; what the document says of instructions, blocks, functions, modules: plain functions, no program in sight. -/
namespace Go.Proofs.Ytgadlpdbkohlbaa
structure Inst where
 op : Int
 a : Int
 b : Int
 k : Nat
 name : ByteArray
 args : List Int
structure Block where
 params : Int
 ins : List Inst
 kind : Int
 ta : Int
 to : Int
 args : List Int
 els : Int
 elses : List Int
structure Func where
 name : ByteArray
 bind : Int
 params : Int
 blocks : List Block
structure Glob where
 name : ByteArray
 bind : Int
 here : Bool
 init : Nat
structure Module where
 funcs : List Func
 globs : List Glob
def uses (i : Inst) : List Int :=
 if 2 ≤ i.op ∧ i.op ≤ 11 then [i.a, i.b] else if i.op = 13 ∨ i.op = 16 then [i.a] else if i.op = 14 then i.args else []
def nameOk (s : ByteArray) : Bool := decide (1 ≤ s.size) && decide (s.size ≤ 16)
def isNamed (op : Int) : Bool := decide (12 ≤ op) && decide (op ≤ 14)
def belowB (l : List Int) (n : Int) : Bool := l.all fun v => decide (0 ≤ v) && decide (v < n)
def isTwo (op : Int) : Bool := decide (2 ≤ op) && decide (op ≤ 11)
def isOne (op : Int) : Bool := isTwo op || op == 13 || op == 16
def instOk (i : Inst) (n : Int) : Bool :=
 decide (1 ≤ i.op) && decide (i.op ≤ 16) && belowB (uses i) n && (isOne i.op || i.a == 0) && (isTwo i.op || i.b == 0) && (i.op == 1 || i.k == 0) && (i.op == 14 || i.args.length == 0) && decide (i.args.length ≤ 6) &&
  (if isNamed i.op then nameOk i.name else i.name.size == 0)
theorem isTwo_iff (op : Int) : isTwo op = true ↔ 2 ≤ op ∧ op ≤ 11 := by simp [isTwo]
theorem isOne_iff (op : Int) : isOne op = true ↔ (2 ≤ op ∧ op ≤ 11) ∨ op = 13 ∨ op = 16 := by simp [isOne, isTwo, or_assoc]
theorem inst_no_a {i : Inst} {n : Int} (h : ¬ i.a = 0) (h1 : ¬ (2 ≤ i.op ∧ i.op ≤ 11)) (h2 : ¬ i.op = 13) (h3 : ¬ i.op = 16) : instOk i n = false := by
 have e : isOne i.op = false := by rw [← Bool.not_eq_true, isOne_iff]; omega
 simp [instOk, e, h]
theorem inst_no_b {i : Inst} {n : Int} (h : (i.b != 0) = true) (h1 : ¬ (2 ≤ i.op ∧ i.op ≤ 11)) : instOk i n = false := by
 have e : isTwo i.op = false := by rw [← Bool.not_eq_true, isTwo_iff]; omega
 have h' : ¬ i.b = 0 := by simpa using h
 simp [instOk, e, h']
theorem inst_no_k {i : Inst} {n : Int} (h : ((i.k : Int) != 0) = true) (h1 : ¬ i.op = 1) : instOk i n = false := by
 have h' : ¬ i.k = 0 := by
  have : ¬ (i.k : Int) = 0 := by simpa using h
  omega
 simp [instOk, h1, h']
theorem inst_no_args {i : Inst} {n : Int} (h : 0 < i.args.length) (h1 : ¬ i.op = 14) : instOk i n = false := by
 have h' : ¬ i.args.length = 0 := by omega
 have h'' : ¬ i.args = [] := by intro e; rw [e] at h; simp at h
 simp [instOk, h1, h'']
theorem inst_no_six {i : Inst} {n : Int} (h : (6 : Int) < i.args.length) : instOk i n = false := by
 have h' : ¬ i.args.length ≤ 6 := by omega
 simp [instOk, h']
theorem inst_yes {i : Inst} {n : Int} (h1 : 1 ≤ i.op) (h2 : i.op ≤ 16) (hb : belowB (uses i) n = true) (hA : ((2 ≤ i.op ∧ i.op ≤ 11) ∨ i.op = 13 ∨ i.op = 16) ∨ i.a = 0) (hB : (2 ≤ i.op ∧ i.op ≤ 11) ∨ (i.b != 0) = false)
  (hK : i.op = 1 ∨ ((i.k : Int) != 0) = false) (hN : i.op = 14 ∨ ¬ 0 < i.args.length) (h6 : (i.args.length : Int) ≤ 6) : instOk i n = if isNamed i.op then nameOk i.name else i.name.size == 0 := by
 have eA : (isOne i.op || i.a == 0) = true := by
  rcases hA with h | h
  ·rw [(isOne_iff _).2 h]; rfl
  ·simp [h]
 have eB : (isTwo i.op || i.b == 0) = true := by
  rcases hB with h | h
  ·rw [(isTwo_iff _).2 h]; rfl
  ·have : i.b = 0 := by simpa using h
   simp [this]
 have eK : (i.op == 1 || i.k == 0) = true := by
  rcases hK with h | h
  ·simp [h]
  ·have : (i.k : Int) = 0 := by simpa using h
   have : i.k = 0 := by omega
   simp [this]
 have eN : (i.op == 14 || i.args.length == 0) = true := by
  rcases hN with h | h
  ·simp [h]
  ·have : i.args.length = 0 := by omega
   simp only [this]; simp
 have e6 : i.args.length ≤ 6 := by omega
 unfold instOk
 rw [eA, eB, eK, eN, hb, decide_eq_true h1, decide_eq_true h2, decide_eq_true e6]
 simp
theorem inst_no_b' {i : Inst} {n : Int} (h : ¬ i.b = 0) (h1 : ¬ (2 ≤ i.op ∧ i.op ≤ 11)) : instOk i n = false := inst_no_b (by simpa using h) h1
theorem inst_no_k' {i : Inst} {n : Int} (h : ¬ (i.k : Int) = 0) (h1 : ¬ i.op = 1) : instOk i n = false := inst_no_k (by simpa using h) h1
theorem inst_yes' {i : Inst} {n : Int} (h1 : 1 ≤ i.op) (h2 : i.op ≤ 16) (hb : belowB (uses i) n = true) (hA : ((2 ≤ i.op ∧ i.op ≤ 11) ∨ i.op = 13 ∨ i.op = 16) ∨ i.a = 0) (hB : (2 ≤ i.op ∧ i.op ≤ 11) ∨ i.b = 0)
  (hK : i.op = 1 ∨ (i.k : Int) = 0) (hN : i.op = 14 ∨ ¬ 0 < i.args.length) (h6 : (i.args.length : Int) ≤ 6) : instOk i n = if isNamed i.op then nameOk i.name else i.name.size == 0 :=
 inst_yes h1 h2 hb hA (hB.elim Or.inl (fun h => Or.inr (by rw [h]; rfl))) (hK.elim Or.inl (fun h => Or.inr (by rw [h]; rfl))) hN h6
def goesB (f : Func) (to : Int) (args : List Int) (n : Int) : Bool :=
 decide (0 ≤ to) && (match f.blocks[to.toNat]? with | some b => (args.length : Int) == b.params | none => false) && belowB args n
theorem goesB_lo {f : Func} {to : Int} {args : List Int} {n : Int} (h : to < 0) : goesB f to args n = false := by
 unfold goesB; rw [decide_eq_false (by omega)]; rfl
theorem goesB_hi {f : Func} {to : Int} {args : List Int} {n : Int} (h0 : 0 ≤ to) (h : (f.blocks.length : Int) ≤ to) : goesB f to args n = false := by
 unfold goesB
 rw [List.getElem?_eq_none (by omega)]
 simp
end Go.Proofs.Ytgadlpdbkohlbaa
/- Plain laws on blocks and functions: what is right. -/
namespace Go.Proofs.Ytgadlpdbkohlbaa
def insFrom : Int → List Inst → Bool
 | _, [] => true
 | n, i :: r => instOk i n && insFrom (n + 1) r
theorem insFrom_iff : ∀ (n : Int) (l : List Inst), insFrom n l = true ↔ ∀ k (h : k < l.length), instOk l[k] (n + k) = true
  | n, [] => by simp [insFrom]
  | n, i :: r => by
    simp only [insFrom, Bool.and_eq_true, insFrom_iff (n + 1) r]
    constructor
    · rintro ⟨h1, h2⟩ k hk
      cases k with
      | zero => simpa using h1
      | succ k =>
        have := h2 k (by simpa using hk)
        simp only [List.getElem_cons_succ]
        rw [show n + ((k + 1 : Nat) : Int) = n + 1 + (k : Int) by omega]
        exact this
    · intro h
      refine ⟨?_, fun k hk => ?_⟩
      · have := h 0 (by simp)
        rw [show n + ((0 : Nat) : Int) = n by omega] at this
        exact this
      have := h (k + 1) (by simpa using hk)
      simp only [List.getElem_cons_succ] at this
      rw [show n + ((k + 1 : Nat) : Int) = n + 1 + (k : Int) by omega] at this
      exact this
theorem insFrom_no {n : Int} {l : List Inst} {k : Nat} (h : k < l.length) (h1 : instOk l[k] (n + k) = false) : insFrom n l = false := by
 rw [← Bool.not_eq_true, insFrom_iff]
 intro hh
 rw [hh k h] at h1
 cases h1
def endB (f : Func) (b : Block) : Bool :=
 if b.kind = 1 then goesB f b.to b.args (b.params + b.ins.length) && b.ta == 0 && b.els == 0 && b.elses.length == 0
 else if b.kind = 2 then (decide (0 ≤ b.ta) && decide (b.ta < b.params + b.ins.length)) && goesB f b.to b.args (b.params + b.ins.length) && goesB f b.els b.elses (b.params + b.ins.length)
 else b.kind == 3 && (decide (0 ≤ b.ta) && decide (b.ta < b.params + b.ins.length)) && b.to == 0 && b.args.length == 0 && b.els == 0 && b.elses.length == 0
def blockOk (f : Func) (b : Block) : Bool :=
 decide (0 ≤ b.params) && decide (b.params ≤ 6) && decide (b.ins.length ≤ 32) && insFrom b.params b.ins && endB f b
theorem blockOk_lo {f : Func} {b : Block} (h : b.params < 0) : blockOk f b = false := by unfold blockOk; rw [decide_eq_false (by omega : ¬ 0 ≤ b.params)]; rfl
theorem blockOk_hi {f : Func} {b : Block} (h : 6 < b.params) : blockOk f b = false := by unfold blockOk; rw [decide_eq_false (by omega : ¬ b.params ≤ 6)]; simp
theorem blockOk_many {f : Func} {b : Block} (h : 32 < b.ins.length) : blockOk f b = false := by unfold blockOk; rw [decide_eq_false (by omega : ¬ b.ins.length ≤ 32)]; simp
theorem blockOk_ins {f : Func} {b : Block} {k : Nat} (h : k < b.ins.length) (h1 : instOk b.ins[k] (b.params + k) = false) : blockOk f b = false := by unfold blockOk; rw [insFrom_no h h1]; simp
theorem blockOk_end {f : Func} {b : Block} (h0 : 0 ≤ b.params) (h6 : b.params ≤ 6) (h32 : b.ins.length ≤ 32) (h : ∀ k (h : k < b.ins.length), instOk b.ins[k] (b.params + k) = true) : blockOk f b = endB f b := by
 unfold blockOk
 rw [decide_eq_true h0, decide_eq_true h6, decide_eq_true h32, (insFrom_iff _ _).2 h]; simp
theorem endB_jump {f : Func} {b : Block} (h : b.kind = 1) : endB f b = (goesB f b.to b.args (b.params + b.ins.length) && b.ta == 0 && b.els == 0 && b.elses.length == 0) := by
 unfold endB; rw [if_pos h]
theorem endB_if {f : Func} {b : Block} (h : b.kind = 2) : endB f b = ((decide (0 ≤ b.ta) && decide (b.ta < b.params + b.ins.length)) && goesB f b.to b.args (b.params + b.ins.length) && goesB f b.els b.elses (b.params + b.ins.length)) := by
 unfold endB; rw [if_neg (by omega), if_pos h]
theorem endB_other {f : Func} {b : Block} (h1 : ¬ b.kind = 1) (h2 : ¬ b.kind = 2) : endB f b = (b.kind == 3 && (decide (0 ≤ b.ta) && decide (b.ta < b.params + b.ins.length)) && b.to == 0 && b.args.length == 0 && b.els == 0 && b.elses.length == 0) := by
 unfold endB; rw [if_neg h1, if_neg h2]
end Go.Proofs.Ytgadlpdbkohlbaa
/- Plain laws on functions: what is right. -/
namespace Go.Proofs.Ytgadlpdbkohlbaa
def funcOk (f : Func) : Bool :=
 nameOk f.name && decide (1 ≤ f.bind) && decide (f.bind ≤ 3) && decide (0 ≤ f.params) && decide (f.params ≤ 6) && decide (f.blocks.length ≤ 16) &&
  (match f.blocks with | [] => f.bind != 1 | b :: _ => b.params == f.params && f.blocks.all (blockOk f))
theorem funcOk_name {f : Func} (h : nameOk f.name = false) : funcOk f = false := by simp [funcOk, h]
theorem funcOk_b1 {f : Func} (h : f.bind < 1) : funcOk f = false := by have : ¬ 1 ≤ f.bind := by omega
                                                                       simp [funcOk, this]
theorem funcOk_b3 {f : Func} (h : 3 < f.bind) : funcOk f = false := by have : ¬ f.bind ≤ 3 := by omega
                                                                       simp [funcOk, this]
theorem funcOk_p0 {f : Func} (h : f.params < 0) : funcOk f = false := by have : ¬ 0 ≤ f.params := by omega
                                                                         simp [funcOk, this]
theorem funcOk_p6 {f : Func} (h : 6 < f.params) : funcOk f = false := by have : ¬ f.params ≤ 6 := by omega
                                                                         simp [funcOk, this]
theorem funcOk_n {f : Func} (h : 16 < f.blocks.length) : funcOk f = false := by have : ¬ f.blocks.length ≤ 16 := by omega
                                                                                simp [funcOk, this]
theorem funcOk_nil {f : Func} (h : nameOk f.name = true) (h1 : 1 ≤ f.bind) (h3 : f.bind ≤ 3) (h0 : 0 ≤ f.params) (h6 : f.params ≤ 6) (hn : f.blocks.length = 0) : funcOk f = (f.bind != 1) := by
 have hb : f.blocks = [] := List.length_eq_zero_iff.1 hn
 unfold funcOk
 rw [h, decide_eq_true h1, decide_eq_true h3, decide_eq_true h0, decide_eq_true h6, hb]
 simp
theorem funcOk_cons {f : Func} (h : nameOk f.name = true) (h1 : 1 ≤ f.bind) (h3 : f.bind ≤ 3) (h0 : 0 ≤ f.params) (h6 : f.params ≤ 6) (h16 : f.blocks.length ≤ 16) (hn : 0 < f.blocks.length) :
  funcOk f = (f.blocks[0].params == f.params && f.blocks.all (blockOk f)) := by
 unfold funcOk
 rw [h, decide_eq_true h1, decide_eq_true h3, decide_eq_true h0, decide_eq_true h6, decide_eq_true h16]
 obtain ⟨name, bind, params, blocks⟩ := f
 cases blocks with
 | nil => simp at hn
 | cons b r => simp
theorem all_no {α : Type} {p : α → Bool} {l : List α} {k : Nat} (h : k < l.length) (h1 : p l[k] = false) : l.all p = false := by
 rw [List.all_eq_false]
 exact ⟨l[k], List.getElem_mem h, by simp [h1]⟩
theorem all_yes {α : Type} {p : α → Bool} {l : List α} (h : ∀ k (h : k < l.length), p l[k] = true) : l.all p = true := by
 rw [List.all_eq_true]
 intro x hx
 obtain ⟨i, hi, rfl⟩ := List.getElem_of_mem hx
 exact h i hi
end Go.Proofs.Ytgadlpdbkohlbaa
/- The program's own data as the evaluator's, folded; the evaluator's rules for it (printed by program). -/
namespace Go.Proofs.Ytgadlpdbkohlbaa
open Go.RowKit
instance : Inhabited Inst := ⟨⟨0, 0, 0, 0, ⟨#[]⟩, []⟩⟩
instance : Inhabited Block := ⟨⟨0, [], 0, 0, 0, [], 0, []⟩⟩
instance : Inhabited Func := ⟨⟨⟨#[]⟩, 0, 0, []⟩⟩
instance : Inhabited Glob := ⟨⟨⟨#[]⟩, 0, false, 0⟩⟩
def intC (x : Int) : List DV := [.int x]
@[simp] theorem intC_length (x : Int) : (intC x).length = 1 := rfl
@[simp] theorem intC_0 (x : Int) : (intC x)[0]? = some (.int x) := rfl
@[simp] theorem intC_cells (x : Int) : (∀ d, d ∈ intC x → d.cell = true) ↔ True := by unfold intC; simp
@[simp] theorem intC_len? (x : Int) : (intC x)[1]? = none := rfl
@[simp] theorem intC_map (x : Int) : (intC x).map AV.d = [.d (.int x)] := rfl
def strC (x : ByteArray) : List DV := [.str x]
@[simp] theorem strC_length (x : ByteArray) : (strC x).length = 1 := rfl
@[simp] theorem strC_0 (x : ByteArray) : (strC x)[0]? = some (.str x) := rfl
@[simp] theorem strC_len? (x : ByteArray) : (strC x)[1]? = none := rfl
@[simp] theorem strC_map (x : ByteArray) : (strC x).map AV.d = [.d (.str x)] := rfl
@[reducible] def intsD (xs : List Int) : DV := .sl 1 xs.length fun k => intC (xs[k]?.getD 0)
@[simp high] theorem intsD_cell (xs : List Int) : DV.cell (intsD xs) = true := rfl
@[simp high] theorem intsD_isLit (xs : List Int) : DV.isLit (intsD xs) = false := rfl
@[simp high] theorem intsD_lenV (xs : List Int) : lenV (.d (intsD xs)) = .int xs.length := rfl
@[simp high] theorem intsD_lenOk (H : Heap) (s : Bool) (xs : List Int) : lenOk H s (.d (intsD xs)) = (s = false) := rfl
@[simp high] theorem intsD_slLen (xs : List Int) : slLen (.d (intsD xs)) = xs.length := rfl
@[simp high] theorem intsD_idxV (H : Heap) (xs : List Int) (k : IntKind) (i : Int) : idxH H (.d (intsD xs)) (.d (.lit (.int k i))) = .d (.cref (intC (xs[i.toNat]?.getD 0)) 0) := rfl
@[simp high] theorem intsD_idxOk (H : Heap) (n : Nat) (xs : List Int) (k : IntKind) (i : Int) : idxHOk H n (.d (intsD xs)) (.d (.lit (.int k i))) = (1 = n ∧ 0 ≤ i ∧ i < xs.length) := rfl
@[simp high] theorem intsD_moreV (n : Nat) (xs : List Int) : moreV n (.d (intsD xs)) = if 1 = n then some (xs.length, fun k => intC (xs[k]?.getD 0)) else none := rfl
@[simp high] theorem intsD_slcV (xs : List Int) (lo hi : Int) : slcV (.d (intsD xs)) lo hi = .d (.sl 1 (hi.toNat - lo.toNat) fun i => intC (xs[lo.toNat + i]?.getD 0)) := rfl
@[simp high] theorem intsD_slcOk (n : Nat) (xs : List Int) (lo hi : Int) : slcOk n (.d (intsD xs)) lo hi = (1 = n ∧ 0 ≤ lo ∧ lo ≤ hi ∧ hi ≤ xs.length) := rfl
theorem intsD_le {len : Nat} {row : Nat → List DV} {xs : List Int} (hl : len = xs.length) (h : ∀ i (hi : i < xs.length), row i = intC xs[i]) : DLe (.sl 1 len row) (intsD xs) := by
 subst hl
 exact DLe.sl fun i hi => by rw [h i hi, List.getElem?_eq_getElem hi]; rfl
theorem intsD_nil : DLe (.lit (.slice none 0 0)) (intsD []) := by
 intro X w v h; cases h; exact .nil _ _
@[reducible] def strsD (xs : List ByteArray) : DV := .sl 1 xs.length fun k => strC (xs[k]?.getD ⟨#[]⟩)
@[simp high] theorem strsD_cell (xs : List ByteArray) : DV.cell (strsD xs) = true := rfl
@[simp high] theorem strsD_isLit (xs : List ByteArray) : DV.isLit (strsD xs) = false := rfl
@[simp high] theorem strsD_lenV (xs : List ByteArray) : lenV (.d (strsD xs)) = .int xs.length := rfl
@[simp high] theorem strsD_lenOk (H : Heap) (s : Bool) (xs : List ByteArray) : lenOk H s (.d (strsD xs)) = (s = false) := rfl
@[simp high] theorem strsD_slLen (xs : List ByteArray) : slLen (.d (strsD xs)) = xs.length := rfl
@[simp high] theorem strsD_idxV (H : Heap) (xs : List ByteArray) (k : IntKind) (i : Int) : idxH H (.d (strsD xs)) (.d (.lit (.int k i))) = .d (.cref (strC (xs[i.toNat]?.getD ⟨#[]⟩)) 0) := rfl
@[simp high] theorem strsD_idxOk (H : Heap) (n : Nat) (xs : List ByteArray) (k : IntKind) (i : Int) : idxHOk H n (.d (strsD xs)) (.d (.lit (.int k i))) = (1 = n ∧ 0 ≤ i ∧ i < xs.length) := rfl
@[simp high] theorem strsD_moreV (n : Nat) (xs : List ByteArray) : moreV n (.d (strsD xs)) = if 1 = n then some (xs.length, fun k => strC (xs[k]?.getD ⟨#[]⟩)) else none := rfl
@[simp high] theorem strsD_slcV (xs : List ByteArray) (lo hi : Int) : slcV (.d (strsD xs)) lo hi = .d (.sl 1 (hi.toNat - lo.toNat) fun i => strC (xs[lo.toNat + i]?.getD ⟨#[]⟩)) := rfl
@[simp high] theorem strsD_slcOk (n : Nat) (xs : List ByteArray) (lo hi : Int) : slcOk n (.d (strsD xs)) lo hi = (1 = n ∧ 0 ≤ lo ∧ lo ≤ hi ∧ hi ≤ xs.length) := rfl
def instC (x : Inst) : List DV := [.int x.op, .int x.a, .int x.b, .lit (.int .u64 x.k), .str x.name, intsD x.args]
@[simp] theorem instC_length (x : Inst) : (instC x).length = 6 := rfl
@[simp] theorem instC_0 (x : Inst) : (instC x)[0]? = some (.int x.op) := rfl
@[simp] theorem instC_1 (x : Inst) : (instC x)[1]? = some (.int x.a) := rfl
@[simp] theorem instC_2 (x : Inst) : (instC x)[2]? = some (.int x.b) := rfl
@[simp] theorem instC_3 (x : Inst) : (instC x)[3]? = some (.lit (.int .u64 x.k)) := rfl
@[simp] theorem instC_4 (x : Inst) : (instC x)[4]? = some (.str x.name) := rfl
@[simp] theorem instC_5 (x : Inst) : (instC x)[5]? = some (intsD x.args) := rfl
@[simp] theorem instC_cells (x : Inst) : (∀ d, d ∈ instC x → d.cell = true) ↔ True := by unfold instC; simp
@[simp] theorem instC_len? (x : Inst) : (instC x)[6]? = none := rfl
@[simp] theorem instC_map (x : Inst) : (instC x).map AV.d = [.d (.int x.op), .d (.int x.a), .d (.int x.b), .d (.lit (.int .u64 x.k)), .d (.str x.name), .d (intsD x.args)] := rfl
@[reducible] def insD (xs : List Inst) : DV := .sl 6 xs.length fun k => instC (xs[k]?.getD default)
@[simp high] theorem insD_cell (xs : List Inst) : DV.cell (insD xs) = true := rfl
@[simp high] theorem insD_isLit (xs : List Inst) : DV.isLit (insD xs) = false := rfl
@[simp high] theorem insD_lenV (xs : List Inst) : lenV (.d (insD xs)) = .int xs.length := rfl
@[simp high] theorem insD_lenOk (H : Heap) (s : Bool) (xs : List Inst) : lenOk H s (.d (insD xs)) = (s = false) := rfl
@[simp high] theorem insD_slLen (xs : List Inst) : slLen (.d (insD xs)) = xs.length := rfl
@[simp high] theorem insD_idxV (H : Heap) (xs : List Inst) (k : IntKind) (i : Int) : idxH H (.d (insD xs)) (.d (.lit (.int k i))) = .d (.cref (instC (xs[i.toNat]?.getD default)) 0) := rfl
@[simp high] theorem insD_idxOk (H : Heap) (n : Nat) (xs : List Inst) (k : IntKind) (i : Int) : idxHOk H n (.d (insD xs)) (.d (.lit (.int k i))) = (6 = n ∧ 0 ≤ i ∧ i < xs.length) := rfl
@[simp high] theorem insD_moreV (n : Nat) (xs : List Inst) : moreV n (.d (insD xs)) = if 6 = n then some (xs.length, fun k => instC (xs[k]?.getD default)) else none := rfl
@[simp high] theorem insD_slcV (xs : List Inst) (lo hi : Int) : slcV (.d (insD xs)) lo hi = .d (.sl 6 (hi.toNat - lo.toNat) fun i => instC (xs[lo.toNat + i]?.getD default)) := rfl
@[simp high] theorem insD_slcOk (n : Nat) (xs : List Inst) (lo hi : Int) : slcOk n (.d (insD xs)) lo hi = (6 = n ∧ 0 ≤ lo ∧ lo ≤ hi ∧ hi ≤ xs.length) := rfl
theorem insD_le {len : Nat} {row : Nat → List DV} {xs : List Inst} (hl : len = xs.length) (h : ∀ i (hi : i < xs.length), row i = instC xs[i]) : DLe (.sl 6 len row) (insD xs) := by
 subst hl
 exact DLe.sl fun i hi => by rw [h i hi, List.getElem?_eq_getElem hi]; rfl
def blockC (x : Block) : List DV := [.int x.params, insD x.ins, .int x.kind, .int x.ta, .int x.to, intsD x.args, .int x.els, intsD x.elses]
@[simp] theorem blockC_length (x : Block) : (blockC x).length = 8 := rfl
@[simp] theorem blockC_0 (x : Block) : (blockC x)[0]? = some (.int x.params) := rfl
@[simp] theorem blockC_1 (x : Block) : (blockC x)[1]? = some (insD x.ins) := rfl
@[simp] theorem blockC_2 (x : Block) : (blockC x)[2]? = some (.int x.kind) := rfl
@[simp] theorem blockC_3 (x : Block) : (blockC x)[3]? = some (.int x.ta) := rfl
@[simp] theorem blockC_4 (x : Block) : (blockC x)[4]? = some (.int x.to) := rfl
@[simp] theorem blockC_5 (x : Block) : (blockC x)[5]? = some (intsD x.args) := rfl
@[simp] theorem blockC_6 (x : Block) : (blockC x)[6]? = some (.int x.els) := rfl
@[simp] theorem blockC_7 (x : Block) : (blockC x)[7]? = some (intsD x.elses) := rfl
@[simp] theorem blockC_cells (x : Block) : (∀ d, d ∈ blockC x → d.cell = true) ↔ True := by unfold blockC; simp
@[simp] theorem blockC_len? (x : Block) : (blockC x)[8]? = none := rfl
@[simp] theorem blockC_map (x : Block) : (blockC x).map AV.d = [.d (.int x.params), .d (insD x.ins), .d (.int x.kind), .d (.int x.ta), .d (.int x.to), .d (intsD x.args), .d (.int x.els), .d (intsD x.elses)] := rfl
@[reducible] def blocksD (xs : List Block) : DV := .sl 8 xs.length fun k => blockC (xs[k]?.getD default)
@[simp high] theorem blocksD_cell (xs : List Block) : DV.cell (blocksD xs) = true := rfl
@[simp high] theorem blocksD_isLit (xs : List Block) : DV.isLit (blocksD xs) = false := rfl
@[simp high] theorem blocksD_lenV (xs : List Block) : lenV (.d (blocksD xs)) = .int xs.length := rfl
@[simp high] theorem blocksD_lenOk (H : Heap) (s : Bool) (xs : List Block) : lenOk H s (.d (blocksD xs)) = (s = false) := rfl
@[simp high] theorem blocksD_slLen (xs : List Block) : slLen (.d (blocksD xs)) = xs.length := rfl
@[simp high] theorem blocksD_idxV (H : Heap) (xs : List Block) (k : IntKind) (i : Int) : idxH H (.d (blocksD xs)) (.d (.lit (.int k i))) = .d (.cref (blockC (xs[i.toNat]?.getD default)) 0) := rfl
@[simp high] theorem blocksD_idxOk (H : Heap) (n : Nat) (xs : List Block) (k : IntKind) (i : Int) : idxHOk H n (.d (blocksD xs)) (.d (.lit (.int k i))) = (8 = n ∧ 0 ≤ i ∧ i < xs.length) := rfl
@[simp high] theorem blocksD_moreV (n : Nat) (xs : List Block) : moreV n (.d (blocksD xs)) = if 8 = n then some (xs.length, fun k => blockC (xs[k]?.getD default)) else none := rfl
@[simp high] theorem blocksD_slcV (xs : List Block) (lo hi : Int) : slcV (.d (blocksD xs)) lo hi = .d (.sl 8 (hi.toNat - lo.toNat) fun i => blockC (xs[lo.toNat + i]?.getD default)) := rfl
@[simp high] theorem blocksD_slcOk (n : Nat) (xs : List Block) (lo hi : Int) : slcOk n (.d (blocksD xs)) lo hi = (8 = n ∧ 0 ≤ lo ∧ lo ≤ hi ∧ hi ≤ xs.length) := rfl
def funcC (x : Func) : List DV := [.str x.name, .int x.bind, .int x.params, blocksD x.blocks]
@[simp] theorem funcC_length (x : Func) : (funcC x).length = 4 := rfl
@[simp] theorem funcC_0 (x : Func) : (funcC x)[0]? = some (.str x.name) := rfl
@[simp] theorem funcC_1 (x : Func) : (funcC x)[1]? = some (.int x.bind) := rfl
@[simp] theorem funcC_2 (x : Func) : (funcC x)[2]? = some (.int x.params) := rfl
@[simp] theorem funcC_3 (x : Func) : (funcC x)[3]? = some (blocksD x.blocks) := rfl
@[simp] theorem funcC_cells (x : Func) : (∀ d, d ∈ funcC x → d.cell = true) ↔ True := by unfold funcC; simp
@[simp] theorem funcC_len? (x : Func) : (funcC x)[4]? = none := rfl
@[simp] theorem funcC_map (x : Func) : (funcC x).map AV.d = [.d (.str x.name), .d (.int x.bind), .d (.int x.params), .d (blocksD x.blocks)] := rfl
@[reducible] def funcsD (xs : List Func) : DV := .sl 4 xs.length fun k => funcC (xs[k]?.getD default)
@[simp high] theorem funcsD_cell (xs : List Func) : DV.cell (funcsD xs) = true := rfl
@[simp high] theorem funcsD_isLit (xs : List Func) : DV.isLit (funcsD xs) = false := rfl
@[simp high] theorem funcsD_lenV (xs : List Func) : lenV (.d (funcsD xs)) = .int xs.length := rfl
@[simp high] theorem funcsD_lenOk (H : Heap) (s : Bool) (xs : List Func) : lenOk H s (.d (funcsD xs)) = (s = false) := rfl
@[simp high] theorem funcsD_slLen (xs : List Func) : slLen (.d (funcsD xs)) = xs.length := rfl
@[simp high] theorem funcsD_idxV (H : Heap) (xs : List Func) (k : IntKind) (i : Int) : idxH H (.d (funcsD xs)) (.d (.lit (.int k i))) = .d (.cref (funcC (xs[i.toNat]?.getD default)) 0) := rfl
@[simp high] theorem funcsD_idxOk (H : Heap) (n : Nat) (xs : List Func) (k : IntKind) (i : Int) : idxHOk H n (.d (funcsD xs)) (.d (.lit (.int k i))) = (4 = n ∧ 0 ≤ i ∧ i < xs.length) := rfl
@[simp high] theorem funcsD_moreV (n : Nat) (xs : List Func) : moreV n (.d (funcsD xs)) = if 4 = n then some (xs.length, fun k => funcC (xs[k]?.getD default)) else none := rfl
@[simp high] theorem funcsD_slcV (xs : List Func) (lo hi : Int) : slcV (.d (funcsD xs)) lo hi = .d (.sl 4 (hi.toNat - lo.toNat) fun i => funcC (xs[lo.toNat + i]?.getD default)) := rfl
@[simp high] theorem funcsD_slcOk (n : Nat) (xs : List Func) (lo hi : Int) : slcOk n (.d (funcsD xs)) lo hi = (4 = n ∧ 0 ≤ lo ∧ lo ≤ hi ∧ hi ≤ xs.length) := rfl
theorem funcsD_nil : DLe (.lit (.slice none 0 0)) (funcsD []) := by
 intro X w v h; cases h; exact .nil _ _
def globC (x : Glob) : List DV := [.str x.name, .int x.bind, .bool x.here, .lit (.int .u64 x.init)]
@[simp] theorem globC_length (x : Glob) : (globC x).length = 4 := rfl
@[simp] theorem globC_0 (x : Glob) : (globC x)[0]? = some (.str x.name) := rfl
@[simp] theorem globC_1 (x : Glob) : (globC x)[1]? = some (.int x.bind) := rfl
@[simp] theorem globC_2 (x : Glob) : (globC x)[2]? = some (.bool x.here) := rfl
@[simp] theorem globC_3 (x : Glob) : (globC x)[3]? = some (.lit (.int .u64 x.init)) := rfl
@[simp] theorem globC_cells (x : Glob) : (∀ d, d ∈ globC x → d.cell = true) ↔ True := by unfold globC; simp
@[simp] theorem globC_len? (x : Glob) : (globC x)[4]? = none := rfl
@[simp] theorem globC_map (x : Glob) : (globC x).map AV.d = [.d (.str x.name), .d (.int x.bind), .d (.bool x.here), .d (.lit (.int .u64 x.init))] := rfl
@[reducible] def globsD (xs : List Glob) : DV := .sl 4 xs.length fun k => globC (xs[k]?.getD default)
@[simp high] theorem globsD_cell (xs : List Glob) : DV.cell (globsD xs) = true := rfl
@[simp high] theorem globsD_isLit (xs : List Glob) : DV.isLit (globsD xs) = false := rfl
@[simp high] theorem globsD_lenV (xs : List Glob) : lenV (.d (globsD xs)) = .int xs.length := rfl
@[simp high] theorem globsD_lenOk (H : Heap) (s : Bool) (xs : List Glob) : lenOk H s (.d (globsD xs)) = (s = false) := rfl
@[simp high] theorem globsD_slLen (xs : List Glob) : slLen (.d (globsD xs)) = xs.length := rfl
@[simp high] theorem globsD_idxV (H : Heap) (xs : List Glob) (k : IntKind) (i : Int) : idxH H (.d (globsD xs)) (.d (.lit (.int k i))) = .d (.cref (globC (xs[i.toNat]?.getD default)) 0) := rfl
@[simp high] theorem globsD_idxOk (H : Heap) (n : Nat) (xs : List Glob) (k : IntKind) (i : Int) : idxHOk H n (.d (globsD xs)) (.d (.lit (.int k i))) = (4 = n ∧ 0 ≤ i ∧ i < xs.length) := rfl
@[simp high] theorem globsD_moreV (n : Nat) (xs : List Glob) : moreV n (.d (globsD xs)) = if 4 = n then some (xs.length, fun k => globC (xs[k]?.getD default)) else none := rfl
@[simp high] theorem globsD_slcV (xs : List Glob) (lo hi : Int) : slcV (.d (globsD xs)) lo hi = .d (.sl 4 (hi.toNat - lo.toNat) fun i => globC (xs[lo.toNat + i]?.getD default)) := rfl
@[simp high] theorem globsD_slcOk (n : Nat) (xs : List Glob) (lo hi : Int) : slcOk n (.d (globsD xs)) lo hi = (4 = n ∧ 0 ≤ lo ∧ lo ≤ hi ∧ hi ≤ xs.length) := rfl
theorem globsD_nil : DLe (.lit (.slice none 0 0)) (globsD []) := by
 intro X w v h; cases h; exact .nil _ _
def moduleC (x : Module) : List DV := [funcsD x.funcs, globsD x.globs]
@[simp] theorem moduleC_length (x : Module) : (moduleC x).length = 2 := rfl
@[simp] theorem moduleC_0 (x : Module) : (moduleC x)[0]? = some (funcsD x.funcs) := rfl
@[simp] theorem moduleC_1 (x : Module) : (moduleC x)[1]? = some (globsD x.globs) := rfl
@[simp] theorem moduleC_cells (x : Module) : (∀ d, d ∈ moduleC x → d.cell = true) ↔ True := by unfold moduleC; simp
@[simp] theorem moduleC_len? (x : Module) : (moduleC x)[2]? = none := rfl
@[simp] theorem moduleC_map (x : Module) : (moduleC x).map AV.d = [.d (funcsD x.funcs), .d (globsD x.globs)] := rfl
def termC (x : Block) : List DV := [.int x.kind, .int x.ta, .int x.to, intsD x.args, .int x.els, intsD x.elses]
@[simp] theorem blockC_term (x : Block) : ((blockC x).drop 2).take 6 = termC x := rfl
@[simp] theorem termC_cells (x : Block) : (∀ d, d ∈ termC x → d.cell = true) ↔ True := by unfold termC; simp
@[simp] theorem termC_length (x : Block) : (termC x).length = 6 := rfl
@[simp] theorem termC_0 (x : Block) : (termC x)[0]? = some (.int x.kind) := rfl
@[simp] theorem termC_1 (x : Block) : (termC x)[1]? = some (.int x.ta) := rfl
@[simp] theorem termC_2 (x : Block) : (termC x)[2]? = some (.int x.to) := rfl
@[simp] theorem termC_3 (x : Block) : (termC x)[3]? = some (intsD x.args) := rfl
@[simp] theorem termC_4 (x : Block) : (termC x)[4]? = some (.int x.els) := rfl
@[simp] theorem termC_5 (x : Block) : (termC x)[5]? = some (intsD x.elses) := rfl
@[simp] theorem termC_map (x : Block) : (termC x).map AV.d = [.int x.kind, .int x.ta, .int x.to, .d (intsD x.args), .int x.els, .d (intsD x.elses)] := rfl
@[simp] theorem instC_all (x : Inst) : (instC x).take 6 = instC x := rfl
@[simp] theorem blockC_all (x : Block) : (blockC x).take 8 = blockC x := rfl
@[simp] theorem funcC_all (x : Func) : (funcC x).take 4 = funcC x := rfl
@[simp] theorem globC_all (x : Glob) : (globC x).take 4 = globC x := rfl
@[simp] theorem moduleC_all (x : Module) : (moduleC x).take 2 = moduleC x := rfl
@[simp] theorem termC_all (x : Block) : (termC x).take 6 = termC x := rfl
theorem sl_len {X : Nat → Nat → Prop} {w : World} {v : Value} {n len : Nat} {row : Nat → List DV} (h : DRep X w v (.sl n len row)) : len ≤ maxLen := by
 cases h with
 | nil => exact Nat.zero_le _
 | emp => exact Nat.zero_le _
 | sl b off cap n len row vals h1 h2 => exact Nat.le_trans h1 h2
theorem wrap_nat {n : Nat} (h : n ≤ 9223372036854775807) : IntKind.i64.wrap (n : Int) = n := by
 rw [IntWalk.i64_in _ (by omega)]
theorem wrap_in {n : Int} (h : -9223372036854775808 ≤ n ∧ n ≤ 9223372036854775807) : IntKind.i64.wrap n = n := IntWalk.i64_in _ h
theorem wrap_succ {k : Nat} (h : k < 9223372036854775807) : IntKind.i64.wrap ((k : Int) + 1) = ((k + 1 : Nat) : Int) := by
 rw [IntWalk.i64_in _ (by omega)]; simp
theorem DLe_lit {u v : Value} (h : u = v) : DLe (.lit u) (.lit v) := DLe.of_eq (by rw [h])
theorem DLe_bool {b c : Bool} (h : b = c) : DLe (.lit (.bool b)) (.lit (.bool c)) := DLe.of_eq (by rw [h])
theorem DLe_int {a b : Int} (h : a = b) : DLe (.lit (.int .i64 a)) (.lit (.int .i64 b)) := DLe.of_eq (by rw [h])
theorem len1 {P : Prop} {n len : Nat} {row : Nat → List DV} {as' : List DV} (hx : ∃ X w us, DReps X w us (.sl n len row :: as')) (h : len ≤ 9223372036854775807 → P) : P := by
 obtain ⟨X, w, us, h0⟩ := hx
 obtain ⟨v, vs, _, h1, _⟩ := h0.uncons
 have := sl_len h1
 exact h (by simpa [maxLen] using this)
theorem lenAgg {cs : List DV} {as' : List DV} (hx : ∃ X w us, DReps X w us (.agg cs :: as')) {n len : Nat} {row : Nat → List DV} (i : Nat) (hc : cs[i]? = some (.sl n len row)) : len ≤ 9223372036854775807 := by
  obtain ⟨X, w, us, h0⟩ := hx
  obtain ⟨v, vs, _, h1, _⟩ := h0.uncons
  obtain ⟨hi, he⟩ := List.getElem?_eq_some_iff.1 hc
  cases h1 with
  | agg us' _ hl hr =>
    have h2 := hr i (by omega) hi
    rw [he] at h2
    simpa [maxLen] using sl_len h2
@[simp] theorem appRow_zero (f g : Nat → List DV) : appRow 0 f g = g := by funext i; simp [appRow]
@[simp] theorem DLe_self (x : DV) : DLe x x := DLe.refl x
theorem str_nil (s : ByteArray) : decide (s = ⟨#[]⟩) = (s.size == 0) := by
 rw [Bool.eq_iff_iff]
 simp only [decide_eq_true_eq, beq_iff_eq]
 constructor
 ·rintro rfl; rfl
 ·intro h
  apply ByteArray.ext
  exact Array.eq_empty_of_size_eq_zero h
attribute [simp] SLe TLe AVLe AVLe0 capsLe HLe hof OLe cellsLe rowsOf noR
end Go.Proofs.Ytgadlpdbkohlbaa
/- Plain laws: which instructions, blocks are the same. -/
namespace Go.Proofs.Ytgadlpdbkohlbaa
def sameInst (x y : Inst) : Bool :=
 (x.args == y.args) && (x.op == y.op) && (x.a == y.a) && (x.b == y.b) && ((x.k : Int) == (y.k : Int)) && (x.name.toList == y.name.toList)
theorem bytes_ext {a b : ByteArray} (h : a.toList = b.toList) : a = b := by
 rw [ByteArray.toList_eq, ByteArray.toList_eq] at h
 cases a with | mk a => cases b with | mk b => simpa using h
theorem sameInst_iff (x y : Inst) : sameInst x y = true ↔ x = y := by
 unfold sameInst
 simp only [Bool.and_eq_true, beq_iff_eq]
 constructor
 ·rintro ⟨⟨⟨⟨⟨h1, h2⟩, h3⟩, h4⟩, h5⟩, h6⟩
  obtain ⟨o, a, b, k, n, l⟩ := x
  obtain ⟨o', a', b', k', n', l'⟩ := y
  simp only at h1 h2 h3 h4 h5 h6
  have := bytes_ext h6
  have h5' : k = k' := by omega
  subst h1 h2 h3 h4 h5' this
  rfl
 ·rintro rfl; simp
theorem sameInst_self (x : Inst) : sameInst x x = true := (sameInst_iff x x).2 rfl
instance : BEq Inst := ⟨sameInst⟩
instance : LawfulBEq Inst where
 eq_of_beq h := (sameInst_iff _ _).1 h
 rfl := sameInst_self _
end Go.Proofs.Ytgadlpdbkohlbaa
/- Contracts by the evaluator: the document's layer 5. -/
namespace Go.Proofs.Ytgadlpdbkohlbaa
open Go.RowKit
theorem insD_cells {len : Nat} {row : Nat → List DV} {xs : List Inst} (hl : len = xs.length) (h : ∀ i (hi : i < xs.length), DLes (row i) (instC xs[i])) : DLe (.sl 6 len row) (insD xs) := by
 subst hl
 exact DLe_cells fun i hi => by rw [List.getElem?_eq_getElem hi]; exact h i hi
theorem blocksD_cells {len : Nat} {row : Nat → List DV} {xs : List Block} (hl : len = xs.length) (h : ∀ i (hi : i < xs.length), DLes (row i) (blockC xs[i])) : DLe (.sl 8 len row) (blocksD xs) := by
 subst hl
 exact DLe_cells fun i hi => by rw [List.getElem?_eq_getElem hi]; exact h i hi
theorem funcsD_cells {len : Nat} {row : Nat → List DV} {xs : List Func} (hl : len = xs.length) (h : ∀ i (hi : i < xs.length), DLes (row i) (funcC xs[i])) : DLe (.sl 4 len row) (funcsD xs) := by
 subst hl
 exact DLe_cells fun i hi => by rw [List.getElem?_eq_getElem hi]; exact h i hi
theorem DLe_rows {n len len' : Nat} {row row' : Nat → List DV} (hl : len = len') (h : ∀ i, i < len → row i = row' i) : DLe (.sl n len row) (.sl n len' row') := by
 subst hl; exact DLe.sl h
theorem DLe_nil {n : Nat} {row : Nat → List DV} : DLe (.lit (.slice none 0 0)) (.sl n 0 row) := by
 intro X w v h
 cases h
 exact .nil n row
theorem DLe_nil' {n len : Nat} {row : Nat → List DV} (h : len = 0) : DLe (.lit (.slice none 0 0)) (.sl n len row) := by
 subst h; exact DLe_nil
end Go.Proofs.Ytgadlpdbkohlbaa
/- Contracts by the evaluator: the document's layer 5, blocks and functions. -/
namespace Go.Proofs.Ytgadlpdbkohlbaa
open Go.RowKit
theorem goesB_in {f : Func} {to : Int} {l : List Int} {n : Int} (h0 : 0 ≤ to) (h1 : to < f.blocks.length) (h : (l.length : Int) = (f.blocks[to.toNat]?.getD default).params) : goesB f to l n = belowB l n := by
 unfold goesB
 have hlt : to.toNat < f.blocks.length := by omega
 rw [List.getElem?_eq_getElem hlt] at h ⊢
 simp at h
 simp [h0, h]
theorem goesB_out {f : Func} {to : Int} {l : List Int} {n : Int} (h : (to < 0 ∨ (f.blocks.length : Int) ≤ to) ∨ ¬ (l.length : Int) = (f.blocks[to.toNat]?.getD default).params) : goesB f to l n = false := by
 by_cases h0 : to < 0
 ·exact goesB_lo h0
 by_cases h1 : (f.blocks.length : Int) ≤ to
 ·exact goesB_hi (by omega) h1
 have h : ¬ (l.length : Int) = (f.blocks[to.toNat]?.getD default).params := by simpa [h0, h1] using h
 unfold goesB
 have hlt : to.toNat < f.blocks.length := by omega
 rw [List.getElem?_eq_getElem hlt] at h ⊢
 simp at h
 simp [h]
theorem getD_some {α : Type} {l : List α} {k : Nat} {d : α} (h : k < l.length) : l[k]?.getD d = l[k] := by simp [h]
end Go.Proofs.Ytgadlpdbkohlbaa
/- Contracts by the evaluator: the program's layer 5, instructions. -/
namespace Go.Proofs.Ytgadlpdbkohlbaa
open Go.RowKit
theorem values_pure (b : Block) : APure Try.prog 65 [.agg (blockC b)] (.int (IntKind.i64.wrap (b.params + b.ins.length))) := by
 refine apureG _ _ Try.func65 (by kernel_rfl) t_ir_Values u_ir_Values rfl rfl (fun _ => ?_)
 simp [c_ir_Values, r_ir_Values]
theorem name_pure (s : ByteArray) : APure Try.prog 35 [.str s] (.bool (nameOk s)) := by
 refine apureG _ _ Try.func35 (by kernel_rfl) t_ir_name u_ir_name rfl rfl (fun _ => ?_)
 simp [c_ir_name, r_ir_name]
 refine DLe_bool ?_
 rw [str_nil, nameOk, Bool.eq_iff_iff]
 simp only [Bool.and_eq_true, Bool.not_eq_true', beq_eq_false_iff_ne, decide_eq_true_eq]
 omega
theorem named_pure (i : Inst) : APure Try.prog 27 [.agg (instC i)] (.bool (isNamed i.op)) := by
 refine apureG _ _ Try.func27 (by kernel_rfl) t_ir_named u_ir_named rfl rfl (fun _ => ?_)
 simp [c_ir_named, r_ir_named]
 exact DLe_bool (by rw [Bool.eq_iff_iff]; simp [isNamed]; omega)
theorem clone_pure (xs : List Int) (hl : xs.length ≤ 17592186044416) : APure Try.prog 84 [intsD xs] (intsD xs) := by
 refine APure.nilSplit (fun h0 => ?_) ?_
 ·refine apureG _ _ Try.func84 (by kernel_rfl) t_slices_Clone___int_int_ u_slices_Clone___int_int_ rfl rfl (fun _ => ?_)
  simp [c_slices_Clone___int_int_, r_slices_Clone___int_int_]
  exact DLe_nil' h0
 ·refine apureG _ _ Try.func84 (by kernel_rfl) t_slices_Clone___int_int_ u_slices_Clone___int_int_ rfl rfl (fun _ => ?_)
  simp [c_slices_Clone___int_int_, r_slices_Clone___int_int_]
  omega
theorem all1_pure (v n : Int) : APure Try.prog 83 [.int v, .cref [.int n] 0] (.bool (decide (v < 0) || decide (n ≤ v))) := by
 refine apureG _ _ Try.func83 (by kernel_rfl) t_ir_all_1 u_ir_all_1 rfl rfl (fun _ => ?_)
 simp [c_ir_all_1, r_ir_all_1]
def findI {α : Type} (p : α → Bool) (xs : List α) : Int := match xs.findIdx? p with | some i => i | none => -1
theorem findI_hit {α : Type} {p : α → Bool} {xs : List α} {k : Nat} (hk : k < xs.length) (hno : ∀ i (h : i < xs.length), i < k → p xs[i] = false) (h : p xs[k] = true) : findI p xs = k := by
 unfold findI
 rw [List.findIdx?_eq_some_iff_getElem.2 ⟨hk, h, fun j hj => by simpa using hno j (by omega) hj⟩]
theorem findI_miss {α : Type} {p : α → Bool} {xs : List α} (hno : ∀ i (h : i < xs.length), p xs[i] = false) : findI p xs = -1 := by
 unfold findI
 rw [List.findIdx?_eq_none_iff.2]
 intro x hx
 obtain ⟨i, hi, rfl⟩ := List.getElem_of_mem hx
 exact hno i hi
theorem findI_ge {α : Type} (p : α → Bool) (xs : List α) : decide (0 ≤ findI p xs) = xs.any p := by
  unfold findI
  cases h : xs.findIdx? p with
  | none =>
    have := List.findIdx?_eq_none_iff.1 h
    symm
    rw [show decide ((0:Int) ≤ -1) = false from rfl]
    simpa using this
  | some i =>
    obtain ⟨hi, hp, _⟩ := List.findIdx?_eq_some_iff_getElem.1 h
    have h1 : xs.any p = true := List.any_eq_true.2 ⟨xs[i], List.getElem_mem hi, hp⟩
    rw [h1]; simp
@[simp] theorem mapO_dmap (p : Bool) (H : Heap) (n : Nat) (l : List DV) : mapO (frz p H n) (l.map AV.d) = some l := by
  induction l with
  | nil => rfl
  | cons a l ih =>
    have : frz p H n (AV.d a) = some a := by cases n <;> rfl
    simp [mapO, this, ih]
theorem indexInt_pure (xs : List Int) (F : FuncId) (caps : List DV) (p : Int → Bool) (hF : ∀ v, APure Try.prog F (.int v :: caps) (.bool (p v))) : APure Try.prog 95 [intsD xs, .fn F caps] (.int (findI p xs)) := by
 refine apureG _ _ Try.func95 (by kernel_rfl) t_slices_IndexFunc___int_int_ u_slices_IndexFunc___int_int_ rfl rfl (fun hx => len1 hx fun hl => ?_)
 clear hx
 simp [c_slices_IndexFunc___int_int_, r_slices_IndexFunc___int_int_]
 refine loop_s (κ := Nat) (fun k => k ≤ xs.length ∧ ∀ i (h : i < xs.length), i < k → p xs[i] = false) (fun k => xs.length - k) (fun k => [(sl 8, .int k)]) (fun _ => []) 0 0 (srcs []) (by simp) (by simp) ?_
 rintro k ⟨hk, hb⟩
 simp
 refine ⟨fun hlt => ⟨hlt, ?_⟩, fun hge => ?_⟩
 ·refine call_plain _ (by simp) (by simp) (fun _ => by simp; rfl) (fun _ => hF _) ?_
  simp
  rw [getD_some hlt]
  refine ⟨fun h => DLe_int (findI_hit hlt hb h).symm, fun h => ?_⟩
  refine ⟨k + 1, ⟨by omega, fun i hi h1 => ?_⟩, by omega, srcs [], ?_⟩
  ·rcases Nat.lt_or_ge i k with h2 | h2
   ·exact hb i hi h2
   ·obtain rfl : i = k := by omega
    exact h
  ·simp [SLeK]
   exact DLe_int (wrap_succ (by omega))
 ·exact DLe_int (findI_miss fun i hi => hb i hi (by omega)).symm
theorem containsInt_pure (xs : List Int) (F : FuncId) (caps : List DV) (p : Int → Bool) (hF : ∀ v, APure Try.prog F (.int v :: caps) (.bool (p v))) : APure Try.prog 82 [intsD xs, .fn F caps] (.bool (xs.any p)) := by
 refine apureG _ _ Try.func82 (by kernel_rfl) t_slices_ContainsFunc___int_int_ u_slices_ContainsFunc___int_int_ rfl rfl (fun _ => ?_)
 simp [c_slices_ContainsFunc___int_int_, r_slices_ContainsFunc___int_int_]
 refine call_plain _ (by simp) (by simp) (fun _ => rfl) (fun _ => indexInt_pure xs F caps p hF) ?_
 simp
 exact DLe_bool (findI_ge p xs)
theorem all_pure (xs : List Int) (n : Int) : APure Try.prog 63 [intsD xs, .int n] (.bool (belowB xs n)) := by
  refine apureG _ _ Try.func63 (by kernel_rfl) t_ir_all u_ir_all rfl rfl (fun _ => ?_)
  simp [c_ir_all, r_ir_all]
  refine call_plain _ (by simp) (by simp) (fun _ => rfl) (fun _ => containsInt_pure xs _ _ _ (fun v => all1_pure v n)) ?_
  simp
  refine DLe_bool ?_
  unfold belowB
  rename_i hx
  clear hx
  induction xs with
  | nil => rfl
  | cons x xs ih =>
    simp only [List.any_cons, List.all_cons, Bool.not_or, ih]
    congr 1
    rw [Bool.eq_iff_iff]; simp
set_option maxRecDepth 10000 in
theorem uses_pure (i : Inst) (hl : i.args.length ≤ 17592186044416) : APure Try.prog 64 [.agg (instC i)] (intsD (uses i)) := by
  refine apureG _ _ Try.func64 (by kernel_rfl) t_ir_Uses u_ir_Uses rfl rfl (fun _ => ?_)
  simp [c_ir_Uses, r_ir_Uses]
  refine ⟨fun h1 h2 => ?_, fun h1 => ⟨fun h2 => ?_, fun h2 => ⟨fun h3 => ?_, fun h3 => ⟨fun h4 => ?_, fun h4 => ?_⟩⟩⟩⟩
  · rw [show uses i = [i.a, i.b] by simp [uses, h1, h2]]
    exact intsD_le rfl (fun k hk => by rcases (by simp at hk; omega : k = 0 ∨ k = 1) with rfl | rfl <;> rfl)
  · rw [show uses i = [i.a] by unfold uses; rw [if_neg (by omega), if_pos (by omega)]]
    exact intsD_le rfl (fun k hk => by obtain rfl : k = 0 := by simpa using hk
                                       rfl)
  · rw [show uses i = [i.a] by unfold uses; rw [if_neg (by omega), if_pos (by omega)]]
    exact intsD_le rfl (fun k hk => by obtain rfl : k = 0 := by simpa using hk
                                       rfl)
  · refine call_plain _ (by simp) (by simp) (fun _ => rfl) (fun _ => clone_pure i.args hl) ?_
    simp
    rw [show uses i = i.args by unfold uses; rw [if_neg (by omega), if_neg (by omega), if_pos h4]]
    exact DLe.refl _
  · rw [show uses i = [] by unfold uses; rw [if_neg (by omega), if_neg (by omega), if_neg h4]]
    exact intsD_nil
set_option maxRecDepth 10000 in
theorem inst_pure (i : Inst) (n : Int) (hl : i.args.length ≤ 17592186044416) : APure Try.prog 49 [.agg (instC i), .int n] (.bool (instOk i n)) := by
 refine apureG _ _ Try.func49 (by kernel_rfl) t_ir_Inst u_ir_Inst rfl rfl (fun _ => ?_)
 simp [c_ir_Inst, r_ir_Inst]
 refine call_plain _ (by simp) (by simp) (fun _ => rfl) (fun _ => uses_pure i hl) ?_
 simp
 refine call_plain _ (by simp) (by simp) (fun _ => by simp) (fun _ => all_pure (uses i) n) ?_
 simp
 refine ⟨fun h => DLe_bool ?_, fun a1 a2 a3 => ⟨fun h => ?_, fun h h' => ?_, fun h => ?_, fun h => ?_, fun h => DLe_bool ?_, fun hA hB => ⟨fun h h' => DLe_bool ?_, fun hK => ⟨fun h => ?_, fun h => DLe_bool ?_, fun hN h6 => ?_⟩⟩⟩⟩
 ·symm
  rcases h with (h | h) | h
  ·simp [instOk]; omega
  ·simp [instOk]; omega
  ·simp [instOk, h]
 ·omega
 ·omega
 ·exact ⟨h, fun h' => ⟨h, h'⟩⟩
 ·omega
 ·symm
  rcases h with h | h
  ·exact inst_no_a h.2 (by omega) (by omega) (by omega)
  ·exact inst_no_b' h.2 (by omega)
 ·exact (inst_no_k' (by omega) h).symm
 ·by_cases h14 : i.op = 14
  ·exact .inl h14
  ·exact .inr (h h14)
 ·symm
  rcases h with h | h
  ·exact inst_no_args h.2 h.1
  ·exact inst_no_six h
 have e := inst_yes' (i := i) (n := n) a1 a2 a3 (by omega) (by omega) (by by_cases h1 : i.op = 1; exact .inl h1; exact .inr (by have := hK h1; omega)) (by by_cases h14 : i.op = 14; exact .inl h14; exact .inr (by simp [hN h14])) (by omega)
 refine call_plain _ (by simp) (by simp) (fun _ => rfl) (fun _ => named_pure i) ?_
 simp
 refine ⟨fun h => ?_, fun h => DLe_bool ?_⟩
 ·refine call_plain _ (by simp) (by simp) (fun _ => rfl) (fun _ => name_pure i.name) ?_
  simp
  exact DLe_bool (by rw [e, h]; rfl)
 ·rw [e, h, str_nil]
  rfl
end Go.Proofs.Ytgadlpdbkohlbaa
/- Contracts by the evaluator: the program's layer 5, blocks and functions. -/
namespace Go.Proofs.Ytgadlpdbkohlbaa
open Go.RowKit
set_option maxRecDepth 10000 in
theorem end1_pure (f : Func) (to : Int) (l : List Int) (n : Int) : APure Try.prog 66 [.int to, intsD l, .cref (funcC f) 0, .cref [.int n] 0] (.bool (goesB f to l n)) := by
 refine apureG _ _ Try.func66 (by kernel_rfl) t_ir_end_1 u_ir_end_1 rfl rfl (fun _ => ?_)
 simp [c_ir_end_1, r_ir_end_1]
 refine call_plain _ (by simp) (by simp) (fun _ => by simp) (fun _ => all_pure l n) ?_
 simp
 refine DLe_bool ?_
 by_cases h : (to < 0 ∨ (f.blocks.length : Int) ≤ to) ∨ ¬ (l.length : Int) = (f.blocks[to.toNat]?.getD default).params
 ·rw [goesB_out h]
  rcases h with (h | h) | h
  ·simp [show ¬ 0 ≤ to by omega]
  ·simp [show ¬ to < f.blocks.length by omega]
  ·simp [h]
 ·rw [goesB_in (by omega) (by omega) (by omega)]
  simp [show 0 ≤ to by omega, show to < f.blocks.length by omega, show (l.length : Int) = (f.blocks[to.toNat]?.getD default).params by omega]
theorem one_int (x : Int) : DLe (.sl 1 1 fun i => List.take 1 (List.drop i [DV.int x])) (intsD [x]) :=
  intsD_le rfl (fun k hk => by obtain rfl : k = 0 := by simpa using hk
                               rfl)
set_option maxRecDepth 10000 in
theorem end_pure (f : Func) (b : Block) (h0 : 0 ≤ b.params) (h6 : b.params ≤ 6) (h32 : b.ins.length ≤ 32) : APure Try.prog 50 [.agg (funcC f), .agg (blockC b)] (.bool (endB f b)) := by
 have hw : IntKind.i64.wrap (b.params + (b.ins.length : Int)) = b.params + b.ins.length := wrap_in (by omega)
 refine apureG _ _ Try.func50 (by kernel_rfl) t_ir_end u_ir_end rfl rfl (fun _ => ?_)
 simp [c_ir_end, r_ir_end]
 refine call_plain _ (by simp) (by simp) (fun _ => rfl) (fun _ => values_pure b) ?_
 rw [hw]
 simp
 refine ⟨fun k1 => ?_, fun k1 => ⟨fun k2 => ?_, fun k2 => ⟨fun k3 => ?_, fun k3 => ?_⟩⟩⟩
 ·refine call_plain _ (by simp) (by simp) (fun _ => by simp; rfl) (fun _ => end1_pure f b.to b.args (b.params + b.ins.length)) ?_
  simp
  refine DLe_bool ?_
  rw [endB_jump k1, Bool.eq_iff_iff]
  simp [and_assoc]
  constructor
  ·rintro ⟨h1, h2, h3, h4⟩; exact ⟨h4, h1, h2, h3⟩
  ·rintro ⟨h4, h1, h2, h3⟩; exact ⟨h1, h2, h3, h4⟩
 ·refine call_arg (ds := ?ds) (all_pure [b.ta] (b.params + b.ins.length)) (by simp) (by simp) ?hd ?hle ?h
  case hd => intro _; simp; rfl
  case hle => intro _; exact ⟨one_int _, DLe.refl _, trivial⟩
  simp
  refine call_plain _ (by simp) (by simp) (fun _ => by simp; rfl) (fun _ => end1_pure f b.to b.args (b.params + b.ins.length)) ?_
  simp
  refine call_plain _ (by simp) (by simp) (fun _ => by simp; rfl) (fun _ => end1_pure f b.els b.elses (b.params + b.ins.length)) ?_
  simp
  refine DLe_bool ?_
  rw [endB_if k2, Bool.eq_iff_iff]
  simp [belowB]
 ·refine call_arg (ds := ?ds2) (all_pure [b.ta] (b.params + b.ins.length)) (by simp) (by simp) ?hd2 ?hle2 ?h2
  case hd2 => intro _; simp; rfl
  case hle2 => intro _; exact ⟨one_int _, DLe.refl _, trivial⟩
  simp
  refine DLe_bool ?_
  rw [endB_other k1 k2, Bool.eq_iff_iff]
  simp [belowB, k3]
  constructor
  ·rintro ⟨⟨⟨h1, h2, h3⟩, h4⟩, h5⟩; exact ⟨⟨⟨⟨h1, h4⟩, h5⟩, h2⟩, h3⟩
  ·rintro ⟨⟨⟨⟨h1, h4⟩, h5⟩, h2⟩, h3⟩; exact ⟨⟨⟨h1, h2, h3⟩, h4⟩, h5⟩
 ·rw [endB_other k1 k2, beq_eq_false_iff_ne.2 k3]
  exact DLe.refl _
set_option maxRecDepth 10000 in
theorem block_pure (f : Func) (b : Block) (hi : ∀ i ∈ b.ins, i.args.length ≤ 17592186044416) : APure Try.prog 38 [.agg (funcC f), .agg (blockC b)] (.bool (blockOk f b)) := by
 refine apureG _ _ Try.func38 (by kernel_rfl) t_ir_block u_ir_block rfl rfl (fun _ => ?_)
 simp [c_ir_block, r_ir_block]
 refine ⟨fun h => DLe_bool ?_, fun h0 h6 h32 => ?_⟩
 ·symm
  rcases h with (h | h) | h
  ·exact blockOk_lo h
  ·exact blockOk_hi h
  ·exact blockOk_many (by omega)
 refine loop_s (κ := Nat) (fun m => m ≤ b.ins.length ∧ ∀ j (h : j < b.ins.length), j < m → instOk b.ins[j] (b.params + j) = true) (fun m => b.ins.length - m) (fun m => [(sl 24, .int m)]) (fun _ => []) 0 0 (srcs []) (by simp) (by simp) ?_
 rintro m ⟨hm, hb⟩
 have hw : IntKind.i64.wrap (b.params + (m : Int)) = b.params + m := wrap_in (by omega)
 simp [hw]
 refine ⟨fun hlt => ⟨hlt, ?_⟩, fun hge => ?_⟩
 ·refine call_plain _ (by simp) (by simp) (fun _ => rfl) (fun _ => inst_pure (b.ins[m]?.getD default) (b.params + m) (by rw [getD_some hlt]; exact hi _ (List.getElem_mem hlt))) ?_
  simp [hlt]
  refine ⟨fun h => DLe_bool (blockOk_ins hlt h).symm, fun h => ?_⟩
  refine ⟨m + 1, ⟨by omega, fun j hj hj' => ?_⟩, by omega, srcs [], ?_⟩
  ·rcases Nat.lt_or_ge j m with h1 | h1
   ·exact hb j hj h1
   ·obtain rfl : j = m := by omega
    exact h
  ·simp [SLeK]
   exact DLe_int (wrap_succ (by omega))
 ·have he := blockOk_end (f := f) h0 h6 (by omega) (fun j hj => hb j hj (by omega))
  refine call_plain _ (by simp) (by simp) (fun _ => rfl) (fun _ => end_pure f b h0 h6 (by omega)) ?_
  simp
  exact DLe_bool he.symm
end Go.Proofs.Ytgadlpdbkohlbaa
/- Contracts by the evaluator: the program's layer 5, functions and globals. -/
namespace Go.Proofs.Ytgadlpdbkohlbaa
open Go.RowKit
theorem func1_pure (f : Func) (b : Block) (hi : ∀ i ∈ b.ins, i.args.length ≤ 17592186044416) : APure Try.prog 37 [.agg (blockC b), .cref (funcC f) 0] (.bool (!blockOk f b)) := by
 refine apureG _ _ Try.func37 (by kernel_rfl) t_ir_Func_1 u_ir_Func_1 rfl rfl (fun _ => ?_)
 simp [c_ir_Func_1, r_ir_Func_1]
 refine call_plain _ (by simp) (by simp) (fun _ => rfl) (fun _ => block_pure f b hi) ?_
 simp
theorem indexBlock_pure (xs : List Block) (F : FuncId) (caps : List DV) (p : Block → Bool) (hF : ∀ v ∈ xs, APure Try.prog F (.agg (blockC v) :: caps) (.bool (p v))) : APure Try.prog 48 [blocksD xs, .fn F caps] (.int (findI p xs)) := by
 refine apureG _ _ Try.func48 (by kernel_rfl) t_slices_IndexFunc___api_Block_api_Block_ u_slices_IndexFunc___api_Block_api_Block_ rfl rfl (fun hx => len1 hx fun hl => ?_)
 clear hx
 simp [c_slices_IndexFunc___api_Block_api_Block_, r_slices_IndexFunc___api_Block_api_Block_]
 refine loop_s (κ := Nat) (fun k => k ≤ xs.length ∧ ∀ i (h : i < xs.length), i < k → p xs[i] = false) (fun k => xs.length - k) (fun k => [(sl 8, .int k)]) (fun _ => []) 0 0 (srcs []) (by simp) (by simp) ?_
 rintro k ⟨hk, hb⟩
 simp
 refine ⟨fun hlt => ⟨hlt, ?_⟩, fun hge => ?_⟩
 ·rw [getD_some hlt]
  refine call_plain _ (by simp) (by simp) (fun _ => by simp) (fun _ => hF _ (List.getElem_mem hlt)) ?_
  simp
  refine ⟨fun h => DLe_int (findI_hit hlt hb h).symm, fun h => ?_⟩
  refine ⟨k + 1, ⟨by omega, fun i hi h1 => ?_⟩, by omega, srcs [], ?_⟩
  ·rcases Nat.lt_or_ge i k with h2 | h2
   ·exact hb i hi h2
   ·obtain rfl : i = k := by omega
    exact h
  ·simp [SLeK]
   exact DLe_int (wrap_succ (by omega))
 ·exact DLe_int (findI_miss fun i hi => hb i hi (by omega)).symm
theorem containsBlock_pure (xs : List Block) (F : FuncId) (caps : List DV) (p : Block → Bool) (hF : ∀ v ∈ xs, APure Try.prog F (.agg (blockC v) :: caps) (.bool (p v))) : APure Try.prog 36 [blocksD xs, .fn F caps] (.bool (xs.any p)) := by
 refine apureG _ _ Try.func36 (by kernel_rfl) t_slices_ContainsFunc___api_Block_api_Block_ u_slices_ContainsFunc___api_Block_api_Block_ rfl rfl (fun _ => ?_)
 simp [c_slices_ContainsFunc___api_Block_api_Block_, r_slices_ContainsFunc___api_Block_api_Block_]
 refine call_plain _ (by simp) (by simp) (fun _ => rfl) (fun _ => indexBlock_pure xs F caps p hF) ?_
 simp
 exact DLe_bool (findI_ge p xs)
set_option maxRecDepth 10000 in
theorem func_pure (f : Func) (hi : ∀ b ∈ f.blocks, ∀ i ∈ b.ins, i.args.length ≤ 17592186044416) : APure Try.prog 20 [.agg (funcC f)] (.bool (funcOk f)) := by
 refine apureG _ _ Try.func20 (by kernel_rfl) t_ir_Func u_ir_Func rfl rfl (fun _ => ?_)
 simp [c_ir_Func, r_ir_Func]
 refine call_plain _ (by simp) (by simp) (fun _ => rfl) (fun _ => name_pure f.name) ?_
 simp
 refine ⟨fun h => DLe_bool ?_, fun a1 a2 a3 a4 a5 a6 => ⟨fun h => DLe_bool ?_, fun h => ⟨List.length_pos_iff.2 h, ?_⟩⟩⟩
 ·symm
  rcases h with ((((h | h) | h) | h) | h) | h
  ·exact funcOk_name h
  ·exact funcOk_b1 h
  ·exact funcOk_b3 h
  ·exact funcOk_p0 h
  ·exact funcOk_p6 h
  ·exact funcOk_n (by omega)
 ·rw [funcOk_nil a1 a2 a3 a4 a5 (by simp [h])]
  rw [Bool.eq_iff_iff]; simp
 have hl := List.length_pos_iff.2 h
 have hf := funcOk_cons a1 a2 a3 a4 a5 (by omega) hl
 refine call_plain _ (by simp) (by simp) (fun _ => by simp; rfl) (fun _ => containsBlock_pure f.blocks _ _ _ (fun b hb => func1_pure f b (hi b hb))) ?_
 simp
 refine DLe_bool ?_
 rw [hf, getD_some hl]
 congr 1
 rw [Bool.eq_iff_iff]
 simp
def globOk (g : Glob) : Bool := nameOk g.name && decide (1 ≤ g.bind) && decide (g.bind ≤ 3) && (g.here || (g.init == 0 && g.bind != 1))
set_option maxRecDepth 10000 in
theorem glob_pure (g : Glob) : APure Try.prog 21 [.agg (globC g)] (.bool (globOk g)) := by
 refine apureG _ _ Try.func21 (by kernel_rfl) t_ir_glob u_ir_glob rfl rfl (fun _ => ?_)
 simp [c_ir_glob, r_ir_glob]
 refine call_plain _ (by simp) (by simp) (fun _ => rfl) (fun _ => name_pure g.name) ?_
 simp
 refine ⟨fun h1 h2 h3 h4 => ⟨⟨⟨⟨h1, h2⟩, h3⟩, h4⟩, fun h5 => ⟨⟨⟨⟨h1, h2⟩, h3⟩, h4⟩, h5⟩⟩, fun h1 h2 h3 => ⟨⟨⟨h1, h2⟩, h3⟩, fun h4 => ⟨⟨⟨h1, h2⟩, h3⟩, h4⟩⟩, DLe_bool ?_⟩
 rw [Bool.eq_iff_iff]
 simp [globOk]
end Go.Proofs.Ytgadlpdbkohlbaa
/- The iterator over a function's instructions. -/
namespace Go.Proofs.Ytgadlpdbkohlbaa
open Go.RowKit
def allIns (f : Func) : List Inst := f.blocks.flatMap (·.ins)
theorem insts_pure (f : Func) : APure Try.prog 26 [.agg (funcC f)] (.fn 39 [.cref (funcC f) 0]) := by
 refine apureG _ _ Try.func26 (by kernel_rfl) t_ir_insts u_ir_insts rfl rfl (fun _ => ?_)
 simp [c_ir_insts, r_ir_insts]
 exact DLe.refl _
theorem tr67 {c : Code} {ac : ACode} (h : trCode Try.prog 8 27 [] [] (drOk 8) c = some ac) : TrCode Try.prog 8 27 c ac :=
 trCode_sound (fun _ _ _ hnd hl htr hd => regOk_draw mixed hnd hl htr hd) h
def yv (l : Nat) : AV := .d (.lit (.func (.yield l) #[] #[]))
def EO (l : Nat) (f : Func) (k : Nat) : T := setL (.leaf (.d .top)) [(sl 0, yv l), (sl 8, .d (blocksD f.blocks)), (sl 9, .int f.blocks.length), (sl 10, .int k)]
def EO' (l : Nat) (f : Func) (k : Nat) : T := setL (.leaf (.d .top)) [(sl 0, yv l), (sl 8, .d (blocksD f.blocks)), (sl 9, .int f.blocks.length), (sl 10, .int k), (sl 11, .d (.lit (.bool (decide (k < f.blocks.length)))))]
def EB (l : Nat) (f : Func) (k : Nat) (b : Block) : T := setL (EO l f k) [(sl 4, .d (.cref (blockC b) 0))]
def EI (l : Nat) (f : Func) (k : Nat) (b : Block) (m : Nat) : T := setL (EO l f k) [(sl 15, .d (insD b.ins)), (sl 16, .int b.ins.length), (sl 17, .int m)]
def EI' (l : Nat) (f : Func) (k : Nat) (b : Block) (m : Nat) : T := setL (EI l f k b m) [(sl 18, .d (.lit (.bool (decide (m < b.ins.length)))))]
def EJ (l : Nat) (f : Func) (k : Nat) (b : Block) (m : Nat) (i : Inst) : T := setL (EI l f k b m) [(sl 6, .d (.cref (instC i) 0))]
def EJ1 (l : Nat) (f : Func) (k : Nat) (b : Block) (m : Nat) (i : Inst) : T := setL (EJ l f k b m i) [(sl 21, yv l)]
def EJ2 (l : Nat) (f : Func) (k : Nat) (b : Block) (m : Nat) (i : Inst) : T := setL (EJ1 l f k b m i) [(sl 22, .d (.agg (instC i)))]
def EJ4 (l : Nat) (f : Func) (k : Nat) (b : Block) (m : Nat) : T := setL (EI l f k b m) [(sl 24, .d (.lit (.bool false)))]
def EN' : T := setL (.leaf (.d .top)) [(sl 24, .d (.lit (.bool true)))]
def cnt (f : Func) (k : Nat) : Nat := ((f.blocks.take k).flatMap (·.ins)).length
theorem cnt_succ {f : Func} {k : Nat} (h : k < f.blocks.length) : cnt f (k + 1) = cnt f k + f.blocks[k].ins.length := by
 unfold cnt
 rw [List.take_succ_eq_append_getElem h, List.flatMap_append, List.length_append]
 simp
theorem cnt_all (f : Func) : cnt f f.blocks.length = (allIns f).length := by
 unfold cnt allIns
 rw [List.take_of_length_le (Nat.le_refl _)]
theorem ins_at {f : Func} {k m : Nat} (h : k < f.blocks.length) (hm : m < f.blocks[k].ins.length) : (allIns f)[cnt f k + m]? = some f.blocks[k].ins[m] := by
 have e : allIns f = (f.blocks.take k).flatMap (·.ins) ++ (f.blocks[k].ins ++ (f.blocks.drop (k + 1)).flatMap (·.ins)) := by
  have e2 : f.blocks = f.blocks.take k ++ (f.blocks[k] :: f.blocks.drop (k + 1)) := by rw [← List.drop_eq_getElem_cons h, List.take_append_drop]
  unfold allIns
  conv => lhs; rw [e2]
  rw [List.flatMap_append, List.flatMap_cons]
 rw [e, List.getElem?_append_right (by unfold cnt; omega)]
 rw [show cnt f k + m - ((f.blocks.take k).flatMap (·.ins)).length = m by unfold cnt; omega]
 rw [List.getElem?_append_left hm, List.getElem?_eq_getElem hm]
theorem op_tmp (n : Nat) (h : n < 256) : TrOpd 8 (.tmp n) (.s (sl n)) := by
 have := TrOpd.s (D := 8) (sl n) (bits_length 8 n)
 rwa [idx_bits 8 n (by omega)] at this
set_option maxRecDepth 10000 in
set_option maxHeartbeats 2000000 in
theorem insts1_seq (f : Func) : ASeq Try.prog 39 [.cref (funcC f) 0] ((allIns f).map fun i => [.agg (instC i)]) := by
 refine ⟨⟨_, _, Try.func39, by kernel_rfl, rfl⟩, fun X w us hX hus l J Jx hJe hJxe hJY hY0 hJ0 => ?_⟩
 have hY : ∀ k Y W (vs : Array Value) i, (allIns f)[k]? = some i → J k Y W → DReps Y W vs.toList [.agg (instC i)] → YieldAt Fence.wide 0 Try.prog l vs W fun e W' => (e = .returned (.bool true) ∧ ∃ Y', J (k + 1) Y' W' ∧ KB 0 Y Y' W W') ∨ (e = .returned (.bool false) ∧ Jx W') := by
  intro k Y W vs i hi hJ hvs
  obtain ⟨hk, he⟩ := List.getElem?_eq_some_iff.1 hi
  exact hY0 k Y W vs (by simpa using hk) hJ (by simpa [he] using hvs)
 clear hY0
 refine (callsIn_wide (n := 0)).1 (callsIn_of_wp (F := Fence.wide) Try.func39 rfl trivial ?_ rfl)
 have hargs : DReps X w (#[Value.func (.yield l) #[] #[]] ++ us).toList [.lit (.func (.yield l) #[] #[]), .cref (funcC f) 0] := by
  simpa using DReps.cons (.lit _) hus
 have hP0 : P1 27 X _ w _ := P1.init hX (by omega) (by simp) hargs
 refine wpIn_seq (wpIn_mono (stretch (e' := EO l f 0) (ac := .reg [⟨(some (sl 7)), none, (.fld (.s (sl 1)) 3), none⟩, ⟨(some (sl 8)), none, (.ld true (.s (sl 7)) none), none⟩, ⟨(some (sl 9)), none, (.len false (.s (sl 8))), none⟩, ⟨(some (sl 10)), none, (.mv (.c (.int .i64 0))), none⟩]) (tr67 (by kernel_rfl)) rfl hP0 (G_start _ (by simp [EO, yv]))) ?_)
 rintro x a w1 ⟨rfl, hx, hP⟩
 refine wpIn_block ?_
 refine wpIn_loop_n (fun j a W => ∃ k Y, j = f.blocks.length - k ∧ k ≤ f.blocks.length ∧ P1 27 Y a W (EO l f k) ∧ J (cnt f k) Y W) ⟨_, 0, X, rfl, Nat.zero_le _, hP, hJe _ _ _ _ hJ0 hx⟩ ?_
 rintro j a W ⟨k, Y, rfl, hk, hP, hJ⟩
 have hbl := hP.len (p := sl 8) rfl rfl
 refine wpIn_seq (wpIn_mono (stretch (e' := EO' l f k) (ac := .reg [⟨(some (sl 11)), none, (.bin .lss (.s (sl 10)) (.s (sl 9))), none⟩]) (tr67 (by kernel_rfl)) rfl hP (G_start _ (by simp [EO, EO', yv]))) ?_)
 rintro x a1 W1 ⟨rfl, hx1, hP1⟩
 refine wpIn_seq (condStep hP1 (op_tmp 11 (by omega)) (b := decide (k < f.blocks.length)) rfl (fun hlt => wpIn_skip ?_) (fun hge => wpIn_exit ?_))
 rotate_left
 ·have hkl : k = f.blocks.length := by simp at hge; omega
  simp only [Exit.then, Exit.inBlock, ↓reduceIte]
  refine ⟨hP1.defers, _, results_none rfl _ _ _, ⟨_, rfl⟩, .inl ⟨Y, ?_⟩⟩
  rw [List.length_map, ← cnt_all, ← hkl]
  exact hJe _ _ _ _ hJ hx1
 have hlt : k < f.blocks.length := by simpa using hlt
 have hJ1 := hJe _ _ _ _ hJ hx1
 clear hJ hP hx1
 refine wpIn_seq (wpIn_block ?_)
 obtain ⟨b, hb⟩ : ∃ b, b = f.blocks[k] := ⟨_, rfl⟩
 have hb' : f.blocks[k]?.getD default = b := by rw [hb]; exact getD_some hlt
 refine wpIn_seq (wpIn_mono (stretch (e' := EB l f k b) (ac := .seq (.reg [⟨(some (sl 12)), none, (.idx true (.s (sl 8)) (.s (sl 10)) 8), none⟩, ⟨(some (sl 13)), none, (.ld true (.s (sl 12)) (some 8)), none⟩, ⟨(some (sl 4)), none, (.new [(.int .i64 0), (.slice none 0 0), (.int .i64 0), (.int .i64 0), (.int .i64 0), (.slice none 0 0), (.int .i64 0), (.slice none 0 0)]), none⟩, ⟨none, none, (.ini 1 (.s (sl 4)) (.s (sl 13)) 8), none⟩]) (.frz (sl 4))) (tr67 (by kernel_rfl)) rfl hP1 (G_start _ (by simp [EO, EO', EB, yv, hlt]; rw [hb]; exact DLe.refl _))) ?_)
 rintro x a2 W2 ⟨rfl, hx2, hP2⟩
 have hJ2 := hJe _ _ _ _ hJ1 hx2
 clear hJ1 hP1 hx2
 refine wpIn_seq (wpIn_mono (stretch (e' := EI l f k b 0) (ac := .reg [⟨(some (sl 14)), none, (.fld (.s (sl 4)) 1), none⟩, ⟨(some (sl 15)), none, (.ld true (.s (sl 14)) none), none⟩, ⟨(some (sl 16)), none, (.len false (.s (sl 15))), none⟩, ⟨(some (sl 17)), none, (.mv (.c (.int .i64 0))), none⟩]) (tr67 (by kernel_rfl)) rfl hP2 (G_start _ (by simp [EO, EB, EI, yv]))) ?_)
 rintro x a3 W3 ⟨rfl, hx3, hP3⟩
 have hJ3 := hJe _ _ _ _ hJ2 hx3
 clear hJ2 hP2 hx3
 refine wpIn_block ?_
 refine wpIn_loop_n (fun j a W => ∃ m Y, j = b.ins.length - m ∧ m ≤ b.ins.length ∧ P1 27 Y a W (EI l f k b m) ∧ J (cnt f k + m) Y W) ⟨_, 0, Y, rfl, Nat.zero_le _, hP3, hJ3⟩ ?_
 clear hJ3 hP3
 rintro j a W ⟨m, Y, rfl, hm, hP, hJ⟩
 have hil := hP.len (p := sl 15) rfl rfl
 refine wpIn_seq (wpIn_mono (stretch (e' := EI' l f k b m) (ac := .reg [⟨(some (sl 18)), none, (.bin .lss (.s (sl 17)) (.s (sl 16))), none⟩]) (tr67 (by kernel_rfl)) rfl hP (G_start _ (by simp [EO, EI, EI', yv]))) ?_)
 rintro x a1 W1 ⟨rfl, hx1, hP1⟩
 have hJ1 := hJe _ _ _ _ hJ hx1
 clear hJ hP hx1
 refine wpIn_seq (condStep hP1 (op_tmp 18 (by omega)) (b := decide (m < b.ins.length)) rfl (fun hml => wpIn_skip ?_) (fun hge => wpIn_exit ?_))
 rotate_left
 ·have hml : m = b.ins.length := by simp at hge; omega
  simp only [Exit.then, Exit.inBlock, ↓reduceIte]
  refine wpIn_mono (stretch (e' := EO l f (k + 1)) (ac := .reg [⟨(some (sl 26)), none, (.bin .add (.s (sl 10)) (.c (.int .i64 1))), none⟩, ⟨(some (sl 10)), none, (.mv (.s (sl 26))), none⟩]) (tr67 (by kernel_rfl)) rfl hP1 (G_start _ (by simp [EO, EI, EI', yv]; exact DLe_int (wrap_succ (by omega))))) ?_
  rintro x a4 W4 ⟨rfl, hx4, hP4⟩
  refine ⟨_, ?_, k + 1, Y, rfl, hlt, hP4, ?_⟩
  ·omega
  ·rw [cnt_succ hlt, ← hb, ← hml]
   exact hJe _ _ _ _ hJ1 hx4
 have hml : m < b.ins.length := by simpa using hml
 obtain ⟨i, hi⟩ : ∃ i, i = b.ins[m] := ⟨_, rfl⟩
 have hiat : (allIns f)[cnt f k + m]? = some i := by
  subst hb
  rw [ins_at hlt hml, hi]
 refine wpIn_seq (wpIn_block ?_)
 refine wpIn_seq (wpIn_mono (stretch (e' := EJ l f k b m i) (ac := .seq (.reg [⟨(some (sl 19)), none, (.idx true (.s (sl 15)) (.s (sl 17)) 6), none⟩, ⟨(some (sl 20)), none, (.ld true (.s (sl 19)) (some 6)), none⟩, ⟨(some (sl 6)), none, (.new [(.int .i64 0), (.int .i64 0), (.int .i64 0), (.int .u64 0), (.string ⟨#[]⟩), (.slice none 0 0)]), none⟩, ⟨none, none, (.ini 1 (.s (sl 6)) (.s (sl 20)) 6), none⟩]) (.frz (sl 6))) (tr67 (by kernel_rfl)) rfl hP1 (G_start _ (by simp [EO, EI, EI', EJ, yv, hml]; rw [hi]; exact DLe.refl _))) ?_)
 rintro x a2 W2 ⟨rfl, hx2, hP2⟩
 have hJ2 := hJe _ _ _ _ hJ1 hx2
 clear hJ1 hP1 hx2
 -- the call of yield
 refine wpIn_seq (wpIn_mono (yieldReg (l := l) (a0 := ⟨some (sl 21), none, .mv (.s (sl 0)), none⟩) (a1 := ⟨some (sl 22), none, .ld true (.s (sl 6)) (some 6), none⟩) (a2 := ⟨some (sl 23), none, .call true (.s (sl 21)) [.s (sl 22)], none⟩) (a3 := ⟨some (sl 24), none, .not (.s (sl 23)), none⟩)
  (p2 := sl 23) (e1 := EJ1 l f k b m i) (e2 := EJ2 l f k b m i) (e4 := EJ4 l f k b m) (f4 := EN') (xd := .agg (instC i)) (JT := J (cnt f k + (m + 1))) (Jx := Jx) (by kernel_rfl) (by kernel_rfl) rfl rfl rfl rfl (by decide) (op_tmp 21 (by omega)) (op_tmp 22 (by omega)) hP2
  rfl (by simp [EO, EI, EJ, EJ1, yv]) rfl (by simp [EO, EI, EJ, EJ1, EJ2, yv]) rfl rfl
  (fun W' vs hx hvs => hY _ _ _ vs i hiat (hJe _ _ _ _ hJ2 hx) hvs) (hJY _) (hJe _) hJxe rfl (by simp [EO, EI, EJ, EJ1, EJ2, EJ4, yv]) (by simp [EN'])) ?_)
 rintro x a6 W6 ⟨rfl, (⟨Y', hJ6, hP6⟩ | ⟨hJx6, hP6⟩)⟩
 ·refine condStep hP6 (op_tmp 24 (by omega)) (b := false) rfl (fun h => by cases h) (fun _ => wpIn_skip ?_)
  simp only [Exit.then, Exit.inBlock]
  refine wpIn_mono (stretch (e' := EI l f k b (m + 1)) (ac := .reg [⟨(some (sl 25)), none, (.bin .add (.s (sl 17)) (.c (.int .i64 1))), none⟩, ⟨(some (sl 17)), none, (.mv (.s (sl 25))), none⟩]) (tr67 (by kernel_rfl)) rfl hP6 (G_start _ (by simp [EO, EI, EJ4, yv]; exact DLe_int (wrap_succ (by omega))))) ?_
  rintro x a7 W7 ⟨rfl, hx7, hP7⟩
  exact ⟨_, by omega, m + 1, Y', rfl, hml, hP7, hJe _ _ _ _ hJ6 hx7⟩
 ·refine condStep hP6 (op_tmp 24 (by omega)) (b := true) rfl (fun _ => wpIn_ret ?_) (fun h => by cases h)
  simp only [Exit.then, Exit.inBlock]
  exact ⟨hP6.defers, _, results_none rfl _ _ _, ⟨_, rfl⟩, .inr hJx6⟩
end Go.Proofs.Ytgadlpdbkohlbaa
/- Contracts by the evaluator: the program's layer 5, names. -/
namespace Go.Proofs.Ytgadlpdbkohlbaa
open Go.RowKit
def namesOf (l : List Inst) : List ByteArray := (l.filter fun i => isNamed i.op).map (·.name)
theorem namesOf_length (l : List Inst) : (namesOf l).length ≤ l.length := by
 unfold namesOf
 rw [List.length_map]
 exact List.length_filter_le _ _
theorem namesOf_yes {l : List Inst} {k : Nat} (h : k < l.length) (hn : isNamed l[k].op = true) : namesOf (l.take (k + 1)) = namesOf (l.take k) ++ [l[k].name] := by
 unfold namesOf
 rw [List.take_succ_eq_append_getElem h, List.filter_append, List.map_append]
 simp [hn]
theorem namesOf_no {l : List Inst} {k : Nat} (h : k < l.length) (hn : isNamed l[k].op = false) : namesOf (l.take (k + 1)) = namesOf (l.take k) := by
 unfold namesOf
 rw [List.take_succ_eq_append_getElem h, List.filter_append, List.map_append]
 simp [hn]
theorem appRow_str {l : List ByteArray} {x : ByteArray} {i : Nat} (h : i < l.length + 1) : appRow l.length (fun i => strC (l[i]?.getD ⟨#[]⟩)) (fun i => List.take 1 (List.drop i [DV.str x])) i = strC ((l ++ [x])[i]?.getD ⟨#[]⟩) := by
 unfold appRow
 split
 ·rename_i hi
  rw [List.getElem?_append_left hi]
 ·rename_i hi
  obtain rfl : i = l.length := by omega
  simp
  rfl
set_option maxRecDepth 10000 in
theorem refs_pure (f : Func) (hl : (allIns f).length ≤ 8796093022208) : APure Try.prog 16 [.agg (funcC f)] (strsD (namesOf (allIns f))) := by
 refine apureG _ _ Try.func16 (by kernel_rfl) t_ir_Refs u_ir_Refs rfl rfl (fun _ => ?_)
 simp [c_ir_Refs, r_ir_Refs]
 refine call_plain _ (by simp) (by simp) (fun _ => rfl) (fun _ => insts_pure f) ?_
 simp
 refine rng_s (insts1_seq f) (κ := List ByteArray) (fun k s => s = namesOf ((allIns f).take k)) [] (fun s => [(2, .box [.own 3 s.length]), (3, .row 9 1 s.length fun i => strC (s[i]?.getD ⟨#[]⟩))]) 5 [2] [] (srcs [(2, .id 2), (3, .nil)]) (by simp) (by simp) (by simp [T.pinned, AV.pinned]) (by simp) rfl (by simp) ?_ ?_
 ·rintro k hk s rfl
  have hk' : k < (allIns f).length := by simpa using hk
  simp
  refine call_plain (ds := [.agg (instC (allIns f)[k])]) _ (by simp) (by simp) (fun _ => rfl) (fun _ => named_pure (allIns f)[k]) ?_
  simp
  refine ⟨fun h => ?_, fun h => ?_⟩
  ·have hb : (namesOf (List.take k (allIns f))).length ≤ k := Nat.le_trans (namesOf_length _) (by simp; omega)
   refine ⟨by omega, srcs [(2, .id 2), (3, .id 13)], ?_⟩
   rw [namesOf_yes hk' h]
   simp [RngE]
   intro i hi
   exact appRow_str hi
  ·refine ⟨srcs [(2, .id 2), (3, .id 3)], ?_⟩
   rw [namesOf_no hk' h]
   simp [RngE]
 ·rintro s rfl
  simp
end Go.Proofs.Ytgadlpdbkohlbaa
/- Contracts by the evaluator: the program's layer 5, names that are there. -/
namespace Go.Proofs.Ytgadlpdbkohlbaa
open Go.RowKit
def lookP (fs : List Func) (s : ByteArray) : Option Int := (fs.reverse.find? fun f => decide (f.name = s)).map (·.params)
theorem lookP_snoc (fs : List Func) (f : Func) (s : ByteArray) : lookP (fs ++ [f]) s = if f.name = s then some f.params else lookP fs s := by
 unfold lookP
 rw [List.reverse_append]
 simp only [List.reverse_cons, List.reverse_nil, List.nil_append, List.singleton_append, List.find?_cons]
 split
 ·rename_i h; simp at h; simp [h]
 ·rename_i h; simp at h; simp [h]
def hasG (gs : List Glob) (s : ByteArray) : Bool := gs.any fun g => decide (g.name = s)
theorem hasG_snoc (gs : List Glob) (g : Glob) (s : ByteArray) : hasG (gs ++ [g]) s = (hasG gs s || decide (g.name = s)) := by simp [hasG]
def mapP (fs : List Func) : Value → Option Value
 | .string s => (lookP fs s).map (Value.int .i64)
 | _ => none
def mapG (gs : List Glob) : Value → Option Value
 | .string s => if hasG gs s then some (.bool true) else none
 | _ => none
@[simp] theorem mapP_str (fs : List Func) (s : ByteArray) : mapP fs (.string s) = (lookP fs s).map (Value.int .i64) := rfl
@[simp] theorem mapG_str (gs : List Glob) (s : ByteArray) : mapG gs (.string s) = if hasG gs s then some (.bool true) else none := rfl
@[simp] theorem bool_getD (b : Bool) : (if b = true then some (Value.bool true) else none).getD (.bool false) = .bool b := by cases b <;> rfl
theorem keq_str (s t : ByteArray) : keq (.string s) (.string t) = decide (s = t) := by
 rw [Bool.eq_iff_iff]
 simp only [keq, decide_eq_true_eq]
 exact ba_beq s t
theorem mapP_step {fs : List Func} {k : Nat} (hk : k < fs.length) (v : Value) (hv : kdOk .string v = true) : mset (mapP (fs.take k)) (.string fs[k].name) (.int .i64 fs[k].params) v = mapP (fs.take (k + 1)) v := by
 cases v <;> simp [kdOk] at hv
 rename_i s
 rw [List.take_succ_eq_append_getElem hk]
 simp only [mset, keq_str, mapP_str, lookP_snoc]
 by_cases h : fs[k].name = s
 ·simp [h]
 ·simp [h, Ne.symm h]
theorem mapG_step {gs : List Glob} {k : Nat} (hk : k < gs.length) (v : Value) (hv : kdOk .string v = true) : mset (mapG (gs.take k)) (.string gs[k].name) (.bool true) v = mapG (gs.take (k + 1)) v := by
 cases v <;> simp [kdOk] at hv
 rename_i s
 rw [List.take_succ_eq_append_getElem hk]
 simp only [mset, keq_str, mapG_str, hasG_snoc]
 by_cases h : gs[k].name = s
 ·simp [h]
 ·simp [h, Ne.symm h]
def insM (m : Module) : List Inst := m.funcs.flatMap allIns
def missI (m : Module) (i : Inst) : Bool := (i.op == 14 && (lookP m.funcs i.name).isNone) || ((i.op == 12 || i.op == 13) && !hasG m.globs i.name)
def oddI (m : Module) (i : Inst) : Bool := i.op == 14 && (lookP m.funcs i.name).getD 0 != i.args.length
def refsE (m : Module) : Int := if (insM m).any (missI m) then 8 else if (insM m).any (oddI m) then 1 else 0
structure KO where
 k : Nat
 o : Bool
def InvF (m : Module) (s : KO) : Prop := s.k ≤ m.funcs.length ∧ s.o = ((m.funcs.take s.k).flatMap allIns).any (oddI m) ∧ ((m.funcs.take s.k).flatMap allIns).any (missI m) = false
def InvJ (m : Module) (f : Func) (odd : Bool) (j : Nat) (s : KO) : Prop := s.o = (odd || ((allIns f).take j).any (oddI m)) ∧ ((allIns f).take j).any (missI m) = false
theorem InvF.start (m : Module) : InvF m ⟨0, false⟩ := ⟨Nat.zero_le _, rfl, rfl⟩
theorem InvJ.start (m : Module) (f : Func) (odd : Bool) : InvJ m f odd 0 ⟨0, odd⟩ := ⟨by simp, rfl⟩
theorem InvF.next {m : Module} {k : Nat} {odd : Bool} {s : KO} (h : InvF m ⟨k, odd⟩) (hk : k < m.funcs.length) (hj : InvJ m m.funcs[k] odd (allIns m.funcs[k]).length s) : InvF m ⟨k + 1, s.o⟩ := by
 obtain ⟨_, h2, h3⟩ := h
 obtain ⟨g1, g2⟩ := hj
 rw [List.take_of_length_le (Nat.le_refl _)] at g1 g2
 have e : (m.funcs.take (k + 1)).flatMap allIns = (m.funcs.take k).flatMap allIns ++ allIns m.funcs[k] := by
  rw [List.take_succ_eq_append_getElem hk, List.flatMap_append]
  simp
 exact ⟨hk, by simp only at h2 ⊢; rw [e, List.any_append, g1, h2], by simp only at h3 ⊢; rw [e, List.any_append, g2, h3]; rfl⟩
theorem InvJ.next {m : Module} {f : Func} {odd : Bool} {j : Nat} {s : KO} (h : InvJ m f odd j s) (hj : j < (allIns f).length) (hm : missI m (allIns f)[j] = false) : InvJ m f odd (j + 1) ⟨0, s.o || oddI m (allIns f)[j]⟩ := by
 obtain ⟨h1, h2⟩ := h
 unfold InvJ
 rw [List.take_succ_eq_append_getElem hj, List.any_append, List.any_append, h2, h1]
 simp [hm, Bool.or_assoc]
theorem refsE_miss {m : Module} {k j : Nat} (hk : k < m.funcs.length) (hj : j < (allIns m.funcs[k]).length) (hm : missI m (allIns m.funcs[k])[j] = true) : refsE m = 8 := by
 unfold refsE
 rw [if_pos]
 exact List.any_eq_true.2 ⟨_, List.mem_flatMap.2 ⟨_, List.getElem_mem hk, List.getElem_mem hj⟩, hm⟩
theorem refsE_end {m : Module} {odd : Bool} (h : InvF m ⟨m.funcs.length, odd⟩) : refsE m = if odd = true then 1 else 0 := by
 obtain ⟨_, h2, h3⟩ := h
 simp only [List.take_of_length_le (Nat.le_refl _)] at h2 h3
 unfold refsE insM
 rw [h3, ← h2]
 simp
set_option maxRecDepth 10000 in
set_option maxHeartbeats 1000000 in
theorem refsM_pure (m : Module) : APure Try.prog 22 [.agg (moduleC m)] (.int (refsE m)) := by
 refine apureG _ _ Try.func22 (by kernel_rfl) t_ir_refs u_ir_refs rfl rfl (fun hx => ?_)
 have hlf := lenAgg hx 0 rfl
 have hlg := lenAgg hx 1 rfl
 clear hx
 simp [c_ir_refs, r_ir_refs]
 refine loop_s (κ := Nat × Nat) (fun k => k.1 ≤ m.funcs.length) (fun k => m.funcs.length - k.1) (fun k => [(sl 20, .int k.1)]) (fun k => [(1, .box [.int 0]), (2, .map .string k.2 (mapP (m.funcs.take k.1))), (3, .map .string 0 (mapG [])), (4, .box [.mp 2]), (5, .box [.mp 3])]) 12 (0, 0) (srcs [(1, .id 1), (2, .id 2), (3, .id 3), (4, .id 4), (5, .id 5)]) (by simp) ?_ ?_
 ·simp
  exact ⟨fun v _ => by cases v <;> rfl, fun v _ => by cases v <;> rfl⟩
 rintro ⟨k, n⟩ hk
 simp at hk
 simp
 refine ⟨fun hlt => ⟨hlt, ?_⟩, fun hge => ?_⟩
 ·rw [getD_some hlt]
  refine ⟨k + 1, hlt, by omega, (if (lookP (List.take k m.funcs) m.funcs[k].name).isSome = true then n else n + 1), srcs [(1, .id 1), (2, .id 2), (3, .id 3), (4, .id 4), (5, .id 5)], ?_⟩
  simp [SLeK]
  exact ⟨DLe_int (wrap_succ (by omega)), fun v hv => mapP_step hlt v hv⟩
 obtain rfl : k = m.funcs.length := by omega
 rw [List.take_of_length_le (Nat.le_refl _)]
 refine loop_s (κ := Nat × Nat) (fun k => k.1 ≤ m.globs.length) (fun k => m.globs.length - k.1) (fun k => [(sl 33, .int k.1)]) (fun k => [(1, .box [.int 0]), (2, .map .string n (mapP m.funcs)), (3, .map .string k.2 (mapG (m.globs.take k.1))), (4, .box [.mp 2]), (5, .box [.mp 3])]) 17 (0, 0) (srcs [(1, .id 1), (2, .id 2), (3, .id 3), (4, .id 4), (5, .id 5)]) (by simp) (by simp) ?_
 rintro ⟨k, n'⟩ hk
 simp at hk
 simp
 refine ⟨fun hlt => ⟨hlt, ?_⟩, fun hge => ?_⟩
 ·rw [getD_some hlt]
  refine ⟨k + 1, hlt, by omega, (if hasG (List.take k m.globs) m.globs[k].name = true then n' else n' + 1), srcs [(1, .id 1), (2, .id 2), (3, .id 3), (4, .id 4), (5, .id 5)], ?_⟩
  simp [SLeK]
  exact ⟨DLe_int (wrap_succ (by omega)), fun v hv => mapG_step hlt v hv⟩
 obtain rfl : k = m.globs.length := by omega
 rw [List.take_of_length_le (Nat.le_refl _)]
 refine loop_s (κ := KO) (InvF m) (fun k => m.funcs.length - k.k) (fun k => [(sl 44, .int k.k)])
  (fun k => [(18, .box [.d (.lit (.bool k.o))]), (1, .box [.int 0]), (2, .map .string n (mapP m.funcs)), (3, .map .string n' (mapG m.globs)), (4, .box [.mp 2]), (5, .box [.mp 3])]) 24 ⟨0, false⟩ (srcs [(18, .id 18), (1, .id 1), (2, .id 2), (3, .id 3), (4, .id 4), (5, .id 5)]) (InvF.start m) (by simp) ?_
 rintro ⟨k, odd⟩ hinv
 simp
 refine ⟨fun hlt => ⟨hlt, ?_⟩, fun hge => ?_⟩
 ·rw [getD_some hlt]
  refine call_plain (ds := [.agg (funcC m.funcs[k])]) _ (by simp) (by simp) (fun _ => rfl) (fun _ => insts_pure m.funcs[k]) ?_
  simp
  refine rng_s (insts1_seq m.funcs[k]) (κ := KO) (InvJ m m.funcs[k] odd) []
   (fun o => [(18, .box [.d (.lit (.bool o.o))]), (1, .box [.int 0]), (2, .map .string n (mapP m.funcs)), (3, .map .string n' (mapG m.globs)), (4, .box [.mp 2]), (5, .box [.mp 3])]) 31 [18, 1, 2, 3, 4, 5] ⟨0, odd⟩ (srcs [(18, .id 18), (1, .id 1), (2, .id 2), (3, .id 3), (4, .id 4), (5, .id 5)]) (by simp) (by simp) (by simp [T.pinned, AV.pinned]) (by simp) (InvJ.start _ _ _) (by simp) ?_ ?_
  ·rintro j hj ⟨_, o⟩ hij
   have hj' : j < (allIns m.funcs[k]).length := by simpa using hj
   have hmiss := fun h => refsE_miss (m := m) hlt hj' h
   have hnext := fun h => hij.next (m := m) hj' h
   simp
   generalize (allIns m.funcs[k])[j] = i at *
   refine ⟨fun h => ⟨h, fun h' => ⟨h, h'⟩⟩, fun h => ⟨h, fun h' => ⟨h, h'⟩⟩, fun h => ?_, fun h => DLe_int ?_, fun h1 h2 => ?_⟩
   ·by_cases h14 : i.op = 14
    ·exact .inr (h h14)
    ·exact .inl h14
   ·rw [hmiss]
    unfold missI
    rcases h with ⟨h1, h2⟩ | ⟨h1, h2⟩
    ·simp [h1, h2]
    ·rcases h1 with h1 | h1 <;> simp [h1, h2]
   ·refine ⟨fun h => ⟨h, fun h' => ⟨h, h'⟩⟩, _, hnext ?_, srcs [(18, .id 18), (1, .id 1), (2, .id 2), (3, .id 3), (4, .id 4), (5, .id 5)], ?_⟩
    ·unfold missI
     rw [Bool.or_eq_false_iff]
     constructor
     ·by_cases h14 : i.op = 14
      ·have := h1 h14
       simp [h14, Option.isSome_iff_ne_none] at this ⊢
       exact this
      ·simp [h14]
     ·by_cases h12 : i.op = 12 ∨ i.op = 13
      ·simp [h2 h12]
      ·simp only [not_or] at h12
       simp [h12.1, h12.2]
    ·simp [RngE]
     refine DLe_bool ?_
     congr 1
  ·rintro s hs
   rw [List.length_map] at hs
   simp
   refine ⟨⟨k + 1, s.o⟩, hinv.next hlt hs, by simp; omega, srcs [(18, .id 18), (1, .id 1), (2, .id 2), (3, .id 3), (4, .id 4), (5, .id 5)], ?_⟩
   simp [SLeK]
   exact DLe_int (wrap_succ (by omega))
 ·obtain rfl : k = m.funcs.length := by have := hinv.1; simp only at this; omega
  rw [refsE_end hinv]
  exact ⟨fun h => by subst h; exact DLe.refl _, fun h => by subst h; exact DLe.refl _⟩
end Go.Proofs.Ytgadlpdbkohlbaa
/- Contracts by the evaluator: the program's layer 5, is a module right? -/
namespace Go.Proofs.Ytgadlpdbkohlbaa
open Go.RowKit
def hasN (l : List ByteArray) (s : ByteArray) : Bool := l.any fun x => decide (x = s)
def dcount : List ByteArray → Nat
 | [] => 0
 | x :: l => dcount l + if hasN l x then 0 else 1
def dcountR (l : List ByteArray) : Nat := dcount l.reverse
theorem hasN_append (l l' : List ByteArray) (s : ByteArray) : hasN (l ++ l') s = (hasN l s || hasN l' s) := by simp [hasN]
theorem hasN_reverse (l : List ByteArray) (s : ByteArray) : hasN l.reverse s = hasN l s := by simp [hasN]
theorem dcountR_snoc (l : List ByteArray) (x : ByteArray) : dcountR (l ++ [x]) = if hasN l x = true then dcountR l else dcountR l + 1 := by
 unfold dcountR
 rw [List.reverse_append]
 simp only [List.reverse_cons, List.reverse_nil, List.nil_append, List.singleton_append, dcount, hasN_reverse]
 split <;> rfl
def mapN (l : List ByteArray) : Value → Option Value
 | .string s => if hasN l s then some (.bool true) else none
 | _ => none
@[simp] theorem mapN_str (l : List ByteArray) (s : ByteArray) : mapN l (.string s) = if hasN l s then some (.bool true) else none := rfl
theorem mapN_step {l : List ByteArray} {x : ByteArray} (v : Value) (hv : kdOk .string v = true) : mset (mapN l) (.string x) (.bool true) v = mapN (l ++ [x]) v := by
 cases v <;> simp [kdOk] at hv
 rename_i s
 simp only [mset, keq_str, mapN_str, hasN_append]
 by_cases h : x = s
 ·simp [h, hasN]
 ·have e : hasN [x] s = false := by simp [hasN, h]
  rw [e, Bool.or_false, if_neg (by simp [Ne.symm h])]
def fnames (m : Module) : List ByteArray := m.funcs.map (·.name)
def gnames (m : Module) : List ByteArray := m.globs.map (·.name)
def namesM (m : Module) : List ByteArray := fnames m ++ gnames m
def checkE (m : Module) : Int :=
 if 16 < m.funcs.length ∨ 16 < m.globs.length then 4
 else if (m.funcs.all funcOk && m.globs.all globOk) = false then 10
 else if dcountR (namesM m) < m.funcs.length + m.globs.length then 9
 else refsE m
set_option maxRecDepth 10000 in
set_option maxHeartbeats 1000000 in
theorem check_pure (m : Module) (hi : ∀ f ∈ m.funcs, ∀ b ∈ f.blocks, ∀ i ∈ b.ins, i.args.length ≤ 17592186044416) : APure Try.prog 13 [.agg (moduleC m)] (.int (checkE m)) := by
 refine apureG _ _ Try.func13 (by kernel_rfl) t_ir_Check u_ir_Check rfl rfl (fun _ => ?_)
 simp [c_ir_Check, r_ir_Check]
 refine ⟨fun h => DLe_int ?_, fun hf hg => ?_⟩
 ·unfold checkE
  rw [if_pos (by omega)]
 refine loop_s (κ := Nat) (fun k => k ≤ m.funcs.length ∧ ∀ j (h : j < m.funcs.length), j < k → funcOk m.funcs[j] = true) (fun k => m.funcs.length - k) (fun k => [(sl 22, .int k)]) (fun k => [(12, .map .string (dcountR ((fnames m).take k)) (mapN ((fnames m).take k)))]) 18 0 (srcs [(12, .id 12)]) (by simp) ?_ ?_
 ·simp
  exact ⟨rfl, fun v _ => by cases v <;> rfl⟩
 rintro k ⟨hk, hall⟩
 simp
 refine ⟨fun hlt => ⟨hlt, ?_⟩, fun hge => ?_⟩
 ·rw [getD_some hlt]
  refine call_plain (ds := [.agg (funcC m.funcs[k])]) _ (by simp) (by simp) (fun _ => rfl) (fun _ => func_pure m.funcs[k] (hi _ (List.getElem_mem hlt))) ?_
  simp
  refine ⟨fun h => DLe_int ?_, fun h => ?_⟩
  ·unfold checkE
   rw [if_neg (by omega), if_pos (by rw [all_no hlt h]; rfl)]
  ·have e : (fnames m).take (k + 1) = (fnames m).take k ++ [m.funcs[k].name] := by
    unfold fnames
    rw [List.take_succ_eq_append_getElem (by simpa using hlt)]
    simp
   refine ⟨k + 1, ⟨hlt, fun j hj hj' => ?_⟩, by omega, srcs [(12, .id 12)], ?_⟩
   ·rcases Nat.lt_or_ge j k with h1 | h1
    ·exact hall j hj h1
    ·obtain rfl : j = k := by omega
     exact h
   ·simp [SLeK]
    rw [e]
    refine ⟨DLe_int (wrap_succ (by omega)), ?_, fun v hv => mapN_step v hv⟩
    rw [dcountR_snoc]
 have hff := all_yes fun j hj => hall j hj (by omega)
 obtain rfl : k = m.funcs.length := by omega
 rw [show (fnames m).take m.funcs.length = fnames m by rw [List.take_of_length_le (by simp [fnames])]]
 refine loop_s (κ := Nat) (fun k => k ≤ m.globs.length ∧ ∀ j (h : j < m.globs.length), j < k → globOk m.globs[j] = true) (fun k => m.globs.length - k) (fun k => [(sl 36, .int k)]) (fun k => [(12, .map .string (dcountR (fnames m ++ (gnames m).take k)) (mapN (fnames m ++ (gnames m).take k)))]) 23 0 (srcs [(12, .id 12)]) (by simp) (by simp) ?_
 rintro k ⟨hk', hall'⟩
 simp
 refine ⟨fun hlt => ⟨hlt, ?_⟩, fun hge' => ?_⟩
 ·rw [getD_some hlt]
  refine call_plain (ds := [.agg (globC m.globs[k])]) _ (by simp) (by simp) (fun _ => rfl) (fun _ => glob_pure m.globs[k]) ?_
  simp
  refine ⟨fun h => DLe_int ?_, fun h => ?_⟩
  ·unfold checkE
   rw [if_neg (by omega), if_pos (by rw [all_no hlt h]; simp)]
  ·have e : (gnames m).take (k + 1) = (gnames m).take k ++ [m.globs[k].name] := by
    unfold gnames
    rw [List.take_succ_eq_append_getElem (by simpa using hlt)]
    simp
   refine ⟨k + 1, ⟨hlt, fun j hj hj' => ?_⟩, by omega, srcs [(12, .id 12)], ?_⟩
   ·rcases Nat.lt_or_ge j k with h1 | h1
    ·exact hall' j hj h1
    ·obtain rfl : j = k := by omega
     exact h
   ·simp [SLeK]
    rw [e, ← List.append_assoc]
    refine ⟨DLe_int (wrap_succ (by omega)), ?_, fun v hv => mapN_step v hv⟩
    rw [dcountR_snoc]
 have hgg := all_yes fun j hj => hall' j hj (by omega)
 obtain rfl : k = m.globs.length := by omega
 rw [show (gnames m).take m.globs.length = gnames m by rw [List.take_of_length_le (by simp [gnames])]]
 rw [wrap_in (by omega)]
 have hc : ∀ x y z : Int, checkE m = if dcountR (fnames m ++ gnames m) < m.funcs.length + m.globs.length then 9 else refsE m := by
  intro _ _ _
  unfold checkE
  rw [if_neg (by omega), if_neg (by rw [hff, hgg]; simp)]
  rfl
 have hc := hc 0 0 0
 refine ⟨fun h => DLe_int ?_, fun h => ?_⟩
 ·rw [hc, if_pos (by omega)]
 ·refine call_plain (ds := [.agg (moduleC m)]) _ (by simp) (by simp) (fun _ => rfl) (fun _ => refsM_pure m) ?_
  simp
  rw [hc, if_neg (by omega)]
  exact DLe.refl _
end Go.Proofs.Ytgadlpdbkohlbaa
/- Plain laws of layer 5: what it means that a module is right. -/
namespace Go.Proofs.Ytgadlpdbkohlbaa
open Go.RowKit
theorem hasN_iff (l : List ByteArray) (s : ByteArray) : hasN l s = true ↔ s ∈ l := by
 unfold hasN
 rw [List.any_eq_true]
 constructor
 ·rintro ⟨x, hx, h⟩
  simp only [decide_eq_true_eq] at h
  exact h ▸ hx
 ·intro h
  exact ⟨s, h, by simp⟩
theorem dcount_le : ∀ l : List ByteArray, dcount l ≤ l.length
  | [] => Nat.le_refl _
  | x :: l => by
    have := dcount_le l
    simp only [dcount, List.length_cons]
    split <;> omega
theorem dcount_iff : ∀ l : List ByteArray, dcount l = l.length ↔ l.Nodup
  | [] => by simp [dcount]
  | x :: l => by
    have h1 := dcount_le l
    have h2 := dcount_iff l
    simp only [dcount, List.length_cons, List.nodup_cons, ← hasN_iff]
    by_cases hx : hasN l x = true
    · rw [if_pos hx]
      constructor
      · intro h; omega
      · intro h; exact absurd hx h.1
    · rw [if_neg hx]
      constructor
      · intro h; exact ⟨hx, h2.1 (by omega)⟩
      · intro h; have := h2.2 h.2; omega
theorem nodup_rev (l : List ByteArray) : l.reverse.Nodup ↔ l.Nodup := by
 unfold List.Nodup
 rw [List.pairwise_reverse]
 exact List.Pairwise.iff fun {_ _} => ⟨fun h => Ne.symm h, fun h => Ne.symm h⟩
theorem dcountR_iff (l : List ByteArray) : dcountR l < l.length ↔ ¬ l.Nodup := by
 unfold dcountR
 have h1 := dcount_le l.reverse
 have h2 := dcount_iff l.reverse
 rw [List.length_reverse] at h1 h2
 rw [← nodup_rev, ← h2]
 omega
theorem lookP_none {fs : List Func} {s : ByteArray} : lookP fs s = none ↔ ∀ f ∈ fs, f.name ≠ s := by
 unfold lookP
 simp
theorem lookP_mem {fs : List Func} {s : ByteArray} {p : Int} (h : lookP fs s = some p) : ∃ f ∈ fs, f.name = s ∧ f.params = p := by
 unfold lookP at h
 simp only [Option.map_eq_some_iff] at h
 obtain ⟨f, h1, h2⟩ := h
 have h3 := List.find?_some h1
 have h4 := List.mem_of_find?_eq_some h1
 exact ⟨f, by simpa using h4, by simpa using h3, h2⟩
theorem lookP_some {fs : List Func} {s : ByteArray} {f : Func} (hf : f ∈ fs) (hs : f.name = s) : ∃ p, lookP fs s = some p := by
 cases h : lookP fs s with
 | some p => exact ⟨p, rfl⟩
 | none => exact absurd hs (lookP_none.1 h f hf)
theorem hasG_iff {gs : List Glob} {s : ByteArray} : hasG gs s = true ↔ ∃ g ∈ gs, g.name = s := by simp [hasG]
structure ModOk (m : Module) : Prop where
 nf : m.funcs.length ≤ 16
 ng : m.globs.length ≤ 16
 funcs : ∀ f ∈ m.funcs, funcOk f = true
 globs : ∀ g ∈ m.globs, globOk g = true
 names : (namesM m).Nodup
 miss : ∀ i ∈ insM m, missI m i = false
 odd : ∀ i ∈ insM m, oddI m i = false
theorem refsE_zero {m : Module} : refsE m = 0 ↔ (∀ i ∈ insM m, missI m i = false) ∧ ∀ i ∈ insM m, oddI m i = false := by
 unfold refsE
 by_cases h1 : (insM m).any (missI m) = true
 ·rw [if_pos h1]
  constructor
  ·intro h; omega
  ·rintro ⟨h, _⟩
   obtain ⟨i, hi, hm⟩ := List.any_eq_true.1 h1
   rw [h i hi] at hm; cases hm
 ·rw [if_neg h1]
  have h1' : ∀ i ∈ insM m, missI m i = false := fun i hi => by
   cases hm : missI m i with
   | false => rfl
   | true => exact absurd (List.any_eq_true.2 ⟨i, hi, hm⟩) h1
  by_cases h2 : (insM m).any (oddI m) = true
  ·rw [if_pos h2]
   constructor
   ·intro h; omega
   ·rintro ⟨_, h⟩
    obtain ⟨i, hi, hm⟩ := List.any_eq_true.1 h2
    rw [h i hi] at hm; cases hm
  ·rw [if_neg h2]
   exact ⟨fun _ => ⟨h1', fun i hi => by
    cases hm : oddI m i with
    | false => rfl
    | true => exact absurd (List.any_eq_true.2 ⟨i, hi, hm⟩) h2⟩, fun _ => rfl⟩
theorem namesM_length (m : Module) : (namesM m).length = m.funcs.length + m.globs.length := by simp [namesM, fnames, gnames]
theorem checkE_zero {m : Module} : checkE m = 0 ↔ ModOk m := by
 unfold checkE
 by_cases h1 : 16 < m.funcs.length ∨ 16 < m.globs.length
 ·rw [if_pos h1]
  exact ⟨fun h => by omega, fun h => by have := h.nf; have := h.ng; omega⟩
 rw [if_neg h1]
 by_cases h2 : (m.funcs.all funcOk && m.globs.all globOk) = false
 ·rw [if_pos h2]
  refine ⟨fun h => by omega, fun h => ?_⟩
  rw [List.all_eq_true.2 h.funcs, List.all_eq_true.2 h.globs] at h2
  cases h2
 rw [if_neg h2]
 have h2' : m.funcs.all funcOk = true ∧ m.globs.all globOk = true := by simpa using h2
 by_cases h3 : dcountR (namesM m) < m.funcs.length + m.globs.length
 ·rw [if_pos h3]
  refine ⟨fun h => by omega, fun h => ?_⟩
  rw [← namesM_length] at h3
  exact absurd h.names ((dcountR_iff _).1 h3)
 rw [if_neg h3, refsE_zero]
 have h3' : (namesM m).Nodup := by
  rw [← namesM_length] at h3
  exact Classical.not_not.1 fun hn => h3 ((dcountR_iff _).2 hn)
 exact ⟨fun h => ⟨by omega, by omega, List.all_eq_true.1 h2'.1, List.all_eq_true.1 h2'.2, h3', h.1, h.2⟩, fun h => ⟨h.miss, h.odd⟩⟩
theorem ModOk.fnodup {m : Module} (h : ModOk m) : (fnames m).Nodup := (List.nodup_append.1 h.names).1
theorem missI_false {m : Module} {i : Inst} (h : missI m i = false) : (i.op = 14 → ∃ p, lookP m.funcs i.name = some p) ∧ (i.op = 12 ∨ i.op = 13 → hasG m.globs i.name = true) := by
  unfold missI at h
  rw [Bool.or_eq_false_iff] at h
  obtain ⟨h1, h2⟩ := h
  constructor
  · intro h14
    cases hl : lookP m.funcs i.name with
    | some p => exact ⟨p, rfl⟩
    | none => rw [hl, h14] at h1; simp at h1
  · intro h'
    cases hg : hasG m.globs i.name with
    | true => rfl
    | false =>
      rw [hg] at h2
      rcases h' with h' | h' <;> rw [h'] at h2 <;> simp at h2
theorem missI_mk {m : Module} {i : Inst} (h1 : i.op = 14 → ∃ p, lookP m.funcs i.name = some p) (h2 : i.op = 12 ∨ i.op = 13 → hasG m.globs i.name = true) : missI m i = false := by
 unfold missI
 rw [Bool.or_eq_false_iff]
 constructor
 ·by_cases h14 : i.op = 14
  ·obtain ⟨p, hp⟩ := h1 h14
   simp [hp]
  ·simp [h14]
 ·by_cases h12 : i.op = 12 ∨ i.op = 13
  ·simp [h2 h12]
  ·simp only [not_or] at h12
   simp [h12.1, h12.2]
theorem mem_insM {m : Module} {f : Func} {i : Inst} (hf : f ∈ m.funcs) (hi : i ∈ allIns f) : i ∈ insM m := List.mem_flatMap.2 ⟨f, hf, hi⟩
theorem mem_namesOf {l : List Inst} {s : ByteArray} (h : s ∈ namesOf l) : ∃ i ∈ l, isNamed i.op = true ∧ i.name = s := by
 unfold namesOf at h
 obtain ⟨i, h1, h2⟩ := List.mem_map.1 h
 obtain ⟨h3, h4⟩ := List.mem_filter.1 h1
 exact ⟨i, h3, by simpa using h4, h2⟩
theorem isNamed_iff {op : Int} : isNamed op = true ↔ op = 12 ∨ op = 13 ∨ op = 14 := by
 unfold isNamed
 simp
 omega
theorem ModOk.there {m : Module} (h : ModOk m) {f : Func} (hf : f ∈ m.funcs) {s : ByteArray} (hs : s ∈ namesOf (allIns f)) : (∃ g ∈ m.funcs, g.name = s) ∨ ∃ g ∈ m.globs, g.name = s := by
 obtain ⟨i, hi, hn, rfl⟩ := mem_namesOf hs
 obtain ⟨h1, h2⟩ := missI_false (h.miss i (mem_insM hf hi))
 rcases isNamed_iff.1 hn with h' | h' | h'
 ·exact .inr (hasG_iff.1 (h2 (.inl h')))
 ·exact .inr (hasG_iff.1 (h2 (.inr h')))
 ·obtain ⟨p, hp⟩ := h1 h'
  obtain ⟨g, hg, hgn, _⟩ := lookP_mem hp
  exact .inl ⟨g, hg, hgn⟩
theorem findI_nodup {xs : List Func} (h : (xs.map (·.name)).Nodup) {k : Nat} (hk : k < xs.length) : findI (fun f => decide (f.name = xs[k].name)) xs = k := by
 refine findI_hit hk (fun i hi hik => ?_) (by simp)
 simp only [decide_eq_false_iff_not]
 intro e
 have := List.pairwise_iff_getElem.1 h i k (by simpa using hi) (by simpa using hk) hik
 simp only [List.getElem_map] at this
 exact this e
end Go.Proofs.Ytgadlpdbkohlbaa
/- Plain laws of layer 5: a right module with one function more, or less. -/
namespace Go.Proofs.Ytgadlpdbkohlbaa
open Go.RowKit
theorem name_uniq {fs : List Func} (hn : (fs.map (·.name)).Nodup) {f g : Func} (hf : f ∈ fs) (hg : g ∈ fs) (h : f.name = g.name) : f = g := by
 obtain ⟨i, hi, rfl⟩ := List.getElem_of_mem hf
 obtain ⟨j, hj, rfl⟩ := List.getElem_of_mem hg
 have h1 := findI_nodup hn hi
 have h2 := findI_nodup hn hj
 rw [h] at h1
 have : i = j := by omega
 subst this
 rfl
theorem lookP_uniq {fs : List Func} (hn : (fs.map (·.name)).Nodup) {f : Func} (hf : f ∈ fs) : lookP fs f.name = some f.params := by
 obtain ⟨p, hp⟩ := lookP_some hf rfl
 obtain ⟨g, hg, h1, h2⟩ := lookP_mem hp
 rw [hp, ← h2, name_uniq hn hg hf h1]
theorem ModOk.call {m : Module} (h : ModOk m) {i : Inst} (hi : i ∈ insM m) (h14 : i.op = 14) : ∃ g ∈ m.funcs, g.name = i.name ∧ g.params = i.args.length := by
 obtain ⟨p, hp⟩ := (missI_false (h.miss i hi)).1 h14
 have ho := h.odd i hi
 obtain ⟨g, hg, h1, h2⟩ := lookP_mem hp
 refine ⟨g, hg, h1, ?_⟩
 unfold oddI at ho
 rw [hp, h14] at ho
 simp at ho
 omega
theorem ModOk.mk' {m : Module} (nf : m.funcs.length ≤ 16) (ng : m.globs.length ≤ 16) (funcs : ∀ f ∈ m.funcs, funcOk f = true) (globs : ∀ g ∈ m.globs, globOk g = true) (names : (namesM m).Nodup)
  (hc : ∀ f ∈ m.funcs, ∀ i ∈ allIns f, i.op = 14 → ∃ g ∈ m.funcs, g.name = i.name ∧ g.params = i.args.length) (hg : ∀ f ∈ m.funcs, ∀ i ∈ allIns f, i.op = 12 ∨ i.op = 13 → ∃ g ∈ m.globs, g.name = i.name) : ModOk m := by
 have hn : (m.funcs.map (·.name)).Nodup := (List.nodup_append.1 names).1
 have hcall : ∀ i ∈ insM m, i.op = 14 → lookP m.funcs i.name = some (i.args.length : Int) := by
  intro i hi h14
  obtain ⟨f, hf, hi⟩ := List.mem_flatMap.1 hi
  obtain ⟨g, hg1, hg2, hg3⟩ := hc f hf i hi h14
  rw [← hg2, lookP_uniq hn hg1, hg3]
 refine ⟨nf, ng, funcs, globs, names, fun i hi => missI_mk (fun h => ⟨_, hcall i hi h⟩) (fun h => ?_), fun i hi => ?_⟩
 ·obtain ⟨f, hf, hi⟩ := List.mem_flatMap.1 hi
  exact hasG_iff.2 (hg f hf i hi h)
 ·unfold oddI
  by_cases h14 : i.op = 14
  ·rw [hcall i hi h14]
   simp
  ·simp [h14]
end Go.Proofs.Ytgadlpdbkohlbaa
/- Plain laws of layer 5: what it means that a function is right. -/
namespace Go.Proofs.Ytgadlpdbkohlbaa
open Go.RowKit
theorem funcOk_all {f : Func} (h : funcOk f = true) : f.blocks.all (blockOk f) = true := by
  unfold funcOk at h
  cases hb : f.blocks with
  | nil => rfl
  | cons b r =>
    rw [hb] at h
    simp only [Bool.and_eq_true] at h
    exact h.2.2
theorem funcOk_len {f : Func} (h : funcOk f = true) : f.blocks.length ≤ 16 := by
 unfold funcOk at h
 simp only [Bool.and_eq_true, decide_eq_true_eq] at h
 exact h.1.2
theorem funcOk_first {f : Func} (h : funcOk f = true) (hl : 0 < f.blocks.length) : f.blocks[0].params = f.params := by
  unfold funcOk at h
  obtain ⟨name, bind, params, blocks⟩ := f
  cases blocks with
  | nil => simp at hl
  | cons b r =>
    simp only [Bool.and_eq_true, beq_iff_eq] at h
    exact h.2.1
theorem funcOk_block {f : Func} (h : funcOk f = true) {k : Nat} (hk : k < f.blocks.length) : blockOk f f.blocks[k] = true := List.all_eq_true.1 (funcOk_all h) _ (List.getElem_mem hk)
theorem blockOk_parts {f : Func} {b : Block} (h : blockOk f b = true) : 0 ≤ b.params ∧ b.params ≤ 6 ∧ b.ins.length ≤ 32 ∧ (∀ k (hk : k < b.ins.length), instOk b.ins[k] (b.params + k) = true) ∧ endB f b = true := by
 unfold blockOk at h
 simp only [Bool.and_eq_true, decide_eq_true_eq] at h
 obtain ⟨⟨⟨⟨h1, h2⟩, h3⟩, h4⟩, h5⟩ := h
 exact ⟨h1, h2, h3, (insFrom_iff _ _).1 h4, h5⟩
theorem instOk_below {i : Inst} {n : Int} (h : instOk i n = true) : belowB (uses i) n = true := by
 unfold instOk at h
 simp only [Bool.and_eq_true] at h
 exact h.1.1.1.1.1.1.2
theorem instOk_args {i : Inst} {n : Int} (h : instOk i n = true) : i.args.length ≤ 6 := by
 unfold instOk at h
 simp only [Bool.and_eq_true, decide_eq_true_eq] at h
 exact h.1.2
theorem goesB_parts {f : Func} {to : Int} {l : List Int} {n : Int} (h : goesB f to l n = true) : 0 ≤ to ∧ to < f.blocks.length ∧ (l.length : Int) = (f.blocks[to.toNat]?.getD default).params := by
 by_cases hn : (to < 0 ∨ (f.blocks.length : Int) ≤ to) ∨ ¬ (l.length : Int) = (f.blocks[to.toNat]?.getD default).params
 ·rw [goesB_out hn] at h; cases h
 ·exact ⟨by omega, by omega, by omega⟩
theorem endB_parts {f : Func} {b : Block} (h : endB f b = true) : (b.kind = 1 ∧ goesB f b.to b.args (b.params + b.ins.length) = true) ∨ (b.kind = 2 ∧ 0 ≤ b.ta ∧ b.ta < b.params + b.ins.length ∧ goesB f b.to b.args (b.params + b.ins.length) = true ∧ goesB f b.els b.elses (b.params + b.ins.length) = true) ∨
  (b.kind = 3 ∧ 0 ≤ b.ta ∧ b.ta < b.params + b.ins.length) := by
 by_cases h1 : b.kind = 1
 ·rw [endB_jump h1] at h
  simp only [Bool.and_eq_true] at h
  exact .inl ⟨h1, h.1.1.1⟩
 by_cases h2 : b.kind = 2
 ·rw [endB_if h2] at h
  simp only [Bool.and_eq_true, decide_eq_true_eq] at h
  exact .inr (.inl ⟨h2, h.1.1.1, h.1.1.2, h.1.2, h.2⟩)
 ·rw [endB_other h1 h2] at h
  simp only [Bool.and_eq_true, decide_eq_true_eq, beq_iff_eq] at h
  exact .inr (.inr ⟨h.1.1.1.1.1, h.1.1.1.1.2⟩)
theorem allIns_le {f : Func} (h : funcOk f = true) : (allIns f).length ≤ 512 := by
  have hb := funcOk_len h
  have key : ∀ l : List Block, (∀ b ∈ l, b.ins.length ≤ 32) → (l.flatMap (·.ins)).length ≤ l.length * 32 := by
    intro l
    induction l with
    | nil => intro _; simp
    | cons b l ih =>
      intro hl
      have h1 := hl b (by simp)
      have h2 := ih fun c hc => hl c (by simp [hc])
      simp only [List.flatMap_cons, List.length_append, List.length_cons]
      omega
  have := key f.blocks fun b hb => by
    obtain ⟨k, hk, rfl⟩ := List.getElem_of_mem hb
    exact (blockOk_parts (funcOk_block h hk)).2.2.1
  unfold allIns
  omega
end Go.Proofs.Ytgadlpdbkohlbaa
/- Contracts by the evaluator: the document's layer 5, names. -/
namespace Go.Proofs.Ytgadlpdbkohlbaa
open Go.RowKit
end Go.Proofs.Ytgadlpdbkohlbaa
/- Contracts by the evaluator: the document's layer 5, is a module right? -/
namespace Go.Proofs.Ytgadlpdbkohlbaa
open Go.RowKit
def fnT (m : Module) (k : Nat) : List ByteArray := (fnames m).take k
def gnT (m : Module) (k : Nat) : List ByteArray := fnames m ++ (gnames m).take k
@[simp] theorem fnT_zero (m : Module) : fnT m 0 = [] := rfl
theorem fnT_succ {m : Module} {k : Nat} (hk : k < m.funcs.length) : fnT m (k + 1) = fnT m k ++ [m.funcs[k].name] := by
 unfold fnT fnames
 rw [List.take_succ_eq_append_getElem (by simpa using hk)]
 simp
theorem fnT_all {m : Module} {k : Nat} (hk : m.funcs.length ≤ k) : fnT m k = gnT m 0 := by
 unfold fnT gnT
 rw [List.take_of_length_le (by simpa [fnames] using hk)]
 simp
theorem fnT_length (m : Module) (k : Nat) : (fnT m k).length ≤ k := by
 unfold fnT
 simp
 omega
theorem gnT_succ {m : Module} {k : Nat} (hk : k < m.globs.length) : gnT m (k + 1) = gnT m k ++ [m.globs[k].name] := by
 unfold gnT gnames
 rw [List.take_succ_eq_append_getElem (by simpa using hk)]
 simp
theorem gnT_all {m : Module} {k : Nat} (hk : m.globs.length ≤ k) : gnT m k = namesM m := by
 unfold gnT namesM
 rw [List.take_of_length_le (by simpa [gnames] using hk)]
theorem gnT_length (m : Module) (k : Nat) : (gnT m k).length ≤ m.funcs.length + k := by
 unfold gnT fnames
 simp
 omega
def InvS (m : Module) (l : List Inst) (o : Bool) : Prop := o = l.any (oddI m) ∧ l.any (missI m) = false
theorem InvS.start (m : Module) : InvS m [] false := ⟨rfl, rfl⟩
theorem InvS.snoc {m : Module} {l : List Inst} {o : Bool} {i : Inst} (h : InvS m l o) (hm : missI m i = false) : InvS m (l ++ [i]) (o || oddI m i) := by
 obtain ⟨h1, h2⟩ := h
 refine ⟨?_, ?_⟩
 ·rw [List.any_append, ← h1]; simp
 ·rw [List.any_append, h2]; simp [hm]
theorem InvS.all {m : Module} {o : Bool} (h : InvS m (insM m) o) : refsE m = if o = true then 1 else 0 := by
 obtain ⟨h1, h2⟩ := h
 unfold refsE
 rw [h2, ← h1]
 simp
end Go.Proofs.Ytgadlpdbkohlbaa
namespace Go.Proofs.Ytgadlpdbkohlbaa
open Go.RowKit
def findF (m : Module) (s : ByteArray) : Option Func := m.funcs.find? fun f => decide (f.name = s)
theorem find_idx {α : Type} (p : α → Bool) : ∀ xs : List α, (∃ k, ∃ hk : k < xs.length, findI p xs = k ∧ xs.find? p = some xs[k]) ∨ (findI p xs = -1 ∧ xs.find? p = none)
  | [] => .inr ⟨rfl, rfl⟩
  | x :: xs => by
    by_cases hx : p x = true
    · exact .inl ⟨0, by simp, findI_hit (k := 0) (by simp) (fun i _ hi => by omega) hx, by simp [hx]⟩
    · have hx' : p x = false := by simpa using hx
      rcases find_idx p xs with ⟨k, hk, h1, h2⟩ | ⟨h1, h2⟩
      · refine .inl ⟨k + 1, by simpa using hk, ?_, by simp [hx', h2]⟩
        unfold findI at h1 ⊢
        rw [List.findIdx?_cons, hx']
        cases hf : xs.findIdx? p with
        | none => rw [hf] at h1; simp at h1
        | some i => rw [hf] at h1; simp at h1 ⊢; omega
      · refine .inr ⟨?_, by simp [hx', h2]⟩
        unfold findI at h1 ⊢
        rw [List.findIdx?_cons, hx']
        cases hf : xs.findIdx? p with
        | none => simp
        | some i => rw [hf] at h1; simp at h1
theorem leads_eq (m : Module) (s : ByteArray) : (∃ k, ∃ hk : k < m.funcs.length, findI (fun f => decide (f.name = s)) m.funcs = k ∧ findF m s = some m.funcs[k]) ∨ (findI (fun f => decide (f.name = s)) m.funcs = -1 ∧ findF m s = none) := find_idx _ _
def findG (m : Module) (s : ByteArray) : Option Glob := m.globs.find? fun g => decide (g.name = s)
theorem leadsG_eq (m : Module) (s : ByteArray) : (∃ k, ∃ hk : k < m.globs.length, findI (fun f : Glob => decide (f.name = s)) m.globs = k ∧ findG m s = some m.globs[k]) ∨ (findI (fun f : Glob => decide (f.name = s)) m.globs = -1 ∧ findG m s = none) := find_idx _ _
theorem findF_uniq {m : Module} (h : ModOk m) {f : Func} (hf : f ∈ m.funcs) : findF m f.name = some f := by
  unfold findF
  cases hx : m.funcs.find? fun g => decide (g.name = f.name) with
  | none =>
    have := List.find?_eq_none.1 hx f hf
    simp at this
  | some g =>
    have h1 := List.mem_of_find?_eq_some hx
    have h2 : g.name = f.name := by simpa using List.find?_some hx
    rw [name_uniq h.fnodup h1 hf h2]
def refsA (l : List Func) : List ByteArray := l.flatMap fun f => namesOf (allIns f)
theorem refsA_append (l l' : List Func) : refsA (l ++ l') = refsA l ++ refsA l' := by simp [refsA]
def mainS : ByteArray := ⟨#[109, 97, 105, 110]⟩
def thereB (m : Module) (s : ByteArray) : Bool := match findF m s with
  | some f => decide (f.blocks.length ≠ 0)
  | none => match findG m s with
    | some g => g.here
    | none => false
def mainB (m : Module) : Bool := match findF m mainS with
 | some f => decide (f.blocks.length ≠ 0) && decide (f.params = 0)
 | none => false
def wholeE (m : Module) : Int := if checkE m ≠ 0 then checkE m else if mainB m = true then (if (refsA m.funcs).all (thereB m) = true then 0 else 8) else 11
theorem wholeE_zero {m : Module} : wholeE m = 0 ↔ ModOk m ∧ mainB m = true ∧ ∀ s ∈ refsA m.funcs, thereB m s = true := by
 unfold wholeE
 split
 ·rename_i h
  exact ⟨fun h' => absurd h' h, fun h' => absurd (checkE_zero.2 h'.1) h⟩
 ·rename_i h
  have hok := checkE_zero.1 (Classical.not_not.1 h)
  split
  ·rename_i hm
   split
   ·rename_i ha
    exact ⟨fun _ => ⟨hok, hm, List.all_eq_true.1 ha⟩, fun _ => rfl⟩
   ·rename_i ha
    exact ⟨fun h' => (by cases h'), fun h' => absurd (List.all_eq_true.2 h'.2.2) ha⟩
  ·rename_i hm
   exact ⟨fun h' => (by cases h'), fun h' => absurd h'.2.1 hm⟩
structure Small (m : Module) : Prop where
 len : m.funcs.length + m.globs.length ≤ 1048576
 ins : ∀ f ∈ m.funcs, (allIns f).length ≤ 1048576
 blks : ∀ f ∈ m.funcs, f.blocks.length ≤ 1048576
 args : ∀ f ∈ m.funcs, ∀ b ∈ f.blocks, ∀ i ∈ b.ins, i.args.length ≤ 17592186044416
def wrapU (n : Int) : Int := IntKind.u64.wrap n
def powI : Nat → Int
 | 0 => 1
 | n + 1 => wrapU (powI n + powI n)
def reckI (op a b : Int) : Int :=
 if op = 2 then wrapU (a + b) else if op = 3 then wrapU (a - b) else if op = 4 then wrapU (a * b)
 else if op = 5 then wrapU (((a % 2 ^ IntKind.u64.bits).toNat &&& (b % 2 ^ IntKind.u64.bits).toNat : Nat) : Int)
 else if op = 6 then wrapU (((a % 2 ^ IntKind.u64.bits).toNat ||| (b % 2 ^ IntKind.u64.bits).toNat : Nat) : Int)
 else if op = 7 then wrapU (((a % 2 ^ IntKind.u64.bits).toNat ^^^ (b % 2 ^ IntKind.u64.bits).toNat : Nat) : Int)
 else if op = 8 then wrapU (a * powI (b.tmod 64).toNat)
 else if op = 9 then wrapU (a.tdiv (powI (b.tmod 64).toNat))
 else if op = 10 ∧ a < b ∨ op = 11 ∧ a = b then 1 else 0
structure Wd where
 ended : Bool
 code : Int
 out : ByteArray
 read : Nat
 steps : Nat
 deep : Nat
 globs : List Int
 bad : Int
def valAt (l : List Int) (i : Int) : Int := l[i.toNat]?.getD 0
def pickI (vals l : List Int) : List Int := l.map (valAt vals)
def globI (m : Module) (s : ByteArray) : Int := findI (fun g : Glob => decide (g.name = s)) m.globs
def byteS (v : Int) : ByteArray := pushB [IntKind.u8.wrap (v.tmod 256)]
def stepW (fuel : Nat) (w : Wd) : Wd := if w.steps = fuel then { w with bad := 12 } else { w with steps := w.steps + 1 }
def givesW (m : Module) (inp : ByteArray) (x : Inst) (vals : List Int) (w : Wd) : Wd × Int :=
 if x.op = 1 then (w, x.k)
 else if x.op = 12 then (w, valAt w.globs (globI m x.name))
 else if x.op = 13 then ({ w with globs := w.globs.set (globI m x.name).toNat (valAt vals x.a) }, 0)
 else if x.op = 15 then (if inp.size ≤ w.read then (w, 256) else ({ w with read := w.read + 1 }, wrapU ((inp[w.read]?).getD 0).toNat))
 else if x.op = 16 then ({ w with out := w.out ++ byteS (valAt vals x.a) }, 0)
 else (w, reckI x.op (valAt vals x.a) (valAt vals x.b))
def funcOf (m : Module) (s : ByteArray) : Func := (findF m s).getD default
def enterW (n : Nat) (w : Wd) : Wd := if w.deep < n then { w with deep := n } else w
def goR (m : Module) (inp : ByteArray) (fuel deep : Nat) : Nat → Wd → Func → Nat → Nat → List Int → Nat → Wd × Int
  | 0, w, _, _, _, _, _ => (w, 0)
  | g + 1, w, f, at', i, vals, n =>
    let b := f.blocks[at']?.getD default
    let w1 := stepW fuel w
    if w1.bad ≠ 0 then (w1, 0)
    else if i < b.ins.length then
      let x := b.ins[i]?.getD default
      if x.op = 14 then
        if n = deep then ({ w1 with bad := 13 }, 0)
        else
          let r := goR m inp fuel deep g (enterW (n + 1) w1) (funcOf m x.name) 0 0 (pickI vals x.args) (n + 1)
          if r.1.bad ≠ 0 then (r.1, 0) else goR m inp fuel deep g r.1 f at' (i + 1) (vals ++ [r.2]) n
      else
        let r := givesW m inp x vals w1
        goR m inp fuel deep g r.1 f at' (i + 1) (vals ++ [r.2]) n
    else if b.kind = 3 then (w1, valAt vals b.ta)
    else if b.kind = 2 ∧ valAt vals b.ta = 0 then goR m inp fuel deep g w1 f b.els.toNat 0 (pickI vals b.elses) n
    else goR m inp fuel deep g w1 f b.to.toNat 0 (pickI vals b.args) n
def startW (m : Module) : Wd := ⟨false, 0, ⟨#[]⟩, 0, 0, 0, m.globs.map fun g => (g.init : Int), 0⟩
def runR (m : Module) (inp : ByteArray) (fuel deep : Nat) : Wd :=
 let r := goR m inp fuel deep (fuel + 1) (enterW 1 (startW m)) (funcOf m mainS) 0 0 [] 1
 if r.1.bad ≠ 0 then r.1 else { r.1 with ended := true, code := r.2 }
structure Good (m : Module) (fuel : Nat) (w : Wd) : Prop where
 bad : w.bad = 0
 steps : w.steps ≤ fuel
 out : w.out.size ≤ w.steps
 globs : w.globs.length = m.globs.length
 pos : ∀ v ∈ w.globs, 0 ≤ v
 read : w.read ≤ w.steps
 ended : w.ended = false
 code : w.code = 0
theorem wrapU_nonneg (n : Int) : 0 ≤ wrapU n := by
 unfold wrapU IntKind.wrap
 simp only [show IntKind.u64.signed = false from rfl, Bool.false_and, if_neg (by simp : ¬ false = true)]
 exact Int.emod_nonneg _ (by decide)
theorem reckI_nonneg (op a b : Int) : 0 ≤ reckI op a b := by
 unfold reckI
 repeat' split
 all_goals first | exact wrapU_nonneg _ | omega
theorem valAt_nonneg {l : List Int} (h : ∀ v ∈ l, 0 ≤ v) (i : Int) : 0 ≤ valAt l i := by
 unfold valAt
 cases hx : l[i.toNat]? with
 | none => simp
 | some v => exact h v (List.mem_of_getElem? hx)
theorem pickI_nonneg {l : List Int} (h : ∀ v ∈ l, 0 ≤ v) (k : List Int) : ∀ v ∈ pickI l k, 0 ≤ v := by
 intro v hv
 obtain ⟨i, _, rfl⟩ := List.mem_map.1 hv
 exact valAt_nonneg h i
@[simp] theorem pickI_length (l k : List Int) : (pickI l k).length = k.length := by simp [pickI]
theorem byteS_size (v : Int) : (byteS v).size = 1 := rfl
theorem stepW_bad {fuel : Nat} {w : Wd} (h : w.bad = 0) : (stepW fuel w).bad ≠ 0 ↔ w.steps = fuel := by
 unfold stepW
 split <;> rename_i hs <;> simp [hs, h]
theorem stepW_go {fuel : Nat} {w : Wd} (h : ¬ w.steps = fuel) : stepW fuel w = { w with steps := w.steps + 1 } := by
 unfold stepW
 rw [if_neg h]
theorem Good.step {m : Module} {fuel : Nat} {w : Wd} (h : Good m fuel w) (hs : ¬ w.steps = fuel) : Good m fuel (stepW fuel w) := by
 rw [stepW_go hs]
 have := h.steps
 have := h.out
 have := h.read
 exact ⟨h.bad, by simp only []; omega, by simp only []; omega, h.globs, h.pos, by simp only []; omega, h.ended, h.code⟩
theorem Good.enter {m : Module} {fuel : Nat} {w : Wd} (h : Good m fuel w) (n : Nat) : Good m fuel (enterW n w) := by
 unfold enterW
 split
 ·exact ⟨h.bad, h.steps, h.out, h.globs, h.pos, h.read, h.ended, h.code⟩
 ·exact h
@[simp] theorem enterW_steps (n : Nat) (w : Wd) : (enterW n w).steps = w.steps := by unfold enterW; split <;> rfl
theorem Good.gives {m : Module} {fuel : Nat} {w : Wd} (h : Good m fuel w) (hs : ¬ w.steps = fuel) (inp : ByteArray) (x : Inst) {vals : List Int} (hv : ∀ v ∈ vals, 0 ≤ v) :
  Good m fuel (givesW m inp x vals (stepW fuel w)).1 ∧ 0 ≤ (givesW m inp x vals (stepW fuel w)).2 ∧ (givesW m inp x vals (stepW fuel w)).1.steps = w.steps + 1 := by
 have hg := h.step hs
 rw [stepW_go hs] at hg ⊢
 have h1 := h.steps
 have h2 := h.out
 have h3 := h.read
 unfold givesW
 split
 ·exact ⟨hg, by simp only []; omega, rfl⟩
 split
 ·exact ⟨hg, valAt_nonneg hg.pos _, rfl⟩
 split
 ·refine ⟨⟨hg.bad, hg.steps, hg.out, by simp only [List.length_set]; exact h.globs, fun v hv' => ?_, hg.read, hg.ended, hg.code⟩, by simp only []; omega, rfl⟩
  rcases List.mem_or_eq_of_mem_set hv' with h' | h'
  ·exact h.pos v h'
  ·rw [h']; exact valAt_nonneg hv _
 split
 ·split
  ·exact ⟨hg, by simp only []; omega, rfl⟩
  ·exact ⟨⟨hg.bad, hg.steps, hg.out, hg.globs, hg.pos, by simp only []; omega, hg.ended, hg.code⟩, wrapU_nonneg _, rfl⟩
 split
 ·refine ⟨⟨hg.bad, hg.steps, ?_, hg.globs, hg.pos, hg.read, hg.ended, hg.code⟩, by simp only []; omega, rfl⟩
  simp only [ByteArray.size_append, byteS_size]
  omega
 ·exact ⟨hg, reckI_nonneg _ _ _, rfl⟩
theorem goR_good {m : Module} {inp : ByteArray} {fuel deep : Nat} : ∀ (g : Nat) (w : Wd) (f : Func) (at' i : Nat) (vals : List Int) (n : Nat), Good m fuel w → (∀ v ∈ vals, 0 ≤ v) →
    w.steps ≤ (goR m inp fuel deep g w f at' i vals n).1.steps ∧ (goR m inp fuel deep g w f at' i vals n).1.steps ≤ fuel ∧ ((goR m inp fuel deep g w f at' i vals n).1.bad = 0 → Good m fuel (goR m inp fuel deep g w f at' i vals n).1) ∧ 0 ≤ (goR m inp fuel deep g w f at' i vals n).2 ∧
    (goR m inp fuel deep g w f at' i vals n).1.globs.length = m.globs.length := by
  intro g
  induction g with
  | zero => intro w f at' i vals n h hv; exact ⟨Nat.le_refl _, h.steps, fun _ => h, Int.le_refl _, h.globs⟩
  | succ g ih =>
    intro w f at' i vals n h hv
    by_cases hs : w.steps = fuel
    · have hb := (stepW_bad (fuel := fuel) h.bad).2 hs
      have e : goR m inp fuel deep (g + 1) w f at' i vals n = (stepW fuel w, 0) := by rw [goR]; exact if_pos hb
      rw [e]
      have e2 : (stepW fuel w).steps = w.steps := by unfold stepW; rw [if_pos hs]
      have e3 : (stepW fuel w).globs = w.globs := by unfold stepW; rw [if_pos hs]
      exact ⟨by simp only [e2]; omega, by simp only [e2]; exact h.steps, fun h' => absurd h' hb, Int.le_refl _, by simp only [e3]; exact h.globs⟩
    · have hb : ¬ (stepW fuel w).bad ≠ 0 := fun h' => hs ((stepW_bad h.bad).1 h')
      have hg := h.step hs
      have hst : (stepW fuel w).steps = w.steps + 1 := by rw [stepW_go hs]
      rw [goR]
      simp only [if_neg hb]
      split
      · split
        · split
          · exact ⟨by simp only [hst]; omega, hg.steps, fun h' => by simp at h', Int.le_refl _, hg.globs⟩
          · obtain ⟨a1, a2, a3, a4, a5⟩ := ih (enterW (n + 1) (stepW fuel w)) (funcOf m (((f.blocks[at']?.getD default).ins[i]?.getD default).name)) 0 0 (pickI vals ((f.blocks[at']?.getD default).ins[i]?.getD default).args) (n + 1) (hg.enter _) (pickI_nonneg hv _)
            rw [enterW_steps, hst] at a1
            split
            · rename_i hr
              exact ⟨Nat.le_of_succ_le a1, a2, fun h' => absurd h' hr, Int.le_refl _, a5⟩
            · rename_i hr
              have hr' := Classical.not_not.1 hr
              obtain ⟨b1, b2, b3, b4, b5⟩ := ih _ f at' (i + 1) _ n (a3 hr') (fun v hv' => by
                rcases List.mem_append.1 hv' with hv' | hv'
                · exact hv v hv'
                · rw [List.mem_singleton.1 hv']; exact a4)
              exact ⟨by omega, b2, b3, b4, b5⟩
        · obtain ⟨c1, c2, c3⟩ := h.gives hs inp ((f.blocks[at']?.getD default).ins[i]?.getD default) hv
          obtain ⟨b1, b2, b3, b4, b5⟩ := ih _ f at' (i + 1) (vals ++ [(givesW m inp ((f.blocks[at']?.getD default).ins[i]?.getD default) vals (stepW fuel w)).2]) n c1 (fun v hv' => by
            rcases List.mem_append.1 hv' with hv' | hv'
            · exact hv v hv'
            · rw [List.mem_singleton.1 hv']; exact c2)
          exact ⟨by omega, b2, b3, b4, b5⟩
      · split
        · exact ⟨by simp only [hst]; omega, hg.steps, fun _ => hg, valAt_nonneg hv _, hg.globs⟩
        · split
          · obtain ⟨b1, b2, b3, b4, b5⟩ := ih (stepW fuel w) f (f.blocks[at']?.getD default).els.toNat 0 (pickI vals (f.blocks[at']?.getD default).elses) n hg (pickI_nonneg hv _)
            exact ⟨by omega, b2, b3, b4, b5⟩
          · obtain ⟨b1, b2, b3, b4, b5⟩ := ih (stepW fuel w) f (f.blocks[at']?.getD default).to.toNat 0 (pickI vals (f.blocks[at']?.getD default).args) n hg (pickI_nonneg hv _)
            exact ⟨by omega, b2, b3, b4, b5⟩
theorem goR_gas {m : Module} {inp : ByteArray} {fuel deep : Nat} : ∀ (g g' : Nat) (w : Wd) (f : Func) (at' i : Nat) (vals : List Int) (n : Nat), Good m fuel w → (∀ v ∈ vals, 0 ≤ v) → fuel < g + w.steps → fuel < g' + w.steps →
    goR m inp fuel deep g w f at' i vals n = goR m inp fuel deep g' w f at' i vals n := by
  intro g
  induction g with
  | zero => intro g' w f at' i vals n h _ h1; have := h.steps; omega
  | succ g ih =>
    intro g' w f at' i vals n h hv h1 h2
    cases g' with
    | zero => have := h.steps; omega
    | succ g' =>
      by_cases hs : w.steps = fuel
      · have hb := (stepW_bad (fuel := fuel) h.bad).2 hs
        rw [goR, goR]
        simp only [if_pos hb]
      · have hb : ¬ (stepW fuel w).bad ≠ 0 := fun h' => hs ((stepW_bad h.bad).1 h')
        have hg := h.step hs
        have hst : (stepW fuel w).steps = w.steps + 1 := by rw [stepW_go hs]
        rw [goR, goR]
        simp only [if_neg hb]
        split
        · split
          · split
            · rfl
            · have hge := hg.enter (n + 1)
              have hpn := pickI_nonneg hv ((f.blocks[at']?.getD default).ins[i]?.getD default).args
              have e := ih g' (enterW (n + 1) (stepW fuel w)) (funcOf m (((f.blocks[at']?.getD default).ins[i]?.getD default).name)) 0 0 _ (n + 1) hge hpn (by rw [enterW_steps]; omega) (by rw [enterW_steps]; omega)
              rw [e]
              obtain ⟨a1, a2, a3, a4, a5⟩ := goR_good (inp := inp) (deep := deep) g' (enterW (n + 1) (stepW fuel w)) (funcOf m (((f.blocks[at']?.getD default).ins[i]?.getD default).name)) 0 0 _ (n + 1) hge hpn
              rw [enterW_steps, hst] at a1
              split
              · rfl
              · rename_i hr
                have hr' := Classical.not_not.1 hr
                refine ih g' _ f at' (i + 1) _ n (a3 hr') (fun v hv' => ?_) (by omega) (by omega)
                rcases List.mem_append.1 hv' with hv' | hv'
                · exact hv v hv'
                · rw [List.mem_singleton.1 hv']; exact a4
          · obtain ⟨c1, c2, c3⟩ := h.gives hs inp ((f.blocks[at']?.getD default).ins[i]?.getD default) hv
            refine ih g' _ f at' (i + 1) _ n c1 (fun v hv' => ?_) (by omega) (by omega)
            rcases List.mem_append.1 hv' with hv' | hv'
            · exact hv v hv'
            · rw [List.mem_singleton.1 hv']; exact c2
        · split
          · rfl
          · split
            · exact ih g' _ f _ 0 _ n hg (pickI_nonneg hv _) (by omega) (by omega)
            · exact ih g' _ f _ 0 _ n hg (pickI_nonneg hv _) (by omega) (by omega)
def goF (m : Module) (inp : ByteArray) (fuel deep : Nat) (w : Wd) (f : Func) (at' i : Nat) (vals : List Int) (n : Nat) : Wd × Int := goR m inp fuel deep (fuel + 1) w f at' i vals n
section
variable {m : Module} {inp : ByteArray} {fuel deep : Nat} {w : Wd} {f : Func} {at' i : Nat} {vals : List Int} {n : Nat}
theorem goF_gas (h : Good m fuel w) (hv : ∀ v ∈ vals, 0 ≤ v) (h0 : 0 < w.steps) : goR m inp fuel deep fuel w f at' i vals n = goF m inp fuel deep w f at' i vals n := goR_gas _ _ w f at' i vals n h hv (by omega) (by omega)
theorem goF_go (h : Good m fuel w) (hs : ¬ w.steps = fuel) : ¬ (stepW fuel w).bad ≠ 0 := fun h' => hs ((stepW_bad h.bad).1 h')
theorem step_pos (h : Good m fuel w) (hs : ¬ w.steps = fuel) : 0 < (stepW fuel w).steps := by rw [stepW_go hs]; simp
theorem goF_call {b : Block} {x : Inst} (h : Good m fuel w) (hv : ∀ v ∈ vals, 0 ≤ v) (hs : ¬ w.steps = fuel) (hb : f.blocks[at']? = some b) (hx : b.ins[i]? = some x) (h14 : x.op = 14) (hd : ¬ n = deep) {r : Wd × Int}
  (hr : goF m inp fuel deep (enterW (n + 1) (stepW fuel w)) (funcOf m x.name) 0 0 (pickI vals x.args) (n + 1) = r) : goF m inp fuel deep w f at' i vals n = if r.1.bad ≠ 0 then (r.1, 0) else goF m inp fuel deep r.1 f at' (i + 1) (vals ++ [r.2]) n := by
 have hi : i < b.ins.length := (List.getElem?_eq_some_iff.1 hx).1
 have hg := h.step hs
 have hp := step_pos h hs
 have e : goF m inp fuel deep w f at' i vals n = (let r := goR m inp fuel deep fuel (enterW (n + 1) (stepW fuel w)) (funcOf m x.name) 0 0 (pickI vals x.args) (n + 1)
   if r.1.bad ≠ 0 then (r.1, 0) else goR m inp fuel deep fuel r.1 f at' (i + 1) (vals ++ [r.2]) n) := by
  unfold goF
  rw [goR]
  simp only [if_neg (goF_go h hs), hb, Option.getD_some, if_pos hi, hx, if_pos h14, if_neg hd]
 rw [e, goF_gas (hg.enter _) (pickI_nonneg hv _) (by rw [enterW_steps]; exact hp), hr]
 simp only
 by_cases hbad : r.1.bad ≠ 0
 ·rw [if_pos hbad, if_pos hbad]
 ·rw [if_neg hbad, if_neg hbad]
  obtain ⟨a1, a2, a3, a4, a5⟩ := goR_good (inp := inp) (deep := deep) (fuel + 1) (enterW (n + 1) (stepW fuel w)) (funcOf m x.name) 0 0 (pickI vals x.args) (n + 1) (hg.enter _) (pickI_nonneg hv _)
  rw [show goR m inp fuel deep (fuel + 1) (enterW (n + 1) (stepW fuel w)) (funcOf m x.name) 0 0 (pickI vals x.args) (n + 1) = r from hr] at a1 a2 a3 a4
  rw [enterW_steps] at a1
  exact goF_gas (a3 (Classical.not_not.1 hbad)) (fun v hv' => by
   rcases List.mem_append.1 hv' with hv' | hv'
   ·exact hv v hv'
   ·rw [List.mem_singleton.1 hv']; exact a4) (by omega)
end
theorem goesB_belowB {f : Func} {to : Int} {l : List Int} {n : Int} (h : goesB f to l n = true) : belowB l n = true := by
 have := goesB_parts h
 rw [goesB_in this.1 this.2.1 this.2.2] at h
 exact h
theorem goes_there {f : Func} (hfo : funcOk f = true) {to : Int} {l : List Int} {n : Int} (h : goesB f to l n = true) : 0 ≤ to ∧ (∃ b, f.blocks[to.toNat]? = some b ∧ (l.length : Int) = b.params) ∧ l.length ≤ 6 := by
 obtain ⟨h1, h2, h3⟩ := goesB_parts h
 have hlt : to.toNat < f.blocks.length := by omega
 have hb := blockOk_parts (funcOk_block hfo hlt)
 rw [List.getElem?_eq_getElem hlt] at h3
 simp only [Option.getD_some] at h3
 exact ⟨h1, ⟨_, List.getElem?_eq_getElem hlt, h3⟩, by omega⟩
theorem valAt_set (l : List Int) (k : Nat) (v i : Int) : valAt (l.set k v) i = if i.toNat = k ∧ k < l.length then v else valAt l i := by
 unfold valAt
 rw [List.getElem?_set]
 by_cases h : k = i.toNat
 ·subst h
  by_cases hk : i.toNat < l.length
  ·simp [hk]
  ·simp [hk]
 ·rw [if_neg h, if_neg (fun h' => h h'.1.symm)]
theorem globI_at {m : Module} {s : ByteArray} (h : ∃ g ∈ m.globs, g.name = s) : ∃ k, ∃ hk : k < m.globs.length, globI m s = k ∧ findG m s = some m.globs[k] ∧ m.globs[k].name = s := by
 rcases leadsG_eq m s with ⟨k, hk, h1, h2⟩ | ⟨_, h2⟩
 ·exact ⟨k, hk, h1, h2, by simpa using List.find?_some h2⟩
 ·obtain ⟨g, hg, hn⟩ := h
  have := List.find?_eq_none.1 h2 g hg
  simp [hn] at this
def ArgsOk (m : Module) : Prop := ∀ f ∈ m.funcs, ∀ b ∈ f.blocks, ∀ i ∈ b.ins, i.args.length ≤ 17592186044416
theorem small_ok {m : Module} (h : ModOk m) : Small m where
 len := by have h1 := h.nf; have h2 := h.ng; omega
 ins := fun f hf => Nat.le_trans (allIns_le (h.funcs f hf)) (by omega)
 blks := fun f hf => Nat.le_trans (funcOk_len (h.funcs f hf)) (by omega)
 args := fun f hf b hb i hi => by
  have hbk := List.all_eq_true.1 (funcOk_all (h.funcs f hf)) b hb
  obtain ⟨_, _, _, hins, _⟩ := blockOk_parts hbk
  obtain ⟨k, hk, rfl⟩ := List.getElem_of_mem hi
  have := instOk_args (hins k hk)
  omega
theorem startW_good (m : Module) (fuel : Nat) : Good m fuel (startW m) :=
 ⟨rfl, Nat.zero_le _, Nat.le_refl _, by simp [startW], fun v hv => by
  obtain ⟨g, _, rfl⟩ := List.mem_map.1 hv
  exact Int.natCast_nonneg _, Nat.le_refl _, rfl, rfl⟩
end Go.Proofs.Ytgadlpdbkohlbaa
namespace Go.Proofs.Ytgadlpdbkohlbaa
open Go.RowKit
structure WR (w w2 : Wd) : Prop where
 out : w2.out = w.out
 read : w2.read = w.read
 globs : w2.globs = w.globs
 steps : w2.steps ≤ w.steps
 deep : w2.deep ≤ w.deep
theorem WR.refl (w : Wd) : WR w w := ⟨rfl, rfl, rfl, Nat.le_refl _, Nat.le_refl _⟩
section
variable {m m2 : Module} {inp : ByteArray} {fuel deep : Nat} {w w2 : Wd}
theorem WR.lt (h : WR w w2) (hg : Good m fuel w) (hs : ¬ w.steps = fuel) : ¬ w2.steps = fuel := by
 have := h.steps
 have := hg.steps
 omega
theorem WR.step (h : WR w w2) (hs : ¬ w.steps = fuel) (hs2 : ¬ w2.steps = fuel) : WR (stepW fuel w) (stepW fuel w2) := by
 rw [stepW_go hs, stepW_go hs2]
 exact ⟨h.out, h.read, h.globs, by have := h.steps; simp only; omega, h.deep⟩
theorem WR.enter (h : WR w w2) (n : Nat) : WR (enterW n w) (enterW n w2) := by
 have hd := h.deep
 unfold enterW
 split
 ·split
  ·exact ⟨h.out, h.read, h.globs, h.steps, Nat.le_refl _⟩
  ·exact ⟨h.out, h.read, h.globs, h.steps, by simp only; omega⟩
 ·split
  ·exact ⟨h.out, h.read, h.globs, h.steps, by simp only; omega⟩
  ·exact h
theorem globI_congr (hg : m2.globs = m.globs) (s : ByteArray) : globI m2 s = globI m s := by unfold globI; rw [hg]
theorem WR.gives (hg : m2.globs = m.globs) (h : WR w w2) (inp : ByteArray) {x x2 : Inst} {vals vals2 : List Int} (h1 : x2.op = x.op) (h2 : x2.name = x.name) (h3 : x2.k = x.k)
  (ha : isOne x.op = true → valAt vals2 x2.a = valAt vals x.a) (hb : isTwo x.op = true → valAt vals2 x2.b = valAt vals x.b) (hop : 1 ≤ x.op ∧ x.op ≤ 16 ∧ x.op ≠ 14) : WR (givesW m inp x vals w).1 (givesW m2 inp x2 vals2 w2).1 ∧ (givesW m2 inp x2 vals2 w2).2 = (givesW m inp x vals w).2 := by
 unfold givesW
 rw [h1, h2, h3, globI_congr hg]
 split
 ·exact ⟨h, rfl⟩
 split
 ·exact ⟨h, by rw [h.globs]⟩
 split
 ·rename_i h13
  exact ⟨⟨h.out, h.read, by simp only; rw [h.globs, ha (by rw [h13]; rfl)], h.steps, h.deep⟩, rfl⟩
 split
 ·rw [h.read]
  split
  ·exact ⟨h, rfl⟩
  ·exact ⟨⟨h.out, rfl, h.globs, h.steps, h.deep⟩, rfl⟩
 split
 ·rename_i h16
  exact ⟨⟨by simp only; rw [h.out, ha (by rw [h16]; rfl)], h.read, h.globs, h.steps, h.deep⟩, rfl⟩
 ·have h2 : 2 ≤ x.op ∧ x.op ≤ 11 := by omega
  exact ⟨h, by simp only; rw [ha ((isOne_iff _).2 (.inl h2)), hb ((isTwo_iff _).2 h2)]⟩
end
abbrev St4 := Func → Nat → Nat → List Int → Func → Nat → Nat → List Int → Prop
structure Valid (m : Module) (f : Func) (at' i : Nat) (vals : List Int) (b : Block) : Prop where
 mem : f ∈ m.funcs
 blk : f.blocks[at']? = some b
 len : (vals.length : Int) = b.params + i
 le : i ≤ b.ins.length
def Pos (l : List Int) : Prop := ∀ v ∈ l, 0 ≤ v
theorem Pos.snoc {l : List Int} {v : Int} (h : Pos l) (hv : 0 ≤ v) : Pos (l ++ [v]) := fun x hx => by
 rcases List.mem_append.1 hx with hx | hx
 ·exact h x hx
 ·rw [List.mem_singleton.1 hx]; exact hv
structure SimOk (m m2 : Module) (inp : ByteArray) (fuel deep : Nat) (R : St4) : Prop where
 entry : ∀ (f : Func) (args : List Int), f ∈ m.funcs → 0 < f.blocks.length → (args.length : Int) = f.params → R f 0 0 args (funcOf m2 f.name) 0 0 args
 plain : ∀ {w w2 : Wd} {f : Func} {at' i : Nat} {vals : List Int} {f2 : Func} {at2 i2 : Nat} {vals2 : List Int} {n : Nat} {b : Block} {x : Inst}, R f at' i vals f2 at2 i2 vals2 → Valid m f at' i vals b → Pos vals → Pos vals2 → Good m fuel w → Good m2 fuel w2 → WR w w2 → b.ins[i]? = some x → ¬ x.op = 14 → ¬ w.steps = fuel →
  ∃ w2' i2' vals2', Good m2 fuel w2' ∧ Pos vals2' ∧ WR (givesW m inp x vals (stepW fuel w)).1 w2' ∧ R f at' (i + 1) (vals ++ [(givesW m inp x vals (stepW fuel w)).2]) f2 at2 i2' vals2' ∧ goF m2 inp fuel deep w2 f2 at2 i2 vals2 n = goF m2 inp fuel deep w2' f2 at2 i2' vals2' n
 call : ∀ {w w2 : Wd} {f : Func} {at' i : Nat} {vals : List Int} {f2 : Func} {at2 i2 : Nat} {vals2 : List Int} {n : Nat} {b : Block} {x : Inst}, R f at' i vals f2 at2 i2 vals2 → Valid m f at' i vals b → Pos vals → Pos vals2 → Good m fuel w → Good m2 fuel w2 → WR w w2 → b.ins[i]? = some x → x.op = 14 → ¬ w.steps = fuel → ¬ n = deep →
  (∃ b2 x2, f2.blocks[at2]? = some b2 ∧ b2.ins[i2]? = some x2 ∧ x2.op = 14 ∧ x2.name = x.name ∧ pickI vals2 x2.args = pickI vals x.args ∧ ∀ v, 0 ≤ v → R f at' (i + 1) (vals ++ [v]) f2 at2 (i2 + 1) (vals2 ++ [v])) ∨
  (∀ r, goF m inp fuel deep (enterW (n + 1) (stepW fuel w)) (funcOf m x.name) 0 0 (pickI vals x.args) (n + 1) = r → r.1.bad = 0 →
   ∃ w2' i2' vals2', Good m2 fuel w2' ∧ Pos vals2' ∧ WR r.1 w2' ∧ R f at' (i + 1) (vals ++ [r.2]) f2 at2 i2' vals2' ∧ goF m2 inp fuel deep w2 f2 at2 i2 vals2 n = goF m2 inp fuel deep w2' f2 at2 i2' vals2' n)
 ret : ∀ {w w2 : Wd} {f : Func} {at' i : Nat} {vals : List Int} {f2 : Func} {at2 i2 : Nat} {vals2 : List Int} {n : Nat} {b : Block}, R f at' i vals f2 at2 i2 vals2 → Valid m f at' i vals b → Pos vals → Pos vals2 → Good m fuel w → Good m2 fuel w2 → WR w w2 → i = b.ins.length → b.kind = 3 → ¬ w.steps = fuel →
  ∃ w2', Good m2 fuel w2' ∧ WR (stepW fuel w) w2' ∧ goF m2 inp fuel deep w2 f2 at2 i2 vals2 n = (w2', valAt vals b.ta)
 jump : ∀ {w w2 : Wd} {f : Func} {at' i : Nat} {vals : List Int} {f2 : Func} {at2 i2 : Nat} {vals2 : List Int} {n : Nat} {b : Block}, R f at' i vals f2 at2 i2 vals2 → Valid m f at' i vals b → Pos vals → Pos vals2 → Good m fuel w → Good m2 fuel w2 → WR w w2 → i = b.ins.length → ¬ b.kind = 3 → ¬ w.steps = fuel →
  ∀ to args, (if b.kind = 2 ∧ valAt vals b.ta = 0 then to = b.els ∧ args = b.elses else to = b.to ∧ args = b.args) →
  ∃ w2' at2' vals2', Good m2 fuel w2' ∧ Pos vals2' ∧ WR (stepW fuel w) w2' ∧ R f to.toNat 0 (pickI vals args) f2 at2' 0 vals2' ∧ goF m2 inp fuel deep w2 f2 at2 i2 vals2 n = goF m2 inp fuel deep w2' f2 at2' 0 vals2' n
theorem funcOf_of {m : Module} {s : ByteArray} {f : Func} (h : findF m s = some f) : funcOf m s = f := by unfold funcOf; rw [h]; rfl
theorem SimOk.go {m m2 : Module} {inp : ByteArray} {fuel deep : Nat} {R : St4} (h : SimOk m m2 inp fuel deep R) (hw : wholeE m = 0) :
    ∀ (g : Nat) (w w2 : Wd) (f : Func) (at' i : Nat) (vals : List Int) (f2 : Func) (at2 i2 : Nat) (vals2 : List Int) (n : Nat) (b : Block), fuel < g + w.steps → Good m fuel w → Good m2 fuel w2 → WR w w2 → Valid m f at' i vals b → Pos vals → Pos vals2 → R f at' i vals f2 at2 i2 vals2 →
      ∀ r, goR m inp fuel deep g w f at' i vals n = r → r.1.bad = 0 → ∃ w2', Good m2 fuel w2' ∧ WR r.1 w2' ∧ goF m2 inp fuel deep w2 f2 at2 i2 vals2 n = (w2', r.2) := by
  obtain ⟨hok, hmain, hthere⟩ := wholeE_zero.1 hw
  intro g
  induction g with
  | zero => intro w w2 f at' i vals f2 at2 i2 vals2 n b hg hgd; have := hgd.steps; omega
  | succ g ih =>
    intro w w2 f at' i vals f2 at2 i2 vals2 n b hg hgd hgd2 hwr hv hp hp2 hR r hr hb
    have hfo := hok.funcs f hv.mem
    have hat : at' < f.blocks.length := (List.getElem?_eq_some_iff.1 hv.blk).1
    have hbk : blockOk f b = true := by
      have := funcOk_block hfo hat
      rwa [(List.getElem?_eq_some_iff.1 hv.blk).2] at this
    obtain ⟨hp0, hp6, hi32, hins, hend⟩ := blockOk_parts hbk
    rw [goR] at hr
    simp only [hv.blk, Option.getD_some] at hr
    by_cases hs : w.steps = fuel
    · rw [if_pos ((stepW_bad hgd.bad).2 hs)] at hr
      subst hr
      exact absurd hb ((stepW_bad (fuel := fuel) hgd.bad).2 hs)
    rw [if_neg (goF_go hgd hs)] at hr
    have hs2 := hwr.lt hgd hs
    have hst : (stepW fuel w).steps = w.steps + 1 := by rw [stepW_go hs]
    have hgs := hgd.step hs
    have hgs2 := hgd2.step hs2
    by_cases hi : i < b.ins.length
    · rw [if_pos hi] at hr
      have hx? : b.ins[i]? = some b.ins[i] := List.getElem?_eq_getElem hi
      simp only [hx?, Option.getD_some] at hr
      have hxo := hins i hi
      generalize b.ins[i] = x at hx? hr hxo
      have hxi : x ∈ allIns f := List.mem_flatMap.2 ⟨b, List.mem_of_getElem? hv.blk, List.mem_of_getElem? hx?⟩
      by_cases h14 : x.op = 14
      · rw [if_pos h14] at hr
        by_cases hnd : n = deep
        · rw [if_pos hnd] at hr
          subst hr
          simp at hb
        rw [if_neg hnd] at hr
        obtain ⟨f', hf', hfn, hfp⟩ := hok.call (mem_insM hv.mem hxi) h14
        have hff : findF m x.name = some f' := by rw [← hfn]; exact findF_uniq hok hf'
        have hth := hthere x.name (List.mem_flatMap.2 ⟨f, hv.mem, List.mem_map.2 ⟨x, List.mem_filter.2 ⟨hxi, isNamed_iff.2 (.inr (.inr h14))⟩, rfl⟩⟩)
        have hbl : 0 < f'.blocks.length := by
          unfold thereB at hth
          rw [hff] at hth
          have : f'.blocks.length ≠ 0 := by simpa using hth
          omega
        rw [funcOf_of hff] at hr
        have hgce := hgs.enter (n + 1)
        have hpp := pickI_nonneg hp x.args
        obtain ⟨rc, hrc⟩ : ∃ rc, goR m inp fuel deep g (enterW (n + 1) (stepW fuel w)) f' 0 0 (pickI vals x.args) (n + 1) = rc := ⟨_, rfl⟩
        rw [hrc] at hr
        obtain ⟨a1, a2, a3, a4, a5⟩ := goR_good (inp := inp) (deep := deep) g (enterW (n + 1) (stepW fuel w)) f' 0 0 (pickI vals x.args) (n + 1) hgce hpp
        rw [hrc] at a1 a2 a3 a4
        rw [enterW_steps, hst] at a1
        by_cases hrb : ¬ rc.1.bad = 0
        · rw [if_pos hrb] at hr
          subst hr
          exact absurd hb hrb
        rw [if_neg hrb] at hr
        have hrb := Classical.not_not.1 hrb
        have hval' : ∀ v, Valid m f at' (i + 1) (vals ++ [v]) b := fun v => ⟨hv.mem, hv.blk, by have := hv.len; simp; omega, hi⟩
        rcases h.call (n := n) hR hv hp hp2 hgd hgd2 hwr hx? h14 hs hnd with ⟨b2, x2, e1, e2, e3, e4, e5, e6⟩ | hin
        · have hentry := h.entry f' (pickI vals x.args) hf' hbl (by rw [pickI_length]; exact hfp.symm)
          obtain ⟨w2', k1, k2, k3⟩ := ih (enterW (n + 1) (stepW fuel w)) (enterW (n + 1) (stepW fuel w2)) f' 0 0 (pickI vals x.args) (funcOf m2 f'.name) 0 0 (pickI vals x.args) (n + 1) f'.blocks[0] (by rw [enterW_steps]; omega)
            hgce (hgs2.enter _) ((hwr.step hs hs2).enter _) ⟨hf', List.getElem?_eq_getElem hbl, by rw [funcOk_first (hok.funcs f' hf') hbl, pickI_length]; omega, Nat.zero_le _⟩ hpp hpp hentry rc hrc hrb
          have hc := goF_call (m := m2) (inp := inp) (deep := deep) (n := n) hgd2 hp2 hs2 e1 e2 e3 hnd (r := (w2', rc.2)) (by rw [e4, e5, ← hfn]; exact k3)
          rw [if_neg (fun h => h k1.bad)] at hc
          obtain ⟨w3, j1, j2, j3⟩ := ih rc.1 w2' f at' (i + 1) (vals ++ [rc.2]) f2 at2 (i2 + 1) (vals2 ++ [rc.2]) n b (by omega) (a3 hrb) k1 k2 (hval' _) (Pos.snoc hp a4) (Pos.snoc hp2 a4) (e6 _ a4) r hr hb
          exact ⟨w3, j1, j2, by rw [hc]; exact j3⟩
        · have hrcF : goF m inp fuel deep (enterW (n + 1) (stepW fuel w)) (funcOf m x.name) 0 0 (pickI vals x.args) (n + 1) = rc := by
            rw [funcOf_of hff, ← hrc]
            exact goR_gas _ _ _ _ _ _ _ _ hgce hpp (by rw [enterW_steps]; omega) (by rw [enterW_steps]; omega)
          obtain ⟨w2', i2', vals2', k1, k2, k3, k4, k5⟩ := hin rc hrcF hrb
          obtain ⟨w3, j1, j2, j3⟩ := ih rc.1 w2' f at' (i + 1) (vals ++ [rc.2]) f2 at2 i2' vals2' n b (by omega) (a3 hrb) k1 k3 (hval' _) (Pos.snoc hp a4) k2 k4 r hr hb
          exact ⟨w3, j1, j2, by rw [k5]; exact j3⟩
      · rw [if_neg h14] at hr
        obtain ⟨c1, c2, c3⟩ := hgd.gives hs inp x hp
        obtain ⟨w2', i2', vals2', k1, k2, k3, k4, k5⟩ := h.plain (n := n) hR hv hp hp2 hgd hgd2 hwr hx? h14 hs
        obtain ⟨w3, j1, j2, j3⟩ := ih _ w2' f at' (i + 1) _ f2 at2 i2' vals2' n b (by omega) c1 k1 k3 ⟨hv.mem, hv.blk, by have := hv.len; simp; omega, hi⟩ (Pos.snoc hp c2) k2 k4 r hr hb
        exact ⟨w3, j1, j2, by rw [k5]; exact j3⟩
    · rw [if_neg hi] at hr
      have hi' : i = b.ins.length := by have := hv.le; omega
      by_cases hk3 : b.kind = 3
      · rw [if_pos hk3] at hr
        subst hr
        exact h.ret (n := n) hR hv hp hp2 hgd hgd2 hwr hi' hk3 hs
      · rw [if_neg hk3] at hr
        have hends := endB_parts hend
        have hgo : ∀ to args, goesB f to args (b.params + b.ins.length) = true → (if b.kind = 2 ∧ valAt vals b.ta = 0 then to = b.els ∧ args = b.elses else to = b.to ∧ args = b.args) → goR m inp fuel deep g (stepW fuel w) f to.toNat 0 (pickI vals args) n = r →
            ∃ w2', Good m2 fuel w2' ∧ WR r.1 w2' ∧ goF m2 inp fuel deep w2 f2 at2 i2 vals2 n = (w2', r.2) := by
          intro to args hgo hsel hr
          obtain ⟨g0, ⟨b', g1, g1'⟩, g2⟩ := goes_there hfo hgo
          obtain ⟨w2', at2', vals2', k1, k2, k3, k4, k5⟩ := h.jump (n := n) hR hv hp hp2 hgd hgd2 hwr hi' hk3 hs to args hsel
          obtain ⟨w3, j1, j2, j3⟩ := ih _ w2' f to.toNat 0 _ f2 at2' 0 vals2' n b' (by omega) hgs k1 k3 ⟨hv.mem, g1, by rw [pickI_length]; omega, Nat.zero_le _⟩ (pickI_nonneg hp _) k2 k4 r hr hb
          exact ⟨w3, j1, j2, by rw [k5]; exact j3⟩
        by_cases hk2 : b.kind = 2 ∧ valAt vals b.ta = 0
        · rw [if_pos hk2] at hr
          refine hgo b.els b.elses ?_ (by rw [if_pos hk2]; exact ⟨rfl, rfl⟩) hr
          rcases hends with ⟨h1, _⟩ | ⟨_, _, _, _, h1⟩ | ⟨h1, _⟩
          · have := hk2.1; omega
          · exact h1
          · exact absurd h1 hk3
        · rw [if_neg hk2] at hr
          refine hgo b.to b.args ?_ (by rw [if_neg hk2]; exact ⟨rfl, rfl⟩) hr
          rcases hends with ⟨_, h1⟩ | ⟨_, _, _, h1, _⟩ | ⟨h1, _⟩
          · exact h1
          · exact h1
          · exact absurd h1 hk3
def RunRel (m m2 : Module) : Prop := ∀ (inp : ByteArray) (fuel deep : Nat), (runR m inp fuel deep).bad = 0 →
 (runR m2 inp fuel deep).bad = 0 ∧ (runR m2 inp fuel deep).ended = true ∧ (runR m2 inp fuel deep).code = (runR m inp fuel deep).code ∧ (runR m2 inp fuel deep).out = (runR m inp fuel deep).out ∧ (runR m2 inp fuel deep).read = (runR m inp fuel deep).read ∧
 (runR m2 inp fuel deep).steps ≤ (runR m inp fuel deep).steps ∧ (runR m2 inp fuel deep).deep ≤ (runR m inp fuel deep).deep
theorem runR_ended {m : Module} {inp : ByteArray} {fuel deep : Nat} (h : (runR m inp fuel deep).bad = 0) : (runR m inp fuel deep).ended = true := by
 unfold runR at h ⊢
 simp only at h ⊢
 split at h
 ·rename_i h'; exact absurd h h'
 ·rename_i h'
  rw [if_neg h']
theorem RunRel.refl (m : Module) : RunRel m m := fun _ _ _ h => ⟨h, runR_ended h, rfl, rfl, rfl, Nat.le_refl _, Nat.le_refl _⟩
theorem RunRel.trans {m m2 m3 : Module} (h : RunRel m m2) (h' : RunRel m2 m3) : RunRel m m3 := fun inp fuel deep hb => by
 obtain ⟨a1, a2, a3, a4, a5, a6, a7⟩ := h inp fuel deep hb
 obtain ⟨b1, b2, b3, b4, b5, b6, b7⟩ := h' inp fuel deep a1
 exact ⟨b1, b2, b3.trans a3, b4.trans a4, b5.trans a5, Nat.le_trans b6 a6, Nat.le_trans b7 a7⟩
theorem main_in {m : Module} (hw : wholeE m = 0) : ∃ f, f ∈ m.funcs ∧ f.name = mainS ∧ findF m mainS = some f ∧ 0 < f.blocks.length ∧ f.params = 0 := by
  obtain ⟨hok, hmain, hthere⟩ := wholeE_zero.1 hw
  unfold mainB at hmain
  cases hf : findF m mainS with
  | none => rw [hf] at hmain; cases hmain
  | some f =>
    rw [hf] at hmain
    simp only [Bool.and_eq_true, decide_eq_true_eq] at hmain
    exact ⟨f, List.mem_of_find?_eq_some hf, by simpa using List.find?_some hf, rfl, by omega, hmain.2⟩
theorem SimOk.run {m m2 : Module} {R : ByteArray → Nat → Nat → St4} (h : ∀ inp fuel deep, SimOk m m2 inp fuel deep (R inp fuel deep)) (hw : wholeE m = 0) (hg : m2.globs = m.globs) : RunRel m m2 := by
 intro inp fuel deep hb
 obtain ⟨f, hf, hfn, hff, hbl, hpa⟩ := main_in hw
 have hok := (wholeE_zero.1 hw).1
 have hst : startW m2 = startW m := by unfold startW; rw [hg]
 obtain ⟨r, hr⟩ : ∃ r, goR m inp fuel deep (fuel + 1) (enterW 1 (startW m)) f 0 0 [] 1 = r := ⟨_, rfl⟩
 have hrun : runR m inp fuel deep = if r.1.bad ≠ 0 then r.1 else { r.1 with ended := true, code := r.2 } := by
  unfold runR; rw [funcOf_of hff, hr]
 have hrb : r.1.bad = 0 := by
  rw [hrun] at hb
  split at hb
  ·rename_i h'; exact absurd hb h'
  ·exact hb
 have hgd := (startW_good m fuel).enter 1
 have hgd2 := (startW_good m2 fuel).enter 1
 obtain ⟨w2', k1, k2, k3⟩ := (h inp fuel deep).go hw (fuel + 1) (enterW 1 (startW m)) (enterW 1 (startW m2)) f 0 0 [] (funcOf m2 f.name) 0 0 [] 1 f.blocks[0] (by omega) hgd hgd2 (by rw [hst]; exact WR.refl _)
  ⟨hf, List.getElem?_eq_getElem hbl, by rw [funcOk_first (hok.funcs f hf) hbl, hpa]; rfl, Nat.zero_le _⟩ (fun v hv => by cases hv) (fun v hv => by cases hv) ((h inp fuel deep).entry f [] hf hbl (by rw [hpa]; rfl)) r hr hrb
 rw [hfn] at k3
 have hrun2 : runR m2 inp fuel deep = { w2' with ended := true, code := r.2 } := by
  unfold runR
  have : goR m2 inp fuel deep (fuel + 1) (enterW 1 (startW m2)) (funcOf m2 mainS) 0 0 [] 1 = (w2', r.2) := k3
  rw [this]
  simp only [k1.bad]
  rw [if_neg (by simp)]
 rw [if_neg (fun h => h hrb)] at hrun
 rw [hrun2, hrun]
 exact ⟨k1.bad, rfl, rfl, k2.out, k2.read, k2.steps, k2.deep⟩
end Go.Proofs.Ytgadlpdbkohlbaa
namespace Go.Proofs.Ytgadlpdbkohlbaa
def AllIn (dom : Int → Prop) (l : List Int) : Prop := ∀ k (h : k < l.length), dom l[k]
def upTo (n : Int) (v : Int) : Prop := 0 ≤ v ∧ v < n
def mapInst (g : Int → Int) (i : Inst) : Inst :=
 { i with a := if isOne i.op then g i.a else i.a, b := if isTwo i.op then g i.b else i.b, args := i.args.map g }
structure InstIn (dom : Int → Prop) (i : Inst) : Prop where
 a : isOne i.op = true → dom i.a
 b : isTwo i.op = true → dom i.b
 args : AllIn dom i.args
theorem AllIn.mono {d d' : Int → Prop} (h : ∀ v, d v → d' v) {l : List Int} (hl : AllIn d l) : AllIn d' l := fun k hk => h _ (hl k hk)
theorem InstIn.mono {d d' : Int → Prop} (h : ∀ v, d v → d' v) {i : Inst} (hi : InstIn d i) : InstIn d' i := ⟨fun e => h _ (hi.a e), fun e => h _ (hi.b e), hi.args.mono h⟩
def inNum (p : Int) (args : List Int) (first v : Int) : Int := if v < p then args[v.toNat]?.getD 0 else first + v - p
def afterNum (p : Int) (args : List Int) (first ta len v : Int) : Int := if v < first then v else if v = first then inNum p args first ta else v - 1 + len
def insAt (b : Block) (at_ : Int) : Inst := b.ins[at_.toNat]?.getD default
def putYes (b leaf : Block) (at_ : Int) : Bool :=
 decide (0 ≤ at_) && decide (at_ < b.ins.length) && decide ((insAt b at_).op = 14) && decide (((insAt b at_).args.length : Int) = leaf.params) && decide (leaf.kind = 3) && decide ((b.ins.length : Int) - 1 + leaf.ins.length ≤ 32)
def inG (b leaf : Block) (at_ : Int) : Int → Int := inNum leaf.params (insAt b at_).args (b.params + at_)
def afterG (b leaf : Block) (at_ : Int) : Int → Int := afterNum leaf.params (insAt b at_).args (b.params + at_) leaf.ta leaf.ins.length
def putB (b leaf : Block) (at_ : Int) : Block :=
 { b with
  ins := b.ins.take at_.toNat ++ leaf.ins.map (mapInst (inG b leaf at_)) ++ (b.ins.drop (at_.toNat + 1)).map (mapInst (afterG b leaf at_))
  ta := if b.kind = 1 then b.ta else afterG b leaf at_ b.ta
  args := b.args.map (afterG b leaf at_)
  elses := b.elses.map (afterG b leaf at_) }
structure NumsOk (b : Block) : Prop where
 p0 : 0 ≤ b.params
 p6 : b.params ≤ 6
 n32 : b.ins.length ≤ 32
 ins : ∀ k (h : k < b.ins.length), InstIn (upTo (b.params + k)) b.ins[k]
 args6 : ∀ k (h : k < b.ins.length), b.ins[k].args.length ≤ 6
 ta : ¬ b.kind = 1 → upTo (b.params + b.ins.length) b.ta
 args : AllIn (upTo (b.params + b.ins.length)) b.args
 elses : AllIn (upTo (b.params + b.ins.length)) b.elses
 args17 : b.args.length ≤ 17592186044416
 elses17 : b.elses.length ≤ 17592186044416
end Go.Proofs.Ytgadlpdbkohlbaa
namespace Go.Proofs.Ytgadlpdbkohlbaa
def cntF (ak ln i : Nat) : Nat := if i ≤ ak then i else i - 1 + ln
theorem cnt_hi {ak ln i : Nat} (h : ak < i) : cntF ak ln i = i - 1 + ln := if_neg (by omega)
section
variable {b leaf : Block} {ak P : Nat}
theorem put_length (hk : ak < b.ins.length) : (putB b leaf ak).ins.length = cntF ak leaf.ins.length b.ins.length := by
 rw [cnt_hi hk]
 simp [putB]
 omega
theorem put_lo (hk : ak < b.ins.length) {i : Nat} (h : i < ak) : (putB b leaf ak).ins[i]?.getD default = b.ins[i] := by
 have h1 : i < b.ins.length := by omega
 simp only [putB]
 rw [show (ak : Int).toNat = ak from rfl, List.append_assoc, List.getElem?_append_left (by simp; omega), List.getElem?_take_of_lt h, List.getElem?_eq_getElem h1]
 rfl
theorem put_hi (hk : ak < b.ins.length) {i : Nat} (h : ak < i) (hi : i < b.ins.length) : (putB b leaf ak).ins[cntF ak leaf.ins.length i]?.getD default = mapInst (afterG b leaf ak) b.ins[i] := by
 rw [cnt_hi h]
 simp only [putB]
 rw [show (ak : Int).toNat = ak from rfl, List.getElem?_append_right (by simp; omega)]
 simp only [List.length_append, List.length_take, List.length_map, List.getElem?_map, List.getElem?_drop]
 rw [show ak + 1 + (i - 1 + leaf.ins.length - (min ak b.ins.length + leaf.ins.length)) = i by omega, List.getElem?_eq_getElem hi]
 rfl
theorem put_leaf (hk : ak < b.ins.length) {j : Nat} (h : j < leaf.ins.length) : (putB b leaf ak).ins[ak + j]?.getD default = mapInst (inG b leaf ak) leaf.ins[j] := by
 simp only [putB]
 rw [show (ak : Int).toNat = ak from rfl, List.append_assoc, List.getElem?_append_right (by simp; omega), List.getElem?_append_left (by simp; omega)]
 simp only [List.length_take, List.getElem?_map]
 rw [show ak + j - min ak b.ins.length = j by omega, List.getElem?_eq_getElem h]
 rfl
end
end Go.Proofs.Ytgadlpdbkohlbaa
namespace Go.Proofs.Ytgadlpdbkohlbaa
theorem belowB_in {l : List Int} {n : Int} (h : belowB l n = true) : AllIn (upTo n) l := by
 intro k hk
 unfold belowB at h
 rw [List.all_eq_true] at h
 have := h _ (List.getElem_mem hk)
 simpa [upTo] using this
theorem instOk_in {i : Inst} {n : Int} (h : instOk i n = true) : InstIn (upTo n) i ∧ i.args.length ≤ 6 := by
 unfold instOk at h
 simp only [Bool.and_eq_true, decide_eq_true_eq] at h
 obtain ⟨⟨⟨⟨⟨⟨⟨⟨h1, h2⟩, hb⟩, hA⟩, hB⟩, hK⟩, hN⟩, h6⟩, hNm⟩ := h
 have hb := belowB_in hb
 refine ⟨⟨fun e => ?_, fun e => ?_, ?_⟩, h6⟩
 ·rw [isOne_iff] at e
  by_cases h2 : 2 ≤ i.op ∧ i.op ≤ 11
  ·have := hb 0 (by unfold uses; rw [if_pos h2]; simp)
   simpa [uses, h2] using this
  ·have h3 : i.op = 13 ∨ i.op = 16 := by omega
   have e : uses i = [i.a] := by unfold uses; rw [if_neg h2, if_pos h3]
   rw [e] at hb
   exact hb 0 (by simp)
 ·rw [isTwo_iff] at e
  have := hb 1 (by unfold uses; rw [if_pos e]; simp)
  simpa [uses, e] using this
 ·by_cases h14 : i.op = 14
  ·have : uses i = i.args := by unfold uses; rw [if_neg (by omega), if_neg (by omega), if_pos h14]
   rw [this] at hb
   exact hb
  ·have : i.args.length = 0 := by simpa [h14] using hN
   intro k hk
   omega
theorem goesB_facts {f : Func} {to : Int} {args : List Int} {n : Int} (hf : ∀ b ∈ f.blocks, b.params ≤ 6) (h : goesB f to args n = true) : AllIn (upTo n) args ∧ args.length ≤ 6 := by
  unfold goesB at h
  simp only [Bool.and_eq_true, decide_eq_true_eq] at h
  obtain ⟨⟨h0, h1⟩, h2⟩ := h
  refine ⟨belowB_in h2, ?_⟩
  cases hb : f.blocks[to.toNat]? with
  | none => rw [hb] at h1; cases h1
  | some b =>
    rw [hb] at h1
    have := hf b (List.mem_of_getElem? hb)
    simp at h1
    omega
theorem all_nil {d : Int → Prop} {l : List Int} (h : l.length = 0) : AllIn d l := fun k hk => by omega
theorem blockOk_nums {f : Func} {b : Block} (hf : ∀ b ∈ f.blocks, b.params ≤ 6) (h : blockOk f b = true) : NumsOk b ∧ b.args.length ≤ 6 ∧ b.elses.length ≤ 6 := by
 unfold blockOk at h
 simp only [Bool.and_eq_true, decide_eq_true_eq] at h
 obtain ⟨⟨⟨⟨h1, h2⟩, h3⟩, h4⟩, h5⟩ := h
 rw [insFrom_iff] at h4
 have hends : (¬ b.kind = 1 → upTo (b.params + b.ins.length) b.ta) ∧ (AllIn (upTo (b.params + b.ins.length)) b.args ∧ b.args.length ≤ 6) ∧ (AllIn (upTo (b.params + b.ins.length)) b.elses ∧ b.elses.length ≤ 6) := by
  by_cases k1 : b.kind = 1
  ·rw [endB_jump k1] at h5
   simp only [Bool.and_eq_true, beq_iff_eq] at h5
   obtain ⟨⟨⟨g1, g2⟩, g3⟩, g4⟩ := h5
   exact ⟨fun h => absurd k1 h, goesB_facts hf g1, all_nil g4, by omega⟩
  ·by_cases k2 : b.kind = 2
   ·rw [endB_if k2] at h5
    simp only [Bool.and_eq_true, decide_eq_true_eq] at h5
    obtain ⟨⟨g1, g2⟩, g3⟩ := h5
    exact ⟨fun _ => g1, goesB_facts hf g2, goesB_facts hf g3⟩
   ·rw [endB_other k1 k2] at h5
    simp only [Bool.and_eq_true, beq_iff_eq, decide_eq_true_eq] at h5
    obtain ⟨⟨⟨⟨⟨g0, g1⟩, g2⟩, g3⟩, g4⟩, g5⟩ := h5
    exact ⟨fun _ => g1, ⟨all_nil g3, by omega⟩, all_nil g5, by omega⟩
 obtain ⟨e1, ⟨e2, e3⟩, e4, e5⟩ := hends
 exact ⟨⟨h1, h2, h3, fun k hk => (instOk_in (h4 k hk)).1, fun k hk => (instOk_in (h4 k hk)).2, e1, e2, e4, by omega, by omega⟩, e3, e5⟩
theorem funcOk_blocks {f : Func} (h : funcOk f = true) : ∀ b ∈ f.blocks, blockOk f b = true := by
  unfold funcOk at h
  simp only [Bool.and_eq_true] at h
  obtain ⟨_, h⟩ := h
  intro b hb
  cases hbl : f.blocks with
  | nil => rw [hbl] at hb; cases hb
  | cons b0 r =>
    rw [hbl] at h
    simp only [Bool.and_eq_true, List.all_eq_true] at h
    exact h.2 b (hbl ▸ hb)
end Go.Proofs.Ytgadlpdbkohlbaa
namespace Go.Proofs.Ytgadlpdbkohlbaa
open Go.RowKit
theorem belowB_iff {l : List Int} {n : Int} : belowB l n = true ↔ ∀ v ∈ l, 0 ≤ v ∧ v < n := by
 unfold belowB
 rw [List.all_eq_true]
 exact ⟨fun h v hv => by simpa using h v hv, fun h v hv => by simpa using h v hv⟩
theorem uses_map (g : Int → Int) (x : Inst) : uses (mapInst g x) = (uses x).map g := by
 unfold uses mapInst
 simp only
 split
 ·rename_i h
  rw [if_pos ((isOne_iff _).2 (.inl h)), if_pos ((isTwo_iff _).2 h)]
  rfl
 ·split
  ·rename_i h
   rw [if_pos ((isOne_iff _).2 (.inr h))]
   rfl
  ·split
   ·rfl
   ·rfl
theorem mapInst_ok {x : Inst} {n n' : Int} {g : Int → Int} (h : instOk x n = true) (hg : ∀ v, 0 ≤ v → v < n → 0 ≤ g v ∧ g v < n') : instOk (mapInst g x) n' = true := by
 unfold instOk at h ⊢
 simp only [Bool.and_eq_true, decide_eq_true_eq] at h ⊢
 obtain ⟨⟨⟨⟨⟨⟨⟨⟨h1, h2⟩, hb⟩, hA⟩, hB⟩, hK⟩, hN⟩, h6⟩, hNm⟩ := h
 refine ⟨⟨⟨⟨⟨⟨⟨⟨h1, h2⟩, ?_⟩, ?_⟩, ?_⟩, hK⟩, ?_⟩, ?_⟩, hNm⟩
 ·rw [uses_map, belowB_iff]
  intro v hv
  obtain ⟨u, hu, rfl⟩ := List.mem_map.1 hv
  have := belowB_iff.1 hb u hu
  exact hg u this.1 this.2
 ·cases h1 : isOne x.op
  ·simpa [mapInst, h1] using hA
  ·simp [mapInst, h1]
 ·cases h1 : isTwo x.op
  ·simpa [mapInst, h1] using hB
  ·simp [mapInst, h1]
 ·simpa [mapInst] using hN
 ·simpa [mapInst] using h6
theorem goesB_iff {f : Func} {to : Int} {l : List Int} {n : Int} : goesB f to l n = true ↔ 0 ≤ to ∧ (∃ b, f.blocks[to.toNat]? = some b ∧ (l.length : Int) = b.params) ∧ ∀ v ∈ l, 0 ≤ v ∧ v < n := by
 constructor
 ·intro h
  obtain ⟨h1, h2, h3⟩ := goesB_parts h
  have hlt : to.toNat < f.blocks.length := by omega
  rw [List.getElem?_eq_getElem hlt] at h3
  exact ⟨h1, ⟨_, List.getElem?_eq_getElem hlt, h3⟩, belowB_iff.1 (goesB_belowB h)⟩
 ·rintro ⟨h1, ⟨b, h2, h3⟩, h4⟩
  have hlt := (List.getElem?_eq_some_iff.1 h2).1
  rw [goesB_in h1 (by omega) (by rw [h2]; exact h3)]
  exact belowB_iff.2 h4
def SameParams (f f' : Func) : Prop := f'.blocks.length = f.blocks.length ∧ ∀ (k : Nat) (b : Block), f.blocks[k]? = some b → ∃ b' : Block, f'.blocks[k]? = some b' ∧ b'.params = b.params
theorem goesB_same {f f' : Func} (hs : SameParams f f') {to : Int} {l l' : List Int} {n n' : Int} (h : goesB f to l n = true) (hl : l'.length = l.length) (hb : (∀ v ∈ l, 0 ≤ v ∧ v < n) → ∀ v ∈ l', 0 ≤ v ∧ v < n') : goesB f' to l' n' = true := by
 obtain ⟨h1, ⟨b, h2, h3⟩, h4⟩ := goesB_iff.1 h
 obtain ⟨b', h5, h6⟩ := hs.2 _ b h2
 exact goesB_iff.2 ⟨h1, ⟨b', h5, by rw [h6, hl]; exact h3⟩, hb h4⟩
theorem endB_iff {f : Func} {b : Block} : endB f b = true ↔
  (b.kind = 1 ∧ goesB f b.to b.args (b.params + b.ins.length) = true ∧ b.ta = 0 ∧ b.els = 0 ∧ b.elses = []) ∨
  (b.kind = 2 ∧ (0 ≤ b.ta ∧ b.ta < b.params + b.ins.length) ∧ goesB f b.to b.args (b.params + b.ins.length) = true ∧ goesB f b.els b.elses (b.params + b.ins.length) = true) ∨
  (b.kind = 3 ∧ (0 ≤ b.ta ∧ b.ta < b.params + b.ins.length) ∧ b.to = 0 ∧ b.args = [] ∧ b.els = 0 ∧ b.elses = []) := by
 by_cases k1 : b.kind = 1
 ·rw [endB_jump k1]
  simp [k1, and_assoc]
 ·by_cases k2 : b.kind = 2
  ·rw [endB_if k2]
   simp [k2, and_assoc]
  ·rw [endB_other k1 k2]
   simp [k1, k2, and_assoc]
theorem blockOk_iff {f : Func} {b : Block} : blockOk f b = true ↔ 0 ≤ b.params ∧ b.params ≤ 6 ∧ b.ins.length ≤ 32 ∧ (∀ k (hk : k < b.ins.length), instOk b.ins[k] (b.params + k) = true) ∧ endB f b = true := by
 refine ⟨blockOk_parts, fun ⟨h0, h6, h32, hi, he⟩ => ?_⟩
 rw [blockOk_end h0 h6 h32 hi]
 exact he
theorem blockOk_same {f f' : Func} (hs : SameParams f f') {b : Block} (h : blockOk f b = true) : blockOk f' b = true := by
 rw [blockOk_iff] at h ⊢
 obtain ⟨h0, h6, h32, hi, he⟩ := h
 refine ⟨h0, h6, h32, hi, ?_⟩
 rw [endB_iff] at he ⊢
 rcases he with ⟨e1, e2, e3⟩ | ⟨e1, e2, e3, e4⟩ | he
 ·exact .inl ⟨e1, goesB_same hs e2 rfl id, e3⟩
 ·exact .inr (.inl ⟨e1, e2, goesB_same hs e3 rfl id, goesB_same hs e4 rfl id⟩)
 ·exact .inr (.inr he)
theorem end_map {f f' : Func} (hs : SameParams f f') {b b' : Block} {g : Int → Int} (h : endB f b = true) (hk : b'.kind = b.kind) (hto : b'.to = b.to) (hels : b'.els = b.els) (hta : b'.ta = if b.kind = 1 then b.ta else g b.ta)
  (ha : b'.args = b.args.map g) (he : b'.elses = b.elses.map g) (hg : ∀ v, 0 ≤ v → v < b.params + b.ins.length → 0 ≤ g v ∧ g v < b'.params + b'.ins.length) : endB f' b' = true := by
 have hmap : ∀ l : List Int, (∀ v ∈ l, 0 ≤ v ∧ v < b.params + b.ins.length) → ∀ v ∈ l.map g, 0 ≤ v ∧ v < b'.params + b'.ins.length := fun l hl v hv => by
  obtain ⟨u, hu, rfl⟩ := List.mem_map.1 hv
  exact hg u (hl u hu).1 (hl u hu).2
 rw [endB_iff] at h ⊢
 rw [hk, hto, hels, hta, ha, he]
 rcases h with ⟨e1, e2, e3, e4, e5⟩ | ⟨e1, e2, e3, e4⟩ | ⟨e1, e2, e3, e4, e5, e6⟩
 ·exact .inl ⟨e1, goesB_same hs e2 (by simp) (hmap _), by rw [if_pos e1]; exact e3, e4, by rw [e5]; rfl⟩
 ·exact .inr (.inl ⟨e1, by rw [if_neg (by omega)]; exact hg _ e2.1 e2.2, goesB_same hs e3 (by simp) (hmap _), goesB_same hs e4 (by simp) (hmap _)⟩)
 ·exact .inr (.inr ⟨e1, by rw [if_neg (by omega)]; exact hg _ e2.1 e2.2, e3, by rw [e4]; rfl, e5, by rw [e6]; rfl⟩)
section
variable {f f' : Func} {b l : Block} {ak P Q : Nat} {x : Inst}
theorem in_bound (hP : b.params = (P : Int)) (hQ : l.params = (Q : Int)) (hx : b.ins[ak]? = some x) (hxo : instOk x (P + ak) = true) (h14 : x.op = 14) (hlen : x.args.length = Q) {j : Nat} {v : Int} (h0 : 0 ≤ v) (hv : v < Q + j) : 0 ≤ inG b l ak v ∧ inG b l ak v < P + ak + j := by
 have hat : insAt b ak = x := by unfold insAt; rw [show (ak : Int).toNat = ak from rfl, hx]; rfl
 unfold inG inNum
 rw [hat, hP, hQ]
 split
 ·rename_i h
  have hlt : v.toNat < x.args.length := by omega
  have hu : uses x = x.args := by unfold uses; rw [if_neg (by omega), if_neg (by omega), if_pos h14]
  have := belowB_iff.1 (instOk_below hxo) x.args[v.toNat] (by rw [hu]; exact List.getElem_mem hlt)
  rw [List.getElem?_eq_getElem hlt]
  simp only [Option.getD_some]
  omega
 ·omega
theorem after_bound (hP : b.params = (P : Int)) (hQ : l.params = (Q : Int)) (hx : b.ins[ak]? = some x) (hxo : instOk x (P + ak) = true) (h14 : x.op = 14) (hlen : x.args.length = Q) (hta : 0 ≤ l.ta ∧ l.ta < Q + l.ins.length) {i : Nat} (hi : ak < i) {v : Int} (h0 : 0 ≤ v) (hv : v < P + i) :
  0 ≤ afterG b l ak v ∧ afterG b l ak v < P + ((i - 1 + l.ins.length : Nat) : Int) := by
 unfold afterG afterNum
 split
 ·omega
 ·split
  ·have := in_bound (j := l.ins.length) hP hQ hx hxo h14 hlen hta.1 hta.2
   unfold inG at this
   rw [hP] at this ⊢
   omega
  ·rw [hP] at *; omega
theorem putB_ok (hs : SameParams f f') (hb : blockOk f b = true) {g : Func} (hl : blockOk g l = true) (hk3 : l.kind = 3) (hP : b.params = (P : Int)) (hQ : l.params = (Q : Int)) (hx : b.ins[ak]? = some x) (h14 : x.op = 14) (hlen : x.args.length = Q) (h32 : b.ins.length - 1 + l.ins.length ≤ 32) :
  blockOk f' (putB b l ak) = true := by
 obtain ⟨h0, h6, _, hi, he⟩ := blockOk_iff.1 hb
 obtain ⟨l0, l6, _, li, le⟩ := blockOk_iff.1 hl
 have hak : ak < b.ins.length := (List.getElem?_eq_some_iff.1 hx).1
 have hxo : instOk x (P + ak) = true := by
  have := hi ak hak
  rw [(List.getElem?_eq_some_iff.1 hx).2, hP] at this
  exact this
 have hta : 0 ≤ l.ta ∧ l.ta < Q + l.ins.length := by
  rw [endB_iff] at le
  rw [← hQ]
  rcases le with ⟨e, _⟩ | ⟨e, _⟩ | ⟨_, e, _⟩
  ·omega
  ·omega
  ·exact e
 have hL : (putB b l ak).ins.length = b.ins.length - 1 + l.ins.length := by rw [put_length hak, cnt_hi hak]
 have hat : ∀ {k : Nat} (hk : k < (putB b l ak).ins.length) {y : Inst}, (putB b l ak).ins[k]?.getD default = y → (putB b l ak).ins[k] = y := fun {k} hk {y} h => by rw [List.getElem?_eq_getElem hk] at h; exact h
 refine blockOk_iff.2 ⟨h0, h6, by omega, fun k hk => ?_, ?_⟩
 ·have hp : (putB b l ak).params = b.params := rfl
  rw [hp]
  by_cases h1 : k < ak
  ·rw [hat hk (put_lo hak h1)]
   exact hi k (by omega)
  ·by_cases h2 : k < ak + l.ins.length
   ·obtain ⟨j, rfl⟩ : ∃ j, k = ak + j := ⟨k - ak, by omega⟩
    have hj : j < l.ins.length := by omega
    rw [hat hk (put_leaf hak hj)]
    have := li j hj
    rw [hQ] at this
    refine mapInst_ok this fun v h0 hv => ?_
    have := in_bound (b := b) (j := j) hP hQ hx hxo h14 hlen h0 hv
    rw [hP]; omega
   ·obtain ⟨i, hi1, hi2, hik⟩ : ∃ i, ak < i ∧ i < b.ins.length ∧ k = i - 1 + l.ins.length := ⟨k + 1 - l.ins.length, by omega, by omega, by omega⟩
    have hc : cntF ak l.ins.length i = k := by rw [cnt_hi hi1, hik]
    have := put_hi (leaf := l) hak hi1 hi2
    rw [hc] at this
    rw [hat hk this]
    have hio := hi i hi2
    rw [hP] at hio ⊢
    refine mapInst_ok hio fun v h0 hv => ?_
    have := after_bound hP hQ hx hxo h14 hlen hta hi1 h0 hv
    omega
 ·refine end_map (g := afterG b l ak) hs he rfl rfl rfl rfl rfl rfl fun v h0 hv => ?_
  have := after_bound hP hQ hx hxo h14 hlen hta hak h0 (by rw [hP] at hv; exact hv)
  rw [hL]
  rw [show (putB b l ak).params = b.params from rfl, hP]
  exact this
end
theorem funcOk_new {f f' : Func} (hf : funcOk f = true) (hn : f'.name = f.name) (hb : f'.bind = f.bind) (hp : f'.params = f.params) (h16 : f'.blocks.length ≤ 16) {b : Block} (h0 : f'.blocks[0]? = some b) (hbp : b.params = f.params) (hall : f'.blocks.all (blockOk f') = true) : funcOk f' = true := by
  unfold funcOk at hf ⊢
  simp only [Bool.and_eq_true, decide_eq_true_eq] at hf
  obtain ⟨⟨⟨⟨⟨⟨h1, h2⟩, h3⟩, h4⟩, h5⟩, _⟩, _⟩ := hf
  rw [hn, hb, hp, h1, decide_eq_true h2, decide_eq_true h3, decide_eq_true h4, decide_eq_true h5, decide_eq_true h16]
  cases hbl : f'.blocks with
  | nil => rw [hbl] at h0; cases h0
  | cons c r =>
    rw [hbl] at h0 hall
    simp only [List.getElem?_cons_zero] at h0
    injection h0 with h0
    subst h0
    simp only [Bool.true_and, Bool.and_eq_true, beq_iff_eq]
    exact ⟨hbp, hall⟩
theorem funcOk_with {f f' : Func} (hf : funcOk f = true) (hs : SameParams f f') (hall : f'.blocks.all (blockOk f') = true) (hn : f'.name = f.name) (hb : f'.bind = f.bind) (hp : f'.params = f.params) (hl : 0 < f.blocks.length) : funcOk f' = true := by
 obtain ⟨b', h1, h2⟩ := hs.2 0 _ (List.getElem?_eq_getElem hl)
 exact funcOk_new hf hn hb hp (by rw [hs.1]; exact funcOk_len hf) h1 (h2.trans (funcOk_first hf hl)) hall
end Go.Proofs.Ytgadlpdbkohlbaa
namespace Go.Proofs.Ytgadlpdbkohlbaa
open Go.RowKit
def mapM (F : Func → Func) (m : Module) : Module := { m with funcs := m.funcs.map F }
def FromF (f : Func) (x : Inst) : Prop := x.op = 12 ∨ x.op = 13 ∨ x.op = 14 → ∃ y ∈ allIns f, y.op = x.op ∧ y.name = x.name ∧ y.args.length = x.args.length
structure MapF (m : Module) (F : Func → Func) : Prop where
 name : ∀ f ∈ m.funcs, (F f).name = f.name
 params : ∀ f ∈ m.funcs, (F f).params = f.params
 ok : ∀ f ∈ m.funcs, funcOk (F f) = true
 blocks : ∀ f ∈ m.funcs, ((F f).blocks.length = 0 ↔ f.blocks.length = 0)
 ins : ∀ f ∈ m.funcs, ∀ x ∈ allIns (F f), FromF f x
theorem MapF.names {m : Module} {F : Func → Func} (h : MapF m F) : namesM (mapM F m) = namesM m := by
 unfold namesM fnames gnames mapM
 rw [List.map_map]
 congr 1
 exact List.map_congr_left fun f hf => h.name f hf
theorem MapF.okM {m : Module} {F : Func → Func} (h : MapF m F) (hok : ModOk m) : ModOk (mapM F m) := by
 have key : ∀ f ∈ (mapM F m).funcs, ∃ f0 ∈ m.funcs, F f0 = f := fun f hf => List.mem_map.1 hf
 refine .mk' (by simpa [mapM] using hok.nf) hok.ng (fun f hf => ?_) hok.globs (by rw [h.names]; exact hok.names) (fun f hf y hy h14 => ?_) (fun f hf y hy h12 => ?_)
 ·obtain ⟨f0, hf0, rfl⟩ := key f hf
  exact h.ok f0 hf0
 ·obtain ⟨f0, hf0, rfl⟩ := key f hf
  obtain ⟨x, hx, e1, e2, e3⟩ := h.ins f0 hf0 y hy (.inr (.inr h14))
  obtain ⟨g, hg, hgn, hgp⟩ := hok.call (mem_insM hf0 hx) (by omega)
  exact ⟨F g, List.mem_map.2 ⟨g, hg, rfl⟩, by rw [h.name g hg, hgn, e2], by rw [h.params g hg, hgp, e3]⟩
 ·obtain ⟨f0, hf0, rfl⟩ := key f hf
  obtain ⟨x, hx, e1, e2, e3⟩ := h.ins f0 hf0 y hy (by omega)
  obtain ⟨g, hg, hgn⟩ := hasG_iff.1 ((missI_false (hok.miss x (mem_insM hf0 hx))).2 (by omega))
  exact ⟨g, hg, by rw [hgn, e2]⟩
theorem MapF.find {m : Module} {F : Func → Func} (h : MapF m F) (s : ByteArray) : findF (mapM F m) s = (findF m s).map F := by
  unfold findF mapM
  have : ∀ l : List Func, (∀ f ∈ l, (F f).name = f.name) → (l.map F).find? (fun f => decide (f.name = s)) = (l.find? fun f => decide (f.name = s)).map F := by
    intro l
    induction l with
    | nil => intro _; rfl
    | cons f l ih =>
      intro hl
      simp only [List.map_cons, List.find?_cons, hl f (by simp)]
      by_cases e : f.name = s
      · simp [e]
      · simp only [decide_eq_false e]
        exact ih fun g hg => hl g (by simp [hg])
  exact this _ h.name
theorem MapF.there {m : Module} {F : Func → Func} (h : MapF m F) (s : ByteArray) : thereB (mapM F m) s = thereB m s := by
  unfold thereB
  rw [h.find]
  cases hf : findF m s with
  | none => rfl
  | some f =>
    have := h.blocks f (List.mem_of_find?_eq_some hf)
    simp only [Option.map_some]
    rw [decide_eq_decide]
    omega
theorem MapF.whole {m : Module} {F : Func → Func} (h : MapF m F) (hw : wholeE m = 0) : wholeE (mapM F m) = 0 := by
  obtain ⟨hok, hm, ht⟩ := wholeE_zero.1 hw
  refine wholeE_zero.2 ⟨h.okM hok, ?_, fun s hs => ?_⟩
  · unfold mainB at hm ⊢
    rw [h.find]
    cases hf : findF m mainS with
    | none => rw [hf] at hm; exact hm
    | some f =>
      rw [hf] at hm
      have hfm := List.mem_of_find?_eq_some hf
      have h1 := h.blocks f hfm
      have h2 := h.params f hfm
      simp only [Option.map_some, Bool.and_eq_true, decide_eq_true_eq] at hm ⊢
      exact ⟨by omega, by rw [h2]; exact hm.2⟩
  · rw [h.there]
    refine ht s ?_
    obtain ⟨f, hf, hs⟩ := List.mem_flatMap.1 hs
    obtain ⟨y, hy, rfl⟩ := List.mem_map.1 hs
    obtain ⟨hy1, hy2⟩ := List.mem_filter.1 hy
    obtain ⟨f0, hf0, rfl⟩ := List.mem_map.1 hf
    obtain ⟨x, hx, e1, e2, _⟩ := h.ins f0 hf0 y hy1 (isNamed_iff.1 hy2)
    exact List.mem_flatMap.2 ⟨f0, hf0, List.mem_map.2 ⟨x, List.mem_filter.2 ⟨hx, by rw [e1]; exact hy2⟩, e2⟩⟩
theorem MapF.funcOf {m : Module} {F : Func → Func} (h : MapF m F) (hok : ModOk m) {f : Func} (hf : f ∈ m.funcs) : funcOf (mapM F m) f.name = F f := by
 unfold Go.Proofs.Ytgadlpdbkohlbaa.funcOf
 rw [h.find, findF_uniq hok hf]
 rfl
theorem funcOk_mk {f f' : Func} (h : funcOk f = true) (h1 : f'.name = f.name) (h2 : f'.bind = f.bind) (h3 : f'.params = f.params) (h4 : f'.blocks.length ≤ f.blocks.length) (h5 : f'.blocks.length = 0 ↔ f.blocks.length = 0)
    (h6 : ∀ (b : Block), f'.blocks[0]? = some b → b.params = f.params) (h7 : ∀ b ∈ f'.blocks, blockOk f' b = true) : funcOk f' = true := by
  unfold funcOk at h ⊢
  obtain ⟨name, bind, params, blocks⟩ := f
  obtain ⟨name', bind', params', blocks'⟩ := f'
  simp only at *
  subst h1 h2 h3
  simp only [Bool.and_eq_true, decide_eq_true_eq] at h ⊢
  obtain ⟨⟨⟨⟨⟨⟨a1, a2⟩, a3⟩, a4⟩, a5⟩, a6⟩, a7⟩ := h
  refine ⟨⟨⟨⟨⟨⟨a1, a2⟩, a3⟩, a4⟩, a5⟩, by omega⟩, ?_⟩
  cases blocks' with
  | nil =>
    cases blocks with
    | nil => exact a7
    | cons b l => simp at h5
  | cons b' l' =>
    simp only [Bool.and_eq_true]
    exact ⟨by simpa using h6 b' rfl, List.all_eq_true.2 h7⟩
end Go.Proofs.Ytgadlpdbkohlbaa
namespace Go.Proofs.Ytgadlpdbkohlbaa
open Go.RowKit
def atO (l : List (Option Int)) (i : Int) : Option Int := if 0 ≤ i then (l[i.toNat]?).getD none else none
def foldV (l : List (Option Int)) (x : Inst) : Option Int :=
 if x.op = 1 then some x.k
 else if 2 ≤ x.op ∧ x.op ≤ 11 then (match atO l x.a, atO l x.b with
  | some p, some q => some (reckI x.op p q)
  | _, _ => none) else none
def foldL : List (Option Int) → List Inst → List (Option Int)
 | l, [] => l
 | l, x :: xs => foldL (l ++ [foldV l x]) xs
def noneL (b : Block) : List (Option Int) := List.replicate b.params.toNat none
def foldVals (b : Block) : List (Option Int) := foldL (noneL b) b.ins
def foldX (k : Option Int) (x : Inst) : Inst := match k with
 | some v => ⟨1, 0, 0, v.toNat, ⟨#[]⟩, []⟩
 | none => x
def foldIns (b : Block) : List Inst := List.zipWith foldX ((foldVals b).drop b.params.toNat) b.ins
def foldB (b : Block) : Block :=
 if b.kind = 2 then (match atO (foldVals b) b.ta with
  | some v => if v = 0 then ⟨b.params, foldIns b, 1, 0, b.els, b.elses, 0, []⟩ else ⟨b.params, foldIns b, 1, 0, b.to, b.args, 0, []⟩
  | none => { b with ins := foldIns b })
 else { b with ins := foldIns b }
def foldF (f : Func) : Func := { f with blocks := f.blocks.map foldB }
def foldM (m : Module) : Module := mapM foldF m
theorem foldL_append : ∀ (xs ys : List Inst) (l : List (Option Int)), foldL l (xs ++ ys) = foldL (foldL l xs) ys
 | [], _, _ => rfl
 | x :: xs, ys, l => foldL_append xs ys (l ++ [foldV l x])
theorem foldL_length : ∀ (xs : List Inst) (l : List (Option Int)), (foldL l xs).length = l.length + xs.length
  | [], _ => rfl
  | x :: xs, l => by
    show (foldL (l ++ [foldV l x]) xs).length = _
    rw [foldL_length xs, List.length_append, List.length_singleton, List.length_cons]
    omega
theorem foldL_pre : ∀ (xs : List Inst) (l : List (Option Int)) {i : Nat}, i < l.length → (foldL l xs)[i]? = l[i]?
  | [], _, _, _ => rfl
  | x :: xs, l, i, h => by
    show (foldL (l ++ [foldV l x]) xs)[i]? = _
    rw [foldL_pre xs _ (by rw [List.length_append]; omega), List.getElem?_append_left h]
theorem foldL_snoc {xs : List Inst} {l : List (Option Int)} {k : Nat} {x : Inst} (h : xs[k]? = some x) : foldL l (xs.take (k + 1)) = foldL l (xs.take k) ++ [foldV (foldL l (xs.take k)) x] := by
 have hk := (List.getElem?_eq_some_iff.1 h).1
 rw [List.take_succ_eq_append_getElem hk, (List.getElem?_eq_some_iff.1 h).2, foldL_append]
 rfl
theorem foldL_at {xs : List Inst} {l : List (Option Int)} {k : Nat} {x : Inst} (h : xs[k]? = some x) : (foldL l xs)[l.length + k]? = some (foldV (foldL l (xs.take k)) x) := by
 have hk := (List.getElem?_eq_some_iff.1 h).1
 have e : foldL l xs = foldL (foldL l (xs.take (k + 1))) (xs.drop (k + 1)) := by rw [← foldL_append, List.take_append_drop]
 have hl : (foldL l (xs.take k)).length = l.length + k := by rw [foldL_length, List.length_take]; omega
 rw [e, foldL_snoc h, foldL_pre _ _ (by rw [List.length_append, hl]; simp), List.getElem?_append_right (by omega), hl]
 simp
@[simp] theorem noneL_length (b : Block) : (noneL b).length = b.params.toNat := by simp [noneL]
theorem foldVals_length (b : Block) : (foldVals b).length = b.params.toNat + b.ins.length := by unfold foldVals; rw [foldL_length, noneL_length]
@[simp] theorem foldIns_length (b : Block) : (foldIns b).length = b.ins.length := by
 unfold foldIns
 rw [List.length_zipWith, List.length_drop, foldVals_length]
 omega
theorem foldIns_at {b : Block} {k : Nat} {x : Inst} (h : b.ins[k]? = some x) : (foldIns b)[k]? = some (foldX (foldV (foldL (noneL b) (b.ins.take k)) x) x) := by
 unfold foldIns foldVals
 have := foldL_at (l := noneL b) h
 rw [noneL_length] at this
 rw [List.getElem?_zipWith, List.getElem?_drop, this, h]
@[simp] theorem foldB_params (b : Block) : (foldB b).params = b.params := by
 unfold foldB
 repeat' split
 all_goals rfl
@[simp] theorem foldB_ins (b : Block) : (foldB b).ins = foldIns b := by
 unfold foldB
 repeat' split
 all_goals rfl
theorem foldF_at {f : Func} {k : Nat} {b : Block} (h : f.blocks[k]? = some b) : (foldF f).blocks[k]? = some (foldB b) := by
 show (f.blocks.map foldB)[k]? = _
 rw [List.getElem?_map, h]
 rfl
def KnownV (l : List (Option Int)) (vals : List Int) : Prop := ∀ (i : Nat) (v : Int), l[i]? = some (some v) → vals[i]? = some v
theorem KnownV.none (b : Block) (vals : List Int) : KnownV (noneL b) vals := fun i v h => by
 unfold noneL at h
 rw [List.getElem?_replicate] at h
 split at h <;> simp at h
theorem KnownV.at {l : List (Option Int)} {vals : List Int} (h : KnownV l vals) {i v : Int} (hv : atO l i = some v) : valAt vals i = v := by
  unfold atO at hv
  split at hv
  · cases hl : l[i.toNat]? with
    | none => rw [hl] at hv; cases hv
    | some o =>
      rw [hl] at hv
      have : o = some v := hv
      subst this
      unfold valAt
      rw [h _ _ hl]
      rfl
  · cases hv
theorem KnownV.snoc {l : List (Option Int)} {vals : List Int} (h : KnownV l vals) (hl : l.length = vals.length) {o : Option Int} {v : Int} (ho : ∀ u, o = some u → u = v) : KnownV (l ++ [o]) (vals ++ [v]) := fun i u hu => by
 rcases Nat.lt_trichotomy i l.length with hi | hi | hi
 ·rw [List.getElem?_append_left hi] at hu
  rw [List.getElem?_append_left (by omega)]
  exact h i u hu
 ·subst hi
  rw [List.getElem?_append_right (Nat.le_refl _)] at hu
  rw [List.getElem?_append_right (by omega), hl]
  simp only [Nat.sub_self, List.getElem?_cons_zero] at hu ⊢
  injection hu with hu
  rw [ho u hu]
 ·rw [List.getElem?_eq_none (by simp; omega)] at hu
  cases hu
def RFold (f : Func) (at' i : Nat) (vals : List Int) (f2 : Func) (at2 i2 : Nat) (vals2 : List Int) : Prop :=
 f2 = foldF f ∧ at2 = at' ∧ i2 = i ∧ vals2 = vals ∧ ∀ b, f.blocks[at']? = some b → KnownV (foldL (noneL b) (b.ins.take i)) vals
theorem RFold.start (f : Func) (k : Nat) (vals : List Int) : RFold f k 0 vals (foldF f) k 0 vals := ⟨rfl, rfl, rfl, rfl, fun b _ => KnownV.none b vals⟩
section
variable {f : Func} {b : Block}
theorem fold_same (f : Func) : SameParams f (foldF f) := ⟨by simp [foldF], fun k b hb => ⟨foldB b, foldF_at hb, foldB_params b⟩⟩
theorem const_ok (k : Nat) (n : Int) : instOk ⟨1, 0, 0, k, ⟨#[]⟩, []⟩ n = true := by
 unfold instOk uses belowB isOne isTwo isNamed
 simp
 rfl
theorem foldX_ok {o : Option Int} {x : Inst} {n : Int} (h : instOk x n = true) : instOk (foldX o x) n = true := by
 cases o with
 | none => exact h
 | some v => exact const_ok _ _
theorem foldB_ok (h : blockOk f b = true) : blockOk (foldF f) (foldB b) = true := by
  rw [blockOk_iff] at h ⊢
  obtain ⟨h0, h6, h32, hi, he⟩ := h
  refine ⟨by simpa using h0, by simpa using h6, by simpa using h32, fun k hk => ?_, ?_⟩
  · simp only [foldB_ins, foldIns_length] at hk
    have hx : b.ins[k]? = some b.ins[k] := List.getElem?_eq_getElem hk
    have e := foldIns_at hx
    simp only [foldB_ins, foldB_params]
    rw [(List.getElem?_eq_some_iff.1 e).2]
    exact foldX_ok (hi k hk)
  · have hs := fold_same f
    have hg : ∀ (to : Int) (l : List Int), goesB f to l (b.params + b.ins.length) = true → goesB (foldF f) to l (b.params + (foldIns b).length) = true := fun to l h => goesB_same hs h rfl (fun h => by rw [foldIns_length]; exact h)
    rw [endB_iff] at he ⊢
    unfold foldB
    rcases he with ⟨e1, e2, e3⟩ | ⟨e1, e2, e3, e4⟩ | ⟨e1, e2, e3⟩
    · rw [if_neg (by omega)]
      exact .inl ⟨e1, hg _ _ e2, e3⟩
    · rw [if_pos e1]
      cases atO (foldVals b) b.ta with
      | none => exact .inr (.inl ⟨e1, by simpa using e2, hg _ _ e3, hg _ _ e4⟩)
      | some v =>
        simp only
        split
        · exact .inl ⟨rfl, hg _ _ e4, rfl, rfl, rfl⟩
        · exact .inl ⟨rfl, hg _ _ e3, rfl, rfl, rfl⟩
    · rw [if_neg (by omega)]
      exact .inr (.inr ⟨e1, by simpa using e2, e3⟩)
end
theorem fold_map {m : Module} (hok : ModOk m) : MapF m foldF where
  name _ _ := rfl
  params _ _ := rfl
  ok f hf := by
    have h := hok.funcs f hf
    refine funcOk_mk h rfl rfl rfl (by simp [foldF]) (by simp [foldF]) (fun b hb => ?_) (fun b hb => ?_)
    · have hb : (f.blocks.map foldB)[0]? = some b := hb
      rw [List.getElem?_map] at hb
      cases h0 : f.blocks[0]? with
      | none => rw [h0] at hb; cases hb
      | some c =>
        rw [h0] at hb
        injection hb with hb
        subst hb
        have hl := (List.getElem?_eq_some_iff.1 h0).1
        rw [foldB_params, ← (List.getElem?_eq_some_iff.1 h0).2]
        exact funcOk_first h hl
    · obtain ⟨c, hc, rfl⟩ := List.mem_map.1 hb
      exact foldB_ok (List.all_eq_true.1 (funcOk_all h) c hc)
  blocks f _ := by simp [foldF]
  ins f _ x hx hop := by
    obtain ⟨b', hb', hx⟩ := List.mem_flatMap.1 hx
    obtain ⟨b, hb, rfl⟩ := List.mem_map.1 hb'
    rw [foldB_ins] at hx
    obtain ⟨k, hk, rfl⟩ := List.getElem_of_mem hx
    have hk' : k < b.ins.length := by simpa using hk
    have hy : b.ins[k]? = some b.ins[k] := List.getElem?_eq_getElem hk'
    have e := (List.getElem?_eq_some_iff.1 (foldIns_at hy)).2
    rw [e] at hop ⊢
    refine ⟨b.ins[k], List.mem_flatMap.2 ⟨b, hb, List.getElem_mem hk'⟩, ?_⟩
    cases ho : foldV (foldL (noneL b) (b.ins.take k)) b.ins[k] with
    | none => exact ⟨rfl, rfl, rfl⟩
    | some u =>
      rw [ho] at hop
      have : (1 : Int) = 12 ∨ (1 : Int) = 13 ∨ (1 : Int) = 14 := hop
      omega
theorem fold_ok {m : Module} (h : ModOk m) : ModOk (foldM m) := (fold_map h).okM h
end Go.Proofs.Ytgadlpdbkohlbaa
