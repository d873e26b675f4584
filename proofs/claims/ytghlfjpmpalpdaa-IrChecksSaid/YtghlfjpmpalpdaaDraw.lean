/- Regions that draw their order: where operations that are not ordered do not see each other, any order does as the list. -/
import Derived.Test.YtghlfjpmpalpdaaTr
import Derived.Orders
namespace Go.Proofs.Ytghlfjpmpalpdaa
open Go.RowKit

def Opd.slots : Opd → List Slot
  | .s p => [p]
  | _ => []
def optSlots : Option Opd → List Slot
  | some x => x.slots
  | none => []
def AOp.slots : AOp → List Slot
  | .mv x | .fld x _ | .ld _ x _ | .not x | .len _ x | .ext x _ | .box _ x => x.slots
  | .pick c a b => c.slots ++ (a.slots ++ b.slots)
  | .idx _ x i _ => x.slots ++ i.slots
  | .bin _ x y | .binb _ x y => x.slots ++ y.slots
  | .mkfn _ caps => caps.flatMap Opd.slots
  | .mksl _ _ _ ps => ps.flatMap fun p => p.2.2.slots
  | .bld _ ps => ps.flatMap fun p => p.2.2.slots
  | .slc x lo hi _ => x.slots ++ (optSlots lo ++ optSlots hi)
  | .call _ f args | .callo _ _ f args => f.slots ++ args.flatMap Opd.slots
  | .ini _ a x _ => a.slots ++ x.slots
  | .mget x k _ _ _ => x.slots ++ k.slots
  | .mlen x => x.slots
  | .isnil _ x => x.slots
  | .eqs _ x y _ => x.slots ++ y.slots
  | .mmk _ => []
  | .mset x k v _ => x.slots ++ (k.slots ++ v.slots)
  | .bad => []
  | .new _ | .nrow _ _ => []
  | .st a x _ => a.slots ++ x.slots
  | .app _ _ _ s x => s.slots ++ x.slots
def AOper.uses (o : AOper) : List Slot := (match o.guard with | some (p, _) => [p] | none => []) ++ o.op.slots

inductive Cls where
  | P | L | O | A | I | M
  deriving DecidableEq
def AOp.cls : AOp → Cls
  | .ld false .. | .idx false .. | .len .. | .bld .. | .call false .. | .mget .. | .mlen .. => .L
  | .new _ | .nrow _ _ => .A
  | .ini .. => .I
  | .st .. | .app .. | .box false _ | .callo .. | .mmk .. | .mset .. => .M
  | _ => .P
def back : AOp → Nat
  | .ini b _ _ _ => b
  | _ => 0
/-- An operation's class; O: it reads only objects that were there whn the region began. -/
def AOper.cls (i : Nat) (o : AOper) : Cls :=
  match o.op.cls with
  | .L => if o.low = some i then .O else .L
  | c => c
/-- May two operations, at places i and j, see each other's objects? -/
def conf (i : Nat) (a : AOper) (j : Nat) (b : AOper) : Bool :=
  match a.cls i, b.cls j with
  | .P, _ | _, .P | .L, .L | .O, .L | .L, .O | .O, .O | .A, .A | .O, .A | .A, .O => false
  | .O, .I => !decide (back b.op ≤ j)
  | .I, .O => !decide (back a.op ≤ i)
  | .A, .I => !(decide (back b.op ≤ j) && (j - back b.op != i))
  | .I, .A => !(decide (back a.op ≤ i) && (i - back a.op != j))
  | .I, .I => !(decide (back a.op ≤ i) && decide (back b.op ≤ j) && (i - back a.op != j - back b.op))
  | _, _ => true
theorem cls_op {i : Nat} {o : AOper} {c : Cls} (h : o.cls i = c) (h1 : c ≠ .L) (h2 : c ≠ .O) : o.op.cls = c := by
  unfold AOper.cls at h
  split at h
  · split at h
    · exact absurd h.symm h2
    · exact absurd h.symm h1
  · exact h
theorem cls_notO (op : AOp) : op.cls ≠ .O := by
  cases op with
  | box imm x => cases imm <;> simp [AOp.cls]
  | ld c x k => cases c <;> simp [AOp.cls]
  | idx c x i n => cases c <;> simp [AOp.cls]
  | call c f a => cases c <;> simp [AOp.cls]
  | _ => simp [AOp.cls]
theorem cls_low {i : Nat} {o : AOper} (h : o.cls i = .O) : o.op.cls = .L ∧ o.low = some i := by
  unfold AOper.cls at h
  split at h
  · rename_i hL
    split at h
    · rename_i hl; exact ⟨hL, hl⟩
    · cases h
  · exact absurd h (cls_notO _)
theorem cls_read {i : Nat} {o : AOper} (h : o.cls i = .L) : o.op.cls = .L := by
  unfold AOper.cls at h
  split at h
  · rename_i hL; exact hL
  · exact h

def noDst : AOper → Bool
  | ⟨some _, _, .st .., _⟩ => false
  | ⟨some _, _, .ini .., _⟩ => false
  | ⟨some _, _, .mset .., _⟩ => false
  | _ => true

def stpV (r : DV) (id : Nat) (ao : AOper) (e : T) (H : Heap) : AV :=
  match ao.op with
  | .call _ _ _ => wrap e ao.guard (.d r)
  | .callo _ _ _ _ => .own id (lenOf r)
  | .ini _ _ _ _ => .d .top
  | .box true x => match allD (x.av e).strip.cells with | some ds => .d (.cref ds 0) | none => .d .top
  | .box false _ => .ptr id 0
  | .new _ => .ptr id 0
  | .nrow _ _ => .own id 0
  | .st _ _ _ => .d .top
  | .app t n _ s x => (appV H t n id (s.av e).strip (x.av e).strip).1
  | .mmk _ => .mp id
  | .mset _ _ _ _ => .d .top
  | op => wrap e ao.guard (op.val e (ao.hv id H))
def stpH (r : DV) (id : Nat) (ao : AOper) (e : T) (H : Heap) : Heap :=
  match ao.op with
  | .callo te _ _ _ => hadd id (ownOf te r) H
  | .ini back _ x _ => hset H (id - back) (.box (x.av e).strip.cells)
  | .box false x => hadd id (.box (x.av e).strip.cells) H
  | .new zs => hadd id (.box (zs.map fun z => .d (.lit z))) H
  | .nrow t n => hadd id (.row t n 0 fun _ => []) H
  | .st a x _ => stH H (a.av e).strip (x.av e).strip
  | .app t n _ s x => (appV H t n id (s.av e).strip (x.av e).strip).2
  | .mmk kd => hadd id (.map kd 0 fun _ => none) H
  | .mset x k v _ => msetH H (x.av e).strip (k.av e).strip (v.av e).strip
  | _ => H

theorem stp_eq {r : DV} {id : Nat} {ao : AOper} (h : noDst ao = true) (e : T) (H : Heap) : stp r id ao e H = (setD e ao.dst (stpV r id ao e H), stpH r id ao e H) := by
  obtain ⟨dst, gd, op, lo⟩ := ao
  cases op with
  | box imm x => cases imm <;> rfl
  | st a x k =>
    cases dst with
    | none => rfl
    | some p => simp [noDst] at h
  | ini b a x k =>
    cases dst with
    | none => rfl
    | some p => simp [noDst] at h
  | mset x k v kd =>
    cases dst with
    | none => rfl
    | some p => simp [noDst] at h
  | _ => rfl

/-- Two trees say the same of some slots. -/
def Agree (e e' : T) (l : List Slot) : Prop := ∀ p ∈ l, e.get p = e'.get p
theorem Agree.left {e e' : T} {l m : List Slot} (h : Agree e e' (l ++ m)) : Agree e e' l := fun p hp => h p (by simp [hp])
theorem Agree.right {e e' : T} {l m : List Slot} (h : Agree e e' (l ++ m)) : Agree e e' m := fun p hp => h p (by simp [hp])
theorem Agree.av {e e' : T} {x : Opd} (h : Agree e e' x.slots) : x.av e = x.av e' := by
  cases x with
  | s p => exact h p (by simp [Opd.slots])
  | c v => rfl
  | f F => rfl
theorem Agree.avs {e e' : T} {xs : List Opd} (h : Agree e e' (xs.flatMap Opd.slots)) : ∀ x ∈ xs, x.av e = x.av e' := fun x hx => Agree.av fun p hp => h p (List.mem_flatMap.2 ⟨x, hx, hp⟩)
theorem Agree.parts {e e' : T} {ps : List (Nat × Nat × Opd)} (h : Agree e e' (ps.flatMap fun p => p.2.2.slots)) : ∀ x ∈ ps, x.2.2.av e = x.2.2.av e' := fun x hx => Agree.av fun p hp => h p (List.mem_flatMap.2 ⟨x, hx, hp⟩)
theorem partsV_congr {e e' : T} {ps : List (Nat × Nat × Opd)} (h : ∀ x ∈ ps, x.2.2.av e = x.2.2.av e') : partsV e ps = partsV e' ps := by
  unfold partsV
  exact List.map_congr_left fun x hx => by rw [h x hx]
theorem liveAll_congr {e e' : T} {xs : List Opd} (h : ∀ x ∈ xs, x.av e = x.av e') : liveAll e xs = liveAll e' xs := by
  unfold liveAll
  apply propext
  exact ⟨fun k x hx => by rw [← h x hx]; exact k x hx, fun k x hx => by rw [h x hx]; exact k x hx⟩
theorem liveParts_congr {e e' : T} {ps : List (Nat × Nat × Opd)} (h : ∀ x ∈ ps, x.2.2.av e = x.2.2.av e') : liveAll e (ps.map fun p => p.2.2) = liveAll e' (ps.map fun p => p.2.2) :=
  liveAll_congr fun x hx => by
    obtain ⟨p, hp, rfl⟩ := List.mem_map.1 hx
    exact h p hp
theorem bndV_congr {e e' : T} {lo : Option Opd} (h : Agree e e' (optSlots lo)) (d : Int) : bndV e d lo = bndV e' d lo := by
  cases lo with
  | none => rfl
  | some x => simp only [bndV, Agree.av (x := x) h]
theorem bndOk_congr {e e' : T} {lo : Option Opd} (h : Agree e e' (optSlots lo)) : bndOk e lo = bndOk e' lo := by
  cases lo with
  | none => rfl
  | some x => simp only [bndOk, Agree.av (x := x) h]

theorem val_congr {e e' : T} {op : AOp} (h : Agree e e' op.slots) (H : Heap) : op.val e H = op.val e' H := by
  cases op with
  | mv x => simp only [AOp.val, Agree.av (x := x) h]
  | pick c a b => simp only [AOp.val, Agree.av (x := c) h.left, Agree.av (x := a) h.right.left, Agree.av (x := b) h.right.right]
  | fld x off => simp only [AOp.val, Agree.av (x := x) h]
  | ld c x k => simp only [AOp.val, Agree.av (x := x) h]
  | idx c x i n => simp only [AOp.val, Agree.av (x := x) h.left, Agree.av (x := i) h.right]
  | bin o x y => simp only [AOp.val, Agree.av (x := x) h.left, Agree.av (x := y) h.right]
  | binb o x y => simp only [AOp.val, Agree.av (x := x) h.left, Agree.av (x := y) h.right]
  | not x => simp only [AOp.val, Agree.av (x := x) h]
  | len s x => simp only [AOp.val, Agree.av (x := x) h]
  | mkfn F caps =>
    simp only [AOp.val]
    congr 1
    exact List.map_congr_left fun x hx => by rw [Agree.avs h x hx]
  | mksl n m zs ps => simp only [AOp.val, partsV_congr (Agree.parts h)]
  | bld zs ps => simp only [AOp.val, partsV_congr (Agree.parts h)]
  | ext x i => simp only [AOp.val, Agree.av (x := x) h]
  | slc x lo hi n => simp only [AOp.val, Agree.av (x := x) h.left, bndV_congr h.right.left, bndV_congr h.right.right]
  | mget x k ok kd z => simp only [AOp.val, Agree.av (x := x) h.left, Agree.av (x := k) h.right]
  | mlen x => simp only [AOp.val, Agree.av (x := x) h]
  | isnil neg x => simp only [AOp.val, Agree.av (x := x) h]
  | eqs neg x y ks => simp only [AOp.val, Agree.av (x := x) h.left, Agree.av (x := y) h.right]
  | _ => rfl
theorem ok_congr {e e' : T} {op : AOp} (h : Agree e e' op.slots) (H : Heap) : op.ok e H = op.ok e' H := by
  cases op with
  | mv x => simp only [AOp.ok, Agree.av (x := x) h]
  | pick c a b => simp only [AOp.ok, Agree.av (x := c) h.left, Agree.av (x := a) h.right.left, Agree.av (x := b) h.right.right]
  | fld x off => simp only [AOp.ok, Agree.av (x := x) h]
  | ld c x k => simp only [AOp.ok, Agree.av (x := x) h]
  | idx c x i n => simp only [AOp.ok, Agree.av (x := x) h.left, Agree.av (x := i) h.right]
  | bin o x y => simp only [AOp.ok, Agree.av (x := x) h.left, Agree.av (x := y) h.right]
  | binb o x y => simp only [AOp.ok, Agree.av (x := x) h.left, Agree.av (x := y) h.right]
  | not x => simp only [AOp.ok, Agree.av (x := x) h]
  | len s x => simp only [AOp.ok, Agree.av (x := x) h]
  | mkfn F caps => exact liveAll_congr (Agree.avs h)
  | mksl n m zs ps => simp only [AOp.ok, partsV_congr (Agree.parts h), liveParts_congr (Agree.parts h)]
  | bld zs ps => simp only [AOp.ok, partsV_congr (Agree.parts h), liveParts_congr (Agree.parts h)]
  | ext x i => simp only [AOp.ok, Agree.av (x := x) h]
  | slc x lo hi n => simp only [AOp.ok, Agree.av (x := x) h.left, bndV_congr h.right.left, bndV_congr h.right.right, bndOk_congr h.right.left, bndOk_congr h.right.right]
  | mget x k ok kd z => simp only [AOp.ok, Agree.av (x := x) h.left, Agree.av (x := k) h.right]
  | mlen x => simp only [AOp.ok, Agree.av (x := x) h]
  | isnil neg x => simp only [AOp.ok, Agree.av (x := x) h]
  | eqs neg x y ks => simp only [AOp.ok, Agree.av (x := x) h.left, Agree.av (x := y) h.right]
  | _ => rfl

theorem guard_congr {e e' : T} {gd : Option (Slot × Bool)} (h : Agree e e' (match gd with | some (p, _) => [p] | none => [])) : gval e gd = gval e' gd ∧ gok e gd = gok e' gd ∧ ∀ x, wrap e gd x = wrap e' gd x := by
  cases gd with
  | none => exact ⟨rfl, rfl, fun _ => rfl⟩
  | some g =>
    obtain ⟨p, want⟩ := g
    have hp : e.get p = e'.get p := h p (by simp)
    have h1 : gval e (some (p, want)) = gval e' (some (p, want)) := by simp only [gval, hp]
    exact ⟨h1, by simp only [gok, hp], fun x => by simp only [wrap, h1]⟩

theorem calloOk_congr {P : Program} {e e' : T} {f : Opd} {args : List Opd} (h : Agree e e' (f.slots ++ args.flatMap Opd.slots)) (H : Heap) (te : TypeId) (n : Nat) (r : DV) : calloOk P e H te n f args r = calloOk P e' H te n f args r := by
  unfold calloOk
  have h1 := Agree.av (x := f) h.left
  have h2 := Agree.avs h.right
  have h3 : (args.map fun x => (x.av e).strip) = args.map fun x => (x.av e').strip := List.map_congr_left fun x hx => by rw [h2 x hx]
  rw [h1, h3, liveAll_congr (e := e) (e' := e') (xs := f :: args) (fun x hx => by
    rcases List.mem_cons.1 hx with rfl | hx
    · exact h1
    · exact h2 x hx)]
theorem callOk_congr {P : Program} {e e' : T} {f : Opd} {args : List Opd} (h : Agree e e' (f.slots ++ args.flatMap Opd.slots)) (H : Heap) (r : DV) : callOk P e H f args r = callOk P e' H f args r := by
  unfold callOk
  have h1 := Agree.av (x := f) h.left
  have h2 := Agree.avs h.right
  have h3 : (args.map fun x => (x.av e).strip) = args.map fun x => (x.av e').strip := List.map_congr_left fun x hx => by rw [h2 x hx]
  rw [h1, h3, liveAll_congr (e := e) (e' := e') (xs := f :: args) (fun x hx => by
    rcases List.mem_cons.1 hx with rfl | hx
    · exact h1
    · exact h2 x hx)]

section
variable {P : Program} {r : DV} {id : Nat} {ao : AOper} {e e' : T}

theorem okS_congr (h : Agree e e' ao.uses) (H : Heap) : okS P r id ao e H = okS P r id ao e' H := by
  obtain ⟨dst, gd, op, lo⟩ := ao
  have hg := guard_congr (gd := gd) (h.left (m := op.slots))
  have ho : Agree e e' op.slots := h.right
  cases op with
  | call c f args => simp only [okS, hg.1, hg.2.1, callOk_congr ho]
  | callo te n f args => simp only [okS, calloOk_congr ho]
  | ini b a x k => simp only [okS, Agree.av (x := a) ho.left, Agree.av (x := x) ho.right]
  | bad => rfl
  | box imm x => simp only [okS, Agree.av (x := x) ho]
  | new zs => rfl
  | nrow t n => rfl
  | st a x k => simp only [okS, Agree.av (x := a) ho.left, Agree.av (x := x) ho.right]
  | app t n b s x => simp only [okS, Agree.av (x := s) ho.left, Agree.av (x := x) ho.right]
  | mmk kd => rfl
  | mset x k v kd => simp only [okS, Agree.av (x := x) ho.left, Agree.av (x := k) ho.right.left, Agree.av (x := v) ho.right.right]
  | _ => simp only [okS, hg.1, hg.2.1, ok_congr ho]
theorem stpV_congr (h : Agree e e' ao.uses) (H : Heap) : stpV r id ao e H = stpV r id ao e' H := by
  obtain ⟨dst, gd, op, lo⟩ := ao
  have hg := guard_congr (gd := gd) (h.left (m := op.slots))
  have ho : Agree e e' op.slots := h.right
  cases op with
  | call c f args => simp only [stpV, hg.2.2]
  | callo te n f args => rfl
  | ini b a x k => rfl
  | box imm x => cases imm <;> simp only [stpV, Agree.av (x := x) ho]
  | new zs => rfl
  | nrow t n => rfl
  | st a x k => rfl
  | app t n b s x => simp only [stpV, Agree.av (x := s) ho.left, Agree.av (x := x) ho.right]
  | mmk kd => rfl
  | mset x k v kd => rfl
  | _ => simp only [stpV, hg.2.2, val_congr ho]
theorem stpH_congr (h : Agree e e' ao.uses) (H : Heap) : stpH r id ao e H = stpH r id ao e' H := by
  obtain ⟨dst, gd, op, lo⟩ := ao
  have ho : Agree e e' op.slots := h.right
  cases op with
  | box imm x => cases imm <;> simp only [stpH, Agree.av (x := x) ho]
  | st a x k => simp only [stpH, Agree.av (x := a) ho.left, Agree.av (x := x) ho.right]
  | ini b a x k => simp only [stpH, Agree.av (x := x) ho.right]
  | app t n b s x => simp only [stpH, Agree.av (x := s) ho.left, Agree.av (x := x) ho.right]
  | mset x k v kd => simp only [stpH, Agree.av (x := x) ho.left, Agree.av (x := k) ho.right.left, Agree.av (x := v) ho.right.right]
  | _ => rfl

theorem cls_ok (h : ao.op.cls = .P ∨ ao.op.cls = .A) (H H' : Heap) : okS P r id ao e H = okS P r id ao e H' := by
  obtain ⟨dst, gd, op, lo⟩ := ao
  cases op with
  | box imm x => cases imm <;> simp [AOp.cls] at h; rfl
  | ld c x k => cases c <;> simp [AOp.cls] at h; rfl
  | idx c x i n => cases c <;> simp [AOp.cls] at h; rfl
  | call c f args => cases c <;> simp [AOp.cls] at h; rfl
  | callo => simp [AOp.cls] at h
  | ini => simp [AOp.cls] at h
  | len => simp [AOp.cls] at h
  | bld => simp [AOp.cls] at h
  | st => simp [AOp.cls] at h
  | app => simp [AOp.cls] at h
  | mget => simp [AOp.cls] at h
  | mlen => simp [AOp.cls] at h
  | mmk => simp [AOp.cls] at h
  | mset => simp [AOp.cls] at h
  | _ => rfl
theorem cls_heapV (h : ao.op.cls = .P ∨ ao.op.cls = .A ∨ ao.op.cls = .I) (H H' : Heap) : stpV r id ao e H = stpV r id ao e H' := by
  obtain ⟨dst, gd, op, lo⟩ := ao
  cases op with
  | box imm x => cases imm <;> simp [AOp.cls] at h; rfl
  | ld c x k => cases c <;> simp [AOp.cls] at h; rfl
  | idx c x i n => cases c <;> simp [AOp.cls] at h; rfl
  | call c f args => cases c <;> simp [AOp.cls] at h; rfl
  | callo => simp [AOp.cls] at h
  | len => simp [AOp.cls] at h
  | bld => simp [AOp.cls] at h
  | st => simp [AOp.cls] at h
  | app => simp [AOp.cls] at h
  | mget => simp [AOp.cls] at h
  | mlen => simp [AOp.cls] at h
  | mmk => simp [AOp.cls] at h
  | mset => simp [AOp.cls] at h
  | _ => rfl
/-- What reads only old objects: the same where the old objects are the same. -/
theorem cls_old {H H' : Heap} (h : ao.hv id H = ao.hv id H') (hc : ao.op.cls = .L) : okS P r id ao e H = okS P r id ao e H' := by
  obtain ⟨dst, gd, op, lo⟩ := ao
  cases op with
  | box imm x => cases imm <;> simp [AOp.cls] at hc
  | callo => simp [AOp.cls] at hc
  | ini => simp [AOp.cls] at hc
  | new => simp [AOp.cls] at hc
  | nrow => simp [AOp.cls] at hc
  | st => simp [AOp.cls] at hc
  | app => simp [AOp.cls] at hc
  | mmk => simp [AOp.cls] at hc
  | mset => simp [AOp.cls] at hc
  | bad => rfl
  | _ => simp only [okS, h]
theorem cls_oldV {H H' : Heap} (h : ao.hv id H = ao.hv id H') (hc : ao.op.cls = .L) : stpV r id ao e H = stpV r id ao e H' := by
  obtain ⟨dst, gd, op, lo⟩ := ao
  cases op with
  | box imm x => cases imm <;> simp [AOp.cls] at hc
  | callo => simp [AOp.cls] at hc
  | ini => simp [AOp.cls] at hc
  | new => simp [AOp.cls] at hc
  | nrow => simp [AOp.cls] at hc
  | st => simp [AOp.cls] at hc
  | app => simp [AOp.cls] at hc
  | mmk => simp [AOp.cls] at hc
  | mset => simp [AOp.cls] at hc
  | bad => rfl
  | call => rfl
  | _ => simp only [stpV, h]
theorem cls_same (h : ao.op.cls = .P ∨ ao.op.cls = .L) (H : Heap) : stpH r id ao e H = H := by
  obtain ⟨dst, gd, op, lo⟩ := ao
  cases op with
  | box imm x => cases imm <;> simp [AOp.cls] at h; rfl
  | callo => simp [AOp.cls] at h
  | ini => simp [AOp.cls] at h
  | new => simp [AOp.cls] at h
  | nrow => simp [AOp.cls] at h
  | st => simp [AOp.cls] at h
  | app => simp [AOp.cls] at h
  | mmk => simp [AOp.cls] at h
  | mset => simp [AOp.cls] at h
  | _ => rfl
theorem cls_new (h : ao.op.cls = .A) : ∃ c, ∀ e H, stpH r id ao e H = hadd id c H := by
  obtain ⟨dst, gd, op, lo⟩ := ao
  cases op with
  | box imm x => cases imm <;> simp [AOp.cls] at h
  | ld c => cases c <;> simp [AOp.cls] at h
  | idx c => cases c <;> simp [AOp.cls] at h
  | call c => cases c <;> simp [AOp.cls] at h
  | new zs => exact ⟨_, fun _ _ => rfl⟩
  | nrow t n => exact ⟨_, fun _ _ => rfl⟩
  | _ => simp [AOp.cls] at h
theorem cls_iniH (h : ao.op.cls = .I) : ∃ c, ∀ H, stpH r id ao e H = hset H (id - back ao.op) c := by
  obtain ⟨dst, gd, op, lo⟩ := ao
  cases op with
  | box imm x => cases imm <;> simp [AOp.cls] at h
  | ld c => cases c <;> simp [AOp.cls] at h
  | idx c => cases c <;> simp [AOp.cls] at h
  | call c => cases c <;> simp [AOp.cls] at h
  | ini b a x k => exact ⟨_, fun _ => rfl⟩
  | _ => simp [AOp.cls] at h
theorem cls_iniO (h : ao.op.cls = .I) : ∀ H H', hget H (id - back ao.op) = hget H' (id - back ao.op) → okS P r id ao e H = okS P r id ao e H' := by
  obtain ⟨dst, gd, op, lo⟩ := ao
  cases op with
  | box imm x => cases imm <;> simp [AOp.cls] at h
  | ld c => cases c <;> simp [AOp.cls] at h
  | idx c => cases c <;> simp [AOp.cls] at h
  | call c => cases c <;> simp [AOp.cls] at h
  | ini b a x k =>
    intro H H' hh
    have hh' : hget H (id - b) = hget H' (id - b) := hh
    simp only [okS, iniOk, hh']
  | _ => simp [AOp.cls] at h
end

theorem hadd_comm {i j : Nat} (h : i ≠ j) (a b : AObj) (H : Heap) : hadd i a (hadd j b H) = hadd j b (hadd i a H) := by
  funext k
  unfold hadd
  by_cases h1 : i = k
  · subst h1; simp [Ne.symm h]
  · simp [h1]

theorem hset_comm {i j : Nat} (h : i ≠ j) (a b : AObj) (H : Heap) : hset (hset H j b) i a = hset (hset H i a) j b := by
  funext k
  unfold hset
  by_cases h1 : i = k
  · subst h1; simp [Ne.symm h]
  · simp [h1]
theorem hset_add {i j : Nat} (h : i ≠ j) (a b : AObj) (H : Heap) : hset (hadd i a H) j b = hadd i a (hset H j b) := by
  funext k
  unfold hset hadd
  by_cases h1 : i = k
  · subst h1; simp [Ne.symm h]
  · simp [h1]

/-- Slots of one length, and the one is not written, or read, by the other. -/
def free (D : Nat) (d : Option Slot) (l : List Slot) : Bool :=
  match d with
  | none => true
  | some p => p.length == D && l.all fun q => q.length == D && p != q
def apart2 (D i : Nat) (a : AOper) (j : Nat) (b : AOper) : Bool :=
  noDst a && noDst b && free D a.dst b.uses && free D b.dst a.uses && free D a.dst b.dst.toList && free D b.dst a.dst.toList && !conf i a j b

theorem agree_set {D : Nat} {d : Option Slot} {l : List Slot} (h : free D d l = true) (e : T) (x : AV) : Agree (setD e d x) e l := by
  intro q hq
  cases d with
  | none => rfl
  | some p =>
    simp only [free, Bool.and_eq_true, beq_iff_eq, List.all_eq_true, bne_iff_ne] at h
    obtain ⟨h1, h2⟩ := h.2 q hq
    exact T.get_set_ne x p q e (h.1.trans h1.symm) h2

theorem set_comm {D : Nat} {d d' : Option Slot} (h : free D d d'.toList = true) (e : T) (x y : AV) : setD (setD e d x) d' y = setD (setD e d' y) d x := by
  cases d with
  | none => rfl
  | some p =>
    cases d' with
    | none => rfl
    | some q =>
      simp only [free, Option.toList, List.all_cons, List.all_nil, Bool.and_true, Bool.and_eq_true, beq_iff_eq, bne_iff_ne] at h
      exact T.set_comm x y p q e (h.1.trans h.2.1.symm) h.2.2

section
variable {P : Program} {D : Nat} {a b : AOper}

theorem hlow_add {nx k : Nat} (o : AObj) (H : Heap) : hlow nx (hadd (nx + k) o H) = hlow nx H := by
  funext q
  unfold hlow hadd
  by_cases hq : q < nx
  · rw [if_pos hq, if_pos hq, if_neg (by omega)]
  · rw [if_neg hq, if_neg hq]
theorem hlow_set {nx k : Nat} (h : nx ≤ k) (o : AObj) (H : Heap) : hlow nx (hset H k o) = hlow nx H := by
  funext q
  unfold hlow hset
  by_cases hq : q < nx
  · rw [if_pos hq, if_pos hq, if_neg (by omega)]
  · rw [if_neg hq, if_neg hq]
theorem hv_at {nx i : Nat} {o : AOper} (h : o.low = some i) (H : Heap) : o.hv (nx + i) H = hlow nx H := by
  unfold AOper.hv
  rw [h]
  simp [lowH]

theorem apart_ok {nx i j : Nat} (h : apart2 D i a j b = true) {r r' : DV} (e : T) (H : Heap) : okS P r (nx + j) b (stp r' (nx + i) a e H).1 (stp r' (nx + i) a e H).2 = okS P r (nx + j) b e H := by
  simp only [apart2, Bool.and_eq_true] at h
  obtain ⟨⟨⟨⟨⟨⟨h1, h2⟩, h3⟩, h4⟩, h5⟩, h6⟩, h7⟩ := h
  have h7' : conf i a j b = false := by simpa using h7
  rw [stp_eq h1]
  simp only
  rw [okS_congr (agree_set h3 e _)]
  unfold conf at h7'
  cases ha : a.cls i with
  | P => rw [cls_same (.inl (cls_op ha (by simp) (by simp)))]
  | L => rw [cls_same (.inr (cls_read ha))]
  | O => rw [cls_same (.inr (cls_low ha).1)]
  | A =>
    rw [ha] at h7'
    obtain ⟨c, hc⟩ := cls_new (r := r') (id := nx + i) (cls_op ha (by simp) (by simp))
    cases hb : b.cls j with
    | P => exact cls_ok (.inl (cls_op hb (by simp) (by simp))) _ _
    | A => exact cls_ok (.inr (cls_op hb (by simp) (by simp))) _ _
    | O =>
      obtain ⟨hbL, hlo⟩ := cls_low hb
      refine cls_old ?_ hbL
      rw [hc, hv_at hlo, hv_at hlo, hlow_add]
    | I =>
      rw [hb] at h7'
      simp at h7'
      refine cls_iniO (cls_op hb (by simp) (by simp)) _ _ ?_
      rw [hc, hget_add, if_neg (by omega)]
    | L => rw [hb] at h7'; simp at h7'
    | M => rw [hb] at h7'; simp at h7'
  | I =>
    rw [ha] at h7'
    obtain ⟨c, hc⟩ := cls_iniH (r := r') (id := nx + i) (e := e) (cls_op ha (by simp) (by simp))
    cases hb : b.cls j with
    | P => exact cls_ok (.inl (cls_op hb (by simp) (by simp))) _ _
    | A => exact cls_ok (.inr (cls_op hb (by simp) (by simp))) _ _
    | O =>
      rw [hb] at h7'
      simp at h7'
      obtain ⟨hbL, hlo⟩ := cls_low hb
      refine cls_old ?_ hbL
      rw [hc, hv_at hlo, hv_at hlo, hlow_set (by omega)]
    | I =>
      rw [hb] at h7'
      simp at h7'
      refine cls_iniO (cls_op hb (by simp) (by simp)) _ _ ?_
      rw [hc, hget_set, if_neg (by omega)]
    | L => rw [hb] at h7'; simp at h7'
    | M => rw [hb] at h7'; simp at h7'
  | M =>
    rw [ha] at h7'
    cases hb : b.cls j with
    | P => exact cls_ok (.inl (cls_op hb (by simp) (by simp))) _ _
    | _ => rw [hb] at h7'; simp at h7'

/-- What two operations that do not see each other make of the objects, and hand back. -/
theorem apart_heap {nx i j : Nat} (h7' : conf i a j b = false) {r r' : DV} (hij : i ≠ j) (e : T) (H : Heap) :
    stpV r (nx + j) b e (stpH r' (nx + i) a e H) = stpV r (nx + j) b e H ∧ stpH r (nx + j) b e (stpH r' (nx + i) a e H) = stpH r' (nx + i) a e (stpH r (nx + j) b e H) := by
  unfold conf at h7'
  cases ha : a.cls i with
  | P => rw [cls_same (.inl (cls_op ha (by simp) (by simp))), cls_same (.inl (cls_op ha (by simp) (by simp)))]; exact ⟨rfl, rfl⟩
  | L => rw [cls_same (.inr (cls_read ha)), cls_same (.inr (cls_read ha))]; exact ⟨rfl, rfl⟩
  | O => rw [cls_same (.inr (cls_low ha).1), cls_same (.inr (cls_low ha).1)]; exact ⟨rfl, rfl⟩
  | A =>
    rw [ha] at h7'
    obtain ⟨ca, hca⟩ := cls_new (r := r') (id := nx + i) (cls_op ha (by simp) (by simp))
    cases hb : b.cls j with
    | P =>
      have hb' := cls_op hb (by simp) (by simp)
      rw [cls_same (.inl hb'), cls_same (.inl hb')]
      exact ⟨cls_heapV (.inl hb') _ _, rfl⟩
    | O =>
      obtain ⟨hbL, hlo⟩ := cls_low hb
      rw [cls_same (.inr hbL), cls_same (.inr hbL)]
      refine ⟨cls_oldV ?_ hbL, rfl⟩
      rw [hca, hv_at hlo, hv_at hlo, hlow_add]
    | A =>
      have hb' := cls_op hb (by simp) (by simp)
      obtain ⟨cb, hcb⟩ := cls_new (r := r) (id := nx + j) hb'
      rw [hca, hcb, hcb, hca]
      exact ⟨cls_heapV (.inr (.inl hb')) _ _, hadd_comm (by omega) _ _ _⟩
    | I =>
      rw [hb] at h7'
      simp at h7'
      have hb' := cls_op hb (by simp) (by simp)
      obtain ⟨cb, hcb⟩ := cls_iniH (r := r) (id := nx + j) (e := e) hb'
      rw [hca, hcb, hcb, hca]
      exact ⟨cls_heapV (.inr (.inr hb')) _ _, hset_add (by omega) _ _ _⟩
    | L => rw [hb] at h7'; simp at h7'
    | M => rw [hb] at h7'; simp at h7'
  | I =>
    rw [ha] at h7'
    obtain ⟨ca, hca⟩ := cls_iniH (r := r') (id := nx + i) (e := e) (cls_op ha (by simp) (by simp))
    cases hb : b.cls j with
    | P =>
      have hb' := cls_op hb (by simp) (by simp)
      rw [cls_same (.inl hb'), cls_same (.inl hb')]
      exact ⟨cls_heapV (.inl hb') _ _, rfl⟩
    | O =>
      rw [hb] at h7'
      simp at h7'
      obtain ⟨hbL, hlo⟩ := cls_low hb
      rw [cls_same (.inr hbL), cls_same (.inr hbL)]
      refine ⟨cls_oldV ?_ hbL, rfl⟩
      rw [hca, hv_at hlo, hv_at hlo, hlow_set (by omega)]
    | A =>
      rw [hb] at h7'
      simp at h7'
      have hb' := cls_op hb (by simp) (by simp)
      obtain ⟨cb, hcb⟩ := cls_new (r := r) (id := nx + j) hb'
      rw [hca, hcb, hcb, hca]
      exact ⟨cls_heapV (.inr (.inl hb')) _ _, (hset_add (by omega) _ _ _).symm⟩
    | I =>
      rw [hb] at h7'
      simp at h7'
      have hb' := cls_op hb (by simp) (by simp)
      obtain ⟨cb, hcb⟩ := cls_iniH (r := r) (id := nx + j) (e := e) hb'
      rw [hca, hcb, hcb, hca]
      exact ⟨cls_heapV (.inr (.inr hb')) _ _, hset_comm (by omega) _ _ _⟩
    | L => rw [hb] at h7'; simp at h7'
    | M => rw [hb] at h7'; simp at h7'
  | M =>
    rw [ha] at h7'
    cases hb : b.cls j with
    | P =>
      have hb' := cls_op hb (by simp) (by simp)
      rw [cls_same (.inl hb'), cls_same (.inl hb')]
      exact ⟨cls_heapV (.inl hb') _ _, rfl⟩
    | _ => rw [hb] at h7'; simp at h7'

theorem conf_symm {i j : Nat} (h : conf i a j b = false) : conf j b i a = false := by
  unfold conf at h ⊢
  cases ha : a.cls i <;> cases hb : b.cls j <;> rw [ha, hb] at h <;> simp at h ⊢ <;> omega

theorem apart_comm {nx i j : Nat} (h : apart2 D i a j b = true) {r r' : DV} (hij : i ≠ j) (e : T) (H : Heap) :
    stp r (nx + j) b (stp r' (nx + i) a e H).1 (stp r' (nx + i) a e H).2 = stp r' (nx + i) a (stp r (nx + j) b e H).1 (stp r (nx + j) b e H).2 := by
  simp only [apart2, Bool.and_eq_true] at h
  obtain ⟨⟨⟨⟨⟨⟨h1, h2⟩, h3⟩, h4⟩, h5⟩, h6⟩, h7⟩ := h
  have h7' : conf i a j b = false := by simpa using h7
  rw [stp_eq h1 e H, stp_eq h2 e H]
  simp only
  rw [stp_eq h2, stp_eq h1]
  rw [stpV_congr (agree_set h3 e _), stpH_congr (agree_set h3 e _), stpV_congr (agree_set h4 e _), stpH_congr (agree_set h4 e _)]
  have m1 := apart_heap (nx := nx) h7' (r := r) (r' := r') hij e H
  have m2 := apart_heap (nx := nx) (conf_symm h7') (r := r') (r' := r) (Ne.symm hij) e H
  rw [m1.1, m2.1, m1.2, set_comm h5]

end

end Go.Proofs.Ytghlfjpmpalpdaa
