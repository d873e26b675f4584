/- One operation of a region, with its guard: the evaluator's step, and that the model's run is told by it. -/
import Derived.Test.YtghlfjpmpalpdaaStep
namespace Go.Proofs.Ytghlfjpmpalpdaa
open Go.RowKit

def gval (e : T) : Option (Slot × Bool) → Bool
  | none => true
  | some (p, want) => match e.get p with
    | .d (.lit (.bool b)) => b == want
    | .whn g (.d (.lit (.bool b))) => g && (b == want)
    | _ => false
def gok (e : T) : Option (Slot × Bool) → Prop
  | none => True
  | some (p, _) => match e.get p with
    | .d (.lit (.bool _)) => True
    | .whn _ (.d (.lit (.bool _))) => True
    | _ => False
def wrap (e : T) (gd : Option (Slot × Bool)) (x : AV) : AV :=
  match gd with
  | none => x
  | some _ => .whn (gval e gd) x
def setD (e : T) (d : Option Slot) (x : AV) : T :=
  match d with
  | none => e
  | some p => e.set p x

def callArgs (f : AV) (args : List AV) : Option (FuncId × List AV) :=
  match f with
  | .d (.fn F caps) => some (F, args ++ caps.map .d)
  | .fn F caps => some (F, args ++ caps)
  | _ => none

def mapO (f : AV → Option DV) : List AV → Option (List DV)
  | [] => some []
  | a :: r => match f a, mapO f r with
    | some x, some l => some (x :: l)
    | _, _ => none

/-- What a slot's content reads as while none of the call's own objects is turned; p: pointers to such are let through. -/
def frz (p : Bool) (H : Heap) : Nat → AV → Option DV
  | 0, .d x => some x
  | 0, _ => none
  | _ + 1, .d x => some x
  | n + 1, .ptr id off => match p, hget H id with
    | true, some (.box cs) => (mapO (frz p H n) cs).map (fun ds => .cref ds off)
    | _, _ => none
  | _ + 1, .own id len => match hget H id with
    | some (.row _ n len' row) => if len' = len then some (.sl n len row) else none
    | _ => none
  | n + 1, .fn F caps => (mapO (frz p H n) caps).map (fun ds => .fn F ds)
  | n + 1, .agg cs => (mapO (frz p H n) cs).map (fun ds => .agg ds)
  | n + 1, .tup cs => (mapO (frz p H n) cs).map (fun ds => .tup ds)
  | _ + 1, .whn _ _ => none
  | _ + 1, .mp _ => none

def DV.isLit : DV → Bool
  | .lit _ => true
  | _ => false
def DV.flat : DV → Bool
  | .lit _ => true
  | .agg cs => cs.all DV.isLit
  | .tup cs => cs.all DV.isLit
  | _ => false

theorem frz_sub {p : Bool} {H1 H : Heap} (hs : Sub H1 H) : ∀ (n : Nat) (a : AV) (x : DV), frz p H1 n a = some x → frz p H n a = some x := by
  intro n
  induction n with
  | zero => intro a x h; cases a <;> simp [frz] at h ⊢; exact h
  | succ n ih =>
    have hm : ∀ (l : List AV) (ds : List DV), mapO (frz p H1 n) l = some ds → mapO (frz p H n) l = some ds := by
      intro l
      induction l with
      | nil => intro ds h; exact h
      | cons a l ihl =>
        intro ds h
        simp only [mapO] at h ⊢
        split at h
        · rename_i x r h1 h2
          rw [ih a x h1, ihl r h2]
          exact h
        · cases h
    intro a x h
    cases a with
    | d y => simpa [frz] using h
    | whn => simp [frz] at h
    | mp => simp [frz] at h
    | ptr id off =>
      simp only [frz] at h ⊢
      split at h
      · rename_i cs _ ho
        rw [hs _ _ ho]
        simp only [Option.map_eq_some_iff] at h ⊢
        obtain ⟨ds, h1, h2⟩ := h
        exact ⟨ds, hm _ _ h1, h2⟩
      · cases h
    | own id len =>
      simp only [frz] at h ⊢
      split at h
      · rename_i ho
        rw [hs _ _ ho]
        exact h
      · cases h
    | fn F caps =>
      simp only [frz, Option.map_eq_some_iff] at h ⊢
      obtain ⟨ds, h1, h2⟩ := h
      exact ⟨ds, hm _ _ h1, h2⟩
    | agg cs =>
      simp only [frz, Option.map_eq_some_iff] at h ⊢
      obtain ⟨ds, h1, h2⟩ := h
      exact ⟨ds, hm _ _ h1, h2⟩
    | tup cs =>
      simp only [frz, Option.map_eq_some_iff] at h ⊢
      obtain ⟨ds, h1, h2⟩ := h
      exact ⟨ds, hm _ _ h1, h2⟩
theorem mapO_sub {p : Bool} {H1 H : Heap} (hs : Sub H1 H) {n : Nat} : ∀ {l : List AV} {ds : List DV}, mapO (frz p H1 n) l = some ds → mapO (frz p H n) l = some ds := by
  intro l
  induction l with
  | nil => intro ds h; exact h
  | cons a l ih =>
    intro ds h
    simp only [mapO] at h ⊢
    split at h
    · rename_i x r h1 h2
      rw [frz_sub hs n a x h1, ih h2]
      exact h
    · cases h

/-- The objects that were there whn the region began. -/
def hlow (nx : Nat) (H : Heap) : Heap := fun k => if k < nx then H k else none
theorem hget_low (nx : Nat) (H : Heap) (k : Nat) : hget (hlow nx H) k = if k < nx then hget H k else none := rfl
/-- The objects that an operation may read. -/
def lowH (lo : Option Nat) (id : Nat) (H : Heap) : Heap :=
  match lo with
  | some i => hlow (id - i) H
  | none => H
def AOper.hv (ao : AOper) (id : Nat) (H : Heap) : Heap := lowH ao.low id H
theorem hv_sub (ao : AOper) (id : Nat) (H : Heap) : Sub (ao.hv id H) H := by
  intro k o h
  unfold AOper.hv lowH at h
  split at h
  · rw [hget_low] at h
    split at h
    · exact h
    · cases h
  · exact h

/-- A call whose result is a row of its own making. -/
def calloOk (P : Program) (e : T) (H : Heap) (te : TypeId) (n : Nat) (f : Opd) (args : List Opd) (r : DV) : Prop :=
  liveAll e (f :: args) ∧ ∃ F avs ds len row, callArgs (f.av e).strip (args.map fun x => (x.av e).strip) = some (F, avs) ∧ mapO (frz false H 5) avs = some ds ∧ r = .sl n len row ∧ AOwn P F ds te n len row

def ownOf (te : TypeId) (r : DV) : AObj :=
  match r with
  | .sl n len row => .row te n len row
  | _ => .box []
def lenOf (r : DV) : Nat :=
  match r with
  | .sl _ len _ => len
  | _ => 0

/-- The first store into an object that the region itself makes. -/
def iniOk (H : Heap) (k id : Nat) (a x : AV) : Prop :=
  a = .ptr id 0 ∧ x.cellOk k = true ∧ x.cells.all (·.there hnil) = true ∧ match hget H id with
    | some (.box cs) => cs.length = k
    | _ => False

def callOk (P : Program) (e : T) (H : Heap) (f : Opd) (args : List Opd) (r : DV) : Prop :=
  liveAll e (f :: args) ∧ ∃ F as ds, callArgs (f.av e).strip (args.map fun x => (x.av e).strip) = some (F, as) ∧ (mapO (frz false H 5) as = some ds ∨ (mapO (frz true H 5) as = some ds ∧ r.flat = true)) ∧ APure P F ds r

/-- A map with another value at a key. -/
def msetH (H : Heap) (x k v : AV) : Heap :=
  match x, k, v with
  | .mp id, .d (.lit kv), .d (.lit u) => match hget H id with
    | some (.map kd n f) => hset H id (.map kd (if (f kv).isSome then n else n + 1) (mset f kv u))
    | _ => H
  | _, _, _ => H
def msetOk (H : Heap) (kd : TypeDesc) (x k v : AV) : Prop :=
  match x, k, v with
  | .mp id, .d (.lit kv), .d (.lit _) => (match hget H id with
    | some (.map kd' _ _) => kd' = kd
    | _ => False) ∧ kdOk kd kv = true
  | _, _, _ => False

/-- One step; r: what a call hands back; id: the number of a new object. -/
def stp (r : DV) (id : Nat) (ao : AOper) (e : T) (H : Heap) : T × Heap :=
  match ao.op with
  | .call _ _ _ => (setD e ao.dst (wrap e ao.guard (.d r)), H)
  | .callo te _ _ _ => (setD e ao.dst (.own id (lenOf r)), hadd id (ownOf te r) H)
  | .ini back _ x _ => (e, hset H (id - back) (.box (x.av e).strip.cells))
  | .box true x => (setD e ao.dst (match allD (x.av e).strip.cells with | some ds => .d (.cref ds 0) | none => .d .top), H)
  | .box false x => (setD e ao.dst (.ptr id 0), hadd id (.box (x.av e).strip.cells) H)
  | .new zs => (setD e ao.dst (.ptr id 0), hadd id (.box (zs.map fun z => .d (.lit z))) H)
  | .nrow t n => (setD e ao.dst (.own id 0), hadd id (.row t n 0 fun _ => []) H)
  | .st a x _ => (e, stH H (a.av e).strip (x.av e).strip)
  | .app t n _ s x => (setD e ao.dst (appV H t n id (s.av e).strip (x.av e).strip).1, (appV H t n id (s.av e).strip (x.av e).strip).2)
  | .mmk kd => (setD e ao.dst (.mp id), hadd id (.map kd 0 fun _ => none) H)
  | .mset x k v _ => (e, msetH H (x.av e).strip (k.av e).strip (v.av e).strip)
  | op => (setD e ao.dst (wrap e ao.guard (op.val e (ao.hv id H))), H)

def okS (P : Program) (r : DV) (id : Nat) (ao : AOper) (e : T) (H : Heap) : Prop :=
  match ao.op with
  | .call c f args => gok e ao.guard ∧ (gval e ao.guard = true → callOk P e (hc c (ao.hv id H)) f args r)
  | .callo te n f args => ao.guard = none ∧ calloOk P e H te n f args r
  | .ini back a x k => ao.guard = none ∧ ao.dst = none ∧ (a.av e).live ∧ (x.av e).live ∧ iniOk H k (id - back) (a.av e).strip (x.av e).strip
  | .bad => False
  | .box imm x => ao.guard = none ∧ (x.av e).live ∧ (x.av e).strip.cellOk (x.av e).strip.cells.length = true ∧ (x.av e).strip.cells.all (·.there (hc imm H)) = true ∧ (imm = true → (allD (x.av e).strip.cells).isSome = true)
  | .new _ => ao.guard = none
  | .nrow _ _ => ao.guard = none
  | .st a x k => ao.guard = none ∧ ao.dst = none ∧ (a.av e).live ∧ (x.av e).live ∧ stOk H k (a.av e).strip (x.av e).strip
  | .app t n b s x => ao.guard = none ∧ (s.av e).live ∧ (x.av e).live ∧ appOk H t n b (s.av e).strip (x.av e).strip
  | .mmk _ => ao.guard = none
  | .mset x k v kd => ao.guard = none ∧ ao.dst = none ∧ (x.av e).live ∧ (k.av e).live ∧ (v.av e).live ∧ msetOk H kd (x.av e).strip (k.av e).strip (v.av e).strip
  | op => gok e ao.guard ∧ (gval e ao.guard = true → op.ok e (ao.hv id H))

inductive TrOp (P : Program) (D : Nat) : Op → AOp → Prop
  | val {o ao} (h : TrVal P D o ao) : TrOp P D o ao
  | call {f args ts f' args'} (h : TrOpd D f f') (hs : TrOpds D args args') (c : Bool) : TrOp P D (.call { callee := .value f, args := args.toArray, argTypes := ts }) (.call c f' args')
  | callo {f args ts f' args'} (h : TrOpd D f f') (hs : TrOpds D args args') (te n) : TrOp P D (.call { callee := .value f, args := args.toArray, argTypes := ts }) (.callo te n f' args')
  | ini {t a x a' x' inf} (hi : P.info? t = some inf) (ha : TrOpd D a a') (hx : TrOpd D x x') (back : Nat) : TrOp P D (.store t a x) (.ini back a' x' inf.size)
  | bad {o} : TrOp P D o .bad
  | box {t o x} (imm : Bool) (h : TrOpd D o x) : TrOp P D (.box t o) (.box imm x)
  | new {t i z} (hi : P.info? t = some i) (hz : i.zero = some z) : TrOp P D (.alloc t) (.new z.cells.toList)
  | nrow {t e ie} (hu : P.underlying t = some (.slice e)) (hi : P.info? e = some ie) : TrOp P D (.buildSlice t 0 #[]) (.nrow e ie.size)
  | st {t a x a' x' inf} (hi : P.info? t = some inf) (ha : TrOpd D a a') (hx : TrOpd D x x') : TrOp P D (.store t a x) (.st a' x' inf.size)
  | app {t e s x s' x' i z} (ht : P.underlying t = some (.slice e)) (hi : P.info? e = some i) (hz : i.zero = some z) (hzs : z.cells.size = i.size) (hsz : 0 < i.size) (hby : 0 < i.bytes) (hs : TrOpd D s s') (hx : TrOpd D x x') :
      TrOp P D (.call { callee := .builtin .append, args := #[s, x], argTypes := #[t, t] }) (.app e i.size i.bytes s' x')

  | mmk {t kt et kd} (hu : P.underlying t = some (.map kt et)) (hk : P.underlying kt = some kd) : TrOp P D (.makeMap t none) (.mmk kd)
  | mset {t kt et kd x k v x' k' v'} (hu : P.underlying t = some (.map kt et)) (hk : P.underlying kt = some kd) (hx : TrOpd D x x') (h : TrOpd D k k') (hv : TrOpd D v v') : TrOp P D (.mapUpdate t x k v) (.mset x' k' v' kd)

/-- An operation of a region, as the evaluator's own. -/
structure TrOper (P : Program) (D N : Nat) (ops : Array Oper) (o : Oper) (ao : AOper) : Prop where
  dst : o.dst = ao.dst.map Slot.idx
  dstD : ∀ p, ao.dst = some p → p.length = D ∧ p.idx < N
  guard : (o.guard = none ∧ ao.guard = none) ∨ ∃ j want p, o.guard = some (j, want) ∧ ao.guard = some (p, want) ∧ p.length = D ∧ p.idx < N ∧ (ops[j]?).bind (·.dst) = some p.idx
  op : TrOp P D o.op ao.op

/-- A base: a world that was, and what might turn in it; numbers that stay; where maps of the call's own may lie. -/
structure Bs where
  X1 : Nat → Nat → Prop
  W1 : World
  γ1 : Nat → Option Value
  MB : Nat → Prop
/-- A base that asks nothing of numbers and maps. -/
def Bs.free (B : Bs) : Prop := B.γ1 = (fun _ => none) ∧ ∀ b, B.MB b

/-- Maps are where maps were. -/
def MapsIn (H H' : Heap) : Prop := ∀ k kd n f, hget H' k = some (.map kd n f) → ∃ n' f', hget H k = some (.map kd n' f')
def isMapO : AObj → Bool
  | .map .. => true
  | _ => false
theorem MapsIn.refl (H : Heap) : MapsIn H H := fun _ _ n f h => ⟨n, f, h⟩
theorem MapsIn.trans {H H' H'' : Heap} (h : MapsIn H H') (k : MapsIn H' H'') : MapsIn H H'' := fun j kd n f hj => by
  obtain ⟨n', f', h1⟩ := k j kd n f hj
  exact h j kd n' f' h1
theorem MapsIn.add {H : Heap} {id : Nat} {o : AObj} (ho : isMapO o = false) : MapsIn H (hadd id o H) := by
  intro k kd n f h
  simp only [hget_add] at h
  split at h
  · injection h with h; subst h; cases ho
  · exact ⟨n, f, h⟩
theorem MapsIn.del {H : Heap} {id : Nat} : MapsIn H (hdel H id) := by
  intro k kd n f h
  simp only [hget_del] at h
  split at h
  · cases h
  · exact ⟨n, f, h⟩
theorem MapsIn.set {H : Heap} {id : Nat} {o : AObj} (ho : isMapO o = false ∨ ∃ kd n f n' f', o = .map kd n f ∧ hget H id = some (.map kd n' f')) : MapsIn H (hset H id o) := by
  intro k kd n f h
  simp only [hget_set] at h
  split at h
  · rename_i e
    subst e
    cases hh : hget H id with
    | none => rw [hh] at h; cases h
    | some o' =>
      rw [hh] at h
      simp at h
      subst h
      rcases ho with ho | ⟨kd', n1, f1, n2, f2, he, h2⟩
      · cases ho
      · injection he with e1 e2 e3
        subst e1
        rw [hh] at h2
        injection h2 with h2
        exact ⟨n2, f2, by rw [h2]⟩
  · exact ⟨n, f, h⟩
theorem MapsIn.st (H : Heap) (a x : AV) : MapsIn H (stH H a x) := by
  unfold stH
  split
  · split
    · exact .set (.inl rfl)
    · exact .refl _
  · exact .refl _
theorem MapsIn.app (H : Heap) (e : TypeId) (n id : Nat) (s x : AV) : MapsIn H (appV H e n id s x).2 := by
  unfold appV
  split
  · rename_i o len row m more _ _
    refine MapsIn.trans (H' := hdelO o H) ?_ (.add rfl)
    cases o with
    | none => exact .refl _
    | some k => exact .del
  · exact .refl _

/-- What a range over a function leaves to be done at the function's end. -/
def markOf (K : Nat) : Deferred := { target := .collected K, args := #[] }

structure FR (D N : Nat) (X0 : Nat → Nat → Prop) (W0 : World) (B : Bs) (γ : Nat → Option Value) (a : Act) (w : World) (e : T) (H : Heap) : Prop where
  st : St X0 W0 γ w H
  env : EnvRep D γ (XOf X0 γ H) w a e
  size : a.tmps.size = N
  marks : ∃ Ks : List Nat, a.defers = Ks.map markOf ∧ Ks.Nodup ∧ ∀ K, K ∈ Ks → W0.heap.size ≤ K ∧ w.heap[K]? = some (.deferred (some [])) ∧ ¬ XOf X0 γ H K 0 ∧ B.MB K
  base : Keeps B.X1 (XOf X0 γ H) B.W1 w
  pin : Knows B.γ1 γ
  mb : ∀ id kd n f v b, hget H id = some (.map kd n f) → γ id = some v → blk v = some b → B.MB b

section
variable {P : Program} {D N : Nat} {X0 : Nat → Nat → Prop} {W0 : World} {B : Bs} {γ : Nat → Option Value} {w : World} {H : Heap} {a : Act} {e : T} {ops : Array Oper} {o : Oper} {ao : AOper}

theorem gok_wanted (tr : TrOper P D N ops o ao) (hE : EnvRep D γ (XOf X0 γ H) w a e) (hs : a.tmps.size = N) (hok : gok e ao.guard) : Region.wanted o (yielded ops a.tmps) = gval e ao.guard := by
  rcases tr.guard with ⟨h1, h2⟩ | ⟨j, want, p, h1, h2, h3, h4, h5⟩
  · simp [Region.wanted, h1, h2, gval]
  · simp only [Region.wanted, h1, h2, gval]
    rw [h2] at hok
    simp only [gok] at hok
    have hr := hE p h3
    have hy : yielded ops a.tmps j = match a.tmps.getD p.idx undef with | .bool b => some b | _ => none := by
      unfold yielded
      rw [h5]
      have : a.tmps[p.idx]? = some (a.tmps.getD p.idx undef) := by
        rw [Array.getD_eq_getD_getElem?, Array.getElem?_eq_getElem (by omega)]; rfl
      simp only [Option.bind_some, this]
      cases a.tmps.getD p.idx undef <;> rfl
    rw [hy]
    split at hok
    · rename_i b heq
      rw [heq] at hr
      rw [hr.lit]
      simp
    · rename_i g b heq
      rw [heq] at hr
      generalize a.tmps.getD p.idx undef = v at hr
      cases hr with | whn _ _ _ k k0 =>
      cases g with
      | true => rw [(k rfl).lit]; simp
      | false => rw [k0 rfl]; simp [undef]
    · exact hok.elim

theorem FR.mono {γ' : Nat → Option Value} {w' : World} {H' : Heap} (h : FR D N X0 W0 B γ a w e H) (hk : Knows γ γ') (k : Keeps (XOf X0 γ H) (XOf X0 γ' H') w w') (hS : St X0 W0 γ' w' H') (hm : MapsIn H H') : FR D N X0 W0 B γ' a w' e H' :=
  ⟨hS, h.env.mono hk k, h.size, by
    obtain ⟨Ks, h1, hn, h2⟩ := h.marks
    exact ⟨Ks, h1, hn, fun K hK => ⟨(h2 K hK).1, k.others K _ (h2 K hK).2.1 rfl (h2 K hK).2.2.1, (fun h' => (h2 K hK).2.2.1 (k.sub K 0 (Array.getElem?_eq_some_iff.1 (h2 K hK).2.1).1 h')), (h2 K hK).2.2.2⟩⟩, h.base.trans k, fun id v hv => hk _ _ (h.pin id v hv), fun id kd n f v b h1 h2 h3 => by
    obtain ⟨n', f', h4⟩ := hm id kd n f h1
    obtain ⟨u, hu, _⟩ := h.st.obj id _ h4
    have := hk _ _ hu
    rw [h2] at this
    injection this with this
    subst this
    exact h.mb id kd n' f' v b h4 hu h3⟩

theorem FR.put (h : FR D N X0 W0 B γ a w e H) (tr : TrOper P D N ops o ao) {v : Value} {x : AV} (hv : Rep γ (XOf X0 γ H) w v x) : FR D N X0 W0 B γ (a.put o.dst v) w (setD e ao.dst x) H := by
  refine ⟨h.st, ?_, (put_size _ _ _).trans h.size, by rw [put_defers]; exact h.marks, h.base, h.pin, h.mb⟩
  rw [tr.dst]
  cases hd : ao.dst with
  | none => exact h.env
  | some p =>
    obtain ⟨h1, h2⟩ := tr.dstD p hd
    exact h.env.put h1 (by rw [h.size]; exact h2) hv

theorem Rep.wrap (hg : gval e ao.guard = true) {v : Value} {x : AV} (hv : Rep γ (XOf X0 γ H) w v x) : Rep γ (XOf X0 γ H) w v (Proofs.Ytghlfjpmpalpdaa.wrap e ao.guard x) := by
  unfold Proofs.Ytghlfjpmpalpdaa.wrap
  cases hgd : ao.guard with
  | none => exact hv
  | some g => exact .whn _ _ _ (fun _ => hv) (fun h => by rw [← hgd, hg] at h; cases h)

theorem Rep.wrapF (hg : gval e ao.guard = false) (x : AV) : Rep γ (XOf X0 γ H) w undef (Proofs.Ytghlfjpmpalpdaa.wrap e ao.guard x) := by
  unfold Proofs.Ytghlfjpmpalpdaa.wrap
  cases hgd : ao.guard with
  | none => rw [hgd] at hg; cases hg
  | some g => exact .whn _ _ _ (fun h => by rw [← hgd, hg] at h; cases h) (fun _ => rfl)

theorem mapO_reps {f : AV → Option DV} {X : Nat → Nat → Prop} (hf : ∀ v a x, Rep γ (XOf X0 γ H) w v a → f a = some x → DRep X w v x) : ∀ {vs : List Value} {as : List AV} {ds : List DV}, Reps γ (XOf X0 γ H) w vs as → mapO f as = some ds → DReps X w vs ds
  | vs, [], ds, h, hm => by
    have : vs = [] := by have := h.1; simpa using this
    simp [mapO] at hm
    subst this; subst hm
    exact DReps.nil _ _
  | [], a :: as, ds, h, hm => by exact absurd h.1 (by simp)
  | v :: vs, a :: as, ds, h, hm => by
    simp only [mapO] at hm
    split at hm
    · rename_i x l hx hl
      injection hm with hm
      subst hm
      exact DReps.cons (hf v a x (h.2 0 (by simp) (by simp)) hx) (mapO_reps hf ⟨by simpa using h.1, fun i hi hi' => h.2 (i + 1) (by simpa using hi) (by simpa using hi')⟩ hl)
    · cases hm

theorem frz_own (hS : St X0 W0 γ w H) : ∀ (n : Nat) {v : Value} {av : AV} {x : DV}, Rep γ (XOf X0 γ H) w v av → frz false H n av = some x → DRep (XOf X0 γ H) w v x := by
  intro n
  induction n with
  | zero =>
    intro v av x h hf
    cases h with
    | d _ y h => simp [frz] at hf; subst hf; exact h
    | _ => simp [frz] at hf
  | succ n ih =>
    intro v av x h hf
    cases h with
    | d _ y h => simp [frz] at hf; subst hf; exact h
    | whn => simp [frz] at hf
    | mp => simp [frz] at hf
    | ptr => simp [frz] at hf
    | own v id len h =>
      simp only [frz] at hf
      split at hf
      · rename_i te tn len' row ho
        split at hf
        · rename_i hc
          subst hc
          injection hf with hf
          subst hf
          exact own_rep hS ho h
        · cases hf
      · cases hf
    | fn f vs caps hl hr =>
      simp only [frz] at hf
      obtain ⟨ds, hds, rfl⟩ := Option.map_eq_some_iff.1 hf
      have := mapO_reps (fun v a x hv hx => ih hv hx) (⟨hl, hr⟩ : Reps γ (XOf X0 γ H) w vs caps) hds
      exact .fn f vs ds this.1 this.2
    | agg vs cs hl hr =>
      simp only [frz] at hf
      obtain ⟨ds, hds, rfl⟩ := Option.map_eq_some_iff.1 hf
      have := mapO_reps (fun v a x hv hx => ih hv hx) (⟨hl, hr⟩ : Reps γ (XOf X0 γ H) w vs cs) hds
      exact .agg vs ds this.1 this.2
    | tup vs cs hl hr =>
      simp only [frz] at hf
      obtain ⟨ds, hds, rfl⟩ := Option.map_eq_some_iff.1 hf
      have := mapO_reps (fun v a x hv hx => ih hv hx) (⟨hl, hr⟩ : Reps γ (XOf X0 γ H) w vs cs) hds
      exact .tup vs ds this.1 this.2

theorem frz_rep (hS : St X0 W0 γ w H) : ∀ (n : Nat) {v : Value} {av : AV} {x : DV}, Rep γ (XOf X0 γ H) w v av → frz true H n av = some x → DRep X0 w v x := by
  have hsub : Keeps (XOf X0 γ H) X0 w w := .same fun _ _ _ h => .inl h
  intro n
  induction n with
  | zero =>
    intro v av x h hf
    cases h with
    | d _ y h => simp [frz] at hf; subst hf; exact h.mono hsub
    | _ => simp [frz] at hf
  | succ n ih =>
    intro v av x h hf
    cases h with
    | d _ y h => simp [frz] at hf; subst hf; exact h.mono hsub
    | whn => simp [frz] at hf
    | mp => simp [frz] at hf
    | ptr b id off h =>
      simp only [frz] at hf
      split at hf
      · rename_i cs _ ho
        obtain ⟨ds, hds, rfl⟩ := Option.map_eq_some_iff.1 hf
        obtain ⟨u, hu, b', arr, t, rfl, hB, hh, hr⟩ := hS.obj id _ ho
        rw [h] at hu
        injection hu with hu
        injection hu with hu
        injection hu with hu
        injection hu with hu
        subst hu
        have := mapO_reps (fun v a x hv hx => ih hv hx) hr hds
        have hc := DRep.cref (X := X0) (w := w) b 0 off ds arr.toList (Array.getElem?_eq_some_iff.1 hh).1 (fun j _ hX => by have := hS.hx b _ hX; omega) this.1 (box_cells hh) this.2
        simpa using hc
      · cases hf
    | own v id len h =>
      simp only [frz] at hf
      split at hf
      · rename_i te tn len' row ho
        split at hf
        · rename_i hc
          subst hc
          injection hf with hf
          subst hf
          exact (own_rep hS ho h).mono hsub
        · cases hf
      · cases hf
    | fn f vs caps hl hr =>
      simp only [frz] at hf
      obtain ⟨ds, hds, rfl⟩ := Option.map_eq_some_iff.1 hf
      have := mapO_reps (fun v a x hv hx => ih hv hx) (⟨hl, hr⟩ : Reps γ (XOf X0 γ H) w vs caps) hds
      exact .fn f vs ds this.1 this.2
    | agg vs cs hl hr =>
      simp only [frz] at hf
      obtain ⟨ds, hds, rfl⟩ := Option.map_eq_some_iff.1 hf
      have := mapO_reps (fun v a x hv hx => ih hv hx) (⟨hl, hr⟩ : Reps γ (XOf X0 γ H) w vs cs) hds
      exact .agg vs ds this.1 this.2
    | tup vs cs hl hr =>
      simp only [frz] at hf
      obtain ⟨ds, hds, rfl⟩ := Option.map_eq_some_iff.1 hf
      have := mapO_reps (fun v a x hv hx => ih hv hx) (⟨hl, hr⟩ : Reps γ (XOf X0 γ H) w vs cs) hds
      exact .tup vs ds this.1 this.2

theorem DRep.toLit {X X' : Nat → Nat → Prop} {v : Value} {c : DV} (h : DRep X w v c) (hc : c.isLit = true) : DRep X' w v c := by
  cases h with
  | lit => exact .lit _
  | _ => simp [DV.isLit] at hc
theorem lits_rep {X X' : Nat → Nat → Prop} {vs : List Value} {cs : List DV} (h : cs.all DV.isLit = true) (_hl : vs.length = cs.length) (hr : ∀ i (h : i < vs.length) (h' : i < cs.length), DRep X w vs[i] cs[i]) : ∀ i (h : i < vs.length) (h' : i < cs.length), DRep X' w vs[i] cs[i] := by
  intro i hi hi'
  exact (hr i hi hi').toLit (List.all_eq_true.1 h _ (List.getElem_mem hi'))
theorem DRep.flat {X X' : Nat → Nat → Prop} {v : Value} {r : DV} (h : DRep X w v r) (hf : r.flat = true) : DRep X' w v r := by
  cases h with
  | lit => exact .lit _
  | agg vs cs hl hr => exact .agg vs cs hl (lits_rep hf hl hr)
  | tup vs cs hl hr => exact .tup vs cs hl (lits_rep hf hl hr)
  | _ => simp [DV.flat] at hf

theorem callArgs_rep {f : AV} {v : Value} {args : List AV} {vs : List Value} {F : FuncId} {as : List AV} (hf : Rep γ (XOf X0 γ H) w v f) (hs : Reps γ (XOf X0 γ H) w vs args) (h : callArgs f args = some (F, as)) :
    ∃ cs : List Value, v = .func (.func F) #[] cs.toArray ∧ Reps γ (XOf X0 γ H) w (vs ++ cs) as := by
  unfold callArgs at h
  split at h
  · rename_i G caps
    simp at h
    obtain ⟨rfl, rfl⟩ := h
    have hd := hf.dv
    cases hd with | fn _ cs _ hl hr =>
    exact ⟨cs, rfl, hs.append (DReps.reps ⟨hl, hr⟩)⟩
  · rename_i G caps
    simp at h
    obtain ⟨rfl, rfl⟩ := h
    cases hf with | fn _ cs _ hl hr =>
    exact ⟨cs, rfl, hs.append ⟨hl, hr⟩⟩
  · cases h

/-- The law of one operation. -/
theorem op_sound {Q : Exit → Act → World → Prop} {K : Act → World → Prop} (tr : TrOper P D N ops o ao) (h : FR D N X0 W0 B γ a w e H) {id : Nat} (hid : γ id = none) (r : DV) (hok : okS P r id ao e H) (hmk : ∀ kd, ao.op = .mmk kd → ∀ b, B.MB b)
    (hK : ∀ γ' a' w', FR D N X0 W0 B γ' a' w' (stp r id ao e H).1 (stp r id ao e H).2 → Knows γ γ' → (∀ k, k ≠ id → γ' k = γ k) → K a' w') :
    if Region.wanted o (yielded ops a.tmps) = true then o.wp P a w K Q ∨ (o.asks P a w ∧ LetsOut Q) else K (a.put o.dst undef) w := by
  have hop := tr.op
  -- a value's operation
  have valcase : ∀ op, ao.op = op → TrVal P D o.op op → gok e ao.guard → (gval e ao.guard = true → op.ok e (ao.hv id H)) → stp r id ao e H = (setD e ao.dst (wrap e ao.guard (op.val e (ao.hv id H))), H) →
      if Region.wanted o (yielded ops a.tmps) = true then o.wp P a w K Q ∨ (o.asks P a w ∧ LetsOut Q) else K (a.put o.dst undef) w := by
    intro op hop' tv hg hok' hst
    rw [gok_wanted tr h.env h.size hg]
    rw [hst] at hK
    cases hgv : gval e ao.guard with
    | true =>
      rw [if_pos rfl]
      left
      obtain ⟨hok2, hval⟩ := AOp.sub (hv_sub ao id H) (hok' hgv)
      obtain ⟨v, w', hr, hx, hv⟩ := tv.sound h.st h.env hok2
      rw [← hval] at hv
      unfold Oper.wp
      rw [hr]
      have h' : FR D N X0 W0 B γ a w' e H := h.mono (Knows.refl γ) (.of_ext hx) (h.st.stay hx) (.refl _)
      exact hK γ _ _ (h'.put tr (Rep.wrap hgv hv)) (Knows.refl γ) (fun _ _ => rfl)
    | false =>
      rw [if_neg (by simp)]
      exact hK γ _ _ (h.put tr (Rep.wrapF hgv _)) (Knows.refl γ) (fun _ _ => rfl)
  have nog : ao.guard = none → Region.wanted o (yielded ops a.tmps) = true := fun hg => by
    have := gok_wanted tr h.env h.size (by rw [hg]; trivial)
    rw [this, hg]; rfl
  have entered : ∀ {f : Opd} {args : List Opd} {fo : Operand} {ao' : List Operand} {ts : Array TypeId} {F : FuncId} {avs : List AV}, o.op = .call { callee := .value fo, args := ao'.toArray, argTypes := ts } → TrOpd D fo f → TrOpds D ao' args → liveAll e (f :: args) →
      callArgs (f.av e).strip (args.map fun x => (x.av e).strip) = some (F, avs) → HasBody P F → ∃ cs : List Value, (execOp a.eval o).run P w = .ok (.enter F (ao'.map a.eval ++ cs).toArray) w ∧ Reps γ (XOf X0 γ H) w (ao'.map a.eval ++ cs) avs := by
    intro f args fo ao' ts F avs hoo hf hs hlive hca hbody
    have hlf : (f.av e).live := hlive f (by simp)
    have hls : liveAll e args := fun x hx => hlive x (by simp [hx])
    obtain ⟨cs, hfv, hreps⟩ := callArgs_rep ((hf.rep h.env).strip hlf) (hs.reps h.env hls) hca
    refine ⟨cs, ?_, hreps⟩
    have hb := hbody.run (ao'.map a.eval ++ cs).toArray w
    simp only [execOp, hoo, resolve, hfv, Deferred.ofValue, Sem.run_bind, Sem.run_pure, Result.andThen_ok, invoke]
    simpa using hb
  cases hao : ao.op with
  | bad => simp only [okS, hao] at hok
  | callo te n f args =>
    rw [hao] at hop
    simp only [okS, hao] at hok
    simp only [stp, hao] at hK
    generalize hoo : o.op = oo at hop
    cases hop with
    | val tv => cases tv
    | @callo fo ao' ts _ _ hf hs _ _ =>
      obtain ⟨hg, hlive, F, avs, ds, len, row, hca, hds, rfl, hbody, hF⟩ := hok
      rw [nog hg, if_pos rfl]
      left
      obtain ⟨cs, hrun, hreps⟩ := entered hoo hf hs hlive hca hbody
      unfold Oper.wp
      rw [hrun, Oper.upon_enter]
      refine (hF (XOf X0 γ H) w _ (fun b o hb => hb.lt h.st) (by simpa using mapO_reps (fun v a x hv hx => frz_own h.st 5 hv hx) hreps hds)).mono ?_
      rintro en w' ⟨hx, v, rfl, xs, hown, hxs⟩
      have hblk : ∀ b, blk v = some b → w.heap.size ≤ b := fun b hb => (hown.lt b (by
        rcases hown.2 with ⟨rfl, _⟩ | ⟨g, cap, cur, rfl, _⟩
        · simp [blk] at hb
        · simpa [blk, Value.ownBlock] using hb)).1
      have hown' : w'.ownsRow W0.heap.size te n v len ((List.range len).flatMap xs) := by
        refine ⟨hown.1, ?_⟩
        rcases hown.2 with hn | ⟨g, cap, cur, hv, hg, rest⟩
        · exact .inl hn
        · exact .inr ⟨g, cap, cur, hv, Nat.le_trans h.st.ext.size hg, rest⟩
      have hXs : ∀ b q, XOf X0 (upd γ id v) (hadd id (.row te n len row) H) b q → XOf X0 γ H b q ∨ (blk v = some b ∧ len * n ≤ q) := by
        rintro b q (h1 | ⟨k, ob, u, h1, h2, h3, h4⟩)
        · exact .inl (.inl h1)
        · by_cases e1 : id = k
          · subst e1
            simp [upd] at h2
            subst h2
            simp [hget_add] at h1
            subst h1
            exact .inr ⟨h3, h4⟩
          · simp only [hget_add, if_neg e1] at h1
            exact .inl (.inr ⟨k, ob, u, h1, by simpa [upd, Ne.symm e1] using h2, h3, h4⟩)
      obtain ⟨hS', hkn, hk⟩ := h.st.newRow (γ' := upd γ id v) hx id hid v rfl te n len row hblk xs hown' (fun i hi => ⟨(hxs i hi).1, (hxs i hi).2.mono (.same fun b q _ hb => hXs b q hb)⟩)
      have h' : FR D N X0 W0 B _ a _ e _ := h.mono hkn hk hS' (.add rfl)
      exact hK _ _ _ (h'.put tr (.own _ id len (by simp [upd]))) hkn (fun k hk => by simp [upd, hk])
  | ini back ad x k =>
    rw [hao] at hop
    simp only [okS, hao] at hok
    simp only [stp, hao] at hK
    generalize hoo : o.op = oo at hop
    cases hop with
    | val tv => cases tv
    | @ini t ao' xo _ _ inf hi ha hx _ =>
      obtain ⟨hg, hd, hl1, hl2, hptr, hcell, hth, hbox⟩ := hok
      rw [nog hg, if_pos rfl]
      left
      have hst : stOk H inf.size (ad.av e).strip (x.av e).strip := by
        refine ⟨hcell, there_nils hth, ?_⟩
        rw [hptr]
        simp only
        split at hbox
        · rename_i cs ho
          rw [ho]; simp only; omega
        · exact hbox.elim
      obtain ⟨w', hr, hS', hk⟩ := run_st hi rfl h.st ((ha.rep h.env).strip hl1) ((hx.rep h.env).strip hl2) hst
      have hH : stH H (ad.av e).strip (x.av e).strip = hset H (id - back) (.box (x.av e).strip.cells) := by
        rw [hptr]
        simp only [stH]
        split at hbox
        · rename_i cs ho
          rw [ho]
          simp only
          have hcl : (x.av e).strip.cells.length = cs.length := by
            have := (((hx.rep h.env).strip hl2).cells h.st _ hcell (there_nils hth))
            rw [hbox, ← this.1, ← this.2.1.1]; simp
          congr 2
          simp only [spl, List.take_zero, List.nil_append, Nat.zero_add, hcl, List.drop_length, List.append_nil]
        · exact hbox.elim
      have hrun : (execOp a.eval o).run P w = .ok .skip w' := by
        simp [execOp, hoo, hr]
      unfold Oper.wp
      rw [hrun, Oper.upon_skip, tr.dst, hd]
      rw [hH] at hS' hk
      exact hK γ _ _ (h.mono (Knows.refl γ) hk hS' (.set (.inl rfl))) (Knows.refl γ) (fun _ _ => rfl)
  | call c f args =>
    rw [hao] at hop
    simp only [okS, hao] at hok
    simp only [stp, hao] at hK
    generalize hoo : o.op = oo at hop
    cases hop with
    | val tv => cases tv
    | @call fo ao' ts _ _ hf hs _ =>
      obtain ⟨hg, hok⟩ := hok
      rw [gok_wanted tr h.env h.size hg]
      cases hgv : gval e ao.guard with
      | false =>
        rw [if_neg (by simp)]
        exact hK γ _ _ (h.put tr (Rep.wrapF hgv _)) (Knows.refl γ) (fun _ _ => rfl)
      | true =>
        rw [if_pos rfl]
        left
        obtain ⟨hlive, F, as, ds, hca, hds, hbody, hF⟩ := hok hgv
        have hlf : (f.av e).live := hlive f (by simp)
        have hls : liveAll e args := fun x hx => hlive x (by simp [hx])
        obtain ⟨cs, hfv, hreps⟩ := callArgs_rep ((hf.rep h.env).strip hlf) (hs.reps h.env hls) hca
        have hrun : (execOp a.eval o).run P w = .ok (.enter F (ao'.map a.eval ++ cs).toArray) w := by
          have hb := hbody.run (ao'.map a.eval ++ cs).toArray w
          simp only [execOp, hoo, resolve, hfv, Deferred.ofValue, Sem.run_bind, Sem.run_pure, Result.andThen_ok, invoke]
          simpa using hb
        unfold Oper.wp
        rw [hrun]
        have plain : ∀ (X : Nat → Nat → Prop), (∀ b o, X b o → b < w.heap.size) → DReps X w (ao'.map a.eval ++ cs) ds → (∀ v w', DRep X w' v r → DRep (XOf X0 γ H) w' v r) → Oper.upon P o a K Q (.ok (.enter F (ao'.map a.eval ++ cs).toArray) w) := by
          intro X hX hdr hback
          rw [Oper.upon_enter]
          refine (hF X w _ hX (by simpa using hdr)).mono ?_
          rintro en w' ⟨hx, v, rfl, hv⟩
          have h' : FR D N X0 W0 B γ a w' e H := h.mono (Knows.refl γ) (.of_ext hx) (h.st.stay hx) (.refl _)
          exact hK γ _ _ (h'.put tr (Rep.wrap hgv (.d _ _ (hback v w' hv)))) (Knows.refl γ) (fun _ _ => rfl)
        rcases hds with hds | ⟨hds, hflat⟩
        · exact plain _ (fun b o hb => hb.lt h.st) (mapO_reps (fun v a x hv hx => frz_own h.st 5 hv hx) hreps (mapO_sub (hv_sub ao id H) (mapO_sub (hc_sub c _) hds))) (fun v w' hv => hv)
        · exact plain X0 (fun b o hb => Nat.lt_of_lt_of_le (h.st.hx b o hb) h.st.ext.size) (mapO_reps (fun v a x hv hx => frz_rep h.st 5 hv hx) hreps (mapO_sub (hv_sub ao id H) (mapO_sub (hc_sub c _) hds))) (fun v w' hv => hv.flat hflat)
  | box imm x =>
    rw [hao] at hop
    simp only [okS, hao] at hok
    generalize hoo : o.op = oo at hop
    cases hop with
    | val tv => cases tv
    | @box t ox _ _ hx =>
      obtain ⟨hg, hl, hc, hth, hi⟩ := hok
      rw [nog hg, if_pos rfl]
      left
      have hth' : (x.av e).strip.cells.all (·.there H) = true := by
        cases imm with
        | false => exact hth
        | true => exact there_nils hth
      obtain ⟨k1, k2, k3⟩ := ((hx.rep h.env).strip hl).cells h.st _ hc hth'
      have hrun : (execOp a.eval o).run P w = .ok (.value (.pointer (some ⟨w.heap.size, 0, none⟩))) (w.alloc (.cells (a.eval ox).cells t)) := by
        simp [execOp, hoo, Instr.box, newVar, newRow]
      unfold Oper.wp
      rw [hrun]
      cases imm with
      | false =>
        obtain ⟨γ', hγ', hS', hkn, hk⟩ := h.st.alloc id hid (a.eval ox).cells t _ k2
        simp only [stp, hao] at hK
        have h' : FR D N X0 W0 B γ' a _ e _ := h.mono hkn hk hS' (.add rfl)
        exact hK γ' _ _ (h'.put tr (.ptr w.heap.size id 0 (by rw [hγ']; simp [upd]))) hkn (fun k hk => by rw [hγ']; simp [upd, hk])
      | true =>
        obtain ⟨ds, hds⟩ := Option.isSome_iff_exists.1 (hi rfl)
        simp only [stp, hao, hds] at hK
        have hx' : Ext w (w.alloc (.cells (a.eval ox).cells t)) := Ext.alloc w _
        have h' : FR D N X0 W0 B γ a _ e H := h.mono (Knows.refl γ) (.of_ext hx') (h.st.stay hx') (.refl _)
        have hd := (k2.allD hds).mono (.of_ext hx')
        refine hK γ _ _ (h'.put tr (.d _ _ ?_)) (Knows.refl γ) (fun _ _ => rfl)
        have := DRep.cref (X := XOf X0 γ H) (w := w.alloc (.cells (a.eval ox).cells t)) w.heap.size 0 0 ds (a.eval ox).cells.toList (by simp) (fun j _ hX => by have := hX.lt h.st; omega) hd.1 (box_cells (heap_alloc_new w _)) hd.2
        simpa using this
  | new zs =>
    rw [hao] at hop
    simp only [okS, hao] at hok
    simp only [stp, hao] at hK
    generalize hoo : o.op = oo at hop
    cases hop with
    | val tv => cases tv
    | @new t i z hi hz =>
      rw [nog hok, if_pos rfl]
      left
      have hrun : (execOp a.eval o).run P w = .ok (.value (.pointer (some ⟨w.heap.size, 0, none⟩))) (w.alloc (.cells z.cells t)) := by
        simp [execOp, hoo, Instr.alloc, zeroValue, typeInfo, hi, hz, newVar, newRow]
      unfold Oper.wp
      rw [hrun]
      obtain ⟨γ', hγ', hS', hkn, hk⟩ := h.st.alloc id hid z.cells t _ (Reps.lits z.cells.toList)
      have h' : FR D N X0 W0 B γ' a _ e _ := h.mono hkn hk hS' (.add rfl)
      exact hK γ' _ _ (h'.put tr (.ptr w.heap.size id 0 (by rw [hγ']; simp [upd]))) hkn (fun k hk => by rw [hγ']; simp [upd, hk])
  | nrow te n =>
    rw [hao] at hop
    simp only [okS, hao] at hok
    simp only [stp, hao] at hK
    generalize hoo : o.op = oo at hop
    cases hop with
    | val tv => cases tv
    | @nrow t _ ie hu hi =>
      rw [nog hok, if_pos rfl]
      left
      have hrun : (execOp a.eval o).run P w = .ok (.value (.slice (some ⟨w.heap.size, 0, none⟩) 0 0)) (w.alloc (.cells #[] te)) := by
        simp [execOp, hoo, Instr.buildSlice, run_underlying hu, sizeOf, typeInfo, hi, Instr.fill, newRow]
        congr 2
        apply Array.eq_empty_of_size_eq_zero
        simp
      unfold Oper.wp
      rw [hrun]
      obtain ⟨hS', hkn, hk⟩ := h.st.new (γ' := upd γ id (.slice (some ⟨w.heap.size, 0, none⟩) 0 0)) (w' := w.alloc (.cells #[] te)) (Ext.alloc w _) id hid _ rfl (.row te ie.size 0 fun _ => []) (fun b hb => by simp [blk] at hb; omega)
        ⟨fun _ => [], by simpa using World.ownsRow_made w (base := W0.heap.size) (e := te) (size := ie.size) #[] 0 h.st.ext.size (by decide) (by simp), fun i hi => by omega⟩
      have h' : FR D N X0 W0 B _ a _ e _ := h.mono hkn hk hS' (.add rfl)
      exact hK _ _ _ (h'.put tr (.own _ id 0 (by simp [upd]))) hkn (fun k hk => by simp [upd, hk])
  | st ad x k =>
    rw [hao] at hop
    simp only [okS, hao] at hok
    simp only [stp, hao] at hK
    generalize hoo : o.op = oo at hop
    cases hop with
    | val tv => cases tv
    | @st t ao' xo _ _ inf hi ha hx =>
      obtain ⟨hg, hd, hl1, hl2, hst⟩ := hok
      rw [nog hg, if_pos rfl]
      left
      obtain ⟨w', hr, hS', hk⟩ := run_st hi rfl h.st ((ha.rep h.env).strip hl1) ((hx.rep h.env).strip hl2) hst
      have hrun : (execOp a.eval o).run P w = .ok .skip w' := by
        simp [execOp, hoo, hr]
      unfold Oper.wp
      rw [hrun, Oper.upon_skip, tr.dst, hd]
      exact hK γ _ _ (h.mono (Knows.refl γ) hk hS' (.st _ _ _)) (Knows.refl γ) (fun _ _ => rfl)
  | mmk kd =>
    rw [hao] at hop
    simp only [okS, hao] at hok
    simp only [stp, hao] at hK
    generalize hoo : o.op = oo at hop
    cases hop with
    | val tv => cases tv
    | @mmk t kt et _ hu hk =>
      rw [nog hok, if_pos rfl]
      left
      have hrun : (execOp a.eval o).run P w = .ok (.value (.map (some w.heap.size))) (w.alloc (.map #[] 0)) := by
        simp [execOp, hoo, Instr.makeMap]
      unfold Oper.wp
      rw [hrun]
      obtain ⟨hS', hkn, hk'⟩ := h.st.newMap id hid kd
      have h' : FR D N X0 W0 B (upd γ id (.map (some w.heap.size))) a (w.alloc (.map #[] 0)) e (hadd id (.map kd 0 fun _ => none) H) := by
        refine ⟨hS', h.env.mono hkn hk', h.size, ?_, h.base.trans hk', fun k v hv => hkn _ _ (h.pin k v hv), fun k kd' n f v b _ _ _ => hmk _ hao b⟩
        obtain ⟨Ks, h1, hn, h2⟩ := h.marks
        exact ⟨Ks, h1, hn, fun K hK => ⟨(h2 K hK).1, hk'.others K _ (h2 K hK).2.1 rfl (h2 K hK).2.2.1, (fun h' => (h2 K hK).2.2.1 (hk'.sub K 0 (Array.getElem?_eq_some_iff.1 (h2 K hK).2.1).1 h')), (h2 K hK).2.2.2⟩⟩
      exact hK _ _ _ (h'.put tr (.mp w.heap.size id (by simp [upd]))) hkn (fun k hk => by simp [upd, hk])
  | mset x k v kd =>
    rw [hao] at hop
    simp only [okS, hao] at hok
    simp only [stp, hao] at hK
    generalize hoo : o.op = oo at hop
    cases hop with
    | val tv => cases tv
    | @mset t kt et _ xo ko vo _ _ _ hu hk hx hko hvo =>
      obtain ⟨hg, hd, hl1, hl2, hl3, hm⟩ := hok
      rw [nog hg, if_pos rfl]
      left
      have r1 := (hx.rep h.env).strip hl1
      have r2 := (hko.rep h.env).strip hl2
      have r3 := (hvo.rep h.env).strip hl3
      unfold msetOk at hm
      split at hm
      · rename_i mid kv u e1 e2 e3
        obtain ⟨h4, h5⟩ := hm
        split at h4
        · rename_i kd' n f ho
          subst h4
          rw [e1] at r1
          rw [e2] at r2
          rw [e3] at r3
          have v2 := r2.lit
          have v3 := r3.lit
          generalize hv1 : a.eval xo = v1 at r1
          cases r1 with | mp b _ hγ =>
          obtain ⟨w', hr, hS', hkp⟩ := run_mset (P := P) (t := t) (x := u) hu hk h.st ho hγ h5
          have hrun : (execOp a.eval o).run P w = .ok .skip w' := by
            simp [execOp, hoo, hv1, v2, v3, hr]
          unfold Oper.wp
          rw [hrun, Oper.upon_skip, tr.dst, hd]
          have hH : msetH H (x.av e).strip (k.av e).strip (v.av e).strip = hset H mid (.map kd' (if (f kv).isSome then n else n + 1) (mset f kv u)) := by
            simp only [msetH, e1, e2, e3, ho]
          rw [hH] at hK
          exact hK γ _ _ (h.mono (Knows.refl γ) hkp hS' (.set (.inr ⟨_, _, _, _, _, rfl, ho⟩))) (Knows.refl γ) (fun _ _ => rfl)
        · exact h4.elim
      · exact hm.elim
  | app te n b s x =>
    rw [hao] at hop
    simp only [okS, hao] at hok
    simp only [stp, hao] at hK
    generalize hoo : o.op = oo at hop
    cases hop with
    | val tv => cases tv
    | @app t _ so xo _ _ i z ht hi hz hzs hsz hby hs hx =>
      obtain ⟨hg, hl1, hl2, hst⟩ := hok
      rw [nog hg, if_pos rfl]
      left
      obtain ⟨v', w', γ', hr, hS', hv', hγ', hkn, hk⟩ := run_app (ty := o.type) ht hi hz hzs hsz hby h.st hid ((hs.rep h.env).strip hl1) ((hx.rep h.env).strip hl2) hst
      have hrun : (execOp a.eval o).run P w = .ok (.value v') w' := by
        simp [execOp, hoo, resolve, invoke, builtin, hr]
      unfold Oper.wp
      rw [hrun]
      have h' : FR D N X0 W0 B γ' a _ e _ := h.mono hkn hk hS' (.app _ _ _ _ _ _)
      exact hK γ' _ _ (h'.put tr hv') hkn (fun k hk => by rw [hγ']; simp [upd, hk])
  | _ =>
    rw [hao] at hop
    generalize hoo : o.op = oo at hop
    cases hop with
    | val tv =>
      rw [← hoo] at tv
      refine valcase _ hao tv ?_ ?_ ?_
      · simp only [okS, hao] at hok; exact hok.1
      · simp only [okS, hao] at hok; exact hok.2
      · simp only [stp, hao]

end

end Go.Proofs.Ytghlfjpmpalpdaa
