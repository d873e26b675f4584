/- Iterators by the evaluator: stretches between two calls of yield; a call of yield. -/
import Derived.Test.YtghlfjpmpalpdaaGo
namespace Go.Proofs.Ytghlfjpmpalpdaa
open Go.RowKit

/-- A base that lets no map and no mark in. -/
def Bs.bare (Y : Nat → Nat → Prop) (w : World) : Bs := ⟨Y, w, fun _ => none, fun _ => False⟩
/-- A plain state: it is read in world w; Y may turn. -/
def P1 (N : Nat) (Y : Nat → Nat → Prop) (a : Act) (w : World) (e : T) : Prop := FZ 8 N Y w (Bs.bare Y w) (fun _ => none) a w e hnil 0

section
variable {P : Program} {N : Nat} {Y : Nat → Nat → Prop} {a : Act} {w : World} {e : T}

theorem XOf_nil {X0 : Nat → Nat → Prop} {γ : Nat → Option Value} {b q : Nat} (h : XOf X0 γ hnil b q) : X0 b q := by
  rcases h with h | ⟨_, _, _, h, _⟩
  · exact h
  · cases h

theorem P1.of (hY : ∀ b o, Y b o → b < w.heap.size) (hE : EnvRep 8 (fun _ => none) Y w a e) (hs : a.tmps.size = N) (hd : a.defers = []) : P1 N Y a w e :=
  ⟨⟨⟨hY, Ext.refl w, (fun id o h => by cases h), (fun id id' o o' v v' b h => by cases h)⟩, fun p hp => (hE p hp).mono (Knows.refl _) (.same fun b q _ h => XOf_nil h), hs, ⟨[], hd, List.nodup_nil, fun K hK => by cases hK⟩, .same fun b q _ h => XOf_nil h, (fun _ _ h => by cases h), fun id kd n f v b h => by cases h⟩, fun _ _ => rfl⟩
theorem P1.env (h : P1 N Y a w e) : EnvRep 8 (fun _ => none) Y w a e := fun p hp => (h.1.env p hp).mono (Knows.refl _) (.same fun _ _ _ h => .inl h)
theorem P1.defers (h : P1 N Y a w e) : a.defers = [] := by
  obtain ⟨Ks, h1, _, h2⟩ := h.1.marks
  cases Ks with
  | nil => exact h1
  | cons K Ks => exact (h2 K (by simp)).2.2.2.elim
theorem P1.move {Y' : Nat → Nat → Prop} {w' : World} (h : P1 N Y a w e) (hY : ∀ b o, Y' b o → b < w'.heap.size) (k : KB 0 Y Y' w w') : P1 N Y' a w' e :=
  .of hY (fun p hp => (h.env p hp).monoC (Knows.refl _) k.size k.cells k.sub) h.1.size h.defers

/-- A stretch of code. -/
theorem stretch {c : Code} {ac : ACode} {e' : T} {n : Nat} (tr : TrCode P 8 N c ac) (hp : plainB ac = true) (h1 : P1 N Y a w e) (h : awp P ac (fun x e2 H2 _ => x = .normal ∧ SLe (fun _ => .none) e2 H2 e' [] 0) e hnil 0) :
    c.wpIn Fence.wide n P (fun x a' w' => x = .normal ∧ Ext w w' ∧ P1 N Y a' w' e') a w := by
  refine wpIn_mono (awp_sound tr none n _ _ (.inl hp) _ _ _ _ _ _ h1 h) ?_
  rintro x a' w' ⟨y, γ', e2, H2, nx', hy, hF, rfl, hs⟩
  cases x <;> simp only [AX.of] at hy <;> (try cases hy)
  have hF' := hs.fs rfl hF
  have he : ren (fun _ => Src.none) γ' = fun _ => none := rfl
  rw [he] at hF'
  refine ⟨rfl, hF.1.st.ext, .of (fun b o hY => Nat.lt_of_lt_of_le (h1.1.st.hx b o hY) hF.1.st.ext.size) (fun p hp => (hF'.1.env p hp).mono (Knows.refl _) (.same fun b q _ h => .inl h)) hF'.1.size ?_⟩
  obtain ⟨Ks, g1, _, g2⟩ := hF'.1.marks
  cases Ks with
  | nil => exact g1
  | cons K Ks => exact (g2 K (by simp)).2.2.2.elim

/-- Less is said. -/
theorem P1.le {e' : T} (h : P1 N Y a w e) (hs : TLe (fun _ => .none) e e') : P1 N Y a w e' := by
  have hF' := SLe.fs (g := fun _ => .none) (L := []) (nx' := 0) rfl ⟨hs, trivial, trivial, fun _ _ => rfl⟩ h
  exact hF'

theorem P1.put (h : P1 N Y a w e) {p : Slot} (hp : p.length = 8) (hN : p.idx < N) {v : Value} {x : AV} (hv : Rep (fun _ => none) Y w v x) : P1 N Y (a.put (some p.idx) v) w (e.set p x) :=
  .of h.1.st.hx (h.env.put hp (by rw [h.1.size]; exact hN) hv) ((put_size _ _ _).trans h.1.size) ((put_defers _ _ _).trans h.defers)

/-- The state at a function's entry. -/
theorem P1.init {ds : List DV} {vs : Array Value} (hY : ∀ b o, Y b o → b < w.heap.size) (hN : N ≤ 2 ^ 8) (hargs : ds.length ≤ N) (hvs : DReps Y w vs.toList ds) : P1 N Y { tmps := vs ++ Array.replicate (N - vs.size) undef, defers := [] } w (initT 8 ds) := by
  have hvl : vs.size = ds.length := by simpa using hvs.1
  refine .of hY (fun p hp => ?_) (by simp [hvl]; omega) rfl
  rcases setAll_get 8 hp ds (.leaf (.d .top)) 0 (by omega) with ⟨h1, h2⟩ | ⟨k, hk, h1, h2⟩
  · unfold initT
    rw [h1]
    exact .top _
  · unfold initT
    rw [h2]
    have hk' : k < vs.size := by omega
    have e1 : (vs ++ Array.replicate (N - vs.size) undef).getD p.idx undef = vs.toList[k]'(by simpa using hk') := by
      rw [h1, Nat.zero_add, Array.getD_eq_getD_getElem?, Array.getElem?_append_left hk', Array.getElem?_eq_getElem hk']
      simp
    show Rep _ _ _ ((vs ++ Array.replicate (N - vs.size) undef).getD p.idx undef) _
    rw [e1]
    exact .d _ _ (hvs.2 k (by simpa using hk') hk)

/-- One operation of a region, in a plain state. -/
theorem valStep {ops : Array Oper} {o : Oper} {ao : AOper} {Q : Exit → Act → World → Prop} {i : Nat} {rest : List Nat} {n : Nat} {e' : T} (ho : ops[i]? = some o) (hnd : noDefer ops = true) (hlo : ¬ LetsOut Q) (tr : TrOper P 8 N ops o ao) (h1 : P1 N Y a w e)
    (hok : okS P .top 0 ao e hnil) (hmk : noMk [ao] = true) (hs : SLe (fun _ => .none) (stp .top 0 ao e hnil).1 (stp .top 0 ao e hnil).2 e' [] 0) (h : ∀ a' w', Ext w w' → P1 N Y a' w' e' → wpOpsIn Fence.wide n P ops Q rest a' w') : wpOpsIn Fence.wide n P ops Q (i :: rest) a w := by
  rw [wpOpsIn_cons]
  refine wpOpIn_of (ro := none) (noDefer_at hnd i) hlo ?_
  unfold wpOp
  rw [ho]
  refine op_sound tr h1.1 (id := 0) rfl .top hok (fun kd hk b => ?_) (fun γ' a' w' hR hkn hne => ?_)
  · simp [noMk, hk] at hmk
  have hF' := SLe.fs (nx' := 0) (nx := 1) rfl hs ⟨hR, fun k hk => (hne k (by omega)).trans rfl⟩
  refine h a' w' hR.st.ext (.of (fun b o hY => Nat.lt_of_lt_of_le (h1.1.st.hx b o hY) hR.st.ext.size) (fun p hp => (hF'.1.env p hp).mono (Knows.refl _) (.same fun b q _ h => .inl h)) hF'.1.size ?_)
  obtain ⟨Ks, g1, _, g2⟩ := hF'.1.marks
  cases Ks with
  | nil => exact g1
  | cons K Ks => exact (g2 K (by simp)).2.2.2.elim

/-- A test, in a plain state. -/
theorem condStep {c : Operand} {t f : Code} {p : Slot} {b : Bool} {Q : Exit → Act → World → Prop} {n : Nat} (h1 : P1 N Y a w e) (tr : TrOpd 8 c (.s p)) (he : e.get p = .d (.lit (.bool b))) (ht : b = true → t.wpIn Fence.wide n P Q a w) (hf : b = false → f.wpIn Fence.wide n P Q a w) : (Code.cond c t f).wpIn Fence.wide n P Q a w := by
  have hv : a.eval c = .bool b := by
    have := tr.rep h1.env
    simp only [Opd.av, he] at this
    exact this.lit
  refine wpIn_cond hv ?_
  cases b with
  | true => rw [if_pos rfl]; exact ht rfl
  | false => rw [if_neg (by simp)]; exact hf rfl

theorem P1.len {p : Slot} {n len : Nat} {row : Nat → List DV} (h : P1 N Y a w e) (hp : p.length = 8) (he : e.get p = .d (.sl n len row)) : len ≤ 9223372036854775807 := by
  have := h.env p hp
  rw [he] at this
  generalize a.tmps.getD p.idx undef = v at this
  cases this with
  | d _ _ hd =>
    have : len ≤ maxLen := by
      cases hd with
      | nil => exact Nat.zero_le _
      | emp => exact Nat.zero_le _
      | sl b off cap n len row vals h1 h2 => exact Nat.le_trans h1 h2
    simpa [maxLen] using this

/-- A call of yield. -/
theorem yieldStep {ops : Array Oper} {o : Oper} {f x : Operand} {ts : Array TypeId} {Q : Exit → Act → World → Prop} {i l : Nat} {rest : List Nat} {R : Ending → World → Prop} (ho : ops[i]? = some o) (hg : o.guard = none) (hop : o.op = .call { callee := .value f, args := #[x], argTypes := ts })
    (hf : a.eval f = .func (.yield l) #[] #[]) (hy : YieldAt Fence.wide 0 P l #[a.eval x] w R) (h : ∀ en w', R en w' → ∃ v, en = .returned v ∧ wpOpsIn Fence.wide 0 P ops Q rest (a.put o.dst v) w') : wpOpsIn Fence.wide 0 P ops Q (i :: rest) a w := by
  rw [wpOpsIn_cons]
  unfold wpOpIn
  rw [ho]
  simp only
  rw [if_pos (by simp [Region.wanted, hg])]
  refine ⟨fun _ _ => trivial, ?_⟩
  rw [Oper.semAt_eq _ _ _ (fun c hc => by rw [hop] at hc; cases hc)]
  obtain ⟨fn, tmps, asn, body, hr, hR⟩ := hy
  have hrun : (execOp a.eval o).run P w = .ok (.round l fn tmps asn body) w := by
    unfold execOp
    simp only [hop, resolve, hf]
    simp [Deferred.ofValue, invoke, hr]
  rw [hrun, Oper.uponIn_round]
  refine ⟨fun h => (by cases h), hR.mono ?_⟩
  intro en w' hq
  obtain ⟨v, rfl, hk⟩ := h en w' hq
  exact hk

/-- A region: two operations, a call of yield, an operation more. -/
theorem yieldReg {id l : Nat} {o0 o1 o2 o3 : Oper} {a0 a1 a2 a3 : AOper} {f x : Operand} {fo xo : Opd} {ts : Array TypeId} {p2 : Slot} {e1 e2 e4 f4 : T} {xd : DV} {JT : (Nat → Nat → Prop) → World → Prop} {Jx : World → Prop}
    (hnd : noDefer #[o0, o1, o2, o3] = true) (ht : trOpers P 8 N [] [] #[o0, o1, o2, o3] false 0 [o0, o1, o2, o3] = some [a0, a1, a2, a3]) (hop : o2.op = .call { callee := .value f, args := #[x], argTypes := ts }) (hg : o2.guard = none) (hd : o2.dst = some p2.idx) (hp2 : p2.length = 8) (hp2N : p2.idx < N)
    (hf : TrOpd 8 f fo) (hx : TrOpd 8 x xo) (hP : P1 N Y a w e)
    (m0 : noMk [a0] = true) (s0 : okS P .top 0 a0 e hnil ∧ SLe (fun _ => .none) (stp .top 0 a0 e hnil).1 (stp .top 0 a0 e hnil).2 e1 [] 0)
    (m1 : noMk [a1] = true) (s1 : okS P .top 0 a1 e1 hnil ∧ SLe (fun _ => .none) (stp .top 0 a1 e1 hnil).1 (stp .top 0 a1 e1 hnil).2 e2 [] 0)
    (hfv : fo.av e2 = .d (.lit (.func (.yield l) #[] #[]))) (hxv : xo.av e2 = .d xd)
    (hy : ∀ W' (vs : Array Value), Ext w W' → DReps Y W' vs.toList [xd] → YieldAt Fence.wide 0 P l vs W' fun en W'' => (en = .returned (.bool true) ∧ ∃ Y', JT Y' W'' ∧ KB 0 Y Y' W' W'') ∨ (en = .returned (.bool false) ∧ Jx W''))
    (hJY : ∀ Y W, JT Y W → ∀ b o, Y b o → b < W.heap.size) (hJe : ∀ Y W W', JT Y W → Ext W W' → JT Y W') (hJxe : ∀ W W', Jx W → Ext W W' → Jx W')
    (m3 : noMk [a3] = true) (s3 : okS P .top 0 a3 (e2.set p2 (.d (.lit (.bool true)))) hnil ∧ SLe (fun _ => .none) (stp .top 0 a3 (e2.set p2 (.d (.lit (.bool true)))) hnil).1 (stp .top 0 a3 (e2.set p2 (.d (.lit (.bool true)))) hnil).2 e4 [] 0)
    (n3 : okS P .top 0 a3 ((T.leaf (.d .top)).set p2 (.d (.lit (.bool false)))) hnil ∧ SLe (fun _ => .none) (stp .top 0 a3 ((T.leaf (.d .top)).set p2 (.d (.lit (.bool false)))) hnil).1 (stp .top 0 a3 ((T.leaf (.d .top)).set p2 (.d (.lit (.bool false)))) hnil).2 f4 [] 0) :
    (Code.region id #[o0, o1, o2, o3] false).wpIn Fence.wide 0 P (fun x a' W' => x = .normal ∧ ((∃ Y', JT Y' W' ∧ P1 N Y' a' W' e4) ∨ (Jx W' ∧ P1 N (fun _ _ => False) a' W' f4))) a w := by
  have htr := (trOpers_sound ht).2
  have hlo : ¬ LetsOut (fun (x : Exit) (a' : Act) (W' : World) => x = .normal ∧ ((∃ Y', JT Y' W' ∧ P1 N Y' a' W' e4) ∨ (Jx W' ∧ P1 N (fun _ _ => False) a' W' f4))) := by rintro ⟨_, _, h, _⟩; cases h
  refine wpIn_region ?_
  show wpOpsIn _ _ _ _ _ [0, 1, 2, 3] a w
  refine valStep (ao := a0) (o := o0) rfl hnd hlo (htr 0 o0 a0 rfl rfl) hP s0.1 m0 s0.2 (fun b1 w1 hx1 hP1 => ?_)
  refine valStep (ao := a1) (o := o1) rfl hnd hlo (htr 1 o1 a1 rfl rfl) hP1 s1.1 m1 s1.2 (fun b2 w2 hx2 hP2 => ?_)
  have hfr := hf.rep hP2.env
  rw [hfv] at hfr
  have hxr := hx.rep hP2.env
  rw [hxv] at hxr
  have hxr' : DReps Y w2 #[b2.eval x].toList [xd] := DReps.cons hxr.dv (DReps.nil _ _)
  refine yieldStep (o := o2) (f := f) (x := x) rfl hg hop hfr.lit (hy w2 _ (hx1.trans hx2) hxr') ?_
  rintro en w3 (⟨rfl, Y', hJ, hK⟩ | ⟨rfl, hJx⟩)
  · refine ⟨_, rfl, ?_⟩
    rw [hd]
    have hP3 := (hP2.move (hJY _ _ hJ) hK).put (v := .bool true) (x := .d (.lit (.bool true))) hp2 hp2N (.ofLit _)
    refine valStep (ao := a3) (o := o3) rfl hnd hlo (htr 3 o3 a3 rfl rfl) hP3 s3.1 m3 s3.2 (fun b4 w4 hx4 hP4 => ?_)
    exact ⟨rfl, .inl ⟨Y', hJe _ _ _ hJ hx4, hP4⟩⟩
  · refine ⟨_, rfl, ?_⟩
    rw [hd]
    have hP3 : P1 N (fun _ _ => False) b2 w3 (.leaf (.d .top)) := .of (fun _ _ h => h.elim) (fun p hp => by cases p <;> exact .top _) hP2.1.size hP2.defers
    have hP3' := hP3.put (v := .bool false) (x := .d (.lit (.bool false))) hp2 hp2N (.ofLit _)
    refine valStep (ao := a3) (o := o3) rfl hnd hlo (htr 3 o3 a3 rfl rfl) hP3' n3.1 m3 n3.2 (fun b4 w4 hx4 hP4 => ?_)
    exact ⟨rfl, .inr ⟨hJxe _ _ hJx hx4, hP4⟩⟩

end

end Go.Proofs.Ytghlfjpmpalpdaa
