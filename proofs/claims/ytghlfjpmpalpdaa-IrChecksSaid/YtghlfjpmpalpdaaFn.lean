/- A function's contract out of its body; the translation of a body into the evaluator's own code, by a function. -/
import Derived.Test.YtghlfjpmpalpdaaRng
namespace Go.Proofs.Ytghlfjpmpalpdaa
open Go.RowKit

/-- The lowest D bits of a number. -/
def bits : Nat → Nat → Slot
  | 0, _ => []
  | D + 1, n => (n % 2 == 1) :: bits D (n / 2)
theorem bits_length : ∀ (D n : Nat), (bits D n).length = D
  | 0, _ => rfl
  | D + 1, n => by simp [bits, bits_length D]
theorem idx_bits : ∀ (D n : Nat), n < 2 ^ D → (bits D n).idx = n
  | 0, n, h => by simp at h; subst h; rfl
  | D + 1, n, h => by
    have h2 : n / 2 < 2 ^ D := by rw [Nat.pow_succ] at h; omega
    simp only [bits, Slot.idx, idx_bits D _ h2]
    by_cases hm : n % 2 = 1
    · simp [hm]; omega
    · simp [hm]; omega

/-- The slots at a function's entry. -/
def setAll (D : Nat) (e : T) : Nat → List DV → T
  | _, [] => e
  | i, a :: as => setAll D (e.set (bits D i) (.d a)) (i + 1) as
theorem setAll_get (D : Nat) {p : Slot} (hp : p.length = D) : ∀ (as : List DV) (e : T) (i : Nat), i + as.length ≤ 2 ^ D → ((setAll D e i as).get p = e.get p ∧ (p.idx < i ∨ i + as.length ≤ p.idx)) ∨ ∃ k, ∃ h : k < as.length, p.idx = i + k ∧ (setAll D e i as).get p = .d as[k]
  | [], e, i, _ => .inl ⟨rfl, by simp; omega⟩
  | a :: as, e, i, hle => by
    simp only [List.length_cons] at hle
    rcases setAll_get D hp as (e.set (bits D i) (.d a)) (i + 1) (by omega) with ⟨h1, h2⟩ | ⟨k, hk, h1, h2⟩
    · by_cases hpi : p.idx = i
      · right
        have : bits D i = p := Slot.idx_inj ((bits_length D i).trans hp.symm) ((idx_bits D i (by omega)).trans hpi.symm)
        refine ⟨0, by simp, by omega, ?_⟩
        show (setAll D (e.set (bits D i) (.d a)) (i + 1) as).get p = _
        rw [h1, this, T.get_set]
        rfl
      · left
        have : bits D i ≠ p := fun h => hpi (by rw [← h]; exact idx_bits D i (by omega))
        refine ⟨?_, by simp only [List.length_cons]; omega⟩
        simp only [setAll, h1]
        exact T.get_set_ne _ _ _ _ ((bits_length D i).trans hp.symm) this
    · exact .inr ⟨k + 1, by simpa using hk, by omega, by simpa [setAll] using h2⟩

def initT (D : Nat) (as : List DV) : T := setAll D (.leaf (.d .top)) 0 as

inductive ARes where
  | tmp (p : Slot)
  | cell (p : Slot) (k : Option Nat)
def ARes.val (e : T) (H : Heap) : ARes → AV
  | .tmp p => e.get p
  | .cell p k => ldV H k (e.get p)
def ARes.ok (e : T) (H : Heap) : ARes → Prop
  | .tmp p => (e.get p).live
  | .cell p k => ldOk H k (e.get p)
def resV (e : T) (H : Heap) : List ARes → AV
  | [x] => x.val e H
  | xs => mkTup (xs.map (·.val e H))
/-- What a function hands back is right. -/
def Res (rs : List ARes) (r : DV) (x : AX) (e : T) (H : Heap) : Prop :=
  (match x with | .exit _ => False | _ => True) ∧ (∀ y ∈ rs, y.ok e H) ∧ ∃ d, frz true H 5 (resV e H rs) = some d ∧ DLe d r

inductive TrRes (P : Program) (D : Nat) : ResultVar → ARes → Prop
  | tmp (p : Slot) (hp : p.length = D) : TrRes P D (.tmp p.idx) (.tmp p)
  | cell1 {t d} (p : Slot) (hp : p.length = D) (hu : P.underlying t = some d) (hd : (match d with | .struct _ | .array _ _ => true | _ => false) = false) : TrRes P D (.cell p.idx t) (.cell p none)
  | cellk {t d inf} (p : Slot) (hp : p.length = D) (hu : P.underlying t = some d) (hd : (∃ fs, d = .struct fs) ∨ (∃ n e, d = .array n e)) (hi : P.info? t = some inf) : TrRes P D (.cell p.idx t) (.cell p (some inf.size))

section
variable {P : Program} {D N : Nat} {X0 : Nat → Nat → Prop} {W0 : World} {γ : Nat → Option Value} {w : World} {H : Heap} {a : Act} {e : T}

theorem run_mapM {α β : Type} {f : α → Sem β} : ∀ (l : List α) (r : List β), l.length = r.length → (∀ i (h : i < l.length) (h' : i < r.length), (f l[i]).run P w = .ok r[i] w) → (l.mapM f).run P w = .ok r w
  | [], [], _, _ => by simp
  | a :: l, b :: r, hl, h => by
    have h0 := h 0 (by simp) (by simp)
    have ih := run_mapM l r (by simpa using hl) (fun i hi hi' => h (i + 1) (by simpa using hi) (by simpa using hi'))
    simp only [List.getElem_cons_zero] at h0
    simp [List.mapM_cons, h0, ih]
  | [], b :: r, hl, _ => by simp at hl
  | a :: l, [], hl, _ => by simp at hl

theorem run_mapM_array {α β : Type} {f : α → Sem β} (l : Array α) (r : List β) (hl : l.size = r.length) (h : ∀ i (h : i < l.toList.length) (h' : i < r.length), (f l.toList[i]).run P w = .ok r[i] w) : (l.mapM f).run P w = .ok r.toArray w := by
  have hm := run_mapM (P := P) (w := w) l.toList r (by simpa using hl) h
  have e : l.mapM f = Functor.map List.toArray (l.toList.mapM f) := by
    conv => lhs; rw [← Array.toArray_toList (xs := l)]
    rw [List.mapM_toArray]
  rw [e]
  simp [hm]

theorem load_at {t : TypeId} {v v' : Value} {p : AV} (hp : Rep γ (XOf X0 γ H) w v p) (hi : ∀ k, ldOk H k p → isPtr p = true) {k : Option Nat} (hok : ldOk H k p) (h : (Instr.loadAt t v).run P w = .ok v' w) : (do loadVar t (← asAddr v) : Sem Value).run P w = .ok v' w := by
  have hptr := hi k hok
  have : ∃ ad, v = .pointer (some ad) := by
    cases hp with
    | d _ x h => cases h with
      | cref => exact ⟨_, rfl⟩
      | _ => simp [isPtr] at hptr
    | ptr => exact ⟨_, rfl⟩
    | _ => simp [isPtr] at hptr
  obtain ⟨ad, rfl⟩ := this
  simpa [Instr.loadAt, Instr.sureAddr, asAddr] using h

theorem ldOk_ptr {k : Option Nat} {p : AV} (h : ldOk H k p) : isPtr p = true := by
  unfold ldOk at h
  split at h
  · rfl
  · rfl
  · exact h.elim

theorem TrRes.sound {rv : ResultVar} {ar : ARes} (tr : TrRes P D rv ar) (hS : St X0 W0 γ w H) (hE : EnvRep D γ (XOf X0 γ H) w a e) (hok : ar.ok e H) :
    ∃ v, ((match rv with | .tmp t => pure (a.tmps.getD t undef) | .cell ad t => do loadVar t (← asAddr (a.tmps.getD ad undef)) : Sem Value).run P w) = .ok v w ∧ (Rep γ (XOf X0 γ H) w v (ar.val e H).strip ∨ Rep γ (XOf X0 γ H) w v (ar.val e H)) := by
  cases tr with
  | tmp p hp => exact ⟨_, rfl, .inr (hE p hp)⟩
  | cell1 p hp hu hd =>
    obtain ⟨v', hr, hv⟩ := run_ld1 hu hd hS (hE p hp) hok
    exact ⟨v', load_at (hE p hp) (fun k => ldOk_ptr) hok hr, .inr hv⟩
  | cellk p hp hu hd hi =>
    obtain ⟨v', hr, hv⟩ := run_ldk hu hd hi rfl hS (hE p hp) hok
    exact ⟨v', load_at (hE p hp) (fun k => ldOk_ptr) hok hr, .inr hv⟩

theorem TrRes.sound' {rv : ResultVar} {ar : ARes} (tr : TrRes P D rv ar) (hS : St X0 W0 γ w H) (hE : EnvRep D γ (XOf X0 γ H) w a e) (hok : ar.ok e H) :
    ∃ v, ((match rv with | .tmp t => pure (a.tmps.getD t undef) | .cell ad t => do loadVar t (← asAddr (a.tmps.getD ad undef)) : Sem Value).run P w) = .ok v w ∧ Rep γ (XOf X0 γ H) w v (ar.val e H) := by
  cases tr with
  | tmp p hp => exact ⟨_, rfl, hE p hp⟩
  | cell1 p hp hu hd =>
    obtain ⟨v', hr, hv⟩ := run_ld1 hu hd hS (hE p hp) hok
    exact ⟨v', load_at (hE p hp) (fun k => ldOk_ptr) hok hr, hv⟩
  | cellk p hp hu hd hi =>
    obtain ⟨v', hr, hv⟩ := run_ldk hu hd hi rfl hS (hE p hp) hok
    exact ⟨v', load_at (hE p hp) (fun k => ldOk_ptr) hok hr, hv⟩

theorem results_rep {fn : Func} {rs : List ARes} (hl : fn.results.size = rs.length) (htr : ∀ i (h : i < fn.results.toList.length) (h' : i < rs.length), TrRes P D fn.results.toList[i] rs[i]) (hS : St X0 W0 γ w H) (hE : EnvRep D γ (XOf X0 γ H) w a e) (hok : ∀ y ∈ rs, y.ok e H) :
    ∃ v, (results fn a.tmps).run P w = .ok v w ∧ Rep γ (XOf X0 γ H) w v (resV e H rs) := by
  have hex : ∃ vs : List Value, vs.length = rs.length ∧ ∀ i (h : i < rs.length) (h' : i < vs.length), (∃ hr : i < fn.results.toList.length, ((match fn.results.toList[i] with | .tmp t => pure (a.tmps.getD t undef) | .cell ad t => do loadVar t (← asAddr (a.tmps.getD ad undef)) : Sem Value).run P w) = .ok vs[i] w) ∧ Rep γ (XOf X0 γ H) w vs[i] (rs[i].val e H) := by
    have hall : ∀ i (h : i < rs.length), ∃ v, (∃ hr : i < fn.results.toList.length, ((match fn.results.toList[i] with | .tmp t => pure (a.tmps.getD t undef) | .cell ad t => do loadVar t (← asAddr (a.tmps.getD ad undef)) : Sem Value).run P w) = .ok v w) ∧ Rep γ (XOf X0 γ H) w v (rs[i].val e H) := by
      intro i hi
      have hi' : i < fn.results.toList.length := by simpa [hl] using hi
      obtain ⟨v, h1, h2⟩ := (htr i hi' hi).sound' hS hE (hok _ (List.getElem_mem hi))
      exact ⟨v, ⟨hi', h1⟩, h2⟩
    refine ⟨List.ofFn (fun i : Fin rs.length => Classical.choose (hall i.1 i.2)), by simp, fun i hi hi' => ?_⟩
    simp only [List.getElem_ofFn]
    exact Classical.choose_spec (hall i hi)
  obtain ⟨vs, hvl, hvs⟩ := hex
  have hm := run_mapM_array (P := P) (w := w) (f := fun rv => (match rv with | .tmp t => pure (a.tmps.getD t undef) | .cell ad t => do loadVar t (← asAddr (a.tmps.getD ad undef)) : Sem Value)) fn.results vs (by rw [hl, hvl]) (fun i hi hi' => by
    obtain ⟨⟨_, h1⟩, _⟩ := hvs i (by omega) hi'
    exact h1)
  have hreps : Reps γ (XOf X0 γ H) w vs (rs.map (·.val e H)) := ⟨by simp [hvl], fun i hi hi' => by
    simp only [List.getElem_map]
    exact (hvs i (by omega) hi).2⟩
  refine ⟨if h : vs.toArray.size = 1 then vs.toArray[0] else .tuple vs.toArray, ?_, ?_⟩
  · unfold results
    simp only [Sem.run_bind]
    exact (congrArg (fun r => Result.andThen r _) hm).trans rfl
  · by_cases h1 : rs.length = 1
    · obtain ⟨x, rfl⟩ := List.length_eq_one_iff.1 h1
      obtain ⟨v, rfl⟩ := List.length_eq_one_iff.1 (hvl.trans h1)
      have := hreps.2 0 (by simp) (by simp)
      simpa [resV] using this
    · rw [dif_neg (by simp [hvl, h1])]
      have : resV e H rs = mkTup (rs.map (·.val e H)) := by
        unfold resV
        split
        · simp at h1
        · rfl
      rw [this]
      exact Rep.mkTup hreps

/-- At the function's end the marks are taken away, one by one. -/
theorem leaves_marks {fn : Func} {R : Ending → World → Prop} {n : Nat} {tmps : Array Value} : ∀ (Ks : List Nat) (w : World), Ks.Nodup → (∀ K, K ∈ Ks → W0.heap.size ≤ K ∧ w.heap[K]? = some (.deferred (some []))) → St X0 W0 γ w H →
    (∀ w', St X0 W0 γ w' H → (∀ v x, Rep γ (XOf X0 γ H) w v x → Rep γ (XOf X0 γ H) w' v x) → ∃ v, (results fn tmps).run P w' = .ok v w' ∧ R (.returned v) w') →
    LeavesInM Fence.wide n P fn tmps R (Ks.map markOf) .returning w
  | [], w, _, _, hS, h => h w hS (fun _ _ h => h)
  | K :: Ks, w, hnd, hm, hS, h => by
    obtain ⟨h1, h2⟩ := hm K (by simp)
    obtain ⟨hS', hr⟩ := hS.mark (o' := .deferred none) h1 h2 rfl
    have hnd' := List.nodup_cons.1 hnd
    refine ⟨by simp, .inl ⟨K, _, rfl, run_takeDeferred h2, ?_⟩⟩
    refine leaves_marks Ks _ hnd'.2 (fun K' hK' => ⟨(hm K' (by simp [hK'])).1, ?_⟩) hS' (fun w' hS'' hr' => h w' hS'' (fun v x hv => hr' v x (hr v x hv)))
    exact (World.putObj_heap_other (fun e => hnd'.1 (by rw [← e]; exact hK'))).trans (hm K' (by simp [hK'])).2

/-- The base of a whole call. -/
def Bs.top (X0 : Nat → Nat → Prop) (W0 : World) : Bs := ⟨X0, W0, fun _ => none, fun _ => True⟩
theorem Bs.top_free : (Bs.top X0 W0).free := ⟨rfl, fun _ => trivial⟩

/-- A function's calls; R: what is known of what comes back. -/
theorem acalls {F : FuncId} {fn : Func} {c : Code} {ac : ACode} {as : List DV} {rs : List ARes} {Q : T → Heap → Prop} {R : (Nat → Nat → Prop) → World → Value → World → Prop} (D : Nat) (hf : P.funcs[F]? = some fn) (hn : (fn.name == "runtime.NumGoroutine") = false) (hb : fn.body = some c) (hN : fn.ntmps ≤ 2 ^ D) (hargs : as.length ≤ fn.ntmps)
    (tr : TrCode P D fn.ntmps c ac) (hl : fn.results.size = rs.length) (htr : ∀ i (h : i < fn.results.toList.length) (h' : i < rs.length), TrRes P D fn.results.toList[i] rs[i])
    (hQ : ∀ X w γ e H v w', Q e H → St X w γ w' H → Rep γ (XOf X γ H) w' v (resV e H rs) → R X w v w')
    (h : (∃ X w vs, DReps X w vs as) → awp P ac (fun x e H _ => (match x with | .exit _ => False | _ => True) ∧ (∀ y ∈ rs, y.ok e H) ∧ Q e H) (initT D as) hnil 0) :
    HasBody P F ∧ ∀ (X : Nat → Nat → Prop) (w : World) (vs : Array Value), (∀ b o, X b o → b < w.heap.size) → DReps X w vs.toList as → Calls P F vs w fun e w' => Ext w w' ∧ ∃ v, e = .returned v ∧ R X w v w' := by
  refine ⟨⟨fn, c, hf, hn, hb⟩, fun X w vs hX hvs => ?_⟩
  refine (callsIn_wide (n := 0)).1 (callsIn_of_wp_marks (F := Fence.wide) hf hb trivial ?_ rfl)
  have hvl : vs.size = as.length := by simpa using hvs.1
  have hF : FZ D fn.ntmps X w (Bs.top X w) (fun _ => none) { tmps := vs ++ Array.replicate (fn.ntmps - vs.size) undef, defers := [] } w (initT D as) hnil 0 := by
    have hXO : ∀ b q, XOf X (fun _ => none) hnil b q → X b q := by
      rintro b q (h | ⟨_, _, _, h, _⟩)
      · exact h
      · cases h
    refine ⟨⟨⟨hX, Ext.refl w, (fun id o h => by cases h), (fun id id' o o' v v' b h => by cases h)⟩, fun p hp => ?_, by simp [hvl]; omega, ⟨[], rfl, List.nodup_nil, fun K hK => by cases hK⟩, .same fun b q _ hb => hXO b q hb, fun id v hv => (by cases hv), fun id kd n f v b h => (by cases h)⟩, fun _ _ => rfl⟩
    rcases setAll_get D hp as (.leaf (.d .top)) 0 (by omega) with ⟨h1, h2⟩ | ⟨k, hk, h1, h2⟩
    · unfold initT
      rw [h1]
      exact .top _
    · unfold initT
      rw [h2]
      have hk' : k < vs.size := by omega
      have e1 : (vs ++ Array.replicate (fn.ntmps - vs.size) undef).getD p.idx undef = vs.toList[k]'(by simpa using hk') := by
        rw [h1, Nat.zero_add, Array.getD_eq_getD_getElem?, Array.getElem?_append_left hk', Array.getElem?_eq_getElem hk']
        simp
      show Rep _ _ _ ((vs ++ Array.replicate (fn.ntmps - vs.size) undef).getD p.idx undef) _
      rw [e1]
      exact .d _ _ ((hvs.2 k (by simpa using hk') hk).mono (.same fun b q _ hb => hXO b q hb))
  refine wpIn_mono (awp_sound tr none 0 _ _ (.inr ⟨Bs.top_free, rfl⟩) _ _ _ _ _ _ hF (h ⟨X, w, _, hvs⟩)) ?_
  rintro x a' w' ⟨y, γ', e', H', nx', hy, hF', hq⟩
  obtain ⟨hx, hok, hq⟩ := hq
  have fin : LeavesInM Fence.wide 0 P fn a'.tmps (fun e w' => Ext w w' ∧ ∃ v, e = .returned v ∧ R X w v w') a'.defers .returning w' := by
    obtain ⟨Ks, h1, h2, h3⟩ := hF'.1.marks
    rw [h1]
    refine leaves_marks Ks w' h2 (fun K hK => ⟨(h3 K hK).1, (h3 K hK).2.1⟩) hF'.1.st (fun w'' hS hr => ?_)
    obtain ⟨v, hr, hv⟩ := results_rep hl htr hS (fun p hp => hr _ _ (hF'.1.env p hp)) hok
    exact ⟨v, hr, hS.ext, v, rfl, hQ _ _ _ _ _ _ _ hq hS hv⟩
  cases x <;> simp only [AX.of] at hy <;> (try cases hy)
  · exact fin
  · exact hx.elim
  · exact fin

/-- A function's contract. -/
theorem apure {F : FuncId} {fn : Func} {c : Code} {ac : ACode} {as : List DV} {rs : List ARes} {r : DV} (D : Nat) (hf : P.funcs[F]? = some fn) (hn : (fn.name == "runtime.NumGoroutine") = false) (hb : fn.body = some c) (hN : fn.ntmps ≤ 2 ^ D) (hargs : as.length ≤ fn.ntmps)
    (tr : TrCode P D fn.ntmps c ac) (hl : fn.results.size = rs.length) (htr : ∀ i (h : i < fn.results.toList.length) (h' : i < rs.length), TrRes P D fn.results.toList[i] rs[i])
    (h : (∃ X w vs, DReps X w vs as) → awp P ac (fun x e H _ => Res rs r x e H) (initT D as) hnil 0) : APure P F as r :=
  acalls (R := fun X _ v w' => DRep X w' v r) D hf hn hb hN hargs tr hl htr (fun X w γ e H v w' hq hS hv => by
    obtain ⟨d, hd, hle⟩ := hq
    exact hle _ _ _ (frz_rep hS 5 hv hd)) h

/-- What a function hands back is a row of its own making. -/
def OwnRes (rs : List ARes) (te : TypeId) (n len : Nat) (row : Nat → List DV) (x : AX) (e : T) (H : Heap) : Prop :=
  (match x with | .exit _ => False | _ => True) ∧ (∀ y ∈ rs, y.ok e H) ∧ match resV e H rs with
    | .own id l => l = len ∧ (match hget H id with | some (.row te' n' l' row') => te' = te ∧ n' = n ∧ l' = len ∧ ∀ i, i < len → row' i = row i | _ => False)
    | .d (.lit (.slice none 0 0)) => len = 0
    | _ => False

theorem aown {F : FuncId} {fn : Func} {c : Code} {ac : ACode} {as : List DV} {rs : List ARes} {te : TypeId} {n len : Nat} {row : Nat → List DV} (D : Nat) (hf : P.funcs[F]? = some fn) (hn : (fn.name == "runtime.NumGoroutine") = false) (hb : fn.body = some c) (hN : fn.ntmps ≤ 2 ^ D) (hargs : as.length ≤ fn.ntmps)
    (tr : TrCode P D fn.ntmps c ac) (hl : fn.results.size = rs.length) (htr : ∀ i (h : i < fn.results.toList.length) (h' : i < rs.length), TrRes P D fn.results.toList[i] rs[i])
    (h : (∃ X w vs, DReps X w vs as) → awp P ac (fun x e H _ => OwnRes rs te n len row x e H) (initT D as) hnil 0) : AOwn P F as te n len row :=
  acalls (R := fun X w v w' => ∃ xs : Nat → List Value, w'.ownsRow w.heap.size te n v len ((List.range len).flatMap xs) ∧ ∀ i, i < len → (xs i).length = n ∧ DReps (fun b o => X b o ∨ (blk v = some b ∧ len * n ≤ o)) w' (xs i) (row i)) D hf hn hb hN hargs tr hl htr (fun X w γ e H v w' hq hS hv => by
    split at hq
    · rename_i id l hres
      obtain ⟨rfl, hq⟩ := hq
      split at hq
      · rename_i te' n' l' row' ho
        obtain ⟨rfl, rfl, rfl, hrow⟩ := hq
        rw [hres] at hv
        cases hv with
        | own _ _ _ hγ =>
          obtain ⟨u, hu, xs, hown, hxs⟩ := hS.obj id _ ho
          rw [hγ] at hu
          injection hu with hu
          subst hu
          refine ⟨xs, hown, fun i hi => ⟨(hxs i hi).1, ?_⟩⟩
          rw [← hrow i hi]
          refine (hxs i hi).2.mono (.same ?_)
          rintro b q _ (hX | ⟨h1, h2⟩)
          · exact .inl hX
          · exact .inr ⟨id, _, _, ho, hγ, h1, h2⟩
      · exact hq.elim
    · rename_i hres
      subst hq
      rw [hres] at hv
      cases hv with
      | d _ _ hd =>
        cases hd
        exact ⟨fun _ => [], by simpa using World.ownsRow_nil _ _ _ _, fun i hi => by omega⟩
    · exact hq.elim) h

/-- A row of its own making, as plain data. -/
theorem AOwn.pure {F : FuncId} {as : List DV} {te : TypeId} {n len : Nat} {row : Nat → List DV} (h : AOwn P F as te n len row) : APure P F as (.sl n len row) := by
  refine ⟨h.1, fun X w vs hX hvs => ?_⟩
  refine (h.2 X w vs hX hvs).mono ?_
  rintro e w' ⟨hx, v, rfl, xs, hown, hxs⟩
  refine ⟨hx, v, rfl, ?_⟩
  have hsub : ∀ b o, XOf X (fun _ => some v) (hadd 0 (.row te n len row) hnil) b o → X b o ∨ (blk v = some b ∧ len * n ≤ o) := by
    rintro b o (h1 | ⟨k, ob, u, h1, h2, h3, h4⟩)
    · exact .inl h1
    · injection h2 with h2
      subst h2
      simp only [hget_add] at h1
      split at h1
      · injection h1 with h1; subst h1; exact .inr ⟨h3, h4⟩
      · cases h1
  have hS : St X w (fun _ => some v) w' (hadd 0 (.row te n len row) hnil) := by
    refine ⟨hX, hx, fun id o ho => ?_, fun id id' o o' _ _ _ ho ho' _ _ _ _ => ?_⟩
    · simp only [hget_add] at ho
      split at ho
      · injection ho with ho
        subst ho
        exact ⟨v, rfl, xs, hown, fun i hi => ⟨(hxs i hi).1, (hxs i hi).2.mono (.same fun b o _ hb => hsub b o hb)⟩⟩
      · cases ho
    · simp only [hget_add] at ho ho'
      split at ho
      · split at ho'
        · omega
        · cases ho'
      · cases ho
  exact (own_rep hS (id := 0) (te := te) (by simp [hget_add]) rfl).mono (.same fun b o _ hb => .inl hb)

end

end Go.Proofs.Ytghlfjpmpalpdaa
