/- A range over a function: its law for the evaluator; and that the evaluator tells of the model's run. -/
import Derived.Test.YtghlfjpmpalpdaaCode
namespace Go.Proofs.Ytghlfjpmpalpdaa
open Go.RowKit

section
variable {P : Program} {D N : Nat} {X0 : Nat → Nat → Prop} {W0 : World} {B : Bs} {γ : Nat → Option Value} {w : World} {H : Heap} {a : Act} {e : T}

theorem Rep.monoC {γ' : Nat → Option Value} {X X' : Nat → Nat → Prop} {w' : World} (hγ : Knows γ γ') (ksize : w.heap.size ≤ w'.heap.size) (kcells : ∀ b o v, b < w.heap.size → ¬ X b o → w.cell? ⟨b, o, none⟩ = some v → w'.cell? ⟨b, o, none⟩ = some v) (ksub : ∀ b o, b < w.heap.size → X' b o → X b o) {v : Value} {x : AV} (h : Rep γ X w v x) : Rep γ' X' w' v x := by
  induction h with
  | d v x h => exact .d v x (h.monoC ksize kcells ksub)
  | whn v g x _ h0 ih => exact .whn v g x ih h0
  | ptr b id off h => exact .ptr b id off (hγ _ _ h)
  | own v id len h => exact .own v id len (hγ _ _ h)
  | mp b id h => exact .mp b id (hγ _ _ h)
  | fn f vs caps hl _ ih => exact .fn f vs caps hl ih
  | agg vs cs hl _ ih => exact .agg vs cs hl ih
  | tup vs cs hl _ ih => exact .tup vs cs hl ih

/-- Objects of the machine's own book-keeping. -/
def isMark : Obj → Bool
  | .deferred _ => true
  | .loop _ => true
  | _ => false
theorem isMark_other {o : Obj} (h : isMark o = true) : objOther o = true := by cases o <;> simp_all [isMark, objOther]

theorem cell_mark {K : Nat} {o : Obj} {b q : Nat} {v : Value} (hd : w.heap[K]? = some o) (hm : isMark o = true) (hc : w.cell? ⟨b, q, none⟩ = some v) : b ≠ K := by
  rintro rfl
  cases o <;> simp_all [isMark, World.cell?]

theorem St.not_mark {K q : Nat} {o : Obj} (hS : St X0 W0 γ w H) (hK : W0.heap.size ≤ K) (hd : w.heap[K]? = some o) (hm : isMark o = true) : ¬ XOf X0 γ H K q := by
  rintro (h | ⟨id, ob, v, h1, h2, h3, _⟩)
  · have := hS.hx K q h; omega
  · obtain ⟨u, hu, hr⟩ := hS.obj id ob h1
    rw [h2] at hu
    injection hu with hu
    subst hu
    cases ob with
    | box cs =>
      obtain ⟨b, arr, t, rfl, _, h5, _⟩ := hr
      simp [blk] at h3
      subst h3
      rw [hd] at h5; injection h5 with h5; subst h5; cases hm
    | row e n len row =>
      obtain ⟨xs, hown, _⟩ := hr
      rcases hown.2 with ⟨rfl, _⟩ | ⟨g, cap, cur, rfl, hg, hh, rest⟩
      · simp [blk] at h3
      · simp [blk] at h3
        subst h3
        rw [hd] at hh; injection hh with hh; subst hh; cases hm
    | map kd n f =>
      obtain ⟨b, ent, clock, rfl, _, h5, _⟩ := hr
      simp [blk] at h3
      subst h3
      rw [hd] at h5; injection h5 with h5; subst h5; cases hm

/-- A mark's own block turned: nothing else is. -/
theorem St.mark {K : Nat} {o o' : Obj} (hS : St X0 W0 γ w H) (hK : W0.heap.size ≤ K) (hd : w.heap[K]? = some o) (hm : isMark o = true) :
    St X0 W0 γ (w.putObj K o') H ∧ ∀ v x, Rep γ (XOf X0 γ H) w v x → Rep γ (XOf X0 γ H) (w.putObj K o') v x := by
  have hblk : ∀ b, b ≠ K → (w.putObj K o').heap[b]? = w.heap[b]? := fun b hb => World.putObj_heap_other hb
  have kc : ∀ b o v, b < w.heap.size → ¬ XOf X0 γ H b o → w.cell? ⟨b, o, none⟩ = some v → (w.putObj K o').cell? ⟨b, o, none⟩ = some v := fun b q v _ _ hc =>
    (World.cell?_of_block (w := w) (w' := w.putObj K o') (a := ⟨b, q, none⟩) (hblk b (cell_mark hd hm hc))).trans hc
  have hsz : w.heap.size ≤ (w.putObj K o').heap.size := by simp
  have hr : ∀ v x, Rep γ (XOf X0 γ H) w v x → Rep γ (XOf X0 γ H) (w.putObj K o') v x := fun v x h => h.monoC (Knows.refl γ) hsz kc (fun _ _ _ h => h)
  have hne : ∀ b ob, w.heap[b]? = some ob → isMark ob = false → b ≠ K := fun b ob h1 h2 e => by
    rw [e, hd] at h1; injection h1 with h1; subst h1; rw [hm] at h2; cases h2
  refine ⟨⟨hS.hx, ⟨hS.ext.os, hS.ext.tape, hS.ext.output, Nat.le_trans hS.ext.size hsz, fun k hk => (hblk k (by omega)).trans (hS.ext.block k hk)⟩, fun id ob ho => ?_, hS.dis⟩, hr⟩
  obtain ⟨v, hv, hob⟩ := hS.obj id ob ho
  refine ⟨v, hv, ?_⟩
  cases ob with
  | box cs =>
    obtain ⟨b, arr, t, rfl, h1, h2, h3⟩ := hob
    exact ⟨b, arr, t, rfl, h1, (hblk b (hne b _ h2 rfl)).trans h2, h3.1, fun i hi hi' => hr _ _ (h3.2 i hi hi')⟩
  | row e n len row =>
    obtain ⟨xs, hown, hx⟩ := hob
    refine ⟨xs, ⟨hown.1, ?_⟩, fun i hi => ⟨(hx i hi).1, (hx i hi).2.1, fun j hj hj' => ((hx i hi).2.2 j hj hj').monoC hsz kc (fun _ _ _ h => h)⟩⟩
    rcases hown.2 with hn | ⟨g, cap, cur, rfl, hg, hh, rest⟩
    · exact .inl hn
    · exact .inr ⟨g, cap, cur, rfl, hg, (hblk g (hne g _ hh rfl)).trans hh, rest⟩
  | map kd n f =>
    obtain ⟨b, ent, clock, rfl, h1, h2, h3⟩ := hob
    exact ⟨b, ent, clock, rfl, h1, (hblk b (hne b _ h2 rfl)).trans h2, h3⟩

theorem KB.put {n K : Nat} {o o' : Obj} {X : Nat → Nat → Prop} (hd : w.heap[K]? = some o) (hm : isMark o = true) (hn : n ≤ K) : KB n X X w (w.putObj K o') :=
  ⟨by simp, fun b q v _ _ hc => (World.cell?_of_block (w := w) (w' := w.putObj K o') (a := ⟨b, q, none⟩) (World.putObj_heap_other (cell_mark hd hm hc))).trans hc, fun _ _ _ h => h,
    fun b ob hb ho _ _ => (World.putObj_heap_other (by omega)).trans ho⟩
theorem KB.keeps {n : Nat} {X X' : Nat → Nat → Prop} {w w' : World} (h : KB n X X' w w') (hn : w.heap.size ≤ n) : Keeps X X' w w' :=
  ⟨h.size, h.cells, h.sub, fun b o h1 h2 h3 => h.others b o (Nat.lt_of_lt_of_le (Array.getElem?_eq_some_iff.1 h1).1 hn) h1 h2 h3⟩

theorem Rep.pin {pins : List Nat} {γ' : Nat → Option Value} {X X' : Nat → Nat → Prop} {w' : World} {n : Nat} (hγ : Knows (fun i => if pins.contains i then γ i else none) γ') (k : KB n X X' w w') {v : Value} {x : AV} (hx : x.pinned pins = true) (h : Rep γ X w v x) : Rep γ' X' w' v x := by
  have hk : ∀ id u, pins.contains id = true → γ id = some u → γ' id = some u := fun id u h1 h2 => hγ id u (by simp only [h1, if_true]; exact h2)
  cases h with
  | d _ _ h => exact .d _ _ (h.monoC k.size k.cells k.sub)
  | ptr b id off h => exact .ptr b id off (hk _ _ hx h)
  | own v id len h => exact .own v id len (hk _ _ hx h)
  | mp b id h => exact .mp b id (hk _ _ hx h)
  | _ => cases hx

theorem env_setPs {X : Nat → Nat → Prop} {ds : List Deferred} : ∀ (pl : List Slot) (vs : List Value) (xs : List DV) (tmps : Array Value) (e : T), (∀ p, p ∈ pl → p.length = D ∧ p.idx < N) → tmps.size = N → vs.length = pl.length → DReps X w vs xs → EnvRep D γ X w { tmps := tmps, defers := ds } e →
    EnvRep D γ X w { tmps := ((pl.map Slot.idx).zip vs).foldl (fun t (q : Nat × Value) => t.setIfInBounds q.1 q.2) tmps, defers := ds } (setPs e pl xs) ∧ (((pl.map Slot.idx).zip vs).foldl (fun t (q : Nat × Value) => t.setIfInBounds q.1 q.2) tmps).size = N
  | [], vs, xs, tmps, e, _, hs, _, _, hE => by simpa [setPs] using ⟨hE, hs⟩
  | p :: pl, [], xs, tmps, e, _, _, hl, _, _ => by simp at hl
  | p :: pl, v :: vs, [], tmps, e, _, _, _, hv, _ => by have := hv.1; simp at this
  | p :: pl, v :: vs, x :: xs, tmps, e, hp, hs, hl, hv, hE => by
    obtain ⟨v', vs', he, h1, h2⟩ := hv.uncons
    injection he with he1 he2
    subst he1; subst he2
    have hp0 := hp p (by simp)
    have hput := hE.put (v := v) (x := .d x) hp0.1 (by rw [hs]; exact hp0.2) (.d _ _ h1)
    have := env_setPs pl vs xs (tmps.setIfInBounds p.idx v) (e.set p (.d x)) (fun q hq => hp q (by simp [hq])) (by simpa using hs) (by simpa using hl) h2 (by simpa [Act.put] using hput)
    simpa [setPs] using this

theorem marks_inj : ∀ {l l' : List Nat}, l.map markOf = l'.map markOf → l = l'
  | [], [], _ => rfl
  | [], _ :: _, h => by simp at h
  | _ :: _, [], h => by simp at h
  | a :: l, b :: l', h => by
    simp only [List.map_cons, List.cons.injEq] at h
    obtain ⟨h1, h2⟩ := h
    have : a = b := by
      simp only [markOf, Deferred.mk.injEq, Target.collected.injEq] at h1
      exact h1.1
    rw [this, marks_inj h2]

/-- A base of here and now. -/
def Bs.now (X : Nat → Nat → Prop) (w : World) : Bs := ⟨X, w, fun _ => none, fun _ => True⟩

/-- The law of a range over a function. -/
theorem rng_sound {n nx : Nat} {g : Operand} {g' : Opd} {pl : List Slot} {asn body : Code} {asn' body' : ACode} {Q : AX → T → Heap → Nat → Prop} (hg : TrOpd D g g') (hpl : ∀ p, p ∈ pl → p.length = D ∧ p.idx < N)
    (hA : ∀ (l : Nat) (Q : AX → T → Heap → Nat → Prop) (B : Bs) (γ : Nat → Option Value) (a : Act) (w : World) (e : T) (H : Heap) (nx : Nat), FZ D N X0 W0 B γ a w e H nx → awp P asn' Q e H nx → asn.wpIn (FW (some l)) 0 P (lift D N X0 W0 B Q) a w)
    (hB : ∀ (l : Nat) (Q : AX → T → Heap → Nat → Prop) (B : Bs) (γ : Nat → Option Value) (a : Act) (w : World) (e : T) (H : Heap) (nx : Nat), FZ D N X0 W0 B γ a w e H nx → awp P body' Q e H nx → body.wpIn (FW (some l)) 0 P (lift D N X0 W0 B Q) a w)
    (hBf : B.free) (hF : FZ D N X0 W0 B γ a w e H nx) (h : awp P (.rng g' pl asn' body') Q e H nx) : (Code.rangeFunc g (pl.map Slot.idx).toArray asn body).wpIn (FW none) n P (lift D N X0 W0 B Q) a w := by
  obtain ⟨hlive, F, caps, xs, e1, pins, I, hav, hseq, hpin, hlen, ⟨gg, L0, nx0, hI0, hs0⟩, hround, hdone⟩ := h
  have hr := (hg.rep hF.1.env).strip hlive
  rw [hav] at hr
  generalize hgv : a.eval g = gv at hr
  obtain ⟨us, rfl, hus⟩ : ∃ us : Array Value, gv = .func (.func F) #[] us ∧ DReps (XOf X0 γ H) w us.toList caps := by
    cases hr with
    | d _ _ hd => cases hd with
      | fn _ vs _ hl hr' => exact ⟨vs.toArray, rfl, by simpa using hl, fun i hi hi' => by simpa using hr' i (by simpa using hi) hi'⟩
  have hF0 := hs0.fs (B := Bs.now (XOf X0 γ H) w) rfl ⟨⟨hF.1.st, hF.1.env, hF.1.size, (by obtain ⟨Ks, h1, h2, h3⟩ := hF.1.marks; exact ⟨Ks, h1, h2, fun K hK => ⟨(h3 K hK).1, (h3 K hK).2.1, (h3 K hK).2.2.1, trivial⟩⟩), Keeps.refl _ _, (fun _ _ h => by cases h), fun _ _ _ _ _ _ _ _ _ => trivial⟩, hF.2⟩
  generalize ren gg γ = γ0 at hF0
  have hbase0 := hF.1.base
  have hKX : Keeps (XOf X0 γ H) (XOf X0 γ0 (hof L0)) w w := hF0.1.base
  obtain ⟨X, hX⟩ : ∃ X, X = XOf X0 γ0 (hof L0) := ⟨_, rfl⟩
  have hXlt : ∀ b q, X b q → b < w.heap.size := fun b q h => by rw [hX] at h; exact XOf.lt hF0.1.st h
  have hus' : DReps X w us.toList caps := by rw [hX]; exact hus.mono hKX
  have hW0 : W0.heap.size ≤ w.heap.size := hF.1.st.ext.size
  obtain ⟨Ks, hKa, hKn, hKm⟩ := hF0.1.marks
  have hKlt : ∀ K, K ∈ Ks → K < w.heap.size := fun K hK => (Array.getElem?_eq_some_iff.1 (hKm K hK).2.1).1
  apply wpIn_rangeFunc
  intro fn hfn
  obtain ⟨rec, hrec⟩ : ∃ rec : LoopState → Option Code → Loop, rec = fun st pe => { state := st, pending := pe, fn, tmps := a.tmps, params := (pl.map Slot.idx).toArray, assign := asn, body, defers := w.heap.size } := ⟨_, rfl⟩
  obtain ⟨W1, hW1⟩ : ∃ W1, (w.alloc (.deferred (some []))).alloc (.loop (rec .ready none)) = W1 := ⟨_, rfl⟩
  have hx1 : Ext w W1 := by rw [← hW1]; exact (Ext.alloc w _).trans (Ext.alloc _ _)
  have hsz1 : W1.heap.size = w.heap.size + 2 := by rw [← hW1]; simp
  have hL1 : W1.heap[w.heap.size + 1]? = some (.loop (rec .ready none)) := by
    rw [← hW1]; have := World.alloc_heap_new (w.alloc (.deferred (some []))) (.loop (rec .ready none)); rwa [World.size_alloc] at this
  have hD1 : W1.heap[w.heap.size]? = some (.deferred (some [])) := by
    rw [← hW1]; exact ((Ext.alloc (w.alloc (.deferred (some []))) _).block _ (by simp)).trans (World.alloc_heap_new w _)
  have hcell1 : ∀ b o v, W1.cell? ⟨b, o, none⟩ = some v → b < w.heap.size ∧ w.cell? ⟨b, o, none⟩ = some v := by
    intro b o v hc
    have hb : b < W1.heap.size := World.block_lt_of_cell? W1 _ hc
    have h1 := cell_mark hL1 rfl hc
    have h2 := cell_mark hD1 rfl hc
    have hb' : b < w.heap.size := by omega
    exact ⟨hb', (World.cell?_of_block (w := W1) (w' := w) (a := ⟨b, o, none⟩) (hx1.block b hb').symm).trans hc⟩
  -- the state between two rounds
  let J : Nat → (Nat → Nat → Prop) → World → Prop := fun k Y W => ∃ γ L nx, Y = XOf X0 γ (hof L) ∧ I k L nx ∧ FZ D N X0 W0 (Bs.now X w) γ a W e1 (hof L) nx ∧ W.heap[w.heap.size]? = some (.deferred (some [])) ∧ W.heap[w.heap.size + 1]? = some (.loop (rec .ready none))
  let Jx : World → Prop := fun W => ∃ c y γ H nx, ((c = .ret ∧ y = AX.ret) ∨ ∃ id, c = .exit id ∧ y = .exit id) ∧ Q y e1 H nx ∧ FZ D N X0 W0 (Bs.now X w) γ a W e1 H nx ∧ W.heap[w.heap.size]? = some (.deferred (some [])) ∧ W.heap[w.heap.size + 1]? = some (.loop (rec .done (some c)))
  have hFe : ∀ {γ : Nat → Option Value} {H : Heap} {nx : Nat} {W W' : World}, FZ D N X0 W0 (Bs.now X w) γ a W e1 H nx → Ext W W' → FZ D N X0 W0 (Bs.now X w) γ a W' e1 H nx := fun hF he => ⟨hF.1.mono (Knows.refl _) (.of_ext he) (hF.1.st.stay he) (.refl _), hF.2⟩
  have hblk : ∀ {W W' : World} {b : Nat} {o : Obj}, Ext W W' → W.heap[b]? = some o → W'.heap[b]? = some o := fun he h => (he.block _ (Array.getElem?_eq_some_iff.1 h).1).trans h
  -- behind the loop
  have hend : ∀ (γ : Nat → Option Value) (H : Heap) (nx : Nat) (W : World) (r r' : Loop), FZ D N X0 W0 (Bs.now X w) γ a W e1 H nx → W.heap[w.heap.size]? = some (.deferred (some [])) → W.heap[w.heap.size + 1]? = some (.loop r) →
      FZ D N X0 W0 B γ { a with defers := markOf w.heap.size :: a.defers } (W.putObj (w.heap.size + 1) (.loop r')) e1 H nx := by
    intro γ H nx W r r' hF hD hl
    obtain ⟨hst, hrep⟩ := hF.1.st.mark (o' := .loop r') (by omega) hl rfl
    refine ⟨⟨hst, fun p hp => hrep _ _ (hF.1.env p hp), hF.1.size, ⟨w.heap.size :: Ks, by simp [hKa], List.nodup_cons.2 ⟨fun hm => by have := hKlt _ hm; omega, hKn⟩, fun K hK => ?_⟩, ?_, ?_, fun _ _ _ _ _ b _ _ _ => hBf.2 b⟩, hF.2⟩
    · rcases List.mem_cons.1 hK with rfl | hK
      · exact ⟨hW0, (World.putObj_heap_other (by omega)).trans hD, hF.1.st.not_mark hW0 hD rfl, hBf.2 _⟩
      · obtain ⟨Ks', h1, _, h2⟩ := hF.1.marks
        have := marks_inj (hKa.symm.trans h1)
        subst this
        obtain ⟨g1, g2, g3⟩ := h2 K hK
        exact ⟨g1, (World.putObj_heap_other (by have := hKlt _ hK; omega)).trans g2, g3.1, hBf.2 _⟩
    · have k1 : KB w.heap.size X (XOf X0 γ H) w W := .of hF.1.base
      have k2 := k1.trans (KB.put (o' := .loop r') hl rfl (by omega))
      refine hbase0.trans (hKX.trans ?_)
      rw [← hX]
      exact k2.keeps (Nat.le_refl _)
    · rw [hBf.1]; exact fun _ _ h => by cases h
  refine ⟨w.heap.size + 1, [{ target := .collected w.heap.size, args := #[] }], W1, { target := .fn (.func F) us, args := #[.func (.yield (w.heap.size + 1)) #[] #[]] }, W1, F,
    #[.func (.yield (w.heap.size + 1)) #[] #[]] ++ us, W1, ?_, ?_, ?_, ?_, (fun h => by cases h), ?_⟩
  · rw [← hW1, hrec]; exact run_enterLoop_outer _ _ _ _ _
  · simp only [resolve, hgv]
    simp [go_sem]
  · intro f' _; trivial
  · simp [invoke, go_sem, hseq.1.run]
  refine callsIn_fw (Calls.mono (hseq.2 X W1 us (fun b q h => by have := hXlt b q h; omega) (hus'.mono (.of_ext hx1)) (w.heap.size + 1) J Jx ?_ ?_ ?_ ?_ ?_) ?_)
  · rintro k Y W W' ⟨γ, L, nx, h0, h1, h2, h3, h4⟩ he
    exact ⟨γ, L, nx, h0, h1, hFe h2 he, hblk he h3, hblk he h4⟩
  · rintro W W' ⟨c, y, γ, H, nx, h1, h2, h3, h4, h5⟩ he
    exact ⟨c, y, γ, H, nx, h1, h2, hFe h3 he, hblk he h4, hblk he h5⟩
  · rintro k Y W ⟨γ, L, nx, rfl, h1, h2, h3, h4⟩ b o hY
    exact XOf.lt h2.1.st hY
  · rintro k Y W vs hk ⟨γk, L, nxk, rfl, hI, hFk, hDk, hlk⟩ hvs
    have hltk := (Array.getElem?_eq_some_iff.1 hlk).1
    have hvl : vs.size = pl.length := by have := hvs.1; simpa [hlen k hk] using this
    have hy := run_yield (P := P) (args := vs) hlk (by rw [hrec]; simpa using hvl)
    rw [hrec] at hy
    have hvs' : DReps (XOf X0 γk (hof L)) W vs.toList xs[k] := hvs
    obtain ⟨hE1, hN1⟩ := env_setPs (γ := γk) (ds := []) pl vs.toList xs[k] a.tmps e1 hpl hFk.1.size (by simpa using hvl) hvs' hFk.1.env
    refine ⟨fn, _, asn, body, hy, roundIn_of_wpIn hfn ?_⟩
    have etm : ((pl.map Slot.idx).toArray.zip vs).foldl (fun t (q : Nat × Value) => t.setIfInBounds q.1 q.2) a.tmps = ((pl.map Slot.idx).zip vs.toList).foldl (fun t (q : Nat × Value) => t.setIfInBounds q.1 q.2) a.tmps := by
      rw [← Array.foldl_toList, Array.toList_zip]
    have hF1 : FZ D N X0 W0 ⟨XOf X0 γk (hof L), W, fun i => if pins.contains i then γk i else none, fun _ => True⟩ γk { tmps := ((pl.map Slot.idx).zip vs.toList).foldl (fun t (q : Nat × Value) => t.setIfInBounds q.1 q.2) a.tmps, defers := [] } W (setPs e1 pl xs[k]) (hof L) nxk :=
      ⟨⟨hFk.1.st, hE1, hN1, ⟨[], rfl, List.nodup_nil, fun K hK => by cases hK⟩, Keeps.refl _ _, (fun i v hv => by
        simp only at hv
        split at hv
        · exact hv
        · cases hv), fun _ _ _ _ _ _ _ _ _ => trivial⟩, hFk.2⟩
    have hw1 := hA (w.heap.size + 1) _ _ γk _ W _ _ nxk hF1 (hround k hk L nxk hI)
    rw [← etm] at hw1
    refine wpIn_mono hw1 ?_
    rintro x a1 w1 ⟨y, γ1, e', H', nx', hy1, hF', hq⟩
    cases x <;> simp only [AX.of] at hy1 <;> (try cases hy1)
    · have hl1 : w1.heap[w.heap.size + 1]? = some (.loop (rec .ready none)) := hF'.1.base.others _ _ hlk rfl (hFk.1.st.not_mark (by omega) hlk rfl)
      refine ⟨_, run_beginRound hl1 (by rw [hrec]), ?_⟩
      obtain ⟨hst1, hrep1⟩ := hF'.1.st.mark (o' := .loop { rec .ready none with state := .busy }) (by omega) hl1 rfl
      have hF2 : FZ D N X0 W0 ⟨XOf X0 γ1 H', w1.putObj (w.heap.size + 1) (.loop { rec .ready none with state := .busy }), fun i => if pins.contains i then γk i else none, fun _ => True⟩ γ1 a1 (w1.putObj (w.heap.size + 1) (.loop { rec .ready none with state := .busy })) e' H' nx' := by
        refine ⟨⟨hst1, fun p hp => hrep1 _ _ (hF'.1.env p hp), hF'.1.size, ?_, Keeps.refl _ _, hF'.1.pin, fun _ _ _ _ _ _ _ _ _ => trivial⟩, hF'.2⟩
        obtain ⟨Ks1, g1, g2, g3⟩ := hF'.1.marks
        refine ⟨Ks1, g1, g2, fun K hK => ⟨(g3 K hK).1, (World.putObj_heap_other (fun e => ?_)).trans (g3 K hK).2.1, (g3 K hK).2.2⟩⟩
        have := (g3 K hK).2.1
        rw [e, hl1] at this
        cases this
      refine wpIn_mono (hB (w.heap.size + 1) _ _ γ1 a1 _ e' H' nx' hF2 hq) ?_
      rintro x2 a2 w2 ⟨y2, γ2, e2, H2, nx2, hy2, hF3, hq2⟩
      have hl1' : (w1.putObj (w.heap.size + 1) (.loop { rec .ready none with state := .busy })).heap[w.heap.size + 1]? = some (.loop { rec .ready none with state := .busy }) := World.putObj_heap_same (Array.getElem?_eq_some_iff.1 hl1).1
      have hl2 : w2.heap[w.heap.size + 1]? = some (.loop { rec .ready none with state := .busy }) := hF3.1.base.others _ _ hl1' rfl (hst1.not_mark (by omega) hl1' rfl)
      have hkk : ∀ n r', n ≤ w.heap.size + 1 → KB n (XOf X0 γk (hof L)) (XOf X0 γ2 H2) W (w2.putObj (w.heap.size + 1) (.loop r')) := by
        intro n r' hn
        have k1 : KB n (XOf X0 γk (hof L)) (XOf X0 γ1 H') W w1 := .of hF'.1.base
        have k2 : KB n (XOf X0 γ1 H') (XOf X0 γ1 H') w1 (w1.putObj (w.heap.size + 1) (.loop { rec .ready none with state := .busy })) := .put hl1 rfl hn
        have k3 : KB n (XOf X0 γ1 H') (XOf X0 γ2 H2) (w1.putObj (w.heap.size + 1) (.loop { rec .ready none with state := .busy })) w2 := .of hF3.1.base
        have k4 : KB n (XOf X0 γ2 H2) (XOf X0 γ2 H2) w2 (w2.putObj (w.heap.size + 1) (.loop r')) := .put hl2 rfl hn
        exact ((k1.trans k2).trans k3).trans k4
      have fk : ∀ r', KB 0 (XOf X0 γk (hof L)) (XOf X0 γ2 H2) W (w2.putObj (w.heap.size + 1) (.loop r')) := fun r' => hkk 0 r' (Nat.zero_le _)
      have fin : ∀ r', FZ D N X0 W0 (Bs.now X w) γ2 a (w2.putObj (w.heap.size + 1) (.loop r')) e1 H2 nx2 ∧ (w2.putObj (w.heap.size + 1) (.loop r')).heap[w.heap.size]? = some (.deferred (some [])) ∧ (w2.putObj (w.heap.size + 1) (.loop r')).heap[w.heap.size + 1]? = some (.loop r') := by
        intro r'
        obtain ⟨hst2, _⟩ := hF3.1.st.mark (o' := .loop r') (by omega) hl2 rfl
        have kk := hkk (w.heap.size + 1) r' (Nat.le_refl _)
        have hDf := kk.others _ _ (by omega) hDk rfl (hFk.1.st.not_mark hW0 hDk rfl)
        refine ⟨⟨⟨hst2, fun p hp => (hFk.1.env p hp).pin hF3.1.pin kk (T.pinned_get e1 p hpin), hFk.1.size, ?_, ?_, (fun _ _ h => by cases h), fun _ _ _ _ _ _ _ _ _ => trivial⟩, hF3.2⟩, hDf, World.putObj_heap_same (Array.getElem?_eq_some_iff.1 hl2).1⟩
        · refine ⟨Ks, hKa, hKn, fun K hK => ?_⟩
          obtain ⟨Ks', h1, _, h2⟩ := hFk.1.marks
          have := marks_inj (hKa.symm.trans h1)
          subst this
          obtain ⟨g1, g2, g3⟩ := h2 K hK
          have hKd := kk.others K _ (by have := hKlt K hK; omega) g2 rfl g3.1
          exact ⟨g1, hKd, hst2.not_mark g1 hKd rfl, trivial⟩
        · exact ((KB.of (n := w.heap.size + 1) hFk.1.base).trans kk).keeps (by show w.heap.size ≤ _; omega)
      cases x2 <;> simp only [AX.of] at hy2 <;> (try cases hy2)
      · obtain ⟨gg', L', nx'', hI', hs⟩ := hq2
        obtain ⟨f1, f2, f3⟩ := fin (rec .ready none)
        have hsub := hs.fs (B := Bs.now (XOf X0 γ2 H2) (w2.putObj (w.heap.size + 1) (.loop (rec .ready none)))) rfl ⟨⟨f1.1.st, f1.1.env, f1.1.size, f1.1.marks, Keeps.refl _ _, (fun _ _ h => by cases h), fun _ _ _ _ _ _ _ _ _ => trivial⟩, f1.2⟩
        have k5 : KB 0 (XOf X0 γ2 H2) (XOf X0 (ren gg' γ2) (hof L')) (w2.putObj (w.heap.size + 1) (.loop (rec .ready none))) (w2.putObj (w.heap.size + 1) (.loop (rec .ready none))) := .of hsub.1.base
        refine ⟨_, _, run_endRound none hl2, .inl ⟨rfl, _, ⟨_, L', nx'', rfl, hI', hs.fs rfl (by simpa [hrec] using f1), by simpa [hrec] using f2, by simpa [hrec] using f3⟩, ?_⟩⟩
        have k6 := (fk (rec .ready none)).trans k5
        simpa [hrec] using k6
      · rename_i id
        obtain ⟨f1, f2, f3⟩ := fin (rec .done (some (.exit id)))
        exact ⟨_, _, run_endRound (some (.exit id)) hl2, .inr ⟨rfl, .exit id, .exit id, γ2, H2, nx2, .inr ⟨id, rfl, rfl⟩, hq2, by simpa [hrec] using f1, by simpa [hrec] using f2, by simpa [hrec] using f3⟩⟩
      · obtain ⟨f1, f2, f3⟩ := fin (rec .done (some .ret))
        exact ⟨_, _, run_endRound (some .ret) hl2, .inr ⟨rfl, .ret, .ret, γ2, H2, nx2, .inl ⟨rfl, rfl⟩, hq2, by simpa [hrec] using f1, by simpa [hrec] using f2, by simpa [hrec] using f3⟩⟩
    · exact hq.elim
    · exact hq.elim
  · have hF0' : FZ D N X0 W0 (Bs.now X w) γ0 a w e1 (hof L0) nx0 := ⟨⟨hF0.1.st, hF0.1.env, hF0.1.size, hF0.1.marks, by rw [hX]; exact Keeps.refl _ _, (fun _ _ h => by cases h), fun _ _ _ _ _ _ _ _ _ => trivial⟩, hF0.2⟩
    exact ⟨γ0, L0, nx0, hX, hI0, hFe hF0' hx1, hD1, hL1⟩
  · rintro e3 W3 ⟨⟨v, rfl⟩, (⟨Y3, γ3, L3, nx3, _, h1, h2, h3, h4⟩ | ⟨c, y, γ3, H3, nx3, hc, h1, h2, h3, h4⟩)⟩
    · refine ⟨_, _, run_endLoop h4 (by rw [hrec]; simp), ?_⟩
      rw [hrec]
      exact ⟨.normal, γ3, e1, hof L3, nx3, rfl, hend γ3 _ nx3 W3 _ _ h2 h3 h4, hdone L3 nx3 h1⟩
    · refine ⟨_, _, run_endLoop h4 (by rw [hrec]; simp), ?_⟩
      rw [hrec]
      have hfin := hend γ3 _ nx3 W3 _ { state := LoopState.exhausted, pending := some c, fn, tmps := a.tmps, params := (pl.map Slot.idx).toArray, assign := asn, body, defers := w.heap.size } h2 h3 h4
      rcases hc with ⟨rfl, rfl⟩ | ⟨id, rfl, rfl⟩
      · exact wpIn_ret ⟨.ret, γ3, e1, H3, nx3, rfl, hfin, h1⟩
      · exact wpIn_exit ⟨.exit id, γ3, e1, H3, nx3, rfl, hfin, h1⟩

theorem plain_l {a b : Bool} {F : Prop} (h : (a && b) = true ∨ F) : a = true ∨ F := by
  rcases h with h | h
  · simp at h; exact .inl h.1
  · exact .inr h
theorem plain_r {a b : Bool} {F : Prop} (h : (a && b) = true ∨ F) : b = true ∨ F := by
  rcases h with h | h
  · simp at h; exact .inl h.2
  · exact .inr h


/-- The evaluator tells of the model's run. -/
theorem awp_sound {c : Code} {ac : ACode} (tr : TrCode P D N c ac) : ∀ (ro : Option Nat) (n : Nat) (Q : AX → T → Heap → Nat → Prop) (B : Bs) (_hm : plainB ac = true ∨ (B.free ∧ ro = none)) (γ : Nat → Option Value) (a : Act) (w : World) (e : T) (H : Heap) (nx : Nat), FZ D N X0 W0 B γ a w e H nx → awp P ac Q e H nx → c.wpIn (FW ro) n P (lift D N X0 W0 B Q) a w := by
  induction tr with
  | skip => exact fun ro n Q B hm γ a w e H nx hF h => wpIn_skip ⟨_, γ, e, H, nx, rfl, hF, h⟩
  | ret => exact fun ro n Q B hm γ a w e H nx hF h => wpIn_ret ⟨_, γ, e, H, nx, rfl, hF, h⟩
  | bad => exact fun ro n Q B hm γ a w e H nx hF h => h.elim
  | exit => exact fun ro n Q B hm γ a w e H nx hF h => wpIn_exit ⟨_, γ, e, H, nx, rfl, hF, h⟩
  | frz _ hp ih =>
    intro ro n Q B hm γ a w e H nx hF h
    refine wpIn_mono (ih ro n _ B (plain_l hm) γ a w e H nx hF h) ?_
    rintro x a' w' ⟨y, γ', e', H', nx', hy, hF', hq⟩
    cases x <;> simp only [AX.of] at hy <;> (try cases hy)
    · exact ⟨_, γ', _, _, nx', rfl, frz1_fs hp hF', hq⟩
    · exact ⟨_, γ', e', H', nx', rfl, hF', hq⟩
    · exact ⟨_, γ', e', H', nx', rfl, hF', hq⟩
  | @reg id ops draw os hreg =>
    intro ro n Q B hm γ a w e H nx hF h
    exact hreg X0 W0 B γ a w e H nx _ _ ro n (hm.elim Or.inl (fun h => Or.inr h.1.2)) hF h (fun γ' a' w' e' H' hk hF' => ⟨_, γ', e', H', _, rfl, hF', hk⟩)
  | seq _ _ iha ihb =>
    intro ro n Q B hm γ a w e H nx hF h
    refine wpIn_seq (wpIn_mono (iha ro n _ B (plain_l hm) γ a w e H nx hF h) ?_)
    rintro x a' w' ⟨y, γ', e', H', nx', hy, hF', hq⟩
    cases x <;> simp only [AX.of] at hy <;> (try cases hy)
    · exact ihb ro n Q B (plain_r hm) γ' a' w' e' H' nx' hF' hq
    · exact ⟨_, γ', e', H', nx', rfl, hF', hq⟩
    · exact ⟨_, γ', e', H', nx', rfl, hF', hq⟩
  | cond hc _ _ iht ihf =>
    intro ro n Q B hm γ a w e H nx hF h
    obtain ⟨h1, h2, h3⟩ := h
    refine wpIn_cond (cval_ok hc hF.1.env h1) ?_
    cases hb : cval e _ with
    | true => rw [if_pos rfl]; exact iht ro n Q B (plain_l hm) γ a w e H nx hF (h2 hb)
    | false => rw [if_neg (by simp)]; exact ihf ro n Q B (plain_r hm) γ a w e H nx hF (h3 hb)
  | @block id _ _ _ ih =>
    intro ro n Q B hm γ a w e H nx hF h
    refine wpIn_block (wpIn_mono (ih ro n _ B hm γ a w e H nx hF h) ?_)
    rintro x a' w' ⟨y, γ', e', H', nx', hy, hF', hq⟩
    cases x <;> simp only [AX.of] at hy <;> (try cases hy)
    · exact ⟨_, γ', e', H', nx', rfl, hF', hq⟩
    · rename_i id'
      simp only [Exit.inBlock]
      simp only at hq
      split at hq
      · rename_i hid
        first | (rw [if_pos hid]; exact ⟨_, γ', e', H', nx', rfl, hF', hq⟩) | (rw [if_pos hid.symm]; exact ⟨_, γ', e', H', nx', rfl, hF', hq⟩)
      · rename_i hid
        first | (rw [if_neg hid]; exact ⟨_, γ', e', H', nx', rfl, hF', hq⟩) | (rw [if_neg (Ne.symm hid)]; exact ⟨_, γ', e', H', nx', rfl, hF', hq⟩)
    · exact ⟨_, γ', e', H', nx', rfl, hF', hq⟩
  | loop _ ih =>
    intro ro n Q B hm γ a w e H nx hF h
    obtain ⟨hm, hro⟩ : B.free ∧ ro = none := hm.resolve_left (by simp [plainB])
    obtain ⟨I, ⟨n0, g0, e0, L0, nx0, hI0, hs0⟩, hb⟩ := h
    refine wpIn_loop_n (fun n a w => ∃ γ e L nx, I n e L nx ∧ FZ D N X0 W0 B γ a w e (hof L) nx) ⟨n0, _, e0, L0, nx0, hI0, hs0.fs hm.1 hF⟩ ?_
    rintro m a w ⟨γ, e, L, nx, hI, hF⟩
    refine wpIn_mono (ih ro n _ B (.inr ⟨hm, hro⟩) γ a w e (hof L) nx hF (hb m e L nx hI)) ?_
    rintro x a' w' ⟨y, γ', e', H', nx', hy, hF', hq⟩
    cases x <;> simp only [AX.of] at hy <;> (try cases hy)
    · obtain ⟨m, g, e'', L', nx'', hlt, hI', hs⟩ := hq
      exact ⟨m, hlt, _, e'', L', nx'', hI', hs.fs hm.1 hF'⟩
    · exact ⟨_, γ', e', H', nx', rfl, hF', hq⟩
    · exact ⟨_, γ', e', H', nx', rfl, hF', hq⟩
  | @rng g g' ps asn body asn' body' pl hg hps hp _ _ pa pb iha ihb =>
    intro ro n Q B hm γ a w e H nx hF h
    obtain ⟨hmf, rfl⟩ : B.free ∧ ro = none := hm.resolve_left (by simp [plainB])
    subst hps
    exact rng_sound hg hp (fun l Q B γ a w e H nx hF h => iha (some l) 0 Q B (.inl pa) γ a w e H nx hF h) (fun l Q B γ a w e H nx hF h => ihb (some l) 0 Q B (.inl pb) γ a w e H nx hF h) hmf hF h

end

end Go.Proofs.Ytghlfjpmpalpdaa
