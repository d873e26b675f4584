/- Maps of the call's own: made, read, written. -/
import Derived.Test.YtghlfjpmpalpdaaObj
namespace Go.Proofs.Ytghlfjpmpalpdaa
open Go.RowKit

theorem ba_beq (s t : ByteArray) : (s == t) = true ↔ s = t := by
  cases s with | mk a => cases t with | mk b =>
  show (a == b) = true ↔ _
  simp

theorem same_keq {kd : TypeDesc} {a b : Value} (ha : kdOk kd a = true) (hb : kdOk kd b = true) : Instr.sameNow kd a b = some (keq a b) := by
  cases kd with
  | string => cases a <;> simp [kdOk] at ha <;> cases b <;> simp [kdOk] at hb <;> rfl
  | int q =>
    cases a with
    | int q1 n =>
      cases b with
      | int q2 m =>
        simp [kdOk] at ha hb
        subst ha; subst hb
        simp [Instr.sameNow, keq]
      | _ => simp [kdOk] at hb
    | _ => simp [kdOk] at ha
  | _ => simp [kdOk] at ha
theorem keq_iff {kd : TypeDesc} {a b : Value} (ha : kdOk kd a = true) (hb : kdOk kd b = true) : keq a b = true ↔ a = b := by
  cases kd with
  | string =>
    cases a with
    | string s => cases b with
      | string t => simp [keq, ba_beq]
      | _ => simp [kdOk] at hb
    | _ => simp [kdOk] at ha
  | int q =>
    cases a with
    | int q1 n =>
      cases b with
      | int q2 m =>
        simp [kdOk] at ha hb
        subst ha; subst hb
        simp [keq]
      | _ => simp [kdOk] at hb
    | _ => simp [kdOk] at ha
  | _ => simp [kdOk] at ha
theorem bits_keq {kd : TypeDesc} {a b : Value} (ha : kdOk kd a = true) (hb : kdOk kd b = true) (h : keq a b = true) : Instr.sameBits 10000 b a = true := by
  have := (keq_iff ha hb).1 h
  subst this
  cases kd with
  | string => cases a <;> simp [kdOk] at ha; simp [Instr.sameBits, ba_beq]
  | int q => cases a <;> simp [kdOk] at ha; simp [Instr.sameBits]
  | _ => simp [kdOk] at ha

/-- Where an entry of a key is. -/
def entIdx : List MapEntry → Value → Nat → Option (Nat × Value)
  | [], _, _ => none
  | x :: l, k, i => if keq k x.key then some (i, x.val) else entIdx l k (i + 1)
theorem entIdx_find : ∀ (l : List MapEntry) (k : Value) (i : Nat), (entIdx l k i).map (·.2) = entFind l k
  | [], _, _ => rfl
  | x :: l, k, i => by
    simp only [entIdx, entFind]
    split
    · rfl
    · exact entIdx_find l k (i + 1)
theorem entIdx_at : ∀ (l : List MapEntry) (k : Value) (i j : Nat) (v : Value), entIdx l k i = some (j, v) → i ≤ j ∧ ∃ x, l[j - i]? = some x ∧ keq k x.key = true ∧ x.val = v ∧ ∀ m, m < j - i → ∀ y, l[m]? = some y → keq k y.key = false
  | [], _, _, _, _, h => by simp [entIdx] at h
  | x :: l, k, i, j, v, h => by
    simp only [entIdx] at h
    split at h
    · rename_i hk
      simp at h
      obtain ⟨rfl, rfl⟩ := h
      exact ⟨Nat.le_refl _, x, by simp, hk, rfl, fun m hm => by omega⟩
    · rename_i hk
      obtain ⟨h1, y, h2, h3, h4, h5⟩ := entIdx_at l k (i + 1) j v h
      refine ⟨by omega, y, ?_, h3, h4, fun m hm z hz => ?_⟩
      · rw [show j - i = (j - (i + 1)) + 1 by omega, List.getElem?_cons_succ]; exact h2
      · cases m with
        | zero => simp at hz; subst hz; simpa using hk
        | succ m => exact h5 m (by omega) z (by simpa using hz)
theorem findNow_idx {kd : TypeDesc} {k : Value} (hk : kdOk kd k = true) : ∀ (l : List MapEntry) (i : Nat), (∀ x, x ∈ l → kdOk kd x.key = true) → Instr.findNow kd k l i = some (entIdx l k i)
  | [], _, _ => rfl
  | x :: l, i, h => by
    simp only [Instr.findNow, same_keq hk (h x (by simp)), entIdx]
    cases hq : keq k x.key with
    | true => simp
    | false =>
      simp only [Bool.false_eq_true, if_false]
      exact findNow_idx hk l (i + 1) (fun y hy => h y (by simp [hy]))

/-- A map with another value at a key. -/
def mset (f : Value → Option Value) (key v : Value) : Value → Option Value := fun k => if keq k key then some v else f k

theorem entFind_append {l : List MapEntry} {x : MapEntry} {k : Value} : entFind (l ++ [x]) k = match entFind l k with | some v => some v | none => if keq k x.key then some x.val else none := by
  induction l with
  | nil => rfl
  | cons y l ih =>
    simp only [List.cons_append, entFind]
    split
    · rfl
    · exact ih
theorem entFind_modify {kd : TypeDesc} {key v : Value} (hk : kdOk kd key = true) : ∀ (l : List MapEntry) (j : Nat) (x : MapEntry), (∀ y, y ∈ l → kdOk kd y.key = true) → l[j]? = some x → keq key x.key = true → (∀ m, m < j → ∀ y, l[m]? = some y → keq key y.key = false) →
    ∀ k, kdOk kd k = true → entFind (l.modify j fun e => { e with key := key, val := v }) k = mset (entFind l) key v k
  | [], j, x, _, h, _, _, _, _ => by simp at h
  | y :: l, 0, x, hl, h, hx, _, k, hkk => by
    simp at h
    subst h
    have e1 := (keq_iff hk (hl y (by simp))).1 hx
    simp only [List.modify_zero_cons, entFind, mset]
    split
    · rfl
    · rename_i hn
      rw [← e1]
      rw [if_neg hn]
  | y :: l, j + 1, x, hl, h, hx, hb, k, hkk => by
    have ih := entFind_modify (v := v) hk l j x (fun z hz => hl z (by simp [hz])) (by simpa using h) hx (fun m hm z hz => hb (m + 1) (by omega) z (by simpa using hz)) k hkk
    simp only [List.modify_succ_cons, entFind, mset] at ih ⊢
    have hy := hb 0 (by omega) y rfl
    split
    · rename_i hky
      have : keq k key = false := by
        rw [← Bool.not_eq_true]
        intro h2
        rw [(keq_iff hkk hk).1 h2] at hky
        rw [hky] at hy; cases hy
      rw [this]; simp
    · exact ih

section
variable {P : Program} {X0 : Nat → Nat → Prop} {W0 : World} {γ : Nat → Option Value} {w : World} {H : Heap}

theorem St.map_at (hS : St X0 W0 γ w H) {id : Nat} {kd : TypeDesc} {n : Nat} {f : Value → Option Value} {v : Value} (ho : hget H id = some (.map kd n f)) (hv : γ id = some v) :
    ∃ b ent clock, v = .map (some b) ∧ W0.heap.size ≤ b ∧ w.heap[b]? = some (.map ent clock) ∧ ent.size = n ∧ (∀ x, x ∈ ent.toList → kdOk kd x.key = true) ∧ ∀ k, kdOk kd k = true → entFind ent.toList k = f k := by
  obtain ⟨u, hu, hr⟩ := hS.obj id _ ho
  rw [hv] at hu
  injection hu with hu
  subst hu
  exact hr

theorem run_getObj {b : Nat} {ent : Array MapEntry} {clock : Nat} (h : w.heap[b]? = some (.map ent clock)) : (getObj b).run P w = .ok (.map ent clock) w := by
  simp [getObj, Sem.run, h]
theorem run_setObj {b : Nat} {ent : Array MapEntry} {clock : Nat} (o : Obj) (h : w.heap[b]? = some (.map ent clock)) : (setObj b o).run P w = .ok () { w with heap := w.heap.setIfInBounds b o } := by
  simp [setObj, Sem.run, h]

theorem run_checkKey {kd : TypeDesc} {kt : TypeId} {em : Bool} {key : Value} (hu : P.underlying kt = some kd) (hk : kdOk kd key = true) : (Instr.checkKey em 10000 kt key).run P w = .ok () w := by
  unfold Instr.checkKey
  cases kd <;> cases key <;> simp [kdOk] at hk <;> simp [run_underlying hu]

theorem run_findKey {kd : TypeDesc} {kt : TypeId} {key : Value} {l : List MapEntry} (hu : P.underlying kt = some kd) (hk : kdOk kd key = true) (hl : ∀ x, x ∈ l → kdOk kd x.key = true) : (Instr.findKey kt key l).run P w = .ok (entIdx l key 0) w := by
  unfold Instr.findKey
  simp [run_underlying hu, findNow_idx hk l 0 hl]

/-- 'm[k]', with or without 'ok'. -/
theorem run_mget {t kt et : TypeId} {kd : TypeDesc} {n : Nat} {f : Value → Option Value} {id : Nat} {v key z : Value} {ok : Bool} (hu : P.underlying t = some (.map kt et)) (hk : P.underlying kt = some kd) (hz : (zeroValue et).run P w = .ok z w)
    (hS : St X0 W0 γ w H) (ho : hget H id = some (.map kd n f)) (hv : γ id = some v) (hkey : kdOk kd key = true) :
    (Instr.lookup t v key ok).run P w = .ok (if ok then .tuple #[(f key).getD z, .bool (f key).isSome] else (f key).getD z) w := by
  obtain ⟨b, ent, clock, rfl, _, hh, _, hall, hf⟩ := hS.map_at ho hv
  have hfk := hf key hkey
  have hi := entIdx_find ent.toList key 0
  rw [hfk] at hi
  unfold Instr.lookup
  simp only [Sem.run_bind, run_underlying hu, Result.andThen_ok, run_getObj hh, Sem.run_pure, run_checkKey hk hkey, run_findKey hk hkey hall]
  cases hx : entIdx ent.toList key 0 with
  | none =>
    rw [hx] at hi
    simp at hi
    simp [← hi, hz]
  | some p =>
    rw [hx] at hi
    simp at hi
    simp [← hi]

/-- An object turned as a whole, in its own block. -/
theorem St.reobj (hS : St X0 W0 γ w H) {id : Nat} {o o' : AObj} {v : Value} {b : Nat} (ho : hget H id = some o) (hv : γ id = some v) (hb : blk v = some b) (ht : ∀ q, turns o q) {w' : World} (hext : Ext W0 w') (hsz : w.heap.size ≤ w'.heap.size)
    (hoth : ∀ k, k ≠ b → k < w.heap.size → w'.heap[k]? = w.heap[k]?) (hnew : ORep γ (XOf X0 γ (hset H id o')) W0.heap.size w' v o') : St X0 W0 γ w' (hset H id o') ∧ Keeps (XOf X0 γ H) (XOf X0 γ (hset H id o')) w w' := by
  have hbX : ∀ q, XOf X0 γ H b q := fun q => .inr ⟨id, _, _, ho, hv, hb, ht q⟩
  have hgs : ∀ k u, hget (hset H id o') k = some u → (k = id ∧ u = o') ∨ (k ≠ id ∧ hget H k = some u) := by
    intro k u hk
    rw [hget_set] at hk
    by_cases e : id = k
    · subst e
      rw [if_pos rfl, ho] at hk
      simp at hk
      exact .inl ⟨rfl, hk.symm⟩
    · rw [if_neg e] at hk
      exact .inr ⟨Ne.symm e, hk⟩
  have hK : Keeps (XOf X0 γ H) (XOf X0 γ (hset H id o')) w w' := by
    refine .of_blocks hsz (fun k hk => ?_) (fun k q hk h => ?_)
    · by_cases e : k = b
      · exact .inl fun q => e ▸ hbX q
      · exact .inr (hoth k e hk)
    rcases h with h | ⟨j, u, z, h1, h2, h3, h4⟩
    · exact .inl h
    · rcases hgs j u h1 with ⟨rfl, _⟩ | ⟨_, h1'⟩
      · rw [hv] at h2
        injection h2 with h2
        subst h2
        exact .inr ⟨j, _, v, ho, hv, h3, ht q⟩
      · exact .inr ⟨j, u, z, h1', h2, h3, h4⟩
  refine ⟨⟨hS.hx, hext, fun k u hk => ?_, fun k k' u u' v v' c h1 h2 g1 g2 b1 b2 => ?_⟩, hK⟩
  · rcases hgs k u hk with ⟨rfl, rfl⟩ | ⟨hne, hk'⟩
    · exact ⟨v, hv, hnew⟩
    · obtain ⟨z, hz, hr'⟩ := hS.obj k u hk'
      refine ⟨z, hz, hr'.mono (Knows.refl γ) hK (fun c hc hlt => hoth c (fun e => hne ?_) hlt)⟩
      exact hS.dis k id u _ z _ b hk' ho hz hv (e ▸ hc) hb
  · rcases hgs k u h1 with ⟨rfl, _⟩ | ⟨_, h1'⟩ <;> rcases hgs k' u' h2 with ⟨rfl, _⟩ | ⟨_, h2'⟩
    · rfl
    · exact hS.dis _ _ _ _ _ _ c ho h2' g1 g2 b1 b2
    · exact hS.dis _ _ _ _ _ _ c h1' ho g1 g2 b1 b2
    · exact hS.dis _ _ _ _ _ _ c h1' h2' g1 g2 b1 b2

theorem setBlock_ext {W : World} {b : Nat} (o : Obj) (h : Ext W w) (hb : W.heap.size ≤ b) : Ext W { w with heap := w.heap.setIfInBounds b o } :=
  ⟨h.os, h.tape, h.output, by simpa using h.size, fun k hk => by
    have : b ≠ k := by omega
    show (w.heap.setIfInBounds b o)[k]? = _
    rw [Array.getElem?_setIfInBounds_ne this]
    exact h.block k hk⟩

/-- 'm[k] = x'. -/
theorem run_mset {t kt et : TypeId} {kd : TypeDesc} {n : Nat} {f : Value → Option Value} {id : Nat} {v key x : Value} (hu : P.underlying t = some (.map kt et)) (hk : P.underlying kt = some kd)
    (hS : St X0 W0 γ w H) (ho : hget H id = some (.map kd n f)) (hv : γ id = some v) (hkey : kdOk kd key = true) :
    ∃ w', (Instr.mapUpdate t v key x).run P w = .ok () w' ∧ St X0 W0 γ w' (hset H id (.map kd (if (f key).isSome then n else n + 1) (mset f key x))) ∧ Keeps (XOf X0 γ H) (XOf X0 γ (hset H id (.map kd (if (f key).isSome then n else n + 1) (mset f key x)))) w w' := by
  obtain ⟨b, ent, clock, rfl, hB, hh, hn, hall, hf⟩ := hS.map_at ho hv
  have hfk := hf key hkey
  have hi := entIdx_find ent.toList key 0
  rw [hfk] at hi
  have hlt : b < w.heap.size := (Array.getElem?_eq_some_iff.1 hh).1
  have hoth : ∀ (o : Obj) k, k ≠ b → k < w.heap.size → ({ w with heap := w.heap.setIfInBounds b o } : World).heap[k]? = w.heap[k]? := by
    intro o k hkb _
    show (w.heap.setIfInBounds b o)[k]? = _
    rw [Array.getElem?_setIfInBounds_ne (Ne.symm hkb)]
  have hat : ∀ (o : Obj), ({ w with heap := w.heap.setIfInBounds b o } : World).heap[b]? = some o := by
    intro o
    show (w.heap.setIfInBounds b o)[b]? = _
    simp [hlt]
  unfold Instr.mapUpdate
  simp only [Sem.run_bind, run_underlying hu, Result.andThen_ok, run_getObj hh, run_checkKey hk hkey, run_findKey hk hkey hall]
  cases hx : entIdx ent.toList key 0 with
  | none =>
    rw [hx] at hi
    simp only [Option.map_none] at hi
    refine ⟨_, by simp only [run_setObj _ hh]; rfl, ?_⟩
    refine hS.reobj ho hv rfl (fun _ => trivial) (setBlock_ext _ hS.ext hB) (by simp) (hoth _) ⟨b, _, _, rfl, hB, hat _, ?_, ?_, ?_⟩
    · simp [← hi, hn]
    · intro y hy
      simp at hy
      rcases hy with hy | rfl
      · exact hall y (by simpa using hy)
      · exact hkey
    · intro k hkk
      simp only [Array.toList_push, entFind_append, mset]
      rw [hf k hkk]
      by_cases hq : keq k key = true
      · have := (keq_iff hkk hkey).1 hq
        subst this
        rw [← hi]
      · rw [if_neg hq, if_neg hq]
        cases f k <;> rfl
  | some p =>
    obtain ⟨j, u⟩ := p
    rw [hx] at hi
    simp only [Option.map_some] at hi
    obtain ⟨_, y, h2, h3, h4, h5⟩ := entIdx_at _ _ _ _ _ hx
    simp only [Nat.sub_zero] at h2 h5
    have hy : y ∈ ent.toList := List.mem_of_getElem? h2
    have hkeep : (Instr.keyThatStays (((ent[j]?).map (·.key)).getD key) key).run P w = .ok key w := by
      have e1 : ent[j]? = some y := by simpa using h2
      rw [e1]
      simp only [Option.map_some, Option.getD_some]
      unfold Instr.keyThatStays
      rw [if_pos (bits_keq hkey (hall y hy) h3)]
      rfl
    simp only [Sem.run_bind, hkeep, Result.andThen_ok]
    refine ⟨_, by simp only [run_setObj _ hh]; rfl, ?_⟩
    refine hS.reobj ho hv rfl (fun _ => trivial) (setBlock_ext _ hS.ext hB) (by simp) (hoth _) ⟨b, _, _, rfl, hB, hat _, ?_, ?_, ?_⟩
    · simp [← hi, hn]
    · intro z hz
      obtain ⟨q, hq, rfl⟩ := List.getElem_of_mem hz
      simp only [Array.length_toList, Array.size_modify] at hq
      rw [Array.getElem_toList, Array.getElem_modify]
      split
      · exact hkey
      · exact hall _ (by simp)
    · intro k hkk
      have := entFind_modify (v := x) hkey ent.toList j y hall h2 h3 h5 k hkk
      rw [Array.toList_modify]
      rw [this]
      unfold mset
      split
      · rfl
      · exact hf k hkk

/-- 'make(map[..]..)'. -/
theorem St.newMap (hS : St X0 W0 γ w H) (id : Nat) (hid : γ id = none) (kd : TypeDesc) :
    St X0 W0 (upd γ id (.map (some w.heap.size))) (w.alloc (.map #[] 0)) (hadd id (.map kd 0 fun _ => none) H) ∧ Knows γ (upd γ id (.map (some w.heap.size))) ∧ Keeps (XOf X0 γ H) (XOf X0 (upd γ id (.map (some w.heap.size))) (hadd id (.map kd 0 fun _ => none) H)) w (w.alloc (.map #[] 0)) := by
  refine hS.new (Ext.alloc w _) id hid _ rfl _ (fun b hb => by simp [blk] at hb; omega) ?_
  exact ⟨w.heap.size, #[], 0, rfl, hS.ext.size, heap_alloc_new w _, rfl, fun x hx => by simp at hx, fun k _ => rfl⟩

end

end Go.Proofs.Ytghlfjpmpalpdaa
