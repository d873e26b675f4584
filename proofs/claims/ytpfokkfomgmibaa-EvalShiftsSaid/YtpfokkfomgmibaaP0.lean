/- Plain laws of layer 7: whole modules, what a run comes to. -/
import Derived.Test.YtpfokkfomgmibaaLD
namespace Go.Proofs.Ytpfokkfomgmibaa
open Go.RowKit

def findF (m : Module) (s : ByteArray) : Option Func := m.funcs.find? fun f => decide (f.name = s)
theorem find_idx {α : Type} (p : α → Bool) : ∀ xs : List α, (∃ k, ∃ hk : k < xs.length, findI p xs = k ∧ xs.find? p = some xs[k]) ∨ (findI p xs = -1 ∧ xs.find? p = none)
  | [] => .inr ⟨rfl, rfl⟩
  | x :: xs => by
    by_cases hx : p x = true
    · exact .inl ⟨0, by simp, findI_hit (k := 0) (by simp) (fun i _ hi => by omega) hx, by simp [hx]⟩
    · have hx' : p x = false := by simpa using hx
      rcases find_idx p xs with ⟨k, hk, h1, h2⟩ | ⟨h1, h2⟩
      · refine .inl ⟨k + 1, by simpa using hk, ?_, by simp [hx', h2]⟩
        unfold findI at h1 ⊢
        rw [List.findIdx?_cons, hx']
        cases hf : xs.findIdx? p with
        | none => rw [hf] at h1; simp at h1
        | some i => rw [hf] at h1; simp at h1 ⊢; omega
      · refine .inr ⟨?_, by simp [hx', h2]⟩
        unfold findI at h1 ⊢
        rw [List.findIdx?_cons, hx']
        cases hf : xs.findIdx? p with
        | none => simp
        | some i => rw [hf] at h1; simp at h1
theorem leads_eq (m : Module) (s : ByteArray) : (∃ k, ∃ hk : k < m.funcs.length, findI (fun f => decide (f.name = s)) m.funcs = k ∧ findF m s = some m.funcs[k]) ∨ (findI (fun f => decide (f.name = s)) m.funcs = -1 ∧ findF m s = none) := find_idx _ _
def findG (m : Module) (s : ByteArray) : Option Glob := m.globs.find? fun g => decide (g.name = s)
theorem leadsG_eq (m : Module) (s : ByteArray) : (∃ k, ∃ hk : k < m.globs.length, findI (fun f : Glob => decide (f.name = s)) m.globs = k ∧ findG m s = some m.globs[k]) ∨ (findI (fun f : Glob => decide (f.name = s)) m.globs = -1 ∧ findG m s = none) := find_idx _ _
/-- In a right module a name tells its function. -/
theorem findF_uniq {m : Module} (h : ModOk m) {f : Func} (hf : f ∈ m.funcs) : findF m f.name = some f := by
  unfold findF
  cases hx : m.funcs.find? fun g => decide (g.name = f.name) with
  | none =>
    have := List.find?_eq_none.1 hx f hf
    simp at this
  | some g =>
    have h1 := List.mem_of_find?_eq_some hx
    have h2 : g.name = f.name := by simpa using List.find?_some hx
    rw [name_uniq h.fnodup h1 hf h2]
/-- All names that some functions have. -/
def refsA (l : List Func) : List ByteArray := l.flatMap fun f => namesOf (allIns f)
theorem refsA_append (l l' : List Func) : refsA (l ++ l') = refsA l ++ refsA l' := by simp [refsA]
def mainS : ByteArray := ⟨#[109, 97, 105, 110]⟩
/-- Is what a name tells there? -/
def thereB (m : Module) (s : ByteArray) : Bool := match findF m s with
  | some f => decide (f.blocks.length ≠ 0)
  | none => match findG m s with
    | some g => g.here
    | none => false
def mainB (m : Module) : Bool := match findF m mainS with
  | some f => decide (f.blocks.length ≠ 0) && decide (f.params = 0)
  | none => false
def wholeE (m : Module) : Int := if checkE m ≠ 0 then checkE m else if mainB m = true then (if (refsA m.funcs).all (thereB m) = true then 0 else 8) else 11
theorem wholeE_zero {m : Module} : wholeE m = 0 ↔ ModOk m ∧ mainB m = true ∧ ∀ s ∈ refsA m.funcs, thereB m s = true := by
  unfold wholeE
  split
  · rename_i h
    exact ⟨fun h' => absurd h' h, fun h' => absurd (checkE_zero.2 h'.1) h⟩
  · rename_i h
    have hok := checkE_zero.1 (Classical.not_not.1 h)
    split
    · rename_i hm
      split
      · rename_i ha
        exact ⟨fun _ => ⟨hok, hm, List.all_eq_true.1 ha⟩, fun _ => rfl⟩
      · rename_i ha
        exact ⟨fun h' => (by cases h'), fun h' => absurd (List.all_eq_true.2 h'.2.2) ha⟩
    · rename_i hm
      exact ⟨fun h' => (by cases h'), fun h' => absurd h'.2.1 hm⟩
/-- Of a module: nothing in it is beyond what may be held. -/
structure Small (m : Module) : Prop where
  len : m.funcs.length + m.globs.length ≤ 1048576
  ins : ∀ f ∈ m.funcs, (allIns f).length ≤ 1048576
  blks : ∀ f ∈ m.funcs, f.blocks.length ≤ 1048576
  args : ∀ f ∈ m.funcs, ∀ b ∈ f.blocks, ∀ i ∈ b.ins, i.args.length ≤ 17592186044416
def wrapU (n : Int) : Int := IntKind.u64.wrap n
/-- 2 to the n. -/
def powI : Nat → Int
  | 0 => 1
  | n + 1 => wrapU (powI n + powI n)
/-- What an operation gives. -/
def reckI (op a b : Int) : Int :=
  if op = 2 then wrapU (a + b) else if op = 3 then wrapU (a - b) else if op = 4 then wrapU (a * b)
  else if op = 5 then wrapU (((a % 2 ^ IntKind.u64.bits).toNat &&& (b % 2 ^ IntKind.u64.bits).toNat : Nat) : Int)
  else if op = 6 then wrapU (((a % 2 ^ IntKind.u64.bits).toNat ||| (b % 2 ^ IntKind.u64.bits).toNat : Nat) : Int)
  else if op = 7 then wrapU (((a % 2 ^ IntKind.u64.bits).toNat ^^^ (b % 2 ^ IntKind.u64.bits).toNat : Nat) : Int)
  else if op = 8 then wrapU (a * powI (b.tmod 64).toNat)
  else if op = 9 then wrapU (a.tdiv (powI (b.tmod 64).toNat))
  else if op = 10 ∧ a < b ∨ op = 11 ∧ a = b then 1 else 0
/-- What a run has done. -/
structure Wd where
  ended : Bool
  code : Int
  out : ByteArray
  read : Nat
  steps : Nat
  deep : Nat
  globs : List Int
  bad : Int
def valAt (l : List Int) (i : Int) : Int := l[i.toNat]?.getD 0
def pickI (vals l : List Int) : List Int := l.map (valAt vals)
def globI (m : Module) (s : ByteArray) : Int := findI (fun g : Glob => decide (g.name = s)) m.globs
def byteS (v : Int) : ByteArray := pushB [IntKind.u8.wrap (v.tmod 256)]
def stepW (fuel : Nat) (w : Wd) : Wd := if w.steps = fuel then { w with bad := 12 } else { w with steps := w.steps + 1 }
/-- What an instruction that is no call gives. -/
def givesW (m : Module) (inp : ByteArray) (x : Inst) (vals : List Int) (w : Wd) : Wd × Int :=
  if x.op = 1 then (w, x.k)
  else if x.op = 12 then (w, valAt w.globs (globI m x.name))
  else if x.op = 13 then ({ w with globs := w.globs.set (globI m x.name).toNat (valAt vals x.a) }, 0)
  else if x.op = 15 then (if inp.size ≤ w.read then (w, 256) else ({ w with read := w.read + 1 }, wrapU ((inp[w.read]?).getD 0).toNat))
  else if x.op = 16 then ({ w with out := w.out ++ byteS (valAt vals x.a) }, 0)
  else (w, reckI x.op (valAt vals x.a) (valAt vals x.b))
def funcOf (m : Module) (s : ByteArray) : Func := (findF m s).getD default
def enterW (n : Nat) (w : Wd) : Wd := if w.deep < n then { w with deep := n } else w
/-- A call goes on: in block at of f, at instruction i, with some values, as the n-th that is open; g: more than there is fuel left. -/
def goR (m : Module) (inp : ByteArray) (fuel deep : Nat) : Nat → Wd → Func → Nat → Nat → List Int → Nat → Wd × Int
  | 0, w, _, _, _, _, _ => (w, 0)
  | g + 1, w, f, at', i, vals, n =>
    let b := f.blocks[at']?.getD default
    let w1 := stepW fuel w
    if w1.bad ≠ 0 then (w1, 0)
    else if i < b.ins.length then
      let x := b.ins[i]?.getD default
      if x.op = 14 then
        if n = deep then ({ w1 with bad := 13 }, 0)
        else
          let r := goR m inp fuel deep g (enterW (n + 1) w1) (funcOf m x.name) 0 0 (pickI vals x.args) (n + 1)
          if r.1.bad ≠ 0 then (r.1, 0) else goR m inp fuel deep g r.1 f at' (i + 1) (vals ++ [r.2]) n
      else
        let r := givesW m inp x vals w1
        goR m inp fuel deep g r.1 f at' (i + 1) (vals ++ [r.2]) n
    else if b.kind = 3 then (w1, valAt vals b.ta)
    else if b.kind = 2 ∧ valAt vals b.ta = 0 then goR m inp fuel deep g w1 f b.els.toNat 0 (pickI vals b.elses) n
    else goR m inp fuel deep g w1 f b.to.toNat 0 (pickI vals b.args) n
def startW (m : Module) : Wd := ⟨false, 0, ⟨#[]⟩, 0, 0, 0, m.globs.map fun g => (g.init : Int), 0⟩
/-- A run, and why it is over. -/
def runR (m : Module) (inp : ByteArray) (fuel deep : Nat) : Wd :=
  let r := goR m inp fuel deep (fuel + 1) (enterW 1 (startW m)) (funcOf m mainS) 0 0 [] 1
  if r.1.bad ≠ 0 then r.1 else { r.1 with ended := true, code := r.2 }
/-- What holds of a run that is not over. -/
structure Good (m : Module) (fuel : Nat) (w : Wd) : Prop where
  bad : w.bad = 0
  steps : w.steps ≤ fuel
  out : w.out.size ≤ w.steps
  globs : w.globs.length = m.globs.length
  pos : ∀ v ∈ w.globs, 0 ≤ v
  read : w.read ≤ w.steps
  ended : w.ended = false
  code : w.code = 0
theorem wrapU_nonneg (n : Int) : 0 ≤ wrapU n := by
  unfold wrapU IntKind.wrap
  simp only [show IntKind.u64.signed = false from rfl, Bool.false_and, if_neg (by simp : ¬ false = true)]
  exact Int.emod_nonneg _ (by decide)
theorem powI_nonneg : ∀ n, 0 ≤ powI n
  | 0 => by decide
  | n + 1 => wrapU_nonneg _
theorem reckI_nonneg (op a b : Int) : 0 ≤ reckI op a b := by
  unfold reckI
  repeat' split
  all_goals first | exact wrapU_nonneg _ | omega
theorem valAt_nonneg {l : List Int} (h : ∀ v ∈ l, 0 ≤ v) (i : Int) : 0 ≤ valAt l i := by
  unfold valAt
  cases hx : l[i.toNat]? with
  | none => simp
  | some v => exact h v (List.mem_of_getElem? hx)
theorem pickI_nonneg {l : List Int} (h : ∀ v ∈ l, 0 ≤ v) (k : List Int) : ∀ v ∈ pickI l k, 0 ≤ v := by
  intro v hv
  obtain ⟨i, _, rfl⟩ := List.mem_map.1 hv
  exact valAt_nonneg h i
@[simp] theorem pickI_length (l k : List Int) : (pickI l k).length = k.length := by simp [pickI]
theorem byteS_size (v : Int) : (byteS v).size = 1 := rfl
theorem stepW_bad {fuel : Nat} {w : Wd} (h : w.bad = 0) : (stepW fuel w).bad ≠ 0 ↔ w.steps = fuel := by
  unfold stepW
  split <;> rename_i hs <;> simp [hs, h]
theorem stepW_go {fuel : Nat} {w : Wd} (h : ¬ w.steps = fuel) : stepW fuel w = { w with steps := w.steps + 1 } := by
  unfold stepW
  rw [if_neg h]
theorem Good.step {m : Module} {fuel : Nat} {w : Wd} (h : Good m fuel w) (hs : ¬ w.steps = fuel) : Good m fuel (stepW fuel w) := by
  rw [stepW_go hs]
  have := h.steps
  have := h.out
  have := h.read
  exact ⟨h.bad, by simp only []; omega, by simp only []; omega, h.globs, h.pos, by simp only []; omega, h.ended, h.code⟩
theorem Good.enter {m : Module} {fuel : Nat} {w : Wd} (h : Good m fuel w) (n : Nat) : Good m fuel (enterW n w) := by
  unfold enterW
  split
  · exact ⟨h.bad, h.steps, h.out, h.globs, h.pos, h.read, h.ended, h.code⟩
  · exact h
@[simp] theorem enterW_steps (n : Nat) (w : Wd) : (enterW n w).steps = w.steps := by unfold enterW; split <;> rfl
/-- A step, and what an instruction that is no call gives. -/
theorem Good.gives {m : Module} {fuel : Nat} {w : Wd} (h : Good m fuel w) (hs : ¬ w.steps = fuel) (inp : ByteArray) (x : Inst) {vals : List Int} (hv : ∀ v ∈ vals, 0 ≤ v) :
    Good m fuel (givesW m inp x vals (stepW fuel w)).1 ∧ 0 ≤ (givesW m inp x vals (stepW fuel w)).2 ∧ (givesW m inp x vals (stepW fuel w)).1.steps = w.steps + 1 := by
  have hg := h.step hs
  rw [stepW_go hs] at hg ⊢
  have h1 := h.steps
  have h2 := h.out
  have h3 := h.read
  unfold givesW
  split
  · exact ⟨hg, by simp only []; omega, rfl⟩
  split
  · exact ⟨hg, valAt_nonneg hg.pos _, rfl⟩
  split
  · refine ⟨⟨hg.bad, hg.steps, hg.out, by simp only [List.length_set]; exact h.globs, fun v hv' => ?_, hg.read, hg.ended, hg.code⟩, by simp only []; omega, rfl⟩
    rcases List.mem_or_eq_of_mem_set hv' with h' | h'
    · exact h.pos v h'
    · rw [h']; exact valAt_nonneg hv _
  split
  · split
    · exact ⟨hg, by simp only []; omega, rfl⟩
    · exact ⟨⟨hg.bad, hg.steps, hg.out, hg.globs, hg.pos, by simp only []; omega, hg.ended, hg.code⟩, wrapU_nonneg _, rfl⟩
  split
  · refine ⟨⟨hg.bad, hg.steps, ?_, hg.globs, hg.pos, hg.read, hg.ended, hg.code⟩, by simp only []; omega, rfl⟩
    simp only [ByteArray.size_append, byteS_size]
    omega
  · exact ⟨hg, reckI_nonneg _ _ _, rfl⟩
/-- What is known of a run's end: steps are no fewer, and within the fuel; if it isn't over, all is well. -/
theorem goR_good {m : Module} {inp : ByteArray} {fuel deep : Nat} : ∀ (g : Nat) (w : Wd) (f : Func) (at' i : Nat) (vals : List Int) (n : Nat), Good m fuel w → (∀ v ∈ vals, 0 ≤ v) →
    w.steps ≤ (goR m inp fuel deep g w f at' i vals n).1.steps ∧ (goR m inp fuel deep g w f at' i vals n).1.steps ≤ fuel ∧ ((goR m inp fuel deep g w f at' i vals n).1.bad = 0 → Good m fuel (goR m inp fuel deep g w f at' i vals n).1) ∧ 0 ≤ (goR m inp fuel deep g w f at' i vals n).2 ∧
    (goR m inp fuel deep g w f at' i vals n).1.globs.length = m.globs.length := by
  intro g
  induction g with
  | zero => intro w f at' i vals n h hv; exact ⟨Nat.le_refl _, h.steps, fun _ => h, Int.le_refl _, h.globs⟩
  | succ g ih =>
    intro w f at' i vals n h hv
    by_cases hs : w.steps = fuel
    · have hb := (stepW_bad (fuel := fuel) h.bad).2 hs
      have e : goR m inp fuel deep (g + 1) w f at' i vals n = (stepW fuel w, 0) := by rw [goR]; exact if_pos hb
      rw [e]
      have e2 : (stepW fuel w).steps = w.steps := by unfold stepW; rw [if_pos hs]
      have e3 : (stepW fuel w).globs = w.globs := by unfold stepW; rw [if_pos hs]
      exact ⟨by simp only [e2]; omega, by simp only [e2]; exact h.steps, fun h' => absurd h' hb, Int.le_refl _, by simp only [e3]; exact h.globs⟩
    · have hb : ¬ (stepW fuel w).bad ≠ 0 := fun h' => hs ((stepW_bad h.bad).1 h')
      have hg := h.step hs
      have hst : (stepW fuel w).steps = w.steps + 1 := by rw [stepW_go hs]
      rw [goR]
      simp only [if_neg hb]
      split
      · split
        · split
          · exact ⟨by simp only [hst]; omega, hg.steps, fun h' => by simp at h', Int.le_refl _, hg.globs⟩
          · obtain ⟨a1, a2, a3, a4, a5⟩ := ih (enterW (n + 1) (stepW fuel w)) (funcOf m (((f.blocks[at']?.getD default).ins[i]?.getD default).name)) 0 0 (pickI vals ((f.blocks[at']?.getD default).ins[i]?.getD default).args) (n + 1) (hg.enter _) (pickI_nonneg hv _)
            rw [enterW_steps, hst] at a1
            split
            · rename_i hr
              exact ⟨Nat.le_of_succ_le a1, a2, fun h' => absurd h' hr, Int.le_refl _, a5⟩
            · rename_i hr
              have hr' := Classical.not_not.1 hr
              obtain ⟨b1, b2, b3, b4, b5⟩ := ih _ f at' (i + 1) _ n (a3 hr') (fun v hv' => by
                rcases List.mem_append.1 hv' with hv' | hv'
                · exact hv v hv'
                · rw [List.mem_singleton.1 hv']; exact a4)
              exact ⟨by omega, b2, b3, b4, b5⟩
        · obtain ⟨c1, c2, c3⟩ := h.gives hs inp ((f.blocks[at']?.getD default).ins[i]?.getD default) hv
          obtain ⟨b1, b2, b3, b4, b5⟩ := ih _ f at' (i + 1) (vals ++ [(givesW m inp ((f.blocks[at']?.getD default).ins[i]?.getD default) vals (stepW fuel w)).2]) n c1 (fun v hv' => by
            rcases List.mem_append.1 hv' with hv' | hv'
            · exact hv v hv'
            · rw [List.mem_singleton.1 hv']; exact c2)
          exact ⟨by omega, b2, b3, b4, b5⟩
      · split
        · exact ⟨by simp only [hst]; omega, hg.steps, fun _ => hg, valAt_nonneg hv _, hg.globs⟩
        · split
          · obtain ⟨b1, b2, b3, b4, b5⟩ := ih (stepW fuel w) f (f.blocks[at']?.getD default).els.toNat 0 (pickI vals (f.blocks[at']?.getD default).elses) n hg (pickI_nonneg hv _)
            exact ⟨by omega, b2, b3, b4, b5⟩
          · obtain ⟨b1, b2, b3, b4, b5⟩ := ih (stepW fuel w) f (f.blocks[at']?.getD default).to.toNat 0 (pickI vals (f.blocks[at']?.getD default).args) n hg (pickI_nonneg hv _)
            exact ⟨by omega, b2, b3, b4, b5⟩
/-- More than there is fuel left is enough. -/
theorem goR_gas {m : Module} {inp : ByteArray} {fuel deep : Nat} : ∀ (g g' : Nat) (w : Wd) (f : Func) (at' i : Nat) (vals : List Int) (n : Nat), Good m fuel w → (∀ v ∈ vals, 0 ≤ v) → fuel < g + w.steps → fuel < g' + w.steps →
    goR m inp fuel deep g w f at' i vals n = goR m inp fuel deep g' w f at' i vals n := by
  intro g
  induction g with
  | zero => intro g' w f at' i vals n h _ h1; have := h.steps; omega
  | succ g ih =>
    intro g' w f at' i vals n h hv h1 h2
    cases g' with
    | zero => have := h.steps; omega
    | succ g' =>
      by_cases hs : w.steps = fuel
      · have hb := (stepW_bad (fuel := fuel) h.bad).2 hs
        rw [goR, goR]
        simp only [if_pos hb]
      · have hb : ¬ (stepW fuel w).bad ≠ 0 := fun h' => hs ((stepW_bad h.bad).1 h')
        have hg := h.step hs
        have hst : (stepW fuel w).steps = w.steps + 1 := by rw [stepW_go hs]
        rw [goR, goR]
        simp only [if_neg hb]
        split
        · split
          · split
            · rfl
            · have hge := hg.enter (n + 1)
              have hpn := pickI_nonneg hv ((f.blocks[at']?.getD default).ins[i]?.getD default).args
              have e := ih g' (enterW (n + 1) (stepW fuel w)) (funcOf m (((f.blocks[at']?.getD default).ins[i]?.getD default).name)) 0 0 _ (n + 1) hge hpn (by rw [enterW_steps]; omega) (by rw [enterW_steps]; omega)
              rw [e]
              obtain ⟨a1, a2, a3, a4, a5⟩ := goR_good (inp := inp) (deep := deep) g' (enterW (n + 1) (stepW fuel w)) (funcOf m (((f.blocks[at']?.getD default).ins[i]?.getD default).name)) 0 0 _ (n + 1) hge hpn
              rw [enterW_steps, hst] at a1
              split
              · rfl
              · rename_i hr
                have hr' := Classical.not_not.1 hr
                refine ih g' _ f at' (i + 1) _ n (a3 hr') (fun v hv' => ?_) (by omega) (by omega)
                rcases List.mem_append.1 hv' with hv' | hv'
                · exact hv v hv'
                · rw [List.mem_singleton.1 hv']; exact a4
          · obtain ⟨c1, c2, c3⟩ := h.gives hs inp ((f.blocks[at']?.getD default).ins[i]?.getD default) hv
            refine ih g' _ f at' (i + 1) _ n c1 (fun v hv' => ?_) (by omega) (by omega)
            rcases List.mem_append.1 hv' with hv' | hv'
            · exact hv v hv'
            · rw [List.mem_singleton.1 hv']; exact c2
        · split
          · rfl
          · split
            · exact ih g' _ f _ 0 _ n hg (pickI_nonneg hv _) (by omega) (by omega)
            · exact ih g' _ f _ 0 _ n hg (pickI_nonneg hv _) (by omega) (by omega)

/-- A run goes on, with gas enough. -/
def goF (m : Module) (inp : ByteArray) (fuel deep : Nat) (w : Wd) (f : Func) (at' i : Nat) (vals : List Int) (n : Nat) : Wd × Int := goR m inp fuel deep (fuel + 1) w f at' i vals n

section
variable {m : Module} {inp : ByteArray} {fuel deep : Nat} {w : Wd} {f : Func} {at' i : Nat} {vals : List Int} {n : Nat}

theorem goF_gas (h : Good m fuel w) (hv : ∀ v ∈ vals, 0 ≤ v) (h0 : 0 < w.steps) : goR m inp fuel deep fuel w f at' i vals n = goF m inp fuel deep w f at' i vals n := goR_gas _ _ w f at' i vals n h hv (by omega) (by omega)
theorem goF_over (h : Good m fuel w) (hs : w.steps = fuel) : goF m inp fuel deep w f at' i vals n = (stepW fuel w, 0) := by
  unfold goF
  rw [goR]
  exact if_pos ((stepW_bad h.bad).2 hs)
theorem goF_go (h : Good m fuel w) (hs : ¬ w.steps = fuel) : ¬ (stepW fuel w).bad ≠ 0 := fun h' => hs ((stepW_bad h.bad).1 h')
theorem step_pos (h : Good m fuel w) (hs : ¬ w.steps = fuel) : 0 < (stepW fuel w).steps := by rw [stepW_go hs]; simp
theorem goF_deep {b : Block} {x : Inst} (h : Good m fuel w) (hs : ¬ w.steps = fuel) (hb : f.blocks[at']? = some b) (hx : b.ins[i]? = some x) (h14 : x.op = 14) (hd : n = deep) : goF m inp fuel deep w f at' i vals n = ({ stepW fuel w with bad := 13 }, 0) := by
  have hi : i < b.ins.length := (List.getElem?_eq_some_iff.1 hx).1
  unfold goF
  rw [goR]
  simp only [if_neg (goF_go h hs), hb, Option.getD_some, if_pos hi, hx, if_pos h14, if_pos hd]
theorem goF_call {b : Block} {x : Inst} (h : Good m fuel w) (hv : ∀ v ∈ vals, 0 ≤ v) (hs : ¬ w.steps = fuel) (hb : f.blocks[at']? = some b) (hx : b.ins[i]? = some x) (h14 : x.op = 14) (hd : ¬ n = deep) {r : Wd × Int}
    (hr : goF m inp fuel deep (enterW (n + 1) (stepW fuel w)) (funcOf m x.name) 0 0 (pickI vals x.args) (n + 1) = r) : goF m inp fuel deep w f at' i vals n = if r.1.bad ≠ 0 then (r.1, 0) else goF m inp fuel deep r.1 f at' (i + 1) (vals ++ [r.2]) n := by
  have hi : i < b.ins.length := (List.getElem?_eq_some_iff.1 hx).1
  have hg := h.step hs
  have hp := step_pos h hs
  have e : goF m inp fuel deep w f at' i vals n = (let r := goR m inp fuel deep fuel (enterW (n + 1) (stepW fuel w)) (funcOf m x.name) 0 0 (pickI vals x.args) (n + 1)
      if r.1.bad ≠ 0 then (r.1, 0) else goR m inp fuel deep fuel r.1 f at' (i + 1) (vals ++ [r.2]) n) := by
    unfold goF
    rw [goR]
    simp only [if_neg (goF_go h hs), hb, Option.getD_some, if_pos hi, hx, if_pos h14, if_neg hd]
  rw [e, goF_gas (hg.enter _) (pickI_nonneg hv _) (by rw [enterW_steps]; exact hp), hr]
  simp only
  by_cases hbad : r.1.bad ≠ 0
  · rw [if_pos hbad, if_pos hbad]
  · rw [if_neg hbad, if_neg hbad]
    obtain ⟨a1, a2, a3, a4, a5⟩ := goR_good (inp := inp) (deep := deep) (fuel + 1) (enterW (n + 1) (stepW fuel w)) (funcOf m x.name) 0 0 (pickI vals x.args) (n + 1) (hg.enter _) (pickI_nonneg hv _)
    rw [show goR m inp fuel deep (fuel + 1) (enterW (n + 1) (stepW fuel w)) (funcOf m x.name) 0 0 (pickI vals x.args) (n + 1) = r from hr] at a1 a2 a3 a4
    rw [enterW_steps] at a1
    exact goF_gas (a3 (Classical.not_not.1 hbad)) (fun v hv' => by
      rcases List.mem_append.1 hv' with hv' | hv'
      · exact hv v hv'
      · rw [List.mem_singleton.1 hv']; exact a4) (by omega)
theorem goF_plain {b : Block} {x : Inst} (h : Good m fuel w) (hv : ∀ v ∈ vals, 0 ≤ v) (hs : ¬ w.steps = fuel) (hb : f.blocks[at']? = some b) (hx : b.ins[i]? = some x) (h14 : ¬ x.op = 14) :
    goF m inp fuel deep w f at' i vals n = goF m inp fuel deep (givesW m inp x vals (stepW fuel w)).1 f at' (i + 1) (vals ++ [(givesW m inp x vals (stepW fuel w)).2]) n := by
  have hi : i < b.ins.length := (List.getElem?_eq_some_iff.1 hx).1
  obtain ⟨c1, c2, c3⟩ := h.gives hs inp x hv
  have e : goF m inp fuel deep w f at' i vals n = goR m inp fuel deep fuel (givesW m inp x vals (stepW fuel w)).1 f at' (i + 1) (vals ++ [(givesW m inp x vals (stepW fuel w)).2]) n := by
    unfold goF
    rw [goR]
    simp only [if_neg (goF_go h hs), hb, Option.getD_some, if_pos hi, hx, if_neg h14]
  rw [e]
  exact goF_gas c1 (fun v hv' => by
    rcases List.mem_append.1 hv' with hv' | hv'
    · exact hv v hv'
    · rw [List.mem_singleton.1 hv']; exact c2) (by omega)
theorem goF_ret {b : Block} (h : Good m fuel w) (hs : ¬ w.steps = fuel) (hb : f.blocks[at']? = some b) (hi : b.ins.length ≤ i) (hk : b.kind = 3) : goF m inp fuel deep w f at' i vals n = (stepW fuel w, valAt vals b.ta) := by
  unfold goF
  rw [goR]
  simp only [if_neg (goF_go h hs), hb, Option.getD_some, if_neg (Nat.not_lt.2 hi), if_pos hk]
theorem goF_else {b : Block} (h : Good m fuel w) (hv : ∀ v ∈ vals, 0 ≤ v) (hs : ¬ w.steps = fuel) (hb : f.blocks[at']? = some b) (hi : b.ins.length ≤ i) (hk : ¬ b.kind = 3) (hk2 : b.kind = 2 ∧ valAt vals b.ta = 0) : goF m inp fuel deep w f at' i vals n = goF m inp fuel deep (stepW fuel w) f b.els.toNat 0 (pickI vals b.elses) n := by
  have e : goF m inp fuel deep w f at' i vals n = goR m inp fuel deep fuel (stepW fuel w) f b.els.toNat 0 (pickI vals b.elses) n := by
    unfold goF
    rw [goR]
    simp only [if_neg (goF_go h hs), hb, Option.getD_some, if_neg (Nat.not_lt.2 hi), if_neg hk, if_pos hk2]
  rw [e]
  exact goF_gas (h.step hs) (pickI_nonneg hv _) (step_pos h hs)
theorem goF_to {b : Block} (h : Good m fuel w) (hv : ∀ v ∈ vals, 0 ≤ v) (hs : ¬ w.steps = fuel) (hb : f.blocks[at']? = some b) (hi : b.ins.length ≤ i) (hk : ¬ b.kind = 3) (hk2 : ¬ (b.kind = 2 ∧ valAt vals b.ta = 0)) : goF m inp fuel deep w f at' i vals n = goF m inp fuel deep (stepW fuel w) f b.to.toNat 0 (pickI vals b.args) n := by
  have e : goF m inp fuel deep w f at' i vals n = goR m inp fuel deep fuel (stepW fuel w) f b.to.toNat 0 (pickI vals b.args) n := by
    unfold goF
    rw [goR]
    simp only [if_neg (goF_go h hs), hb, Option.getD_some, if_neg (Nat.not_lt.2 hi), if_neg hk, if_neg hk2]
  rw [e]
  exact goF_gas (h.step hs) (pickI_nonneg hv _) (step_pos h hs)
end

theorem goesB_belowB {f : Func} {to : Int} {l : List Int} {n : Int} (h : goesB f to l n = true) : belowB l n = true := by
  have := goesB_parts h
  rw [goesB_in this.1 this.2.1 this.2.2] at h
  exact h
theorem belowB_mem {l : List Int} {n : Int} (h : belowB l n = true) : ∀ v ∈ l, 0 ≤ v ∧ v < n := fun v hv => by
  obtain ⟨j, hj, rfl⟩ := List.getElem_of_mem hv
  exact belowB_at h hj
theorem instOk_op {i : Inst} {n : Int} (h : instOk i n = true) : 1 ≤ i.op ∧ i.op ≤ 16 := by
  unfold instOk at h
  simp only [Bool.and_eq_true, decide_eq_true_eq] at h
  obtain ⟨⟨⟨⟨⟨⟨⟨⟨h1, h2⟩, _⟩, _⟩, _⟩, _⟩, _⟩, _⟩, _⟩ := h
  exact ⟨h1, h2⟩
theorem globI_in {m : Module} (hok : ModOk m) {f : Func} (hf : f ∈ m.funcs) {x : Inst} (hx : x ∈ allIns f) (h : x.op = 12 ∨ x.op = 13) : 0 ≤ globI m x.name ∧ globI m x.name < m.globs.length := by
  rcases leadsG_eq m x.name with ⟨k, hk, h1, h2⟩ | ⟨_, h2⟩
  · unfold globI; rw [h1]; omega
  · obtain ⟨g, hg, hn⟩ := hasG_iff.1 ((missI_false (hok.miss x (mem_insM hf hx))).2 h)
    have := List.find?_eq_none.1 h2 g hg
    simp [hn] at this
theorem goes_there {f : Func} (hfo : funcOk f = true) {to : Int} {l : List Int} {n : Int} (h : goesB f to l n = true) : 0 ≤ to ∧ (∃ b, f.blocks[to.toNat]? = some b ∧ (l.length : Int) = b.params) ∧ l.length ≤ 6 := by
  obtain ⟨h1, h2, h3⟩ := goesB_parts h
  have hlt : to.toNat < f.blocks.length := by omega
  have hb := blockOk_parts (funcOk_block hfo hlt)
  rw [List.getElem?_eq_getElem hlt] at h3
  simp only [Option.getD_some] at h3
  exact ⟨h1, ⟨_, List.getElem?_eq_getElem hlt, h3⟩, by omega⟩
theorem valAt_set (l : List Int) (k : Nat) (v i : Int) : valAt (l.set k v) i = if i.toNat = k ∧ k < l.length then v else valAt l i := by
  unfold valAt
  rw [List.getElem?_set]
  by_cases h : k = i.toNat
  · subst h
    by_cases hk : i.toNat < l.length
    · simp [hk]
    · simp [hk]
  · rw [if_neg h, if_neg (fun h' => h h'.1.symm)]
theorem globI_at {m : Module} {s : ByteArray} (h : ∃ g ∈ m.globs, g.name = s) : ∃ k, ∃ hk : k < m.globs.length, globI m s = k ∧ findG m s = some m.globs[k] ∧ m.globs[k].name = s := by
  rcases leadsG_eq m s with ⟨k, hk, h1, h2⟩ | ⟨_, h2⟩
  · exact ⟨k, hk, h1, h2, by simpa using List.find?_some h2⟩
  · obtain ⟨g, hg, hn⟩ := h
    have := List.find?_eq_none.1 h2 g hg
    simp [hn] at this
/-- No instruction has more arguments than may be handed on. -/
def ArgsOk (m : Module) : Prop := ∀ f ∈ m.funcs, ∀ b ∈ f.blocks, ∀ i ∈ b.ins, i.args.length ≤ 17592186044416
theorem small_ok {m : Module} (h : ModOk m) : Small m where
  len := by have h1 := h.nf; have h2 := h.ng; omega
  ins := fun f hf => Nat.le_trans (allIns_le (h.funcs f hf)) (by omega)
  blks := fun f hf => Nat.le_trans (funcOk_len (h.funcs f hf)) (by omega)
  args := fun f hf b hb i hi => by
    have hbk := List.all_eq_true.1 (funcOk_all (h.funcs f hf)) b hb
    obtain ⟨_, _, _, hins, _⟩ := blockOk_parts hbk
    obtain ⟨k, hk, rfl⟩ := List.getElem_of_mem hi
    have := instOk_args (hins k hk)
    omega
theorem startW_good (m : Module) (fuel : Nat) : Good m fuel (startW m) :=
  ⟨rfl, Nat.zero_le _, Nat.le_refl _, by simp [startW], fun v hv => by
    obtain ⟨g, _, rfl⟩ := List.mem_map.1 hv
    exact Int.natCast_nonneg _, Nat.le_refl _, rfl, rfl⟩

end Go.Proofs.Ytpfokkfomgmibaa
