/- Plain laws on values' other numbers, and on a block put in the place of a call. -/
import Derived.Test.YtndpejmebhcaaaaKG
namespace Go.Proofs.Ytndpejmebhcaaaa

/-- The number that a row tells. -/
def nuAt (nu : List Int) (v : Int) : Int := nu[v.toNat]?.getD 0
/-- Values' other numbers. -/
def turnsL (l nu : List Int) : List Int := l.map (nuAt nu)
@[simp] theorem turnsL_length (l nu : List Int) : (turnsL l nu).length = l.length := by simp [turnsL]
theorem turnsL_get {l nu : List Int} {k : Nat} (h : k < l.length) : (turnsL l nu)[k]?.getD 0 = nu[(l[k]).toNat]?.getD 0 := by simp [turnsL, nuAt, h]

/-- All values of a list are of dom. -/
def AllIn (dom : Int → Prop) (l : List Int) : Prop := ∀ k (h : k < l.length), dom l[k]
/-- Places of a row. -/
def inL (nu : List Int) (v : Int) : Prop := 0 ≤ v ∧ v < nu.length
def upTo (n : Int) (v : Int) : Prop := 0 ≤ v ∧ v < n

/-- An instruction with other numbers. -/
def mapInst (g : Int → Int) (i : Inst) : Inst :=
  { i with a := if isOne i.op then g i.a else i.a, b := if isTwo i.op then g i.b else i.b, args := i.args.map g }

/-- Its values are all of dom. -/
structure InstIn (dom : Int → Prop) (i : Inst) : Prop where
  a : isOne i.op = true → dom i.a
  b : isTwo i.op = true → dom i.b
  args : AllIn dom i.args

theorem AllIn.mono {d d' : Int → Prop} (h : ∀ v, d v → d' v) {l : List Int} (hl : AllIn d l) : AllIn d' l := fun k hk => h _ (hl k hk)
theorem InstIn.mono {d d' : Int → Prop} (h : ∀ v, d v → d' v) {i : Inst} (hi : InstIn d i) : InstIn d' i := ⟨fun e => h _ (hi.a e), fun e => h _ (hi.b e), hi.args.mono h⟩

theorem map_congr_in {d : Int → Prop} {g g' : Int → Int} (h : ∀ v, d v → g v = g' v) {l : List Int} (hl : AllIn d l) : l.map g = l.map g' := by
  apply List.map_congr_left
  intro v hv
  obtain ⟨k, hk, rfl⟩ := List.getElem_of_mem hv
  exact h _ (hl k hk)
theorem mapInst_congr {d : Int → Prop} {g g' : Int → Int} (h : ∀ v, d v → g v = g' v) {i : Inst} (hi : InstIn d i) : mapInst g i = mapInst g' i := by
  unfold mapInst
  have e1 : (if isOne i.op = true then g i.a else i.a) = if isOne i.op = true then g' i.a else i.a := by
    split
    · rename_i e; exact h _ (hi.a e)
    · rfl
  have e2 : (if isTwo i.op = true then g i.b else i.b) = if isTwo i.op = true then g' i.b else i.b := by
    split
    · rename_i e; exact h _ (hi.b e)
    · rfl
  rw [e1, e2, map_congr_in h hi.args]
theorem mapInst_id (i : Inst) : mapInst (fun v => v) i = i := by
  unfold mapInst
  cases i
  simp

/-- Numbers 0 to n less 1, as g tells them. -/
def nuL (g : Int → Int) (n : Nat) : List Int := (List.range n).map fun v : Nat => g (v : Int)
@[simp] theorem nuL_length (g : Int → Int) (n : Nat) : (nuL g n).length = n := by simp [nuL]
theorem nuL_get {g : Int → Int} {n k : Nat} (h : k < n) : (nuL g n)[k]?.getD 0 = g k := by simp [nuL, h]
theorem nuAt_nuL {g : Int → Int} {n : Nat} {v : Int} (h0 : 0 ≤ v) (h : v < n) : nuAt (nuL g n) v = g v := by
  obtain ⟨k, rfl⟩ := Int.eq_ofNat_of_zero_le h0
  unfold nuAt
  rw [show (k : Int).toNat = k from rfl]
  exact nuL_get (by omega)

/-- The number that a value of the leaf has. -/
def inNum (p : Int) (args : List Int) (first v : Int) : Int := if v < p then args[v.toNat]?.getD 0 else first + v - p
/-- The number that a value of the block has. -/
def afterNum (p : Int) (args : List Int) (first ta len v : Int) : Int := if v < first then v else if v = first then inNum p args first ta else v - 1 + len

/-- The instruction at a place. -/
def insAt (b : Block) (at_ : Int) : Inst := b.ins[at_.toNat]?.getD default

/-- May the leaf be put there? -/
def putYes (b leaf : Block) (at_ : Int) : Bool :=
  decide (0 ≤ at_) && decide (at_ < b.ins.length) && decide ((insAt b at_).op = 14) && decide (((insAt b at_).args.length : Int) = leaf.params) && decide (leaf.kind = 3) && decide ((b.ins.length : Int) - 1 + leaf.ins.length ≤ 32)

def inG (b leaf : Block) (at_ : Int) : Int → Int := inNum leaf.params (insAt b at_).args (b.params + at_)
def afterG (b leaf : Block) (at_ : Int) : Int → Int := afterNum leaf.params (insAt b at_).args (b.params + at_) leaf.ta leaf.ins.length

/-- The block with the leaf in the place of the call. -/
def putB (b leaf : Block) (at_ : Int) : Block :=
  { b with
    ins := b.ins.take at_.toNat ++ leaf.ins.map (mapInst (inG b leaf at_)) ++ (b.ins.drop (at_.toNat + 1)).map (mapInst (afterG b leaf at_))
    ta := if b.kind = 1 then b.ta else afterG b leaf at_ b.ta
    args := b.args.map (afterG b leaf at_)
    elses := b.elses.map (afterG b leaf at_) }

/-- What is right with a block, as far as numbers go. -/
structure NumsOk (b : Block) : Prop where
  p0 : 0 ≤ b.params
  p6 : b.params ≤ 6
  n32 : b.ins.length ≤ 32
  ins : ∀ k (h : k < b.ins.length), InstIn (upTo (b.params + k)) b.ins[k]
  args6 : ∀ k (h : k < b.ins.length), b.ins[k].args.length ≤ 6
  ta : ¬ b.kind = 1 → upTo (b.params + b.ins.length) b.ta
  args : AllIn (upTo (b.params + b.ins.length)) b.args
  elses : AllIn (upTo (b.params + b.ins.length)) b.elses
  args17 : b.args.length ≤ 17592186044416
  elses17 : b.elses.length ≤ 17592186044416

end Go.Proofs.Ytndpejmebhcaaaa
