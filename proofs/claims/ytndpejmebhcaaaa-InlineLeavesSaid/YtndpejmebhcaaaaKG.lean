/- Some texts of one kind, one behind the other. -/
import Derived.WalkKit
import Derived.Test.YtndpejmebhcaaaaKF
/- Modules as plain data; what the document says of instructions, blocks, functions, modules: plain functions, no program in sight. -/
namespace Go.Proofs.Ytndpejmebhcaaaa

structure Inst where
  op : Int
  a : Int
  b : Int
  k : Nat
  name : ByteArray
  args : List Int

structure Block where
  params : Int
  ins : List Inst
  kind : Int
  ta : Int
  to : Int
  args : List Int
  els : Int
  elses : List Int

structure Func where
  name : ByteArray
  bind : Int
  params : Int
  blocks : List Block

structure Glob where
  name : ByteArray
  bind : Int
  here : Bool
  init : Nat

structure Module where
  funcs : List Func
  globs : List Glob

/-- The values that an instruction uses. -/
def uses (i : Inst) : List Int :=
  if 2 ≤ i.op ∧ i.op ≤ 11 then [i.a, i.b] else if i.op = 13 ∨ i.op = 16 then [i.a] else if i.op = 14 then i.args else []

/-- May a name be? -/
def nameOk (s : ByteArray) : Bool := decide (1 ≤ s.size) && decide (s.size ≤ 16)

/-- Has an instruction a name? -/
def isNamed (op : Int) : Bool := decide (12 ≤ op) && decide (op ≤ 14)

/-- All are 0 to n less 1. -/
def belowB (l : List Int) (n : Int) : Bool := l.all fun v => decide (0 ≤ v) && decide (v < n)

def isTwo (op : Int) : Bool := decide (2 ≤ op) && decide (op ≤ 11)
def isOne (op : Int) : Bool := isTwo op || op == 13 || op == 16

/-- Is an instruction right among so many values? -/
def instOk (i : Inst) (n : Int) : Bool :=
  decide (1 ≤ i.op) && decide (i.op ≤ 16) && belowB (uses i) n && (isOne i.op || i.a == 0) && (isTwo i.op || i.b == 0) && (i.op == 1 || i.k == 0) && (i.op == 14 || i.args.length == 0) && decide (i.args.length ≤ 6) &&
    (if isNamed i.op then nameOk i.name else i.name.size == 0)

theorem isTwo_iff (op : Int) : isTwo op = true ↔ 2 ≤ op ∧ op ≤ 11 := by simp [isTwo]
theorem isOne_iff (op : Int) : isOne op = true ↔ (2 ≤ op ∧ op ≤ 11) ∨ op = 13 ∨ op = 16 := by simp [isOne, isTwo, or_assoc]

theorem inst_no_a {i : Inst} {n : Int} (h : ¬ i.a = 0) (h1 : ¬ (2 ≤ i.op ∧ i.op ≤ 11)) (h2 : ¬ i.op = 13) (h3 : ¬ i.op = 16) : instOk i n = false := by
  have e : isOne i.op = false := by rw [← Bool.not_eq_true, isOne_iff]; omega
  simp [instOk, e, h]
theorem inst_no_b {i : Inst} {n : Int} (h : (i.b != 0) = true) (h1 : ¬ (2 ≤ i.op ∧ i.op ≤ 11)) : instOk i n = false := by
  have e : isTwo i.op = false := by rw [← Bool.not_eq_true, isTwo_iff]; omega
  have h' : ¬ i.b = 0 := by simpa using h
  simp [instOk, e, h']
theorem inst_no_k {i : Inst} {n : Int} (h : ((i.k : Int) != 0) = true) (h1 : ¬ i.op = 1) : instOk i n = false := by
  have h' : ¬ i.k = 0 := by
    have : ¬ (i.k : Int) = 0 := by simpa using h
    omega
  simp [instOk, h1, h']
theorem inst_no_args {i : Inst} {n : Int} (h : 0 < i.args.length) (h1 : ¬ i.op = 14) : instOk i n = false := by
  have h' : ¬ i.args.length = 0 := by omega
  have h'' : ¬ i.args = [] := by intro e; rw [e] at h; simp at h
  simp [instOk, h1, h'']
theorem inst_no_six {i : Inst} {n : Int} (h : (6 : Int) < i.args.length) : instOk i n = false := by
  have h' : ¬ i.args.length ≤ 6 := by omega
  simp [instOk, h']
theorem inst_yes {i : Inst} {n : Int} (h1 : 1 ≤ i.op) (h2 : i.op ≤ 16) (hb : belowB (uses i) n = true) (hA : ((2 ≤ i.op ∧ i.op ≤ 11) ∨ i.op = 13 ∨ i.op = 16) ∨ i.a = 0) (hB : (2 ≤ i.op ∧ i.op ≤ 11) ∨ (i.b != 0) = false)
    (hK : i.op = 1 ∨ ((i.k : Int) != 0) = false) (hN : i.op = 14 ∨ ¬ 0 < i.args.length) (h6 : (i.args.length : Int) ≤ 6) : instOk i n = if isNamed i.op then nameOk i.name else i.name.size == 0 := by
  have eA : (isOne i.op || i.a == 0) = true := by
    rcases hA with h | h
    · rw [(isOne_iff _).2 h]; rfl
    · simp [h]
  have eB : (isTwo i.op || i.b == 0) = true := by
    rcases hB with h | h
    · rw [(isTwo_iff _).2 h]; rfl
    · have : i.b = 0 := by simpa using h
      simp [this]
  have eK : (i.op == 1 || i.k == 0) = true := by
    rcases hK with h | h
    · simp [h]
    · have : (i.k : Int) = 0 := by simpa using h
      have : i.k = 0 := by omega
      simp [this]
  have eN : (i.op == 14 || i.args.length == 0) = true := by
    rcases hN with h | h
    · simp [h]
    · have : i.args.length = 0 := by omega
      simp only [this]; simp
  have e6 : i.args.length ≤ 6 := by omega
  unfold instOk
  rw [eA, eB, eK, eN, hb, decide_eq_true h1, decide_eq_true h2, decide_eq_true e6]
  simp

theorem inst_no_b' {i : Inst} {n : Int} (h : ¬ i.b = 0) (h1 : ¬ (2 ≤ i.op ∧ i.op ≤ 11)) : instOk i n = false := inst_no_b (by simpa using h) h1
theorem inst_no_k' {i : Inst} {n : Int} (h : ¬ (i.k : Int) = 0) (h1 : ¬ i.op = 1) : instOk i n = false := inst_no_k (by simpa using h) h1
theorem inst_yes' {i : Inst} {n : Int} (h1 : 1 ≤ i.op) (h2 : i.op ≤ 16) (hb : belowB (uses i) n = true) (hA : ((2 ≤ i.op ∧ i.op ≤ 11) ∨ i.op = 13 ∨ i.op = 16) ∨ i.a = 0) (hB : (2 ≤ i.op ∧ i.op ≤ 11) ∨ i.b = 0)
    (hK : i.op = 1 ∨ (i.k : Int) = 0) (hN : i.op = 14 ∨ ¬ 0 < i.args.length) (h6 : (i.args.length : Int) ≤ 6) : instOk i n = if isNamed i.op then nameOk i.name else i.name.size == 0 :=
  inst_yes h1 h2 hb hA (hB.elim Or.inl (fun h => Or.inr (by rw [h]; rfl))) (hK.elim Or.inl (fun h => Or.inr (by rw [h]; rfl))) hN h6

/-- May a block go to one, with these? -/
def goesB (f : Func) (to : Int) (args : List Int) (n : Int) : Bool :=
  decide (0 ≤ to) && (match f.blocks[to.toNat]? with | some b => (args.length : Int) == b.params | none => false) && belowB args n

theorem goesB_lo {f : Func} {to : Int} {args : List Int} {n : Int} (h : to < 0) : goesB f to args n = false := by
  unfold goesB; rw [decide_eq_false (by omega)]; rfl
theorem goesB_hi {f : Func} {to : Int} {args : List Int} {n : Int} (h0 : 0 ≤ to) (h : (f.blocks.length : Int) ≤ to) : goesB f to args n = false := by
  unfold goesB
  rw [List.getElem?_eq_none (by omega)]
  simp
theorem goesB_at {f : Func} {k : Nat} {args : List Int} {n : Int} (h : k < f.blocks.length) : goesB f k args n = (((args.length : Int) == f.blocks[k].params) && belowB args n) := by
  unfold goesB
  rw [show (k : Int).toNat = k from rfl, List.getElem?_eq_getElem h]
  simp

end Go.Proofs.Ytndpejmebhcaaaa
/- Plain laws on blocks and functions: what is right. -/
namespace Go.Proofs.Ytndpejmebhcaaaa

/-- Are all instructions right, the first one among n values, each next one among one more? -/
def insFrom : Int → List Inst → Bool
  | _, [] => true
  | n, i :: r => instOk i n && insFrom (n + 1) r

theorem insFrom_iff : ∀ (n : Int) (l : List Inst), insFrom n l = true ↔ ∀ k (h : k < l.length), instOk l[k] (n + k) = true
  | n, [] => by simp [insFrom]
  | n, i :: r => by
    simp only [insFrom, Bool.and_eq_true, insFrom_iff (n + 1) r]
    constructor
    · rintro ⟨h1, h2⟩ k hk
      cases k with
      | zero => simpa using h1
      | succ k =>
        have := h2 k (by simpa using hk)
        simp only [List.getElem_cons_succ]
        rw [show n + ((k + 1 : Nat) : Int) = n + 1 + (k : Int) by omega]
        exact this
    · intro h
      refine ⟨?_, fun k hk => ?_⟩
      · have := h 0 (by simp)
        rw [show n + ((0 : Nat) : Int) = n by omega] at this
        exact this
      have := h (k + 1) (by simpa using hk)
      simp only [List.getElem_cons_succ] at this
      rw [show n + ((k + 1 : Nat) : Int) = n + 1 + (k : Int) by omega] at this
      exact this

theorem insFrom_no {n : Int} {l : List Inst} {k : Nat} (h : k < l.length) (h1 : instOk l[k] (n + k) = false) : insFrom n l = false := by
  rw [← Bool.not_eq_true, insFrom_iff]
  intro hh
  rw [hh k h] at h1
  cases h1

/-- Is a block's end right? -/
def endB (f : Func) (b : Block) : Bool :=
  if b.kind = 1 then goesB f b.to b.args (b.params + b.ins.length) && b.ta == 0 && b.els == 0 && b.elses.length == 0
  else if b.kind = 2 then (decide (0 ≤ b.ta) && decide (b.ta < b.params + b.ins.length)) && goesB f b.to b.args (b.params + b.ins.length) && goesB f b.els b.elses (b.params + b.ins.length)
  else b.kind == 3 && (decide (0 ≤ b.ta) && decide (b.ta < b.params + b.ins.length)) && b.to == 0 && b.args.length == 0 && b.els == 0 && b.elses.length == 0

/-- Is a block right? -/
def blockOk (f : Func) (b : Block) : Bool :=
  decide (0 ≤ b.params) && decide (b.params ≤ 6) && decide (b.ins.length ≤ 32) && insFrom b.params b.ins && endB f b

theorem blockOk_lo {f : Func} {b : Block} (h : b.params < 0) : blockOk f b = false := by unfold blockOk; rw [decide_eq_false (by omega : ¬ 0 ≤ b.params)]; rfl
theorem blockOk_hi {f : Func} {b : Block} (h : 6 < b.params) : blockOk f b = false := by unfold blockOk; rw [decide_eq_false (by omega : ¬ b.params ≤ 6)]; simp
theorem blockOk_many {f : Func} {b : Block} (h : 32 < b.ins.length) : blockOk f b = false := by unfold blockOk; rw [decide_eq_false (by omega : ¬ b.ins.length ≤ 32)]; simp
theorem blockOk_ins {f : Func} {b : Block} {k : Nat} (h : k < b.ins.length) (h1 : instOk b.ins[k] (b.params + k) = false) : blockOk f b = false := by unfold blockOk; rw [insFrom_no h h1]; simp
theorem blockOk_end {f : Func} {b : Block} (h0 : 0 ≤ b.params) (h6 : b.params ≤ 6) (h32 : b.ins.length ≤ 32) (h : ∀ k (h : k < b.ins.length), instOk b.ins[k] (b.params + k) = true) : blockOk f b = endB f b := by
  unfold blockOk
  rw [decide_eq_true h0, decide_eq_true h6, decide_eq_true h32, (insFrom_iff _ _).2 h]; simp

theorem endB_jump {f : Func} {b : Block} (h : b.kind = 1) : endB f b = (goesB f b.to b.args (b.params + b.ins.length) && b.ta == 0 && b.els == 0 && b.elses.length == 0) := by
  unfold endB; rw [if_pos h]
theorem endB_if {f : Func} {b : Block} (h : b.kind = 2) : endB f b = ((decide (0 ≤ b.ta) && decide (b.ta < b.params + b.ins.length)) && goesB f b.to b.args (b.params + b.ins.length) && goesB f b.els b.elses (b.params + b.ins.length)) := by
  unfold endB; rw [if_neg (by omega), if_pos h]
theorem endB_other {f : Func} {b : Block} (h1 : ¬ b.kind = 1) (h2 : ¬ b.kind = 2) : endB f b = (b.kind == 3 && (decide (0 ≤ b.ta) && decide (b.ta < b.params + b.ins.length)) && b.to == 0 && b.args.length == 0 && b.els == 0 && b.elses.length == 0) := by
  unfold endB; rw [if_neg h1, if_neg h2]

end Go.Proofs.Ytndpejmebhcaaaa
/- Plain laws on functions: what is right. -/
namespace Go.Proofs.Ytndpejmebhcaaaa

/-- Is a function right? -/
def funcOk (f : Func) : Bool :=
  nameOk f.name && decide (1 ≤ f.bind) && decide (f.bind ≤ 3) && decide (0 ≤ f.params) && decide (f.params ≤ 6) && decide (f.blocks.length ≤ 16) &&
    (match f.blocks with | [] => f.bind != 1 | b :: _ => b.params == f.params && f.blocks.all (blockOk f))

theorem funcOk_name {f : Func} (h : nameOk f.name = false) : funcOk f = false := by simp [funcOk, h]
theorem funcOk_b1 {f : Func} (h : f.bind < 1) : funcOk f = false := by have : ¬ 1 ≤ f.bind := by omega
                                                                       simp [funcOk, this]
theorem funcOk_b3 {f : Func} (h : 3 < f.bind) : funcOk f = false := by have : ¬ f.bind ≤ 3 := by omega
                                                                       simp [funcOk, this]
theorem funcOk_p0 {f : Func} (h : f.params < 0) : funcOk f = false := by have : ¬ 0 ≤ f.params := by omega
                                                                         simp [funcOk, this]
theorem funcOk_p6 {f : Func} (h : 6 < f.params) : funcOk f = false := by have : ¬ f.params ≤ 6 := by omega
                                                                         simp [funcOk, this]
theorem funcOk_n {f : Func} (h : 16 < f.blocks.length) : funcOk f = false := by have : ¬ f.blocks.length ≤ 16 := by omega
                                                                                simp [funcOk, this]

theorem funcOk_nil {f : Func} (h : nameOk f.name = true) (h1 : 1 ≤ f.bind) (h3 : f.bind ≤ 3) (h0 : 0 ≤ f.params) (h6 : f.params ≤ 6) (hn : f.blocks.length = 0) : funcOk f = (f.bind != 1) := by
  have hb : f.blocks = [] := List.length_eq_zero_iff.1 hn
  unfold funcOk
  rw [h, decide_eq_true h1, decide_eq_true h3, decide_eq_true h0, decide_eq_true h6, hb]
  simp

theorem funcOk_cons {f : Func} (h : nameOk f.name = true) (h1 : 1 ≤ f.bind) (h3 : f.bind ≤ 3) (h0 : 0 ≤ f.params) (h6 : f.params ≤ 6) (h16 : f.blocks.length ≤ 16) (hn : 0 < f.blocks.length) :
    funcOk f = (f.blocks[0].params == f.params && f.blocks.all (blockOk f)) := by
  unfold funcOk
  rw [h, decide_eq_true h1, decide_eq_true h3, decide_eq_true h0, decide_eq_true h6, decide_eq_true h16]
  obtain ⟨name, bind, params, blocks⟩ := f
  cases blocks with
  | nil => simp at hn
  | cons b r => simp

theorem all_no {α : Type} {p : α → Bool} {l : List α} {k : Nat} (h : k < l.length) (h1 : p l[k] = false) : l.all p = false := by
  rw [List.all_eq_false]
  exact ⟨l[k], List.getElem_mem h, by simp [h1]⟩
theorem all_yes {α : Type} {p : α → Bool} {l : List α} (h : ∀ k (h : k < l.length), p l[k] = true) : l.all p = true := by
  rw [List.all_eq_true]
  intro x hx
  obtain ⟨i, hi, rfl⟩ := List.getElem_of_mem hx
  exact h i hi

end Go.Proofs.Ytndpejmebhcaaaa
/- The program's own data as the evaluator's, folded; the evaluator's rules for it (printed by program). -/
namespace Go.Proofs.Ytndpejmebhcaaaa
open Go.RowKit

instance : Inhabited Inst := ⟨⟨0, 0, 0, 0, ⟨#[]⟩, []⟩⟩
instance : Inhabited Block := ⟨⟨0, [], 0, 0, 0, [], 0, []⟩⟩
instance : Inhabited Func := ⟨⟨⟨#[]⟩, 0, 0, []⟩⟩
instance : Inhabited Glob := ⟨⟨⟨#[]⟩, 0, false, 0⟩⟩

def intC (x : Int) : List DV := [.int x]
@[simp] theorem intC_length (x : Int) : (intC x).length = 1 := rfl
@[simp] theorem intC_0 (x : Int) : (intC x)[0]? = some (.int x) := rfl
@[simp] theorem intC_cells (x : Int) : (∀ d, d ∈ intC x → d.cell = true) ↔ True := by unfold intC; simp
@[simp] theorem intC_len? (x : Int) : (intC x)[1]? = none := rfl
@[simp] theorem intC_map (x : Int) : (intC x).map AV.d = [.d (.int x)] := rfl

def strC (x : ByteArray) : List DV := [.str x]
@[simp] theorem strC_length (x : ByteArray) : (strC x).length = 1 := rfl
@[simp] theorem strC_0 (x : ByteArray) : (strC x)[0]? = some (.str x) := rfl
@[simp] theorem strC_cells (x : ByteArray) : (∀ d, d ∈ strC x → d.cell = true) ↔ True := by unfold strC; simp
@[simp] theorem strC_len? (x : ByteArray) : (strC x)[1]? = none := rfl
@[simp] theorem strC_map (x : ByteArray) : (strC x).map AV.d = [.d (.str x)] := rfl

@[reducible] def intsD (xs : List Int) : DV := .sl 1 xs.length fun k => intC (xs[k]?.getD 0)
@[simp high] theorem intsD_cell (xs : List Int) : DV.cell (intsD xs) = true := rfl
@[simp high] theorem intsD_isLit (xs : List Int) : DV.isLit (intsD xs) = false := rfl
@[simp high] theorem intsD_lenV (xs : List Int) : lenV (.d (intsD xs)) = .int xs.length := rfl
@[simp high] theorem intsD_lenOk (H : Heap) (s : Bool) (xs : List Int) : lenOk H s (.d (intsD xs)) = (s = false) := rfl
@[simp high] theorem intsD_slLen (xs : List Int) : slLen (.d (intsD xs)) = xs.length := rfl
@[simp high] theorem intsD_idxV (H : Heap) (xs : List Int) (k : IntKind) (i : Int) : idxH H (.d (intsD xs)) (.d (.lit (.int k i))) = .d (.cref (intC (xs[i.toNat]?.getD 0)) 0) := rfl
@[simp high] theorem intsD_idxOk (H : Heap) (n : Nat) (xs : List Int) (k : IntKind) (i : Int) : idxHOk H n (.d (intsD xs)) (.d (.lit (.int k i))) = (1 = n ∧ 0 ≤ i ∧ i < xs.length) := rfl
@[simp high] theorem intsD_moreV (n : Nat) (xs : List Int) : moreV n (.d (intsD xs)) = if 1 = n then some (xs.length, fun k => intC (xs[k]?.getD 0)) else none := rfl
@[simp high] theorem intsD_slcV (xs : List Int) (lo hi : Int) : slcV (.d (intsD xs)) lo hi = .d (.sl 1 (hi.toNat - lo.toNat) fun i => intC (xs[lo.toNat + i]?.getD 0)) := rfl
@[simp high] theorem intsD_slcOk (n : Nat) (xs : List Int) (lo hi : Int) : slcOk n (.d (intsD xs)) lo hi = (1 = n ∧ 0 ≤ lo ∧ lo ≤ hi ∧ hi ≤ xs.length) := rfl
theorem intsD_fold (xs : List Int) : (DV.sl 1 xs.length fun k => intC (xs[k]?.getD 0)) = intsD xs := rfl
theorem intsD_le {len : Nat} {row : Nat → List DV} {xs : List Int} (hl : len = xs.length) (h : ∀ i (hi : i < xs.length), row i = intC xs[i]) : DLe (.sl 1 len row) (intsD xs) := by
  subst hl
  exact DLe.sl fun i hi => by rw [h i hi, List.getElem?_eq_getElem hi]; rfl
theorem intsD_nil : DLe (.lit (.slice none 0 0)) (intsD []) := by
  intro X w v h; cases h; exact .nil _ _

@[reducible] def strsD (xs : List ByteArray) : DV := .sl 1 xs.length fun k => strC (xs[k]?.getD ⟨#[]⟩)
@[simp high] theorem strsD_cell (xs : List ByteArray) : DV.cell (strsD xs) = true := rfl
@[simp high] theorem strsD_isLit (xs : List ByteArray) : DV.isLit (strsD xs) = false := rfl
@[simp high] theorem strsD_lenV (xs : List ByteArray) : lenV (.d (strsD xs)) = .int xs.length := rfl
@[simp high] theorem strsD_lenOk (H : Heap) (s : Bool) (xs : List ByteArray) : lenOk H s (.d (strsD xs)) = (s = false) := rfl
@[simp high] theorem strsD_slLen (xs : List ByteArray) : slLen (.d (strsD xs)) = xs.length := rfl
@[simp high] theorem strsD_idxV (H : Heap) (xs : List ByteArray) (k : IntKind) (i : Int) : idxH H (.d (strsD xs)) (.d (.lit (.int k i))) = .d (.cref (strC (xs[i.toNat]?.getD ⟨#[]⟩)) 0) := rfl
@[simp high] theorem strsD_idxOk (H : Heap) (n : Nat) (xs : List ByteArray) (k : IntKind) (i : Int) : idxHOk H n (.d (strsD xs)) (.d (.lit (.int k i))) = (1 = n ∧ 0 ≤ i ∧ i < xs.length) := rfl
@[simp high] theorem strsD_moreV (n : Nat) (xs : List ByteArray) : moreV n (.d (strsD xs)) = if 1 = n then some (xs.length, fun k => strC (xs[k]?.getD ⟨#[]⟩)) else none := rfl
@[simp high] theorem strsD_slcV (xs : List ByteArray) (lo hi : Int) : slcV (.d (strsD xs)) lo hi = .d (.sl 1 (hi.toNat - lo.toNat) fun i => strC (xs[lo.toNat + i]?.getD ⟨#[]⟩)) := rfl
@[simp high] theorem strsD_slcOk (n : Nat) (xs : List ByteArray) (lo hi : Int) : slcOk n (.d (strsD xs)) lo hi = (1 = n ∧ 0 ≤ lo ∧ lo ≤ hi ∧ hi ≤ xs.length) := rfl
theorem strsD_fold (xs : List ByteArray) : (DV.sl 1 xs.length fun k => strC (xs[k]?.getD ⟨#[]⟩)) = strsD xs := rfl
theorem strsD_le {len : Nat} {row : Nat → List DV} {xs : List ByteArray} (hl : len = xs.length) (h : ∀ i (hi : i < xs.length), row i = strC xs[i]) : DLe (.sl 1 len row) (strsD xs) := by
  subst hl
  exact DLe.sl fun i hi => by rw [h i hi, List.getElem?_eq_getElem hi]; rfl
theorem strsD_nil : DLe (.lit (.slice none 0 0)) (strsD []) := by
  intro X w v h; cases h; exact .nil _ _

def instC (x : Inst) : List DV := [.int x.op, .int x.a, .int x.b, .lit (.int .u64 x.k), .str x.name, intsD x.args]
@[simp] theorem instC_length (x : Inst) : (instC x).length = 6 := rfl
@[simp] theorem instC_0 (x : Inst) : (instC x)[0]? = some (.int x.op) := rfl
@[simp] theorem instC_1 (x : Inst) : (instC x)[1]? = some (.int x.a) := rfl
@[simp] theorem instC_2 (x : Inst) : (instC x)[2]? = some (.int x.b) := rfl
@[simp] theorem instC_3 (x : Inst) : (instC x)[3]? = some (.lit (.int .u64 x.k)) := rfl
@[simp] theorem instC_4 (x : Inst) : (instC x)[4]? = some (.str x.name) := rfl
@[simp] theorem instC_5 (x : Inst) : (instC x)[5]? = some (intsD x.args) := rfl
@[simp] theorem instC_cells (x : Inst) : (∀ d, d ∈ instC x → d.cell = true) ↔ True := by unfold instC; simp
@[simp] theorem instC_len? (x : Inst) : (instC x)[6]? = none := rfl
@[simp] theorem instC_map (x : Inst) : (instC x).map AV.d = [.d (.int x.op), .d (.int x.a), .d (.int x.b), .d (.lit (.int .u64 x.k)), .d (.str x.name), .d (intsD x.args)] := rfl

@[reducible] def insD (xs : List Inst) : DV := .sl 6 xs.length fun k => instC (xs[k]?.getD default)
@[simp high] theorem insD_cell (xs : List Inst) : DV.cell (insD xs) = true := rfl
@[simp high] theorem insD_isLit (xs : List Inst) : DV.isLit (insD xs) = false := rfl
@[simp high] theorem insD_lenV (xs : List Inst) : lenV (.d (insD xs)) = .int xs.length := rfl
@[simp high] theorem insD_lenOk (H : Heap) (s : Bool) (xs : List Inst) : lenOk H s (.d (insD xs)) = (s = false) := rfl
@[simp high] theorem insD_slLen (xs : List Inst) : slLen (.d (insD xs)) = xs.length := rfl
@[simp high] theorem insD_idxV (H : Heap) (xs : List Inst) (k : IntKind) (i : Int) : idxH H (.d (insD xs)) (.d (.lit (.int k i))) = .d (.cref (instC (xs[i.toNat]?.getD default)) 0) := rfl
@[simp high] theorem insD_idxOk (H : Heap) (n : Nat) (xs : List Inst) (k : IntKind) (i : Int) : idxHOk H n (.d (insD xs)) (.d (.lit (.int k i))) = (6 = n ∧ 0 ≤ i ∧ i < xs.length) := rfl
@[simp high] theorem insD_moreV (n : Nat) (xs : List Inst) : moreV n (.d (insD xs)) = if 6 = n then some (xs.length, fun k => instC (xs[k]?.getD default)) else none := rfl
@[simp high] theorem insD_slcV (xs : List Inst) (lo hi : Int) : slcV (.d (insD xs)) lo hi = .d (.sl 6 (hi.toNat - lo.toNat) fun i => instC (xs[lo.toNat + i]?.getD default)) := rfl
@[simp high] theorem insD_slcOk (n : Nat) (xs : List Inst) (lo hi : Int) : slcOk n (.d (insD xs)) lo hi = (6 = n ∧ 0 ≤ lo ∧ lo ≤ hi ∧ hi ≤ xs.length) := rfl
theorem insD_fold (xs : List Inst) : (DV.sl 6 xs.length fun k => instC (xs[k]?.getD default)) = insD xs := rfl
theorem insD_le {len : Nat} {row : Nat → List DV} {xs : List Inst} (hl : len = xs.length) (h : ∀ i (hi : i < xs.length), row i = instC xs[i]) : DLe (.sl 6 len row) (insD xs) := by
  subst hl
  exact DLe.sl fun i hi => by rw [h i hi, List.getElem?_eq_getElem hi]; rfl
theorem insD_nil : DLe (.lit (.slice none 0 0)) (insD []) := by
  intro X w v h; cases h; exact .nil _ _

def blockC (x : Block) : List DV := [.int x.params, insD x.ins, .int x.kind, .int x.ta, .int x.to, intsD x.args, .int x.els, intsD x.elses]
@[simp] theorem blockC_length (x : Block) : (blockC x).length = 8 := rfl
@[simp] theorem blockC_0 (x : Block) : (blockC x)[0]? = some (.int x.params) := rfl
@[simp] theorem blockC_1 (x : Block) : (blockC x)[1]? = some (insD x.ins) := rfl
@[simp] theorem blockC_2 (x : Block) : (blockC x)[2]? = some (.int x.kind) := rfl
@[simp] theorem blockC_3 (x : Block) : (blockC x)[3]? = some (.int x.ta) := rfl
@[simp] theorem blockC_4 (x : Block) : (blockC x)[4]? = some (.int x.to) := rfl
@[simp] theorem blockC_5 (x : Block) : (blockC x)[5]? = some (intsD x.args) := rfl
@[simp] theorem blockC_6 (x : Block) : (blockC x)[6]? = some (.int x.els) := rfl
@[simp] theorem blockC_7 (x : Block) : (blockC x)[7]? = some (intsD x.elses) := rfl
@[simp] theorem blockC_cells (x : Block) : (∀ d, d ∈ blockC x → d.cell = true) ↔ True := by unfold blockC; simp
@[simp] theorem blockC_len? (x : Block) : (blockC x)[8]? = none := rfl
@[simp] theorem blockC_map (x : Block) : (blockC x).map AV.d = [.d (.int x.params), .d (insD x.ins), .d (.int x.kind), .d (.int x.ta), .d (.int x.to), .d (intsD x.args), .d (.int x.els), .d (intsD x.elses)] := rfl

@[reducible] def blocksD (xs : List Block) : DV := .sl 8 xs.length fun k => blockC (xs[k]?.getD default)
@[simp high] theorem blocksD_cell (xs : List Block) : DV.cell (blocksD xs) = true := rfl
@[simp high] theorem blocksD_isLit (xs : List Block) : DV.isLit (blocksD xs) = false := rfl
@[simp high] theorem blocksD_lenV (xs : List Block) : lenV (.d (blocksD xs)) = .int xs.length := rfl
@[simp high] theorem blocksD_lenOk (H : Heap) (s : Bool) (xs : List Block) : lenOk H s (.d (blocksD xs)) = (s = false) := rfl
@[simp high] theorem blocksD_slLen (xs : List Block) : slLen (.d (blocksD xs)) = xs.length := rfl
@[simp high] theorem blocksD_idxV (H : Heap) (xs : List Block) (k : IntKind) (i : Int) : idxH H (.d (blocksD xs)) (.d (.lit (.int k i))) = .d (.cref (blockC (xs[i.toNat]?.getD default)) 0) := rfl
@[simp high] theorem blocksD_idxOk (H : Heap) (n : Nat) (xs : List Block) (k : IntKind) (i : Int) : idxHOk H n (.d (blocksD xs)) (.d (.lit (.int k i))) = (8 = n ∧ 0 ≤ i ∧ i < xs.length) := rfl
@[simp high] theorem blocksD_moreV (n : Nat) (xs : List Block) : moreV n (.d (blocksD xs)) = if 8 = n then some (xs.length, fun k => blockC (xs[k]?.getD default)) else none := rfl
@[simp high] theorem blocksD_slcV (xs : List Block) (lo hi : Int) : slcV (.d (blocksD xs)) lo hi = .d (.sl 8 (hi.toNat - lo.toNat) fun i => blockC (xs[lo.toNat + i]?.getD default)) := rfl
@[simp high] theorem blocksD_slcOk (n : Nat) (xs : List Block) (lo hi : Int) : slcOk n (.d (blocksD xs)) lo hi = (8 = n ∧ 0 ≤ lo ∧ lo ≤ hi ∧ hi ≤ xs.length) := rfl
theorem blocksD_fold (xs : List Block) : (DV.sl 8 xs.length fun k => blockC (xs[k]?.getD default)) = blocksD xs := rfl
theorem blocksD_le {len : Nat} {row : Nat → List DV} {xs : List Block} (hl : len = xs.length) (h : ∀ i (hi : i < xs.length), row i = blockC xs[i]) : DLe (.sl 8 len row) (blocksD xs) := by
  subst hl
  exact DLe.sl fun i hi => by rw [h i hi, List.getElem?_eq_getElem hi]; rfl
theorem blocksD_nil : DLe (.lit (.slice none 0 0)) (blocksD []) := by
  intro X w v h; cases h; exact .nil _ _

def funcC (x : Func) : List DV := [.str x.name, .int x.bind, .int x.params, blocksD x.blocks]
@[simp] theorem funcC_length (x : Func) : (funcC x).length = 4 := rfl
@[simp] theorem funcC_0 (x : Func) : (funcC x)[0]? = some (.str x.name) := rfl
@[simp] theorem funcC_1 (x : Func) : (funcC x)[1]? = some (.int x.bind) := rfl
@[simp] theorem funcC_2 (x : Func) : (funcC x)[2]? = some (.int x.params) := rfl
@[simp] theorem funcC_3 (x : Func) : (funcC x)[3]? = some (blocksD x.blocks) := rfl
@[simp] theorem funcC_cells (x : Func) : (∀ d, d ∈ funcC x → d.cell = true) ↔ True := by unfold funcC; simp
@[simp] theorem funcC_len? (x : Func) : (funcC x)[4]? = none := rfl
@[simp] theorem funcC_map (x : Func) : (funcC x).map AV.d = [.d (.str x.name), .d (.int x.bind), .d (.int x.params), .d (blocksD x.blocks)] := rfl

@[reducible] def funcsD (xs : List Func) : DV := .sl 4 xs.length fun k => funcC (xs[k]?.getD default)
@[simp high] theorem funcsD_cell (xs : List Func) : DV.cell (funcsD xs) = true := rfl
@[simp high] theorem funcsD_isLit (xs : List Func) : DV.isLit (funcsD xs) = false := rfl
@[simp high] theorem funcsD_lenV (xs : List Func) : lenV (.d (funcsD xs)) = .int xs.length := rfl
@[simp high] theorem funcsD_lenOk (H : Heap) (s : Bool) (xs : List Func) : lenOk H s (.d (funcsD xs)) = (s = false) := rfl
@[simp high] theorem funcsD_slLen (xs : List Func) : slLen (.d (funcsD xs)) = xs.length := rfl
@[simp high] theorem funcsD_idxV (H : Heap) (xs : List Func) (k : IntKind) (i : Int) : idxH H (.d (funcsD xs)) (.d (.lit (.int k i))) = .d (.cref (funcC (xs[i.toNat]?.getD default)) 0) := rfl
@[simp high] theorem funcsD_idxOk (H : Heap) (n : Nat) (xs : List Func) (k : IntKind) (i : Int) : idxHOk H n (.d (funcsD xs)) (.d (.lit (.int k i))) = (4 = n ∧ 0 ≤ i ∧ i < xs.length) := rfl
@[simp high] theorem funcsD_moreV (n : Nat) (xs : List Func) : moreV n (.d (funcsD xs)) = if 4 = n then some (xs.length, fun k => funcC (xs[k]?.getD default)) else none := rfl
@[simp high] theorem funcsD_slcV (xs : List Func) (lo hi : Int) : slcV (.d (funcsD xs)) lo hi = .d (.sl 4 (hi.toNat - lo.toNat) fun i => funcC (xs[lo.toNat + i]?.getD default)) := rfl
@[simp high] theorem funcsD_slcOk (n : Nat) (xs : List Func) (lo hi : Int) : slcOk n (.d (funcsD xs)) lo hi = (4 = n ∧ 0 ≤ lo ∧ lo ≤ hi ∧ hi ≤ xs.length) := rfl
theorem funcsD_fold (xs : List Func) : (DV.sl 4 xs.length fun k => funcC (xs[k]?.getD default)) = funcsD xs := rfl
theorem funcsD_le {len : Nat} {row : Nat → List DV} {xs : List Func} (hl : len = xs.length) (h : ∀ i (hi : i < xs.length), row i = funcC xs[i]) : DLe (.sl 4 len row) (funcsD xs) := by
  subst hl
  exact DLe.sl fun i hi => by rw [h i hi, List.getElem?_eq_getElem hi]; rfl
theorem funcsD_nil : DLe (.lit (.slice none 0 0)) (funcsD []) := by
  intro X w v h; cases h; exact .nil _ _

def globC (x : Glob) : List DV := [.str x.name, .int x.bind, .bool x.here, .lit (.int .u64 x.init)]
@[simp] theorem globC_length (x : Glob) : (globC x).length = 4 := rfl
@[simp] theorem globC_0 (x : Glob) : (globC x)[0]? = some (.str x.name) := rfl
@[simp] theorem globC_1 (x : Glob) : (globC x)[1]? = some (.int x.bind) := rfl
@[simp] theorem globC_2 (x : Glob) : (globC x)[2]? = some (.bool x.here) := rfl
@[simp] theorem globC_3 (x : Glob) : (globC x)[3]? = some (.lit (.int .u64 x.init)) := rfl
@[simp] theorem globC_cells (x : Glob) : (∀ d, d ∈ globC x → d.cell = true) ↔ True := by unfold globC; simp
@[simp] theorem globC_len? (x : Glob) : (globC x)[4]? = none := rfl
@[simp] theorem globC_map (x : Glob) : (globC x).map AV.d = [.d (.str x.name), .d (.int x.bind), .d (.bool x.here), .d (.lit (.int .u64 x.init))] := rfl

@[reducible] def globsD (xs : List Glob) : DV := .sl 4 xs.length fun k => globC (xs[k]?.getD default)
@[simp high] theorem globsD_cell (xs : List Glob) : DV.cell (globsD xs) = true := rfl
@[simp high] theorem globsD_isLit (xs : List Glob) : DV.isLit (globsD xs) = false := rfl
@[simp high] theorem globsD_lenV (xs : List Glob) : lenV (.d (globsD xs)) = .int xs.length := rfl
@[simp high] theorem globsD_lenOk (H : Heap) (s : Bool) (xs : List Glob) : lenOk H s (.d (globsD xs)) = (s = false) := rfl
@[simp high] theorem globsD_slLen (xs : List Glob) : slLen (.d (globsD xs)) = xs.length := rfl
@[simp high] theorem globsD_idxV (H : Heap) (xs : List Glob) (k : IntKind) (i : Int) : idxH H (.d (globsD xs)) (.d (.lit (.int k i))) = .d (.cref (globC (xs[i.toNat]?.getD default)) 0) := rfl
@[simp high] theorem globsD_idxOk (H : Heap) (n : Nat) (xs : List Glob) (k : IntKind) (i : Int) : idxHOk H n (.d (globsD xs)) (.d (.lit (.int k i))) = (4 = n ∧ 0 ≤ i ∧ i < xs.length) := rfl
@[simp high] theorem globsD_moreV (n : Nat) (xs : List Glob) : moreV n (.d (globsD xs)) = if 4 = n then some (xs.length, fun k => globC (xs[k]?.getD default)) else none := rfl
@[simp high] theorem globsD_slcV (xs : List Glob) (lo hi : Int) : slcV (.d (globsD xs)) lo hi = .d (.sl 4 (hi.toNat - lo.toNat) fun i => globC (xs[lo.toNat + i]?.getD default)) := rfl
@[simp high] theorem globsD_slcOk (n : Nat) (xs : List Glob) (lo hi : Int) : slcOk n (.d (globsD xs)) lo hi = (4 = n ∧ 0 ≤ lo ∧ lo ≤ hi ∧ hi ≤ xs.length) := rfl
theorem globsD_fold (xs : List Glob) : (DV.sl 4 xs.length fun k => globC (xs[k]?.getD default)) = globsD xs := rfl
theorem globsD_le {len : Nat} {row : Nat → List DV} {xs : List Glob} (hl : len = xs.length) (h : ∀ i (hi : i < xs.length), row i = globC xs[i]) : DLe (.sl 4 len row) (globsD xs) := by
  subst hl
  exact DLe.sl fun i hi => by rw [h i hi, List.getElem?_eq_getElem hi]; rfl
theorem globsD_nil : DLe (.lit (.slice none 0 0)) (globsD []) := by
  intro X w v h; cases h; exact .nil _ _

def moduleC (x : Module) : List DV := [funcsD x.funcs, globsD x.globs]
@[simp] theorem moduleC_length (x : Module) : (moduleC x).length = 2 := rfl
@[simp] theorem moduleC_0 (x : Module) : (moduleC x)[0]? = some (funcsD x.funcs) := rfl
@[simp] theorem moduleC_1 (x : Module) : (moduleC x)[1]? = some (globsD x.globs) := rfl
@[simp] theorem moduleC_cells (x : Module) : (∀ d, d ∈ moduleC x → d.cell = true) ↔ True := by unfold moduleC; simp
@[simp] theorem moduleC_len? (x : Module) : (moduleC x)[2]? = none := rfl
@[simp] theorem moduleC_map (x : Module) : (moduleC x).map AV.d = [.d (funcsD x.funcs), .d (globsD x.globs)] := rfl

/-- A block's end. -/
def termC (x : Block) : List DV := [.int x.kind, .int x.ta, .int x.to, intsD x.args, .int x.els, intsD x.elses]
@[simp] theorem blockC_term (x : Block) : ((blockC x).drop 2).take 6 = termC x := rfl
@[simp] theorem termC_cells (x : Block) : (∀ d, d ∈ termC x → d.cell = true) ↔ True := by unfold termC; simp
@[simp] theorem termC_length (x : Block) : (termC x).length = 6 := rfl
@[simp] theorem termC_0 (x : Block) : (termC x)[0]? = some (.int x.kind) := rfl
@[simp] theorem termC_1 (x : Block) : (termC x)[1]? = some (.int x.ta) := rfl
@[simp] theorem termC_2 (x : Block) : (termC x)[2]? = some (.int x.to) := rfl
@[simp] theorem termC_3 (x : Block) : (termC x)[3]? = some (intsD x.args) := rfl
@[simp] theorem termC_4 (x : Block) : (termC x)[4]? = some (.int x.els) := rfl
@[simp] theorem termC_5 (x : Block) : (termC x)[5]? = some (intsD x.elses) := rfl
@[simp] theorem termC_map (x : Block) : (termC x).map AV.d = [.int x.kind, .int x.ta, .int x.to, .d (intsD x.args), .int x.els, .d (intsD x.elses)] := rfl
@[simp] theorem instC_all (x : Inst) : (instC x).take 6 = instC x := rfl
@[simp] theorem blockC_all (x : Block) : (blockC x).take 8 = blockC x := rfl
@[simp] theorem funcC_all (x : Func) : (funcC x).take 4 = funcC x := rfl
@[simp] theorem globC_all (x : Glob) : (globC x).take 4 = globC x := rfl
@[simp] theorem moduleC_all (x : Module) : (moduleC x).take 2 = moduleC x := rfl
@[simp] theorem termC_all (x : Block) : (termC x).take 6 = termC x := rfl

theorem sl_len {X : Nat → Nat → Prop} {w : World} {v : Value} {n len : Nat} {row : Nat → List DV} (h : DRep X w v (.sl n len row)) : len ≤ maxLen := by
  cases h with
  | nil => exact Nat.zero_le _
  | emp => exact Nat.zero_le _
  | sl b off cap n len row vals h1 h2 => exact Nat.le_trans h1 h2

theorem wrap_nat {n : Nat} (h : n ≤ 9223372036854775807) : IntKind.i64.wrap (n : Int) = n := by
  rw [IntWalk.i64_in _ (by omega)]
theorem wrap_in {n : Int} (h : -9223372036854775808 ≤ n ∧ n ≤ 9223372036854775807) : IntKind.i64.wrap n = n := IntWalk.i64_in _ h
theorem wrap_succ {k : Nat} (h : k < 9223372036854775807) : IntKind.i64.wrap ((k : Int) + 1) = ((k + 1 : Nat) : Int) := by
  rw [IntWalk.i64_in _ (by omega)]; simp
theorem DLe_lit {u v : Value} (h : u = v) : DLe (.lit u) (.lit v) := DLe.of_eq (by rw [h])
theorem DLe_bool {b c : Bool} (h : b = c) : DLe (.lit (.bool b)) (.lit (.bool c)) := DLe.of_eq (by rw [h])
theorem DLe_int {a b : Int} (h : a = b) : DLe (.lit (.int .i64 a)) (.lit (.int .i64 b)) := DLe.of_eq (by rw [h])
theorem len1 {P : Prop} {n len : Nat} {row : Nat → List DV} {as' : List DV} (hx : ∃ X w us, DReps X w us (.sl n len row :: as')) (h : len ≤ 9223372036854775807 → P) : P := by
  obtain ⟨X, w, us, h0⟩ := hx
  obtain ⟨v, vs, _, h1, _⟩ := h0.uncons
  have := sl_len h1
  exact h (by simpa [maxLen] using this)
theorem lenAgg {cs : List DV} {as' : List DV} (hx : ∃ X w us, DReps X w us (.agg cs :: as')) {n len : Nat} {row : Nat → List DV} (i : Nat) (hc : cs[i]? = some (.sl n len row)) : len ≤ 9223372036854775807 := by
  obtain ⟨X, w, us, h0⟩ := hx
  obtain ⟨v, vs, _, h1, _⟩ := h0.uncons
  obtain ⟨hi, he⟩ := List.getElem?_eq_some_iff.1 hc
  cases h1 with
  | agg us' _ hl hr =>
    have h2 := hr i (by omega) hi
    rw [he] at h2
    simpa [maxLen] using sl_len h2
@[simp] theorem appRow_zero (f g : Nat → List DV) : appRow 0 f g = g := by funext i; simp [appRow]
@[simp] theorem DLe_self (x : DV) : DLe x x := DLe.refl x
theorem str_nil (s : ByteArray) : decide (s = ⟨#[]⟩) = (s.size == 0) := by
  rw [Bool.eq_iff_iff]
  simp only [decide_eq_true_eq, beq_iff_eq]
  constructor
  · rintro rfl; rfl
  · intro h
    apply ByteArray.ext
    exact Array.eq_empty_of_size_eq_zero h
attribute [simp] SLe TLe AVLe AVLe0 capsLe HLe hof OLe cellsLe rowsOf noR

end Go.Proofs.Ytndpejmebhcaaaa
/- Plain laws: which instructions, blocks are the same. -/
namespace Go.Proofs.Ytndpejmebhcaaaa

def sameInst (x y : Inst) : Bool :=
  (x.args == y.args) && (x.op == y.op) && (x.a == y.a) && (x.b == y.b) && ((x.k : Int) == (y.k : Int)) && (x.name.toList == y.name.toList)

theorem bytes_ext {a b : ByteArray} (h : a.toList = b.toList) : a = b := by
  rw [ByteArray.toList_eq, ByteArray.toList_eq] at h
  cases a with | mk a => cases b with | mk b => simpa using h

theorem sameInst_iff (x y : Inst) : sameInst x y = true ↔ x = y := by
  unfold sameInst
  simp only [Bool.and_eq_true, beq_iff_eq]
  constructor
  · rintro ⟨⟨⟨⟨⟨h1, h2⟩, h3⟩, h4⟩, h5⟩, h6⟩
    obtain ⟨o, a, b, k, n, l⟩ := x
    obtain ⟨o', a', b', k', n', l'⟩ := y
    simp only at h1 h2 h3 h4 h5 h6
    have := bytes_ext h6
    have h5' : k = k' := by omega
    subst h1 h2 h3 h4 h5' this
    rfl
  · rintro rfl; simp

theorem sameInst_self (x : Inst) : sameInst x x = true := (sameInst_iff x x).2 rfl
theorem sameInst_ne {x y : Inst} (h : sameInst x y = false) : ¬ x = y := fun e => by rw [(sameInst_iff x y).2 e] at h; cases h

instance : BEq Inst := ⟨sameInst⟩
instance : LawfulBEq Inst where
  eq_of_beq h := (sameInst_iff _ _).1 h
  rfl := sameInst_self _

/-- Do two blocks agree in all but their instructions? -/
def sameEnds (x y : Block) : Bool :=
  (x.args == y.args) && (x.elses == y.elses) && (x.params == y.params) && ((x.ins.length : Int) == (y.ins.length : Int)) && (x.kind == y.kind) && (x.ta == y.ta) && (x.to == y.to) && (x.els == y.els)

/-- Are two blocks the same? -/
def sameBlock (x y : Block) : Bool := sameEnds x y && (x.ins == y.ins)

theorem sameBlock_iff (x y : Block) : sameBlock x y = true ↔ x = y := by
  unfold sameBlock sameEnds
  simp only [Bool.and_eq_true, beq_iff_eq]
  constructor
  · rintro ⟨⟨⟨⟨⟨⟨⟨⟨h1, h2⟩, h3⟩, h4⟩, h5⟩, h6⟩, h7⟩, h8⟩, h9⟩
    obtain ⟨p, i, k, a, t, r, e, s⟩ := x
    obtain ⟨p', i', k', a', t', r', e', s'⟩ := y
    simp only at h1 h2 h3 h4 h5 h6 h7 h8 h9
    subst h1 h2 h3 h5 h6 h7 h8 h9
    rfl
  · rintro rfl; simp

theorem beq_ins_no {xs ys : List Inst} {k : Nat} (h1 : k < xs.length) (h2 : k < ys.length) (h : sameInst xs[k] ys[k] = false) : (xs == ys) = false := by
  rw [beq_eq_false_iff_ne]
  rintro rfl
  rw [sameInst_self] at h
  cases h

theorem beq_ins_yes {xs ys : List Inst} (hl : xs.length = ys.length) (h : ∀ k (h : k < xs.length) (h' : k < ys.length), sameInst xs[k] ys[k] = true) : (xs == ys) = true := by
  rw [beq_iff_eq]
  exact List.ext_getElem hl (fun k h1 h2 => (sameInst_iff _ _).1 (h k h1 h2))

end Go.Proofs.Ytndpejmebhcaaaa
