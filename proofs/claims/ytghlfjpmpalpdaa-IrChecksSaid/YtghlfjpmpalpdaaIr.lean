/- Modules as plain data; what the document says of instructions, blocks, functions, modules: plain functions, no program in sight. -/
import Derived.WalkKit
namespace Go.Proofs.Ytghlfjpmpalpdaa

structure Inst where
  op : Int
  a : Int
  b : Int
  k : Nat
  name : ByteArray
  args : List Int

structure Block where
  params : Int
  ins : List Inst
  kind : Int
  ta : Int
  to : Int
  args : List Int
  els : Int
  elses : List Int

structure Func where
  name : ByteArray
  bind : Int
  params : Int
  blocks : List Block

structure Glob where
  name : ByteArray
  bind : Int
  here : Bool
  init : Nat

structure Module where
  funcs : List Func
  globs : List Glob

/-- The values that an instruction uses. -/
def uses (i : Inst) : List Int :=
  if 2 ≤ i.op ∧ i.op ≤ 11 then [i.a, i.b] else if i.op = 13 ∨ i.op = 16 then [i.a] else if i.op = 14 then i.args else []

/-- May a name be? -/
def nameOk (s : ByteArray) : Bool := decide (1 ≤ s.size) && decide (s.size ≤ 16)

/-- Has an instruction a name? -/
def isNamed (op : Int) : Bool := decide (12 ≤ op) && decide (op ≤ 14)

/-- All are 0 to n less 1. -/
def belowB (l : List Int) (n : Int) : Bool := l.all fun v => decide (0 ≤ v) && decide (v < n)

def isTwo (op : Int) : Bool := decide (2 ≤ op) && decide (op ≤ 11)
def isOne (op : Int) : Bool := isTwo op || op == 13 || op == 16

/-- Is an instruction right among so many values? -/
def instOk (i : Inst) (n : Int) : Bool :=
  decide (1 ≤ i.op) && decide (i.op ≤ 16) && belowB (uses i) n && (isOne i.op || i.a == 0) && (isTwo i.op || i.b == 0) && (i.op == 1 || i.k == 0) && (i.op == 14 || i.args.length == 0) && decide (i.args.length ≤ 6) &&
    (if isNamed i.op then nameOk i.name else i.name.size == 0)

theorem isTwo_iff (op : Int) : isTwo op = true ↔ 2 ≤ op ∧ op ≤ 11 := by simp [isTwo]
theorem isOne_iff (op : Int) : isOne op = true ↔ (2 ≤ op ∧ op ≤ 11) ∨ op = 13 ∨ op = 16 := by simp [isOne, isTwo, or_assoc]

theorem inst_no_a {i : Inst} {n : Int} (h : ¬ i.a = 0) (h1 : ¬ (2 ≤ i.op ∧ i.op ≤ 11)) (h2 : ¬ i.op = 13) (h3 : ¬ i.op = 16) : instOk i n = false := by
  have e : isOne i.op = false := by rw [← Bool.not_eq_true, isOne_iff]; omega
  simp [instOk, e, h]
theorem inst_no_b {i : Inst} {n : Int} (h : (i.b != 0) = true) (h1 : ¬ (2 ≤ i.op ∧ i.op ≤ 11)) : instOk i n = false := by
  have e : isTwo i.op = false := by rw [← Bool.not_eq_true, isTwo_iff]; omega
  have h' : ¬ i.b = 0 := by simpa using h
  simp [instOk, e, h']
theorem inst_no_k {i : Inst} {n : Int} (h : ((i.k : Int) != 0) = true) (h1 : ¬ i.op = 1) : instOk i n = false := by
  have h' : ¬ i.k = 0 := by
    have : ¬ (i.k : Int) = 0 := by simpa using h
    omega
  simp [instOk, h1, h']
theorem inst_no_args {i : Inst} {n : Int} (h : 0 < i.args.length) (h1 : ¬ i.op = 14) : instOk i n = false := by
  have h' : ¬ i.args.length = 0 := by omega
  have h'' : ¬ i.args = [] := by intro e; rw [e] at h; simp at h
  simp [instOk, h1, h'']
theorem inst_no_six {i : Inst} {n : Int} (h : (6 : Int) < i.args.length) : instOk i n = false := by
  have h' : ¬ i.args.length ≤ 6 := by omega
  simp [instOk, h']
theorem inst_yes {i : Inst} {n : Int} (h1 : 1 ≤ i.op) (h2 : i.op ≤ 16) (hb : belowB (uses i) n = true) (hA : ((2 ≤ i.op ∧ i.op ≤ 11) ∨ i.op = 13 ∨ i.op = 16) ∨ i.a = 0) (hB : (2 ≤ i.op ∧ i.op ≤ 11) ∨ (i.b != 0) = false)
    (hK : i.op = 1 ∨ ((i.k : Int) != 0) = false) (hN : i.op = 14 ∨ ¬ 0 < i.args.length) (h6 : (i.args.length : Int) ≤ 6) : instOk i n = if isNamed i.op then nameOk i.name else i.name.size == 0 := by
  have eA : (isOne i.op || i.a == 0) = true := by
    rcases hA with h | h
    · rw [(isOne_iff _).2 h]; rfl
    · simp [h]
  have eB : (isTwo i.op || i.b == 0) = true := by
    rcases hB with h | h
    · rw [(isTwo_iff _).2 h]; rfl
    · have : i.b = 0 := by simpa using h
      simp [this]
  have eK : (i.op == 1 || i.k == 0) = true := by
    rcases hK with h | h
    · simp [h]
    · have : (i.k : Int) = 0 := by simpa using h
      have : i.k = 0 := by omega
      simp [this]
  have eN : (i.op == 14 || i.args.length == 0) = true := by
    rcases hN with h | h
    · simp [h]
    · have : i.args.length = 0 := by omega
      simp only [this]; simp
  have e6 : i.args.length ≤ 6 := by omega
  unfold instOk
  rw [eA, eB, eK, eN, hb, decide_eq_true h1, decide_eq_true h2, decide_eq_true e6]
  simp

theorem inst_no_b' {i : Inst} {n : Int} (h : ¬ i.b = 0) (h1 : ¬ (2 ≤ i.op ∧ i.op ≤ 11)) : instOk i n = false := inst_no_b (by simpa using h) h1
theorem inst_no_k' {i : Inst} {n : Int} (h : ¬ (i.k : Int) = 0) (h1 : ¬ i.op = 1) : instOk i n = false := inst_no_k (by simpa using h) h1
theorem inst_yes' {i : Inst} {n : Int} (h1 : 1 ≤ i.op) (h2 : i.op ≤ 16) (hb : belowB (uses i) n = true) (hA : ((2 ≤ i.op ∧ i.op ≤ 11) ∨ i.op = 13 ∨ i.op = 16) ∨ i.a = 0) (hB : (2 ≤ i.op ∧ i.op ≤ 11) ∨ i.b = 0)
    (hK : i.op = 1 ∨ (i.k : Int) = 0) (hN : i.op = 14 ∨ ¬ 0 < i.args.length) (h6 : (i.args.length : Int) ≤ 6) : instOk i n = if isNamed i.op then nameOk i.name else i.name.size == 0 :=
  inst_yes h1 h2 hb hA (hB.elim Or.inl (fun h => Or.inr (by rw [h]; rfl))) (hK.elim Or.inl (fun h => Or.inr (by rw [h]; rfl))) hN h6

/-- May a block go to one, with these? -/
def goesB (f : Func) (to : Int) (args : List Int) (n : Int) : Bool :=
  decide (0 ≤ to) && (match f.blocks[to.toNat]? with | some b => (args.length : Int) == b.params | none => false) && belowB args n

theorem goesB_lo {f : Func} {to : Int} {args : List Int} {n : Int} (h : to < 0) : goesB f to args n = false := by
  unfold goesB; rw [decide_eq_false (by omega)]; rfl
theorem goesB_hi {f : Func} {to : Int} {args : List Int} {n : Int} (h0 : 0 ≤ to) (h : (f.blocks.length : Int) ≤ to) : goesB f to args n = false := by
  unfold goesB
  rw [List.getElem?_eq_none (by omega)]
  simp
theorem goesB_at {f : Func} {k : Nat} {args : List Int} {n : Int} (h : k < f.blocks.length) : goesB f k args n = (((args.length : Int) == f.blocks[k].params) && belowB args n) := by
  unfold goesB
  rw [show (k : Int).toNat = k from rfl, List.getElem?_eq_getElem h]
  simp

end Go.Proofs.Ytghlfjpmpalpdaa
