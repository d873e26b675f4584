/- Plain laws on blocks and functions: what is right. -/
import Derived.Test.YtghlfjpmpalpdaaIr
namespace Go.Proofs.Ytghlfjpmpalpdaa

/-- Are all instructions right, the first one among n values, each next one among one more? -/
def insFrom : Int → List Inst → Bool
  | _, [] => true
  | n, i :: r => instOk i n && insFrom (n + 1) r

theorem insFrom_iff : ∀ (n : Int) (l : List Inst), insFrom n l = true ↔ ∀ k (h : k < l.length), instOk l[k] (n + k) = true
  | n, [] => by simp [insFrom]
  | n, i :: r => by
    simp only [insFrom, Bool.and_eq_true, insFrom_iff (n + 1) r]
    constructor
    · rintro ⟨h1, h2⟩ k hk
      cases k with
      | zero => simpa using h1
      | succ k =>
        have := h2 k (by simpa using hk)
        simp only [List.getElem_cons_succ]
        rw [show n + ((k + 1 : Nat) : Int) = n + 1 + (k : Int) by omega]
        exact this
    · intro h
      refine ⟨?_, fun k hk => ?_⟩
      · have := h 0 (by simp)
        rw [show n + ((0 : Nat) : Int) = n by omega] at this
        exact this
      have := h (k + 1) (by simpa using hk)
      simp only [List.getElem_cons_succ] at this
      rw [show n + ((k + 1 : Nat) : Int) = n + 1 + (k : Int) by omega] at this
      exact this

theorem insFrom_no {n : Int} {l : List Inst} {k : Nat} (h : k < l.length) (h1 : instOk l[k] (n + k) = false) : insFrom n l = false := by
  rw [← Bool.not_eq_true, insFrom_iff]
  intro hh
  rw [hh k h] at h1
  cases h1

/-- Is a block's end right? -/
def endB (f : Func) (b : Block) : Bool :=
  if b.kind = 1 then goesB f b.to b.args (b.params + b.ins.length) && b.ta == 0 && b.els == 0 && b.elses.length == 0
  else if b.kind = 2 then (decide (0 ≤ b.ta) && decide (b.ta < b.params + b.ins.length)) && goesB f b.to b.args (b.params + b.ins.length) && goesB f b.els b.elses (b.params + b.ins.length)
  else b.kind == 3 && (decide (0 ≤ b.ta) && decide (b.ta < b.params + b.ins.length)) && b.to == 0 && b.args.length == 0 && b.els == 0 && b.elses.length == 0

/-- Is a block right? -/
def blockOk (f : Func) (b : Block) : Bool :=
  decide (0 ≤ b.params) && decide (b.params ≤ 6) && decide (b.ins.length ≤ 32) && insFrom b.params b.ins && endB f b

theorem blockOk_lo {f : Func} {b : Block} (h : b.params < 0) : blockOk f b = false := by unfold blockOk; rw [decide_eq_false (by omega : ¬ 0 ≤ b.params)]; rfl
theorem blockOk_hi {f : Func} {b : Block} (h : 6 < b.params) : blockOk f b = false := by unfold blockOk; rw [decide_eq_false (by omega : ¬ b.params ≤ 6)]; simp
theorem blockOk_many {f : Func} {b : Block} (h : 32 < b.ins.length) : blockOk f b = false := by unfold blockOk; rw [decide_eq_false (by omega : ¬ b.ins.length ≤ 32)]; simp
theorem blockOk_ins {f : Func} {b : Block} {k : Nat} (h : k < b.ins.length) (h1 : instOk b.ins[k] (b.params + k) = false) : blockOk f b = false := by unfold blockOk; rw [insFrom_no h h1]; simp
theorem blockOk_end {f : Func} {b : Block} (h0 : 0 ≤ b.params) (h6 : b.params ≤ 6) (h32 : b.ins.length ≤ 32) (h : ∀ k (h : k < b.ins.length), instOk b.ins[k] (b.params + k) = true) : blockOk f b = endB f b := by
  unfold blockOk
  rw [decide_eq_true h0, decide_eq_true h6, decide_eq_true h32, (insFrom_iff _ _).2 h]; simp

theorem endB_jump {f : Func} {b : Block} (h : b.kind = 1) : endB f b = (goesB f b.to b.args (b.params + b.ins.length) && b.ta == 0 && b.els == 0 && b.elses.length == 0) := by
  unfold endB; rw [if_pos h]
theorem endB_if {f : Func} {b : Block} (h : b.kind = 2) : endB f b = ((decide (0 ≤ b.ta) && decide (b.ta < b.params + b.ins.length)) && goesB f b.to b.args (b.params + b.ins.length) && goesB f b.els b.elses (b.params + b.ins.length)) := by
  unfold endB; rw [if_neg (by omega), if_pos h]
theorem endB_other {f : Func} {b : Block} (h1 : ¬ b.kind = 1) (h2 : ¬ b.kind = 2) : endB f b = (b.kind == 3 && (decide (0 ≤ b.ta) && decide (b.ta < b.params + b.ins.length)) && b.to == 0 && b.args.length == 0 && b.els == 0 && b.elses.length == 0) := by
  unfold endB; rw [if_neg h1, if_neg h2]

end Go.Proofs.Ytghlfjpmpalpdaa
