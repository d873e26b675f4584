/- Plain laws: which instructions, blocks are the same. -/
import Derived.Test.YtghlfjpmpalpdaaIrC
namespace Go.Proofs.Ytghlfjpmpalpdaa

def sameInst (x y : Inst) : Bool :=
  (x.args == y.args) && (x.op == y.op) && (x.a == y.a) && (x.b == y.b) && ((x.k : Int) == (y.k : Int)) && (x.name.toList == y.name.toList)

theorem bytes_ext {a b : ByteArray} (h : a.toList = b.toList) : a = b := by
  rw [ByteArray.toList_eq, ByteArray.toList_eq] at h
  cases a with | mk a => cases b with | mk b => simpa using h

theorem sameInst_iff (x y : Inst) : sameInst x y = true ↔ x = y := by
  unfold sameInst
  simp only [Bool.and_eq_true, beq_iff_eq]
  constructor
  · rintro ⟨⟨⟨⟨⟨h1, h2⟩, h3⟩, h4⟩, h5⟩, h6⟩
    obtain ⟨o, a, b, k, n, l⟩ := x
    obtain ⟨o', a', b', k', n', l'⟩ := y
    simp only at h1 h2 h3 h4 h5 h6
    have := bytes_ext h6
    have h5' : k = k' := by omega
    subst h1 h2 h3 h4 h5' this
    rfl
  · rintro rfl; simp

theorem sameInst_self (x : Inst) : sameInst x x = true := (sameInst_iff x x).2 rfl
theorem sameInst_ne {x y : Inst} (h : sameInst x y = false) : ¬ x = y := fun e => by rw [(sameInst_iff x y).2 e] at h; cases h

instance : BEq Inst := ⟨sameInst⟩
instance : LawfulBEq Inst where
  eq_of_beq h := (sameInst_iff _ _).1 h
  rfl := sameInst_self _

/-- Do two blocks agree in all but their instructions? -/
def sameEnds (x y : Block) : Bool :=
  (x.args == y.args) && (x.elses == y.elses) && (x.params == y.params) && ((x.ins.length : Int) == (y.ins.length : Int)) && (x.kind == y.kind) && (x.ta == y.ta) && (x.to == y.to) && (x.els == y.els)

/-- Are two blocks the same? -/
def sameBlock (x y : Block) : Bool := sameEnds x y && (x.ins == y.ins)

theorem sameBlock_iff (x y : Block) : sameBlock x y = true ↔ x = y := by
  unfold sameBlock sameEnds
  simp only [Bool.and_eq_true, beq_iff_eq]
  constructor
  · rintro ⟨⟨⟨⟨⟨⟨⟨⟨h1, h2⟩, h3⟩, h4⟩, h5⟩, h6⟩, h7⟩, h8⟩, h9⟩
    obtain ⟨p, i, k, a, t, r, e, s⟩ := x
    obtain ⟨p', i', k', a', t', r', e', s'⟩ := y
    simp only at h1 h2 h3 h4 h5 h6 h7 h8 h9
    subst h1 h2 h3 h5 h6 h7 h8 h9
    rfl
  · rintro rfl; simp

theorem beq_ins_no {xs ys : List Inst} {k : Nat} (h1 : k < xs.length) (h2 : k < ys.length) (h : sameInst xs[k] ys[k] = false) : (xs == ys) = false := by
  rw [beq_eq_false_iff_ne]
  rintro rfl
  rw [sameInst_self] at h
  cases h

theorem beq_ins_yes {xs ys : List Inst} (hl : xs.length = ys.length) (h : ∀ k (h : k < xs.length) (h' : k < ys.length), sameInst xs[k] ys[k] = true) : (xs == ys) = true := by
  rw [beq_iff_eq]
  exact List.ext_getElem hl (fun k h1 h2 => (sameInst_iff _ _).1 (h k h1 h2))

end Go.Proofs.Ytghlfjpmpalpdaa
