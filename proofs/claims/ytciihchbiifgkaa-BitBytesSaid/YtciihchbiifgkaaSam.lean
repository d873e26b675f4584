/- When blocks, functions, globals, modules are the same. -/
import Derived.Test.YtciihchbiifgkaaKF
import Derived.Test.YtciihchbiifgkaaKG
namespace Go.Proofs.Ytciihchbiifgkaa
open Go.RowKit

instance : BEq Block := ⟨sameBlock⟩
instance : LawfulBEq Block where
  eq_of_beq h := (sameBlock_iff _ _).1 h
  rfl := (sameBlock_iff _ _).2 rfl
def sameFunc (x y : Func) : Bool := decide (x.name = y.name) && decide (x.bind = y.bind) && decide (x.params = y.params) && (x.blocks == y.blocks)
theorem sameFunc_iff (x y : Func) : sameFunc x y = true ↔ x = y := by
  unfold sameFunc
  simp only [Bool.and_eq_true, decide_eq_true_eq, beq_iff_eq]
  constructor
  · rintro ⟨⟨⟨h1, h2⟩, h3⟩, h4⟩
    obtain ⟨n, b, p, l⟩ := x
    obtain ⟨n', b', p', l'⟩ := y
    simp only at h1 h2 h3 h4
    subst h1 h2 h3 h4
    rfl
  · rintro rfl; simp
instance : BEq Func := ⟨sameFunc⟩
instance : LawfulBEq Func where
  eq_of_beq h := (sameFunc_iff _ _).1 h
  rfl := (sameFunc_iff _ _).2 rfl
def sameGlob (x y : Glob) : Bool := decide (x.name = y.name) && (decide (x.bind = y.bind) && ((x.here == y.here) && (decide ((x.init : Int) = (y.init : Int)) && true)))
theorem sameGlob_iff (x y : Glob) : sameGlob x y = true ↔ x = y := by
  unfold sameGlob
  simp only [Bool.and_eq_true, decide_eq_true_eq, beq_iff_eq]
  constructor
  · rintro ⟨h1, h2, h3, h4, _⟩
    obtain ⟨n, b, p, l⟩ := x
    obtain ⟨n', b', p', l'⟩ := y
    simp only at h1 h2 h3 h4
    have h4' : l = l' := by omega
    subst h1 h2 h3 h4'
    rfl
  · rintro rfl; simp
instance : BEq Glob := ⟨sameGlob⟩
instance : LawfulBEq Glob where
  eq_of_beq h := (sameGlob_iff _ _).1 h
  rfl := (sameGlob_iff _ _).2 rfl

theorem beq_yes {α : Type} [BEq α] [LawfulBEq α] {xs ys : List α} (hl : xs.length = ys.length) (h : ∀ k (h : k < xs.length) (h' : k < ys.length), (xs[k] == ys[k]) = true) : (xs == ys) = true := by
  rw [beq_iff_eq]
  exact List.ext_getElem hl fun k h1 h2 => eq_of_beq (h k h1 h2)
theorem globs_eq (x y : Glob) : fldsEq [.string, .int .i64, .bool, .int .u64] (globC x) (globC y) = some (x == y) := rfl

def sameMod (x y : Module) : Bool := (x.funcs == y.funcs) && (x.globs == y.globs)
theorem sameMod_iff (x y : Module) : sameMod x y = true ↔ x = y := by
  unfold sameMod
  simp only [Bool.and_eq_true, beq_iff_eq]
  constructor
  · rintro ⟨h1, h2⟩
    cases x; cases y
    simp only at h1 h2
    rw [h1, h2]
  · rintro rfl; exact ⟨rfl, rfl⟩

end Go.Proofs.Ytciihchbiifgkaa
