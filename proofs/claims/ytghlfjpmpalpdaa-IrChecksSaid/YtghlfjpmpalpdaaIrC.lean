/- Plain laws on functions: what is right. -/
import Derived.Test.YtghlfjpmpalpdaaIrB
namespace Go.Proofs.Ytghlfjpmpalpdaa

/-- Is a function right? -/
def funcOk (f : Func) : Bool :=
  nameOk f.name && decide (1 ≤ f.bind) && decide (f.bind ≤ 3) && decide (0 ≤ f.params) && decide (f.params ≤ 6) && decide (f.blocks.length ≤ 16) &&
    (match f.blocks with | [] => f.bind != 1 | b :: _ => b.params == f.params && f.blocks.all (blockOk f))

theorem funcOk_name {f : Func} (h : nameOk f.name = false) : funcOk f = false := by simp [funcOk, h]
theorem funcOk_b1 {f : Func} (h : f.bind < 1) : funcOk f = false := by have : ¬ 1 ≤ f.bind := by omega
                                                                       simp [funcOk, this]
theorem funcOk_b3 {f : Func} (h : 3 < f.bind) : funcOk f = false := by have : ¬ f.bind ≤ 3 := by omega
                                                                       simp [funcOk, this]
theorem funcOk_p0 {f : Func} (h : f.params < 0) : funcOk f = false := by have : ¬ 0 ≤ f.params := by omega
                                                                         simp [funcOk, this]
theorem funcOk_p6 {f : Func} (h : 6 < f.params) : funcOk f = false := by have : ¬ f.params ≤ 6 := by omega
                                                                         simp [funcOk, this]
theorem funcOk_n {f : Func} (h : 16 < f.blocks.length) : funcOk f = false := by have : ¬ f.blocks.length ≤ 16 := by omega
                                                                                simp [funcOk, this]

theorem funcOk_nil {f : Func} (h : nameOk f.name = true) (h1 : 1 ≤ f.bind) (h3 : f.bind ≤ 3) (h0 : 0 ≤ f.params) (h6 : f.params ≤ 6) (hn : f.blocks.length = 0) : funcOk f = (f.bind != 1) := by
  have hb : f.blocks = [] := List.length_eq_zero_iff.1 hn
  unfold funcOk
  rw [h, decide_eq_true h1, decide_eq_true h3, decide_eq_true h0, decide_eq_true h6, hb]
  simp

theorem funcOk_cons {f : Func} (h : nameOk f.name = true) (h1 : 1 ≤ f.bind) (h3 : f.bind ≤ 3) (h0 : 0 ≤ f.params) (h6 : f.params ≤ 6) (h16 : f.blocks.length ≤ 16) (hn : 0 < f.blocks.length) :
    funcOk f = (f.blocks[0].params == f.params && f.blocks.all (blockOk f)) := by
  unfold funcOk
  rw [h, decide_eq_true h1, decide_eq_true h3, decide_eq_true h0, decide_eq_true h6, decide_eq_true h16]
  obtain ⟨name, bind, params, blocks⟩ := f
  cases blocks with
  | nil => simp at hn
  | cons b r => simp

theorem all_no {α : Type} {p : α → Bool} {l : List α} {k : Nat} (h : k < l.length) (h1 : p l[k] = false) : l.all p = false := by
  rw [List.all_eq_false]
  exact ⟨l[k], List.getElem_mem h, by simp [h1]⟩
theorem all_yes {α : Type} {p : α → Bool} {l : List α} (h : ∀ k (h : k < l.length), p l[k] = true) : l.all p = true := by
  rw [List.all_eq_true]
  intro x hx
  obtain ⟨i, hi, rfl⟩ := List.getElem_of_mem hx
  exact h i hi

end Go.Proofs.Ytghlfjpmpalpdaa
