/- Contracts by the evaluator: a module's bytes. -/
import Derived.Test.YtciihchbiifgkaaTK
namespace Go.Proofs.Ytciihchbiifgkaa
open Go.RowKit

def magicB : ByteArray := ⟨#[77, 73, 82, 49]⟩
def encMod (m : Module) : ByteArray := magicB ++ (encL encFunc m.funcs ++ encL encGlob m.globs)
/-- What is asked of a module. -/
structure BitFit (m : Module) : Prop where
  args : ∀ f ∈ m.funcs, ∀ b ∈ f.blocks, ∀ i ∈ b.ins, i.args.length ≤ 17592186044416
  ks : ∀ f ∈ m.funcs, funcK f
  inits : ∀ g ∈ m.globs, globK g

theorem encI_le (n : Int) : (encI n).size ≤ 10 := encI_size n
theorem catM_le {α : Type} (f : α → ByteArray) (c : Nat) : ∀ l : List α, (∀ x ∈ l, (f x).size ≤ c) → (catM f l).size ≤ l.length * c
  | [], _ => by simp [catM]
  | x :: l, h => by
    have h1 := h x (by simp)
    have h2 := catM_le f c l fun y hy => h y (by simp [hy])
    unfold catM at h2 ⊢
    simp only [List.map_cons, catB_cons, ByteArray.size_append, List.length_cons, Nat.add_mul]
    omega
theorem encR_le (l : List Int) (h : l.length ≤ 6) : (encR l).size ≤ 70 := by
  have h1 := encI_le l.length
  have h2 := catB_size encI 10 encI_size l
  unfold encR encIs
  rw [ByteArray.size_append]
  omega
theorem encIs2_le (a b : Int) : (encIs [a, b]).size ≤ 20 := by
  rw [encIs_two, ByteArray.size_append]
  have := encI_le a; have := encI_le b; omega
theorem encT_le (s : ByteArray) (h : s.size ≤ 16) : (encT s).size ≤ 26 := by
  unfold encT
  rw [ByteArray.size_append]
  have := encI_le s.size; omega
theorem nameOk_le {s : ByteArray} (h : nameOk s = true) : s.size ≤ 16 := by
  simp only [nameOk, Bool.and_eq_true, decide_eq_true_eq] at h
  exact h.2
theorem empty_size0 : ByteArray.empty.size = 0 := rfl
theorem encInst_le {x : Inst} {n : Int} (h : instOk x n = true) (hk : instK x) : (encInst x).size ≤ 110 := by
  simp only [instOk, Bool.and_eq_true, decide_eq_true_eq] at h
  obtain ⟨⟨_, h6⟩, hn⟩ := h
  have h0 := encI_le x.op
  have h1 := numB_size hk
  have h2 := encIs2_le x.a x.b
  have h3 := encI_le x.a
  have h4 := encR_le x.args h6
  unfold encInst
  rw [ByteArray.size_append]
  have hname : isNamed x.op = true → (encT x.name).size ≤ 26 := fun h => by
    rw [if_pos h] at hn
    exact encT_le _ (nameOk_le hn)
  split
  · omega
  split
  · omega
  split
  · rename_i h; have := hname (by simp [isNamed, h]); omega
  split
  · rename_i h; have := hname (by simp [isNamed, h]); rw [ByteArray.size_append]; omega
  split
  · rename_i h; have := hname (by simp [isNamed, h]); rw [ByteArray.size_append]; omega
  split
  · omega
  · rw [empty_size0]; omega
theorem goesB_len {f : Func} {to : Int} {args : List Int} {n : Int} (h : goesB f to args n = true) (hf : ∀ b ∈ f.blocks, b.params ≤ 6) : args.length ≤ 6 ∧ 0 ≤ to ∧ to < f.blocks.length := by
  unfold goesB at h
  simp only [Bool.and_eq_true, decide_eq_true_eq] at h
  obtain ⟨⟨h0, h1⟩, _⟩ := h
  split at h1
  · rename_i b hb
    have hm := List.mem_of_getElem? hb
    have := hf b hm
    have h2 : (args.length : Int) = b.params := by simpa using h1
    have h3 := (List.getElem?_eq_some_iff.1 hb).1
    exact ⟨by omega, h0, by omega⟩
  · cases h1
theorem blockOk_params {f : Func} {b : Block} (h : blockOk f b = true) : b.params ≤ 6 ∧ 0 ≤ b.params := by
  simp only [blockOk, Bool.and_eq_true, decide_eq_true_eq] at h
  exact ⟨h.1.1.1.2, h.1.1.1.1⟩
theorem funcOk_blocks {f : Func} (h : funcOk f = true) : (∀ b ∈ f.blocks, blockOk f b = true) ∧ f.blocks.length ≤ 16 ∧ nameOk f.name = true ∧ 1 ≤ f.bind ∧ f.bind ≤ 3 ∧ 0 ≤ f.params ∧ f.params ≤ 6 := by
  simp only [funcOk, Bool.and_eq_true, decide_eq_true_eq] at h
  obtain ⟨⟨⟨⟨⟨⟨h1, h2⟩, h3⟩, h4⟩, h5⟩, h6⟩, h7⟩ := h
  refine ⟨fun b hb => ?_, h6, h1, h2, h3, h4, h5⟩
  split at h7
  · rename_i e; rw [e] at hb; cases hb
  · rename_i e
    simp only [Bool.and_eq_true] at h7
    exact List.all_eq_true.1 h7.2 b hb
theorem encTerm_le {f : Func} {b : Block} (h : endB f b = true) (hf : ∀ b ∈ f.blocks, b.params ≤ 6) : (encTerm b).size ≤ 200 := by
  have h0 := encI_le b.kind
  have h1 := encI_le b.to
  have h2 := encIs2_le b.ta b.to
  have h3 := encI_le b.els
  have h4 := encI_le b.ta
  unfold encTerm
  rw [ByteArray.size_append]
  split
  · rename_i hk
    rw [endB_jump hk] at h
    simp only [Bool.and_eq_true] at h
    have := encR_le _ (goesB_len h.1.1.1 hf).1
    rw [ByteArray.size_append]; omega
  split
  · rename_i hk
    rw [endB_if hk] at h
    simp only [Bool.and_eq_true] at h
    have := encR_le _ (goesB_len h.1.2 hf).1
    have := encR_le _ (goesB_len h.2 hf).1
    rw [ByteArray.size_append, ByteArray.size_append, ByteArray.size_append]; omega
  split
  · omega
  · rw [empty_size0]; omega
theorem encBlock_le {f : Func} {b : Block} (h : blockOk f b = true) (hf : ∀ b ∈ f.blocks, b.params ≤ 6) (hk : blockK b) : (encBlock b).size ≤ 4000 := by
  simp only [blockOk, Bool.and_eq_true, decide_eq_true_eq] at h
  have h0 := encI_le b.params
  have h1 := encTerm_le h.2 hf
  have h2 := encI_le b.ins.length
  have h3 := catM_le encInst 110 b.ins fun x hx => by
    obtain ⟨k, hk', rfl⟩ := List.mem_iff_getElem.1 hx
    exact encInst_le ((insFrom_iff _ _).1 h.1.2 k hk') (hk _ (List.getElem_mem hk'))
  unfold encBlock encL
  rw [ByteArray.size_append, ByteArray.size_append, ByteArray.size_append]
  omega
theorem encFunc_le {f : Func} (h : funcOk f = true) (hk : funcK f) : (encFunc f).size ≤ 70000 := by
  obtain ⟨h1, h2, h3, _⟩ := funcOk_blocks h
  have h4 := encT_le _ (nameOk_le h3)
  have h5 := encIs2_le f.bind f.params
  have h6 := encI_le f.blocks.length
  have h7 := catM_le encBlock 4000 f.blocks fun b hb => encBlock_le (h1 b hb) (fun b hb => (blockOk_params (h1 b hb)).1) (hk b hb)
  unfold encFunc encL
  rw [ByteArray.size_append, ByteArray.size_append, ByteArray.size_append]
  omega
theorem encGlob_le {g : Glob} (h : globOk g = true) (hk : globK g) : (encGlob g).size ≤ 60 := by
  simp only [globOk, Bool.and_eq_true] at h
  have h1 := encT_le _ (nameOk_le h.1.1.1)
  have h2 := encIs2_le g.bind (if g.here = true then 1 else 0)
  have h3 := numB_size hk
  unfold encGlob
  rw [ByteArray.size_append, ByteArray.size_append]
  omega
theorem encMod_le {m : Module} (h : ModOk m) (hk : BitFit m) : (encMod m).size ≤ 2000000 := by
  have h1 := encI_le m.funcs.length
  have h2 := encI_le m.globs.length
  have h3 := catM_le encFunc 70000 m.funcs fun f hf => encFunc_le (h.funcs f hf) (hk.ks f hf)
  have h4 := catM_le encGlob 60 m.globs fun g hg => encGlob_le (h.globs g hg) (hk.inits g hg)
  have := h.nf; have := h.ng
  unfold encMod encL
  rw [ByteArray.size_append, ByteArray.size_append, ByteArray.size_append, ByteArray.size_append, show magicB.size = 4 from rfl]
  omega
def bytesE (m : Module) : Int := if checkE m = 0 then if 65535 < (encMod m).size then 4 else 0 else checkE m
def bytesM (m : Module) : ByteArray := if bytesE m = 0 then encMod m else ⟨#[]⟩

end Go.Proofs.Ytciihchbiifgkaa
