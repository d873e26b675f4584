/- Files and rows of modules as the evaluator's data (printed by program); what the document says of them: plain functions. -/
import Derived.Test.YtkpjokhiobclbaaP0
namespace Go.Proofs.Ytkpjokhiobclbaa
open Go.RowKit

structure File where
  archive : Bool
  mods : List Module
instance : Inhabited Module := ⟨⟨[], []⟩⟩
instance : Inhabited File := ⟨⟨false, []⟩⟩

@[reducible] def modsD (xs : List Module) : DV := .sl 2 xs.length fun k => moduleC (xs[k]?.getD default)
@[simp high] theorem modsD_cell (xs : List Module) : DV.cell (modsD xs) = true := rfl
@[simp high] theorem modsD_isLit (xs : List Module) : DV.isLit (modsD xs) = false := rfl
@[simp high] theorem modsD_lenV (xs : List Module) : lenV (.d (modsD xs)) = .int xs.length := rfl
@[simp high] theorem modsD_lenOk (H : Heap) (s : Bool) (xs : List Module) : lenOk H s (.d (modsD xs)) = (s = false) := rfl
@[simp high] theorem modsD_slLen (xs : List Module) : slLen (.d (modsD xs)) = xs.length := rfl
@[simp high] theorem modsD_idxV (H : Heap) (xs : List Module) (k : IntKind) (i : Int) : idxH H (.d (modsD xs)) (.d (.lit (.int k i))) = .d (.cref (moduleC (xs[i.toNat]?.getD default)) 0) := rfl
@[simp high] theorem modsD_idxOk (H : Heap) (n : Nat) (xs : List Module) (k : IntKind) (i : Int) : idxHOk H n (.d (modsD xs)) (.d (.lit (.int k i))) = (2 = n ∧ 0 ≤ i ∧ i < xs.length) := rfl
@[simp high] theorem modsD_moreV (n : Nat) (xs : List Module) : moreV n (.d (modsD xs)) = if 2 = n then some (xs.length, fun k => moduleC (xs[k]?.getD default)) else none := rfl
@[simp high] theorem modsD_slcV (xs : List Module) (lo hi : Int) : slcV (.d (modsD xs)) lo hi = .d (.sl 2 (hi.toNat - lo.toNat) fun i => moduleC (xs[lo.toNat + i]?.getD default)) := rfl
@[simp high] theorem modsD_slcOk (n : Nat) (xs : List Module) (lo hi : Int) : slcOk n (.d (modsD xs)) lo hi = (2 = n ∧ 0 ≤ lo ∧ lo ≤ hi ∧ hi ≤ xs.length) := rfl
theorem modsD_fold (xs : List Module) : (DV.sl 2 xs.length fun k => moduleC (xs[k]?.getD default)) = modsD xs := rfl
theorem modsD_le {len : Nat} {row : Nat → List DV} {xs : List Module} (hl : len = xs.length) (h : ∀ i (hi : i < xs.length), row i = moduleC xs[i]) : DLe (.sl 2 len row) (modsD xs) := by
  subst hl
  exact DLe.sl fun i hi => by rw [h i hi, List.getElem?_eq_getElem hi]; rfl
theorem modsD_nil : DLe (.lit (.slice none 0 0)) (modsD []) := by
  intro X w v h; cases h; exact .nil _ _

def fileC (x : File) : List DV := [.bool x.archive, modsD x.mods]
@[simp] theorem fileC_length (x : File) : (fileC x).length = 2 := rfl
@[simp] theorem fileC_0 (x : File) : (fileC x)[0]? = some (.bool x.archive) := rfl
@[simp] theorem fileC_1 (x : File) : (fileC x)[1]? = some (modsD x.mods) := rfl
@[simp] theorem fileC_cells (x : File) : (∀ d, d ∈ fileC x → d.cell = true) ↔ True := by unfold fileC; simp
@[simp] theorem fileC_len? (x : File) : (fileC x)[2]? = none := rfl
@[simp] theorem fileC_map (x : File) : (fileC x).map AV.d = [.d (.bool x.archive), .d (modsD x.mods)] := rfl

@[simp] theorem fileC_all (x : File) : (fileC x).take 2 = fileC x := rfl

@[reducible] def filesD (xs : List File) : DV := .sl 2 xs.length fun k => fileC (xs[k]?.getD default)
@[simp high] theorem filesD_cell (xs : List File) : DV.cell (filesD xs) = true := rfl
@[simp high] theorem filesD_isLit (xs : List File) : DV.isLit (filesD xs) = false := rfl
@[simp high] theorem filesD_lenV (xs : List File) : lenV (.d (filesD xs)) = .int xs.length := rfl
@[simp high] theorem filesD_lenOk (H : Heap) (s : Bool) (xs : List File) : lenOk H s (.d (filesD xs)) = (s = false) := rfl
@[simp high] theorem filesD_slLen (xs : List File) : slLen (.d (filesD xs)) = xs.length := rfl
@[simp high] theorem filesD_idxV (H : Heap) (xs : List File) (k : IntKind) (i : Int) : idxH H (.d (filesD xs)) (.d (.lit (.int k i))) = .d (.cref (fileC (xs[i.toNat]?.getD default)) 0) := rfl
@[simp high] theorem filesD_idxOk (H : Heap) (n : Nat) (xs : List File) (k : IntKind) (i : Int) : idxHOk H n (.d (filesD xs)) (.d (.lit (.int k i))) = (2 = n ∧ 0 ≤ i ∧ i < xs.length) := rfl
@[simp high] theorem filesD_moreV (n : Nat) (xs : List File) : moreV n (.d (filesD xs)) = if 2 = n then some (xs.length, fun k => fileC (xs[k]?.getD default)) else none := rfl
@[simp high] theorem filesD_slcV (xs : List File) (lo hi : Int) : slcV (.d (filesD xs)) lo hi = .d (.sl 2 (hi.toNat - lo.toNat) fun i => fileC (xs[lo.toNat + i]?.getD default)) := rfl
@[simp high] theorem filesD_slcOk (n : Nat) (xs : List File) (lo hi : Int) : slcOk n (.d (filesD xs)) lo hi = (2 = n ∧ 0 ≤ lo ∧ lo ≤ hi ∧ hi ≤ xs.length) := rfl
theorem filesD_fold (xs : List File) : (DV.sl 2 xs.length fun k => fileC (xs[k]?.getD default)) = filesD xs := rfl
theorem filesD_le {len : Nat} {row : Nat → List DV} {xs : List File} (hl : len = xs.length) (h : ∀ i (hi : i < xs.length), row i = fileC xs[i]) : DLe (.sl 2 len row) (filesD xs) := by
  subst hl
  exact DLe.sl fun i hi => by rw [h i hi, List.getElem?_eq_getElem hi]; rfl
theorem filesD_nil : DLe (.lit (.slice none 0 0)) (filesD []) := by
  intro X w v h; cases h; exact .nil _ _


/-- The names that a module defines, and wants. -/
def defF (f : Func) : Bool := decide (0 < f.blocks.length) && !decide (f.bind = 1)
def defG (g : Glob) : Bool := g.here && !decide (g.bind = 1)
def wantF (f : Func) : Bool := decide (f.blocks.length = 0) && decide (f.bind = 2)
def wantG (g : Glob) : Bool := !g.here && decide (g.bind = 2)
def namesF (p : Func → Bool) (xs : List Func) : List ByteArray := (xs.filter p).map (·.name)
def namesG (p : Glob → Bool) (xs : List Glob) : List ByteArray := (xs.filter p).map (·.name)
def definesM (m : Module) : List ByteArray := namesF defF m.funcs ++ namesG defG m.globs
def wantsM (m : Module) : List ByteArray := namesF wantF m.funcs ++ namesG wantG m.globs
@[simp] theorem namesF_nil (p : Func → Bool) : namesF p [] = [] := rfl
@[simp] theorem namesG_nil (p : Glob → Bool) : namesG p [] = [] := rfl
theorem namesF_succ {p : Func → Bool} {xs : List Func} {k : Nat} (hk : k < xs.length) : namesF p (xs.take (k + 1)) = if p xs[k] = true then namesF p (xs.take k) ++ [xs[k].name] else namesF p (xs.take k) := by
  unfold namesF
  rw [List.take_succ_eq_append_getElem hk, List.filter_append]
  cases h : p xs[k] <;> simp [h]
theorem namesG_succ {p : Glob → Bool} {xs : List Glob} {k : Nat} (hk : k < xs.length) : namesG p (xs.take (k + 1)) = if p xs[k] = true then namesG p (xs.take k) ++ [xs[k].name] else namesG p (xs.take k) := by
  unfold namesG
  rw [List.take_succ_eq_append_getElem hk, List.filter_append]
  cases h : p xs[k] <;> simp [h]
theorem namesF_length (p : Func → Bool) (xs : List Func) : (namesF p xs).length ≤ xs.length := by
  unfold namesF; rw [List.length_map]; exact List.length_filter_le _ _
theorem namesG_length (p : Glob → Bool) (xs : List Glob) : (namesG p xs).length ≤ xs.length := by
  unfold namesG; rw [List.length_map]; exact List.length_filter_le _ _
theorem namesF_take (p : Func → Bool) (xs : List Func) (k : Nat) : (namesF p (xs.take k)).length ≤ k := by
  have := namesF_length p (xs.take k); simp at this; omega
theorem namesG_take (p : Glob → Bool) (xs : List Glob) (k : Nat) : (namesG p (xs.take k)).length ≤ k := by
  have := namesG_length p (xs.take k); simp at this; omega
theorem appRow_strs' {l l' : List ByteArray} {i : Nat} (h : i < l.length + l'.length) : appRow l.length (fun i => strC (l[i]?.getD ⟨#[]⟩)) (fun i => strC (l'[i]?.getD ⟨#[]⟩)) i = strC ((l ++ l')[i]?.getD ⟨#[]⟩) := by
  unfold appRow
  split
  · rename_i h1
    rw [List.getElem?_append_left h1]
  · rename_i h1
    rw [List.getElem?_append_right (by omega)]

/-- What is asked of a module, of files: no slice is longer than the form grants. -/
structure ModFit (m : Module) : Prop where
  len : m.funcs.length + m.globs.length ≤ 8796093022207
  args : ∀ f ∈ m.funcs, ∀ b ∈ f.blocks, ∀ i ∈ b.ins, i.args.length ≤ 17592186044416
def FilesOk (l : List File) : Prop := ∀ f ∈ l, f.mods.length ≤ 8796093022207 ∧ ∀ m ∈ f.mods, ModFit m
def sumM (l : List File) : Nat := (l.map fun f => f.mods.length).sum
def badObj (f : File) : Bool := !f.archive && !decide (f.mods.length = 1)
def allMods (l : List File) : List Module := l.flatMap (·.mods)
def firstE (ms : List Module) : Int := match ms.find? (fun m => !decide (checkE m = 0)) with
  | some m => checkE m
  | none => 0
/-- May files be linked? -/
def checkFiles (l : List File) : Int := if 8 < l.length ∨ 16 < sumM l then 4 else if l.any badObj = true then 1 else firstE (allMods l)
@[simp] theorem sumM_nil : sumM [] = 0 := rfl
theorem sumM_succ {l : List File} {k : Nat} (hk : k < l.length) : sumM (l.take (k + 1)) = sumM (l.take k) + l[k].mods.length := by
  unfold sumM
  rw [List.take_succ_eq_append_getElem hk, List.map_append, List.sum_append]
  simp
theorem sumM_le {l : List File} (hl : FilesOk l) : sumM l ≤ l.length * 8796093022207 := by
  unfold sumM
  induction l with
  | nil => simp
  | cons f l ih =>
    have h1 := (hl f (by simp)).1
    have h2 := ih fun g hg => hl g (by simp [hg])
    simp only [List.map_cons, List.sum_cons, List.length_cons]
    omega
theorem wrap_i64 (n : Int) : IntKind.i64.wrap n = if n % 18446744073709551616 ≥ 9223372036854775808 then n % 18446744073709551616 - 18446744073709551616 else n % 18446744073709551616 := by
  have e1 : ((2 : Int) ^ IntKind.i64.bits) = 18446744073709551616 := by decide
  have e2 : ((2 : Int) ^ (IntKind.i64.bits - 1)) = 9223372036854775808 := by decide
  have e3 : IntKind.i64.signed = true := rfl
  simp only [IntKind.wrap, e1, e2, e3, Bool.true_and, decide_eq_true_eq]
theorem wrap_sum {a b : Int} : IntKind.i64.wrap (IntKind.i64.wrap a + b) = IntKind.i64.wrap (a + b) := by
  simp only [wrap_i64]
  repeat' split
  all_goals omega
theorem firstE_hit {ms : List Module} {k : Nat} (hk : k < ms.length) (hb : ∀ i (h : i < ms.length), i < k → checkE ms[i] = 0) (h : ¬ checkE ms[k] = 0) : firstE ms = checkE ms[k] := by
  rcases find_idx (fun m => !decide (checkE m = 0)) ms with ⟨j, hj, h1, h2⟩ | ⟨h1, h2⟩
  · unfold firstE
    rw [h2]
    have h3 := List.find?_some h2
    simp at h3
    have h4 := findI_hit (p := fun m => !decide (checkE m = 0)) hk (fun i hi h5 => by simp [hb i hi h5]) (by simp [h])
    rw [h1] at h4
    have : j = k := by omega
    subst this
    rfl
  · exfalso
    have := List.find?_eq_none.1 h2 _ (List.getElem_mem hk)
    simp [h] at this
theorem firstE_none {ms : List Module} (h : ∀ m ∈ ms, checkE m = 0) : firstE ms = 0 := by
  unfold firstE
  rw [List.find?_eq_none.2 fun m hm => by simp [h m hm]]
theorem firstE_at {a c : List Module} {m : Module} (ha : ∀ x ∈ a, checkE x = 0) (h : ¬ checkE m = 0) : firstE (a ++ m :: c) = checkE m := by
  unfold firstE
  rw [List.find?_append, List.find?_eq_none.2 fun m hm => by simp [ha m hm]]
  simp [h]

end Go.Proofs.Ytkpjokhiobclbaa
