/- The program's own data as the evaluator's, folded; the evaluator's rules for it (printed by program). -/
import Derived.Test.YtghlfjpmpalpdaaGo
import Derived.Test.YtghlfjpmpalpdaaIrC
namespace Go.Proofs.Ytghlfjpmpalpdaa
open Go.RowKit

instance : Inhabited Inst := ⟨⟨0, 0, 0, 0, ⟨#[]⟩, []⟩⟩
instance : Inhabited Block := ⟨⟨0, [], 0, 0, 0, [], 0, []⟩⟩
instance : Inhabited Func := ⟨⟨⟨#[]⟩, 0, 0, []⟩⟩
instance : Inhabited Glob := ⟨⟨⟨#[]⟩, 0, false, 0⟩⟩

def intC (x : Int) : List DV := [.int x]
@[simp] theorem intC_length (x : Int) : (intC x).length = 1 := rfl
@[simp] theorem intC_0 (x : Int) : (intC x)[0]? = some (.int x) := rfl
@[simp] theorem intC_cells (x : Int) : (∀ d, d ∈ intC x → d.cell = true) ↔ True := by unfold intC; simp
@[simp] theorem intC_len? (x : Int) : (intC x)[1]? = none := rfl
@[simp] theorem intC_map (x : Int) : (intC x).map AV.d = [.d (.int x)] := rfl

def strC (x : ByteArray) : List DV := [.str x]
@[simp] theorem strC_length (x : ByteArray) : (strC x).length = 1 := rfl
@[simp] theorem strC_0 (x : ByteArray) : (strC x)[0]? = some (.str x) := rfl
@[simp] theorem strC_cells (x : ByteArray) : (∀ d, d ∈ strC x → d.cell = true) ↔ True := by unfold strC; simp
@[simp] theorem strC_len? (x : ByteArray) : (strC x)[1]? = none := rfl
@[simp] theorem strC_map (x : ByteArray) : (strC x).map AV.d = [.d (.str x)] := rfl

@[reducible] def intsD (xs : List Int) : DV := .sl 1 xs.length fun k => intC (xs[k]?.getD 0)
@[simp high] theorem intsD_cell (xs : List Int) : DV.cell (intsD xs) = true := rfl
@[simp high] theorem intsD_isLit (xs : List Int) : DV.isLit (intsD xs) = false := rfl
@[simp high] theorem intsD_lenV (xs : List Int) : lenV (.d (intsD xs)) = .int xs.length := rfl
@[simp high] theorem intsD_lenOk (H : Heap) (s : Bool) (xs : List Int) : lenOk H s (.d (intsD xs)) = (s = false) := rfl
@[simp high] theorem intsD_slLen (xs : List Int) : slLen (.d (intsD xs)) = xs.length := rfl
@[simp high] theorem intsD_idxV (H : Heap) (xs : List Int) (k : IntKind) (i : Int) : idxH H (.d (intsD xs)) (.d (.lit (.int k i))) = .d (.cref (intC (xs[i.toNat]?.getD 0)) 0) := rfl
@[simp high] theorem intsD_idxOk (H : Heap) (n : Nat) (xs : List Int) (k : IntKind) (i : Int) : idxHOk H n (.d (intsD xs)) (.d (.lit (.int k i))) = (1 = n ∧ 0 ≤ i ∧ i < xs.length) := rfl
@[simp high] theorem intsD_moreV (n : Nat) (xs : List Int) : moreV n (.d (intsD xs)) = if 1 = n then some (xs.length, fun k => intC (xs[k]?.getD 0)) else none := rfl
@[simp high] theorem intsD_slcV (xs : List Int) (lo hi : Int) : slcV (.d (intsD xs)) lo hi = .d (.sl 1 (hi.toNat - lo.toNat) fun i => intC (xs[lo.toNat + i]?.getD 0)) := rfl
@[simp high] theorem intsD_slcOk (n : Nat) (xs : List Int) (lo hi : Int) : slcOk n (.d (intsD xs)) lo hi = (1 = n ∧ 0 ≤ lo ∧ lo ≤ hi ∧ hi ≤ xs.length) := rfl
theorem intsD_fold (xs : List Int) : (DV.sl 1 xs.length fun k => intC (xs[k]?.getD 0)) = intsD xs := rfl
theorem intsD_le {len : Nat} {row : Nat → List DV} {xs : List Int} (hl : len = xs.length) (h : ∀ i (hi : i < xs.length), row i = intC xs[i]) : DLe (.sl 1 len row) (intsD xs) := by
  subst hl
  exact DLe.sl fun i hi => by rw [h i hi, List.getElem?_eq_getElem hi]; rfl
theorem intsD_nil : DLe (.lit (.slice none 0 0)) (intsD []) := by
  intro X w v h; cases h; exact .nil _ _

@[reducible] def strsD (xs : List ByteArray) : DV := .sl 1 xs.length fun k => strC (xs[k]?.getD ⟨#[]⟩)
@[simp high] theorem strsD_cell (xs : List ByteArray) : DV.cell (strsD xs) = true := rfl
@[simp high] theorem strsD_isLit (xs : List ByteArray) : DV.isLit (strsD xs) = false := rfl
@[simp high] theorem strsD_lenV (xs : List ByteArray) : lenV (.d (strsD xs)) = .int xs.length := rfl
@[simp high] theorem strsD_lenOk (H : Heap) (s : Bool) (xs : List ByteArray) : lenOk H s (.d (strsD xs)) = (s = false) := rfl
@[simp high] theorem strsD_slLen (xs : List ByteArray) : slLen (.d (strsD xs)) = xs.length := rfl
@[simp high] theorem strsD_idxV (H : Heap) (xs : List ByteArray) (k : IntKind) (i : Int) : idxH H (.d (strsD xs)) (.d (.lit (.int k i))) = .d (.cref (strC (xs[i.toNat]?.getD ⟨#[]⟩)) 0) := rfl
@[simp high] theorem strsD_idxOk (H : Heap) (n : Nat) (xs : List ByteArray) (k : IntKind) (i : Int) : idxHOk H n (.d (strsD xs)) (.d (.lit (.int k i))) = (1 = n ∧ 0 ≤ i ∧ i < xs.length) := rfl
@[simp high] theorem strsD_moreV (n : Nat) (xs : List ByteArray) : moreV n (.d (strsD xs)) = if 1 = n then some (xs.length, fun k => strC (xs[k]?.getD ⟨#[]⟩)) else none := rfl
@[simp high] theorem strsD_slcV (xs : List ByteArray) (lo hi : Int) : slcV (.d (strsD xs)) lo hi = .d (.sl 1 (hi.toNat - lo.toNat) fun i => strC (xs[lo.toNat + i]?.getD ⟨#[]⟩)) := rfl
@[simp high] theorem strsD_slcOk (n : Nat) (xs : List ByteArray) (lo hi : Int) : slcOk n (.d (strsD xs)) lo hi = (1 = n ∧ 0 ≤ lo ∧ lo ≤ hi ∧ hi ≤ xs.length) := rfl
theorem strsD_fold (xs : List ByteArray) : (DV.sl 1 xs.length fun k => strC (xs[k]?.getD ⟨#[]⟩)) = strsD xs := rfl
theorem strsD_le {len : Nat} {row : Nat → List DV} {xs : List ByteArray} (hl : len = xs.length) (h : ∀ i (hi : i < xs.length), row i = strC xs[i]) : DLe (.sl 1 len row) (strsD xs) := by
  subst hl
  exact DLe.sl fun i hi => by rw [h i hi, List.getElem?_eq_getElem hi]; rfl
theorem strsD_nil : DLe (.lit (.slice none 0 0)) (strsD []) := by
  intro X w v h; cases h; exact .nil _ _

def instC (x : Inst) : List DV := [.int x.op, .int x.a, .int x.b, .lit (.int .u64 x.k), .str x.name, intsD x.args]
@[simp] theorem instC_length (x : Inst) : (instC x).length = 6 := rfl
@[simp] theorem instC_0 (x : Inst) : (instC x)[0]? = some (.int x.op) := rfl
@[simp] theorem instC_1 (x : Inst) : (instC x)[1]? = some (.int x.a) := rfl
@[simp] theorem instC_2 (x : Inst) : (instC x)[2]? = some (.int x.b) := rfl
@[simp] theorem instC_3 (x : Inst) : (instC x)[3]? = some (.lit (.int .u64 x.k)) := rfl
@[simp] theorem instC_4 (x : Inst) : (instC x)[4]? = some (.str x.name) := rfl
@[simp] theorem instC_5 (x : Inst) : (instC x)[5]? = some (intsD x.args) := rfl
@[simp] theorem instC_cells (x : Inst) : (∀ d, d ∈ instC x → d.cell = true) ↔ True := by unfold instC; simp
@[simp] theorem instC_len? (x : Inst) : (instC x)[6]? = none := rfl
@[simp] theorem instC_map (x : Inst) : (instC x).map AV.d = [.d (.int x.op), .d (.int x.a), .d (.int x.b), .d (.lit (.int .u64 x.k)), .d (.str x.name), .d (intsD x.args)] := rfl

@[reducible] def insD (xs : List Inst) : DV := .sl 6 xs.length fun k => instC (xs[k]?.getD default)
@[simp high] theorem insD_cell (xs : List Inst) : DV.cell (insD xs) = true := rfl
@[simp high] theorem insD_isLit (xs : List Inst) : DV.isLit (insD xs) = false := rfl
@[simp high] theorem insD_lenV (xs : List Inst) : lenV (.d (insD xs)) = .int xs.length := rfl
@[simp high] theorem insD_lenOk (H : Heap) (s : Bool) (xs : List Inst) : lenOk H s (.d (insD xs)) = (s = false) := rfl
@[simp high] theorem insD_slLen (xs : List Inst) : slLen (.d (insD xs)) = xs.length := rfl
@[simp high] theorem insD_idxV (H : Heap) (xs : List Inst) (k : IntKind) (i : Int) : idxH H (.d (insD xs)) (.d (.lit (.int k i))) = .d (.cref (instC (xs[i.toNat]?.getD default)) 0) := rfl
@[simp high] theorem insD_idxOk (H : Heap) (n : Nat) (xs : List Inst) (k : IntKind) (i : Int) : idxHOk H n (.d (insD xs)) (.d (.lit (.int k i))) = (6 = n ∧ 0 ≤ i ∧ i < xs.length) := rfl
@[simp high] theorem insD_moreV (n : Nat) (xs : List Inst) : moreV n (.d (insD xs)) = if 6 = n then some (xs.length, fun k => instC (xs[k]?.getD default)) else none := rfl
@[simp high] theorem insD_slcV (xs : List Inst) (lo hi : Int) : slcV (.d (insD xs)) lo hi = .d (.sl 6 (hi.toNat - lo.toNat) fun i => instC (xs[lo.toNat + i]?.getD default)) := rfl
@[simp high] theorem insD_slcOk (n : Nat) (xs : List Inst) (lo hi : Int) : slcOk n (.d (insD xs)) lo hi = (6 = n ∧ 0 ≤ lo ∧ lo ≤ hi ∧ hi ≤ xs.length) := rfl
theorem insD_fold (xs : List Inst) : (DV.sl 6 xs.length fun k => instC (xs[k]?.getD default)) = insD xs := rfl
theorem insD_le {len : Nat} {row : Nat → List DV} {xs : List Inst} (hl : len = xs.length) (h : ∀ i (hi : i < xs.length), row i = instC xs[i]) : DLe (.sl 6 len row) (insD xs) := by
  subst hl
  exact DLe.sl fun i hi => by rw [h i hi, List.getElem?_eq_getElem hi]; rfl
theorem insD_nil : DLe (.lit (.slice none 0 0)) (insD []) := by
  intro X w v h; cases h; exact .nil _ _

def blockC (x : Block) : List DV := [.int x.params, insD x.ins, .int x.kind, .int x.ta, .int x.to, intsD x.args, .int x.els, intsD x.elses]
@[simp] theorem blockC_length (x : Block) : (blockC x).length = 8 := rfl
@[simp] theorem blockC_0 (x : Block) : (blockC x)[0]? = some (.int x.params) := rfl
@[simp] theorem blockC_1 (x : Block) : (blockC x)[1]? = some (insD x.ins) := rfl
@[simp] theorem blockC_2 (x : Block) : (blockC x)[2]? = some (.int x.kind) := rfl
@[simp] theorem blockC_3 (x : Block) : (blockC x)[3]? = some (.int x.ta) := rfl
@[simp] theorem blockC_4 (x : Block) : (blockC x)[4]? = some (.int x.to) := rfl
@[simp] theorem blockC_5 (x : Block) : (blockC x)[5]? = some (intsD x.args) := rfl
@[simp] theorem blockC_6 (x : Block) : (blockC x)[6]? = some (.int x.els) := rfl
@[simp] theorem blockC_7 (x : Block) : (blockC x)[7]? = some (intsD x.elses) := rfl
@[simp] theorem blockC_cells (x : Block) : (∀ d, d ∈ blockC x → d.cell = true) ↔ True := by unfold blockC; simp
@[simp] theorem blockC_len? (x : Block) : (blockC x)[8]? = none := rfl
@[simp] theorem blockC_map (x : Block) : (blockC x).map AV.d = [.d (.int x.params), .d (insD x.ins), .d (.int x.kind), .d (.int x.ta), .d (.int x.to), .d (intsD x.args), .d (.int x.els), .d (intsD x.elses)] := rfl

@[reducible] def blocksD (xs : List Block) : DV := .sl 8 xs.length fun k => blockC (xs[k]?.getD default)
@[simp high] theorem blocksD_cell (xs : List Block) : DV.cell (blocksD xs) = true := rfl
@[simp high] theorem blocksD_isLit (xs : List Block) : DV.isLit (blocksD xs) = false := rfl
@[simp high] theorem blocksD_lenV (xs : List Block) : lenV (.d (blocksD xs)) = .int xs.length := rfl
@[simp high] theorem blocksD_lenOk (H : Heap) (s : Bool) (xs : List Block) : lenOk H s (.d (blocksD xs)) = (s = false) := rfl
@[simp high] theorem blocksD_slLen (xs : List Block) : slLen (.d (blocksD xs)) = xs.length := rfl
@[simp high] theorem blocksD_idxV (H : Heap) (xs : List Block) (k : IntKind) (i : Int) : idxH H (.d (blocksD xs)) (.d (.lit (.int k i))) = .d (.cref (blockC (xs[i.toNat]?.getD default)) 0) := rfl
@[simp high] theorem blocksD_idxOk (H : Heap) (n : Nat) (xs : List Block) (k : IntKind) (i : Int) : idxHOk H n (.d (blocksD xs)) (.d (.lit (.int k i))) = (8 = n ∧ 0 ≤ i ∧ i < xs.length) := rfl
@[simp high] theorem blocksD_moreV (n : Nat) (xs : List Block) : moreV n (.d (blocksD xs)) = if 8 = n then some (xs.length, fun k => blockC (xs[k]?.getD default)) else none := rfl
@[simp high] theorem blocksD_slcV (xs : List Block) (lo hi : Int) : slcV (.d (blocksD xs)) lo hi = .d (.sl 8 (hi.toNat - lo.toNat) fun i => blockC (xs[lo.toNat + i]?.getD default)) := rfl
@[simp high] theorem blocksD_slcOk (n : Nat) (xs : List Block) (lo hi : Int) : slcOk n (.d (blocksD xs)) lo hi = (8 = n ∧ 0 ≤ lo ∧ lo ≤ hi ∧ hi ≤ xs.length) := rfl
theorem blocksD_fold (xs : List Block) : (DV.sl 8 xs.length fun k => blockC (xs[k]?.getD default)) = blocksD xs := rfl
theorem blocksD_le {len : Nat} {row : Nat → List DV} {xs : List Block} (hl : len = xs.length) (h : ∀ i (hi : i < xs.length), row i = blockC xs[i]) : DLe (.sl 8 len row) (blocksD xs) := by
  subst hl
  exact DLe.sl fun i hi => by rw [h i hi, List.getElem?_eq_getElem hi]; rfl
theorem blocksD_nil : DLe (.lit (.slice none 0 0)) (blocksD []) := by
  intro X w v h; cases h; exact .nil _ _

def funcC (x : Func) : List DV := [.str x.name, .int x.bind, .int x.params, blocksD x.blocks]
@[simp] theorem funcC_length (x : Func) : (funcC x).length = 4 := rfl
@[simp] theorem funcC_0 (x : Func) : (funcC x)[0]? = some (.str x.name) := rfl
@[simp] theorem funcC_1 (x : Func) : (funcC x)[1]? = some (.int x.bind) := rfl
@[simp] theorem funcC_2 (x : Func) : (funcC x)[2]? = some (.int x.params) := rfl
@[simp] theorem funcC_3 (x : Func) : (funcC x)[3]? = some (blocksD x.blocks) := rfl
@[simp] theorem funcC_cells (x : Func) : (∀ d, d ∈ funcC x → d.cell = true) ↔ True := by unfold funcC; simp
@[simp] theorem funcC_len? (x : Func) : (funcC x)[4]? = none := rfl
@[simp] theorem funcC_map (x : Func) : (funcC x).map AV.d = [.d (.str x.name), .d (.int x.bind), .d (.int x.params), .d (blocksD x.blocks)] := rfl

@[reducible] def funcsD (xs : List Func) : DV := .sl 4 xs.length fun k => funcC (xs[k]?.getD default)
@[simp high] theorem funcsD_cell (xs : List Func) : DV.cell (funcsD xs) = true := rfl
@[simp high] theorem funcsD_isLit (xs : List Func) : DV.isLit (funcsD xs) = false := rfl
@[simp high] theorem funcsD_lenV (xs : List Func) : lenV (.d (funcsD xs)) = .int xs.length := rfl
@[simp high] theorem funcsD_lenOk (H : Heap) (s : Bool) (xs : List Func) : lenOk H s (.d (funcsD xs)) = (s = false) := rfl
@[simp high] theorem funcsD_slLen (xs : List Func) : slLen (.d (funcsD xs)) = xs.length := rfl
@[simp high] theorem funcsD_idxV (H : Heap) (xs : List Func) (k : IntKind) (i : Int) : idxH H (.d (funcsD xs)) (.d (.lit (.int k i))) = .d (.cref (funcC (xs[i.toNat]?.getD default)) 0) := rfl
@[simp high] theorem funcsD_idxOk (H : Heap) (n : Nat) (xs : List Func) (k : IntKind) (i : Int) : idxHOk H n (.d (funcsD xs)) (.d (.lit (.int k i))) = (4 = n ∧ 0 ≤ i ∧ i < xs.length) := rfl
@[simp high] theorem funcsD_moreV (n : Nat) (xs : List Func) : moreV n (.d (funcsD xs)) = if 4 = n then some (xs.length, fun k => funcC (xs[k]?.getD default)) else none := rfl
@[simp high] theorem funcsD_slcV (xs : List Func) (lo hi : Int) : slcV (.d (funcsD xs)) lo hi = .d (.sl 4 (hi.toNat - lo.toNat) fun i => funcC (xs[lo.toNat + i]?.getD default)) := rfl
@[simp high] theorem funcsD_slcOk (n : Nat) (xs : List Func) (lo hi : Int) : slcOk n (.d (funcsD xs)) lo hi = (4 = n ∧ 0 ≤ lo ∧ lo ≤ hi ∧ hi ≤ xs.length) := rfl
theorem funcsD_fold (xs : List Func) : (DV.sl 4 xs.length fun k => funcC (xs[k]?.getD default)) = funcsD xs := rfl
theorem funcsD_le {len : Nat} {row : Nat → List DV} {xs : List Func} (hl : len = xs.length) (h : ∀ i (hi : i < xs.length), row i = funcC xs[i]) : DLe (.sl 4 len row) (funcsD xs) := by
  subst hl
  exact DLe.sl fun i hi => by rw [h i hi, List.getElem?_eq_getElem hi]; rfl
theorem funcsD_nil : DLe (.lit (.slice none 0 0)) (funcsD []) := by
  intro X w v h; cases h; exact .nil _ _

def globC (x : Glob) : List DV := [.str x.name, .int x.bind, .bool x.here, .lit (.int .u64 x.init)]
@[simp] theorem globC_length (x : Glob) : (globC x).length = 4 := rfl
@[simp] theorem globC_0 (x : Glob) : (globC x)[0]? = some (.str x.name) := rfl
@[simp] theorem globC_1 (x : Glob) : (globC x)[1]? = some (.int x.bind) := rfl
@[simp] theorem globC_2 (x : Glob) : (globC x)[2]? = some (.bool x.here) := rfl
@[simp] theorem globC_3 (x : Glob) : (globC x)[3]? = some (.lit (.int .u64 x.init)) := rfl
@[simp] theorem globC_cells (x : Glob) : (∀ d, d ∈ globC x → d.cell = true) ↔ True := by unfold globC; simp
@[simp] theorem globC_len? (x : Glob) : (globC x)[4]? = none := rfl
@[simp] theorem globC_map (x : Glob) : (globC x).map AV.d = [.d (.str x.name), .d (.int x.bind), .d (.bool x.here), .d (.lit (.int .u64 x.init))] := rfl

@[reducible] def globsD (xs : List Glob) : DV := .sl 4 xs.length fun k => globC (xs[k]?.getD default)
@[simp high] theorem globsD_cell (xs : List Glob) : DV.cell (globsD xs) = true := rfl
@[simp high] theorem globsD_isLit (xs : List Glob) : DV.isLit (globsD xs) = false := rfl
@[simp high] theorem globsD_lenV (xs : List Glob) : lenV (.d (globsD xs)) = .int xs.length := rfl
@[simp high] theorem globsD_lenOk (H : Heap) (s : Bool) (xs : List Glob) : lenOk H s (.d (globsD xs)) = (s = false) := rfl
@[simp high] theorem globsD_slLen (xs : List Glob) : slLen (.d (globsD xs)) = xs.length := rfl
@[simp high] theorem globsD_idxV (H : Heap) (xs : List Glob) (k : IntKind) (i : Int) : idxH H (.d (globsD xs)) (.d (.lit (.int k i))) = .d (.cref (globC (xs[i.toNat]?.getD default)) 0) := rfl
@[simp high] theorem globsD_idxOk (H : Heap) (n : Nat) (xs : List Glob) (k : IntKind) (i : Int) : idxHOk H n (.d (globsD xs)) (.d (.lit (.int k i))) = (4 = n ∧ 0 ≤ i ∧ i < xs.length) := rfl
@[simp high] theorem globsD_moreV (n : Nat) (xs : List Glob) : moreV n (.d (globsD xs)) = if 4 = n then some (xs.length, fun k => globC (xs[k]?.getD default)) else none := rfl
@[simp high] theorem globsD_slcV (xs : List Glob) (lo hi : Int) : slcV (.d (globsD xs)) lo hi = .d (.sl 4 (hi.toNat - lo.toNat) fun i => globC (xs[lo.toNat + i]?.getD default)) := rfl
@[simp high] theorem globsD_slcOk (n : Nat) (xs : List Glob) (lo hi : Int) : slcOk n (.d (globsD xs)) lo hi = (4 = n ∧ 0 ≤ lo ∧ lo ≤ hi ∧ hi ≤ xs.length) := rfl
theorem globsD_fold (xs : List Glob) : (DV.sl 4 xs.length fun k => globC (xs[k]?.getD default)) = globsD xs := rfl
theorem globsD_le {len : Nat} {row : Nat → List DV} {xs : List Glob} (hl : len = xs.length) (h : ∀ i (hi : i < xs.length), row i = globC xs[i]) : DLe (.sl 4 len row) (globsD xs) := by
  subst hl
  exact DLe.sl fun i hi => by rw [h i hi, List.getElem?_eq_getElem hi]; rfl
theorem globsD_nil : DLe (.lit (.slice none 0 0)) (globsD []) := by
  intro X w v h; cases h; exact .nil _ _

def moduleC (x : Module) : List DV := [funcsD x.funcs, globsD x.globs]
@[simp] theorem moduleC_length (x : Module) : (moduleC x).length = 2 := rfl
@[simp] theorem moduleC_0 (x : Module) : (moduleC x)[0]? = some (funcsD x.funcs) := rfl
@[simp] theorem moduleC_1 (x : Module) : (moduleC x)[1]? = some (globsD x.globs) := rfl
@[simp] theorem moduleC_cells (x : Module) : (∀ d, d ∈ moduleC x → d.cell = true) ↔ True := by unfold moduleC; simp
@[simp] theorem moduleC_len? (x : Module) : (moduleC x)[2]? = none := rfl
@[simp] theorem moduleC_map (x : Module) : (moduleC x).map AV.d = [.d (funcsD x.funcs), .d (globsD x.globs)] := rfl

/-- A block's end. -/
def termC (x : Block) : List DV := [.int x.kind, .int x.ta, .int x.to, intsD x.args, .int x.els, intsD x.elses]
@[simp] theorem blockC_term (x : Block) : ((blockC x).drop 2).take 6 = termC x := rfl
@[simp] theorem termC_cells (x : Block) : (∀ d, d ∈ termC x → d.cell = true) ↔ True := by unfold termC; simp
@[simp] theorem termC_length (x : Block) : (termC x).length = 6 := rfl
@[simp] theorem termC_0 (x : Block) : (termC x)[0]? = some (.int x.kind) := rfl
@[simp] theorem termC_1 (x : Block) : (termC x)[1]? = some (.int x.ta) := rfl
@[simp] theorem termC_2 (x : Block) : (termC x)[2]? = some (.int x.to) := rfl
@[simp] theorem termC_3 (x : Block) : (termC x)[3]? = some (intsD x.args) := rfl
@[simp] theorem termC_4 (x : Block) : (termC x)[4]? = some (.int x.els) := rfl
@[simp] theorem termC_5 (x : Block) : (termC x)[5]? = some (intsD x.elses) := rfl
@[simp] theorem termC_map (x : Block) : (termC x).map AV.d = [.int x.kind, .int x.ta, .int x.to, .d (intsD x.args), .int x.els, .d (intsD x.elses)] := rfl
@[simp] theorem instC_all (x : Inst) : (instC x).take 6 = instC x := rfl
@[simp] theorem blockC_all (x : Block) : (blockC x).take 8 = blockC x := rfl
@[simp] theorem funcC_all (x : Func) : (funcC x).take 4 = funcC x := rfl
@[simp] theorem globC_all (x : Glob) : (globC x).take 4 = globC x := rfl
@[simp] theorem moduleC_all (x : Module) : (moduleC x).take 2 = moduleC x := rfl
@[simp] theorem termC_all (x : Block) : (termC x).take 6 = termC x := rfl

theorem sl_len {X : Nat → Nat → Prop} {w : World} {v : Value} {n len : Nat} {row : Nat → List DV} (h : DRep X w v (.sl n len row)) : len ≤ maxLen := by
  cases h with
  | nil => exact Nat.zero_le _
  | emp => exact Nat.zero_le _
  | sl b off cap n len row vals h1 h2 => exact Nat.le_trans h1 h2

theorem wrap_nat {n : Nat} (h : n ≤ 9223372036854775807) : IntKind.i64.wrap (n : Int) = n := by
  rw [IntWalk.i64_in _ (by omega)]
theorem wrap_in {n : Int} (h : -9223372036854775808 ≤ n ∧ n ≤ 9223372036854775807) : IntKind.i64.wrap n = n := IntWalk.i64_in _ h
theorem wrap_succ {k : Nat} (h : k < 9223372036854775807) : IntKind.i64.wrap ((k : Int) + 1) = ((k + 1 : Nat) : Int) := by
  rw [IntWalk.i64_in _ (by omega)]; simp
theorem DLe_lit {u v : Value} (h : u = v) : DLe (.lit u) (.lit v) := DLe.of_eq (by rw [h])
theorem DLe_bool {b c : Bool} (h : b = c) : DLe (.lit (.bool b)) (.lit (.bool c)) := DLe.of_eq (by rw [h])
theorem DLe_int {a b : Int} (h : a = b) : DLe (.lit (.int .i64 a)) (.lit (.int .i64 b)) := DLe.of_eq (by rw [h])
theorem len1 {P : Prop} {n len : Nat} {row : Nat → List DV} {as' : List DV} (hx : ∃ X w us, DReps X w us (.sl n len row :: as')) (h : len ≤ 9223372036854775807 → P) : P := by
  obtain ⟨X, w, us, h0⟩ := hx
  obtain ⟨v, vs, _, h1, _⟩ := h0.uncons
  have := sl_len h1
  exact h (by simpa [maxLen] using this)
theorem lenAgg {cs : List DV} {as' : List DV} (hx : ∃ X w us, DReps X w us (.agg cs :: as')) {n len : Nat} {row : Nat → List DV} (i : Nat) (hc : cs[i]? = some (.sl n len row)) : len ≤ 9223372036854775807 := by
  obtain ⟨X, w, us, h0⟩ := hx
  obtain ⟨v, vs, _, h1, _⟩ := h0.uncons
  obtain ⟨hi, he⟩ := List.getElem?_eq_some_iff.1 hc
  cases h1 with
  | agg us' _ hl hr =>
    have h2 := hr i (by omega) hi
    rw [he] at h2
    simpa [maxLen] using sl_len h2
@[simp] theorem appRow_zero (f g : Nat → List DV) : appRow 0 f g = g := by funext i; simp [appRow]
@[simp] theorem DLe_self (x : DV) : DLe x x := DLe.refl x
theorem str_nil (s : ByteArray) : decide (s = ⟨#[]⟩) = (s.size == 0) := by
  rw [Bool.eq_iff_iff]
  simp only [decide_eq_true_eq, beq_iff_eq]
  constructor
  · rintro rfl; rfl
  · intro h
    apply ByteArray.ext
    exact Array.eq_empty_of_size_eq_zero h
attribute [simp] SLe TLe AVLe HLe hof OLe cellsLe

end Go.Proofs.Ytghlfjpmpalpdaa
