/- Contracts by the evaluator: blocks, functions, globals laid by the writer. -/
import Derived.Test.YtciihchbiifgkaaTI
namespace Go.Proofs.Ytciihchbiifgkaa
open Go.RowKit

def encTerm (b : Block) : ByteArray := encI b.kind ++
  if b.kind = 1 then encI b.to ++ encR b.args else if b.kind = 2 then encIs [b.ta, b.to] ++ (encR b.args ++ (encI b.els ++ encR b.elses)) else if b.kind = 3 then encI b.ta else ByteArray.empty
def encBlock (b : Block) : ByteArray := encI b.params ++ (encL encInst b.ins ++ encTerm b)
def blockK (b : Block) : Prop := ∀ x ∈ b.ins, instK x
def encFunc (f : Func) : ByteArray := encT f.name ++ (encIs [f.bind, f.params] ++ encL encBlock f.blocks)
def funcK (f : Func) : Prop := ∀ b ∈ f.blocks, blockK b
def encGlob (g : Glob) : ByteArray := encT g.name ++ (encIs [g.bind, if g.here = true then 1 else 0] ++ numB g.init)
def globK (g : Glob) : Prop := g.init < 18446744073709551616

set_option maxRecDepth 10000 in
theorem wblock_eff (bs : ByteArray) (b : Block) (hk : blockK b) (hlen : bs.size + (encBlock b).size ≤ 140737488355328) :
    AEff Try.prog 24 [.ptr 1000000 0, .d (.agg (blockC b))] (LB (.ptr 1000000 0) bs) (.tup []) (LW0 (bs ++ encBlock b)) := by
  refine aeffG _ _ Try.func24 (by kernel_rfl) t___bit_writer__block u___bit_writer__block rfl rfl (by simp [LB]) (by simp [LB, LW0, idsOk]) (fun hx => ?_)
  clear hx
  simp [c___bit_writer__block, r___bit_writer__block, hof_LB]
  have hlen1 : bs.size + ((encI b.params).size + ((encL encInst b.ins).size + (encTerm b).size)) ≤ 140737488355328 := by
    rw [← ByteArray.size_append, ← ByteArray.size_append]; exact hlen
  have hlen2 : (encI b.kind).size ≤ (encTerm b).size := by unfold encTerm; rw [ByteArray.size_append]; omega
  refine calle_k (nums_eff bs [b.params] (by rw [encIs_one]; omega)) (tauB _ 1000001) rfl [.ptr 1000000 0, .d (.sl 1 1 fun i => List.take 1 (List.drop i [DV.int b.params]))] (by simp) (by simp) (by simp) (by simp [gOf, LB, LW0, tauB]) (by simp [gOf, LB, LW0, tauB]) (by simp [gOf, LB, LW0, tauB]) (by simp [LB, LW0, idsOk]) ?_
  simp [LB, LW0, tauB]
  rw [encIs_one]
  refine calle_k (rowInst_eff (bs ++ encI b.params) b.ins hk (by rw [ByteArray.size_append]; omega)) (tauB _ 5) rfl [.ptr 1000000 0, .d (insD b.ins), .bm 56 (.ptr 1000000 0)] (by simp) (by simp) (by simp) (by simp [gOf, LB, LW0, tauB]) (by simp [gOf, LB, LW0, tauB]) (by simp [gOf, LB, LW0, tauB]) (by simp [LB, LW0, idsOk]) ?_
  simp [LB, LW0, tauB]
  refine calle_k (nums_eff (bs ++ encI b.params ++ encL encInst b.ins) [b.kind] (by rw [ByteArray.size_append, ByteArray.size_append, encIs_one]; omega)) (tauB _ 11) rfl [.ptr 1000000 0, .d (.sl 1 1 fun i => List.take 1 (List.drop i [DV.int b.kind]))] (by simp) (by simp) (by simp) (by simp [gOf, LB, LW0, tauB]) (by simp [gOf, LB, LW0, tauB]) (by simp [gOf, LB, LW0, tauB]) (by simp [LB, LW0, idsOk]) ?_
  simp [LB, LW0, tauB]
  rw [encIs_one]
  have e0 : encBlock b = encI b.params ++ (encL encInst b.ins ++ encTerm b) := rfl
  refine ⟨fun h => ?_, fun h => ?_⟩
  · have e : encTerm b = encI b.kind ++ (encI b.to ++ encR b.args) := by simp [encTerm, h]
    rw [e, ByteArray.size_append, ByteArray.size_append] at hlen1
    refine calle_k (nums_eff (bs ++ encI b.params ++ encL encInst b.ins ++ encI b.kind) [b.to] (by rw [ByteArray.size_append, ByteArray.size_append, ByteArray.size_append, encIs_one]; omega)) (tauB _ 20) rfl [.ptr 1000000 0, .d (.sl 1 1 fun i => List.take 1 (List.drop i [DV.int b.to]))] (by simp) (by simp) (by simp) (by simp [gOf, LB, LW0, tauB]) (by simp [gOf, LB, LW0, tauB]) (by simp [gOf, LB, LW0, tauB]) (by simp [LB, LW0, idsOk]) ?_
    simp [LB, LW0, tauB]
    rw [encIs_one]
    refine calle_k (wrow_eff (bs ++ encI b.params ++ encL encInst b.ins ++ encI b.kind ++ encI b.to) b.args (by rw [ByteArray.size_append, ByteArray.size_append, ByteArray.size_append, ByteArray.size_append]; omega)) (tauB _ 29) rfl [.ptr 1000000 0, .d (intsD b.args)] (by simp) (by simp) (by simp) (by simp [gOf, LB, LW0, tauB]) (by simp [gOf, LB, LW0, tauB]) (by simp [gOf, LB, LW0, tauB]) (by simp [LB, LW0, idsOk]) ?_
    simp [LB, LW0, tauB]
    rw [e] at e0
    exact ⟨.id 33, by simp [gE, e0, ← ByteArray.append_assoc, Nat.add_assoc], by simp [gE]⟩
  refine ⟨fun h2 => ?_, fun h2 => ?_⟩
  · have e : encTerm b = encI b.kind ++ (encIs [b.ta, b.to] ++ (encR b.args ++ (encI b.els ++ encR b.elses))) := by simp [encTerm, h2]
    rw [e, ByteArray.size_append, ByteArray.size_append, ByteArray.size_append, ByteArray.size_append] at hlen1
    refine calle_k (nums_eff (bs ++ encI b.params ++ encL encInst b.ins ++ encI b.kind) [b.ta, b.to] (by rw [ByteArray.size_append, ByteArray.size_append, ByteArray.size_append]; omega)) (tauB _ 20) rfl [.ptr 1000000 0, .d (.sl 1 2 fun i => List.take 1 (List.drop i [DV.int b.ta, DV.int b.to]))] (by simp) (by simp) (by simp) (by simp [gOf, LB, LW0, tauB]) (by simp [gOf, LB, LW0, tauB]) (by simp [gOf, LB, LW0, tauB]) (by simp [LB, LW0, idsOk]) ?_
    simp [LB, LW0, tauB]
    refine calle_k (wrow_eff (bs ++ encI b.params ++ encL encInst b.ins ++ encI b.kind ++ encIs [b.ta, b.to]) b.args (by rw [ByteArray.size_append, ByteArray.size_append, ByteArray.size_append, ByteArray.size_append]; omega)) (tauB _ 33) rfl [.ptr 1000000 0, .d (intsD b.args)] (by simp) (by simp) (by simp) (by simp [gOf, LB, LW0, tauB]) (by simp [gOf, LB, LW0, tauB]) (by simp [gOf, LB, LW0, tauB]) (by simp [LB, LW0, idsOk]) ?_
    simp [LB, LW0, tauB]
    refine calle_k (nums_eff (bs ++ encI b.params ++ encL encInst b.ins ++ encI b.kind ++ encIs [b.ta, b.to] ++ encR b.args) [b.els] (by rw [ByteArray.size_append, ByteArray.size_append, ByteArray.size_append, ByteArray.size_append, ByteArray.size_append, encIs_one]; omega)) (tauB _ 37) rfl [.ptr 1000000 0, .d (.sl 1 1 fun i => List.take 1 (List.drop i [DV.int b.els]))] (by simp) (by simp) (by simp) (by simp [gOf, LB, LW0, tauB]) (by simp [gOf, LB, LW0, tauB]) (by simp [gOf, LB, LW0, tauB]) (by simp [LB, LW0, idsOk]) ?_
    simp [LB, LW0, tauB]
    rw [encIs_one]
    refine calle_k (wrow_eff (bs ++ encI b.params ++ encL encInst b.ins ++ encI b.kind ++ encIs [b.ta, b.to] ++ encR b.args ++ encI b.els) b.elses (by rw [ByteArray.size_append, ByteArray.size_append, ByteArray.size_append, ByteArray.size_append, ByteArray.size_append, ByteArray.size_append]; omega)) (tauB _ 42) rfl [.ptr 1000000 0, .d (intsD b.elses)] (by simp) (by simp) (by simp) (by simp [gOf, LB, LW0, tauB]) (by simp [gOf, LB, LW0, tauB]) (by simp [gOf, LB, LW0, tauB]) (by simp [LB, LW0, idsOk]) ?_
    simp [LB, LW0, tauB]
    rw [e] at e0
    exact ⟨.id 46, by simp [gE, e0, ← ByteArray.append_assoc, Nat.add_assoc], by simp [gE]⟩
  refine ⟨fun h3 => ?_, fun h3 => ?_⟩
  · have e : encTerm b = encI b.kind ++ encI b.ta := by simp [encTerm, h3]
    rw [e, ByteArray.size_append] at hlen1
    refine calle_k (nums_eff (bs ++ encI b.params ++ encL encInst b.ins ++ encI b.kind) [b.ta] (by rw [ByteArray.size_append, ByteArray.size_append, ByteArray.size_append, encIs_one]; omega)) (tauB _ 20) rfl [.ptr 1000000 0, .d (.sl 1 1 fun i => List.take 1 (List.drop i [DV.int b.ta]))] (by simp) (by simp) (by simp) (by simp [gOf, LB, LW0, tauB]) (by simp [gOf, LB, LW0, tauB]) (by simp [gOf, LB, LW0, tauB]) (by simp [LB, LW0, idsOk]) ?_
    simp [LB, LW0, tauB]
    rw [encIs_one]
    rw [e] at e0
    exact ⟨.id 33, by simp [gE, e0, ← ByteArray.append_assoc, Nat.add_assoc], by simp [gE]⟩
  · have e : encTerm b = encI b.kind := by simp [encTerm, h, h2, h3]
    rw [e] at e0
    exact ⟨.id 20, by simp [gE, e0, ← ByteArray.append_assoc, Nat.add_assoc], by simp [gE]⟩

set_option maxRecDepth 10000 in
theorem rowBlock_eff (bs : ByteArray) (l : List Block) (hok : ∀ x ∈ l, blockK x) (hlen : bs.size + (encL encBlock l).size ≤ 140737488355328) :
    AEff Try.prog 23 [.ptr 1000000 0, .d (blocksD l), .bm 24 (.ptr 1000000 0)] (LB (.ptr 1000000 0) bs) (.tup []) (LW0 (bs ++ encL encBlock l)) := by
  refine aeffG _ _ Try.func23 (by kernel_rfl) t_bit_row_api_Block_ u_bit_row_api_Block_ rfl rfl (by simp [LB, LW0]) (by simp [LB, LW0, idsOk]) (fun hx => ?_)
  have hl : l.length ≤ 9223372036854775807 := by
    obtain ⟨γ, X, w, us, h⟩ := hx
    obtain ⟨v, vs, _, _, h⟩ := h.uncons
    obtain ⟨v, vs, _, h1, _⟩ := h.uncons
    have := sl_len h1.dv
    simpa [maxLen] using this
  clear hx
  simp [c_bit_row_api_Block_, r_bit_row_api_Block_, hof_LB]
  have hlen' : bs.size + ((encI l.length).size + (catM encBlock l).size) ≤ 140737488355328 := by rw [← ByteArray.size_append]; exact hlen
  clear hlen
  refine calle_k (nums_eff bs [l.length] (by rw [encIs_one]; omega)) (tauB _ 1000001) rfl [.ptr 1000000 0, .d (.sl 1 1 fun i => List.take 1 (List.drop i [DV.int l.length]))] (by simp) (by simp) (by simp) (by simp [gOf, LB, tauB]) (by simp [gOf, LB, tauB]) (by simp [gOf, LB, tauB]) (by simp [LB, LW0, idsOk]) ?_
  rw [encIs_one]
  simp [LB, LW0, tauB]
  refine loop_s (κ := Nat) (fun k => k ≤ l.length) (fun k => l.length - k) (fun k => [(sl 15, .int k)]) (fun k => [(1000000, .boxT (some 51) [.ptr 1000000 0, .own 4 (bs ++ encI l.length ++ catM encBlock (l.take k)).size]), (4, .row 5 1 (bs ++ encI l.length ++ catM encBlock (l.take k)).size (strRow (bs ++ encI l.length ++ catM encBlock (l.take k))))]) 9 0 (srcs [(4, .id 4)]) (by simp) (by simp [catM]) ?_
  rintro k hk
  simp
  refine ⟨fun hlt => ⟨hlt, ?_⟩, fun hge => ?_⟩
  · rw [getD_some hlt]
    have hsz := catM_mid encBlock hlt
    refine calle_k (wblock_eff (bs ++ encI l.length ++ catM encBlock (l.take k)) l[k] (hok _ (List.getElem_mem hlt)) (by rw [ByteArray.size_append, ByteArray.size_append]; omega)) (tauB _ 4) rfl [.ptr 1000000 0, .d (.agg (blockC l[k]))] (by simp) (by simp) (by simp; rfl) (by simp [gOf, LB, LW0, tauB]) (by simp [gOf, LB, LW0, tauB]) (by simp [gOf, LB, LW0, tauB]) (by simp [LB, LW0, idsOk]) ?_
    simp [LB, LW0, tauB]
    have e := catM_take encBlock hlt
    refine ⟨k + 1, by omega, by omega, srcs [(4, .id 16)], ?_⟩
    simp [SLeK, e, ← ByteArray.append_assoc]
    exact ⟨DLe_int (wrap_succ (by omega)), by omega⟩
  · rw [List.take_of_length_le hge]
    refine ⟨.id 4, ?_, ?_⟩
    · simp [LB, gE, encL, ← ByteArray.append_assoc]
      omega
    · simp [LB, gE]

end Go.Proofs.Ytciihchbiifgkaa
