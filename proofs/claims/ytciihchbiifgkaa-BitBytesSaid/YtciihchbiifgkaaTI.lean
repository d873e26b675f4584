/- Contracts by the evaluator: instructions laid by the writer. -/
import Derived.Test.YtciihchbiifgkaaTH
namespace Go.Proofs.Ytciihchbiifgkaa
open Go.RowKit

/-- A constant is one of 64 bits. -/
def instK (x : Inst) : Prop := x.k < 18446744073709551616
def tauC (n k c : Nat) : Nat → Nat := fun i => if i = 999999 then n else if i = 1000001 then k else if i = 1000002 then c else i
set_option maxRecDepth 10000 in
theorem wrow_eff (bs : ByteArray) (l : List Int) (hlen : bs.size + (encR l).size ≤ 140737488355328) :
    AEff Try.prog 57 [.ptr 1000000 0, .d (intsD l)] (LB (.ptr 1000000 0) bs) (.tup []) (LW0 (bs ++ encR l)) := by
  refine aeffG _ _ Try.func57 (by kernel_rfl) t___bit_writer__row u___bit_writer__row rfl rfl (by simp [LB]) (by simp [LB, LW0, idsOk]) (fun hx => ?_)
  simp [c___bit_writer__row, r___bit_writer__row, hof_LB]
  refine calle_k (rowInt_eff bs l hlen) (tauC _ 1000001 0) rfl [.ptr 1000000 0, .d (intsD l), .fn 78 [.ptr 0 0]] (by simp) (by simp) (by simp) ?_ ?_ ?_ (by simp [LC, LCW, idsOk]) ?_
  · simp [gOf, LC, tauC]
  · simp [gOf, LC, tauC]
  · simp [gOf, LC, tauC]
  simp [LC, LCW, LB, LW0, tauC]
  exact ⟨.id 4, by simp [gE, encL_int], by simp [gE]⟩

set_option maxRecDepth 10000 in
theorem winst_eff (bs : ByteArray) (x : Inst) (hk : x.k < 18446744073709551616) (hlen : bs.size + (encInst x).size ≤ 140737488355328) :
    AEff Try.prog 56 [.ptr 1000000 0, .d (.agg (instC x))] (LB (.ptr 1000000 0) bs) (.tup []) (LW0 (bs ++ encInst x)) := by
  refine aeffG _ _ Try.func56 (by kernel_rfl) t___bit_writer__inst u___bit_writer__inst rfl rfl (by simp [LB]) (by simp [LB, LW0, idsOk]) (fun hx => ?_)
  clear hx
  simp [c___bit_writer__inst, r___bit_writer__inst, hof_LB]
  have hlen0 : bs.size + (encI x.op).size ≤ 140737488355328 := by unfold encInst at hlen; rw [ByteArray.size_append] at hlen; omega
  refine calle_k (nums_eff bs [x.op] (by rw [encIs_one]; omega)) (tauB _ 1000001) rfl [.ptr 1000000 0, .d (.sl 1 1 fun i => List.take 1 (List.drop i [DV.int x.op]))] (by simp) (by simp) (by simp) (by simp [gOf, LB, tauB]) (by simp [gOf, LB, tauB]) (by simp [gOf, LB, tauB]) (by simp [LB, LW0, idsOk]) ?_
  rw [encIs_one]
  simp [LB, LW0, tauB]
  refine ⟨fun h => ?_, fun h => ?_⟩
  · have e : encInst x = encI x.op ++ numB x.k := by simp [encInst, h]
    rw [e, ByteArray.size_append] at hlen
    refine call_plain (ds := [.lit (.int .u64 x.k)]) _ (by simp) (by simp) (fun _ => by simp) (fun _ => num_pure _ hk) ?_
    simp
    refine calle_k (writeString_eff (.ptr 1000000 0) (.inr rfl) (bs ++ encI x.op) (numB x.k) (by rw [ByteArray.size_append]; omega)) (tauB _ 5) rfl [.ptr 1000000 0, .d (.str (numB x.k))] (by simp) (by simp) (by simp) (by simp [gOf, LB, LW0, tauB]) (by simp [gOf, LB, LW0, tauB]) (by simp [gOf, LB, LW0, tauB]) (by simp [LB, LW0, idsOk]) ?_
    simp [LB, LW0, tauB]
    exact ⟨.id 16, by simp [gE, e, ← ByteArray.append_assoc, Nat.add_assoc], by simp [gE]⟩
  refine ⟨fun h2 => ?_, fun h2 => ?_⟩
  · have e : encInst x = encI x.op ++ encIs [x.a, x.b] := by simp [encInst, h, h2]
    rw [e, ByteArray.size_append] at hlen
    refine calle_k (nums_eff (bs ++ encI x.op) [x.a, x.b] (by rw [ByteArray.size_append]; omega)) (tauB _ 5) rfl [.ptr 1000000 0, .d (.sl 1 2 fun i => List.take 1 (List.drop i [DV.int x.a, DV.int x.b]))] (by simp) (by simp) (by simp) (by simp [gOf, LB, LW0, tauB]) (by simp [gOf, LB, LW0, tauB]) (by simp [gOf, LB, LW0, tauB]) (by simp [LB, LW0, idsOk]) ?_
    simp [LB, LW0, tauB]
    exact ⟨.id 20, by simp [gE, e, ← ByteArray.append_assoc, Nat.add_assoc], by simp [gE]⟩
  refine ⟨fun h3 => ?_, fun h3 => ?_⟩
  · have e : encInst x = encI x.op ++ encT x.name := by simp [encInst, h, h2, h3]
    rw [e, ByteArray.size_append] at hlen
    refine calle_k (text_eff (bs ++ encI x.op) x.name (by rw [ByteArray.size_append]; omega)) (tauB _ 5) rfl [.ptr 1000000 0, .d (.str x.name)] (by simp) (by simp) (by simp) (by simp [gOf, LB, LW0, tauB]) (by simp [gOf, LB, LW0, tauB]) (by simp [gOf, LB, LW0, tauB]) (by simp [LB, LW0, idsOk]) ?_
    simp [LB, LW0, tauB]
    exact ⟨.id 21, by simp [gE, e, ← ByteArray.append_assoc, Nat.add_assoc], by simp [gE]⟩
  refine ⟨fun h4 => ?_, fun h4 => ?_⟩
  · have e : encInst x = encI x.op ++ (encI x.a ++ encT x.name) := by simp [encInst, h, h2, h3, h4]
    rw [e, ByteArray.size_append, ByteArray.size_append] at hlen
    refine calle_k (nums_eff (bs ++ encI x.op) [x.a] (by rw [ByteArray.size_append, encIs_one]; omega)) (tauB _ 5) rfl [.ptr 1000000 0, .d (.sl 1 1 fun i => List.take 1 (List.drop i [DV.int x.a]))] (by simp) (by simp) (by simp) (by simp [gOf, LB, LW0, tauB]) (by simp [gOf, LB, LW0, tauB]) (by simp [gOf, LB, LW0, tauB]) (by simp [LB, LW0, idsOk]) ?_
    simp [LB, LW0, tauB]
    rw [encIs_one]
    refine calle_k (text_eff (bs ++ encI x.op ++ encI x.a) x.name (by rw [ByteArray.size_append, ByteArray.size_append]; omega)) (tauB _ 26) rfl [.ptr 1000000 0, .d (.str x.name)] (by simp) (by simp) (by simp) (by simp [gOf, LB, LW0, tauB]) (by simp [gOf, LB, LW0, tauB]) (by simp [gOf, LB, LW0, tauB]) (by simp [LB, LW0, idsOk]) ?_
    simp [LB, LW0, tauB]
    exact ⟨.id 30, by simp [gE, e, ← ByteArray.append_assoc, Nat.add_assoc], by simp [gE]⟩
  refine ⟨fun h5 => ?_, fun h5 => ?_⟩
  · have e : encInst x = encI x.op ++ (encT x.name ++ encR x.args) := by simp [encInst, h, h2, h3, h4, h5]
    rw [e, ByteArray.size_append, ByteArray.size_append] at hlen
    refine calle_k (text_eff (bs ++ encI x.op) x.name (by rw [ByteArray.size_append]; omega)) (tauB _ 5) rfl [.ptr 1000000 0, .d (.str x.name)] (by simp) (by simp) (by simp) (by simp [gOf, LB, LW0, tauB]) (by simp [gOf, LB, LW0, tauB]) (by simp [gOf, LB, LW0, tauB]) (by simp [LB, LW0, idsOk]) ?_
    simp [LB, LW0, tauB]
    refine calle_k (wrow_eff (bs ++ encI x.op ++ encT x.name) x.args (by rw [ByteArray.size_append, ByteArray.size_append]; omega)) (tauB _ 29) rfl [.ptr 1000000 0, .d (intsD x.args)] (by simp) (by simp) (by simp) (by simp [gOf, LB, LW0, tauB]) (by simp [gOf, LB, LW0, tauB]) (by simp [gOf, LB, LW0, tauB]) (by simp [LB, LW0, idsOk]) ?_
    simp [LB, LW0, tauB]
    exact ⟨.id 33, by simp [gE, e, ← ByteArray.append_assoc, Nat.add_assoc], by simp [gE]⟩
  refine ⟨fun h6 => ?_, fun h6 => ?_⟩
  · have e : encInst x = encI x.op ++ encI x.a := by simp [encInst, h, h2, h3, h4, h5, h6]
    rw [e, ByteArray.size_append] at hlen
    refine calle_k (nums_eff (bs ++ encI x.op) [x.a] (by rw [ByteArray.size_append, encIs_one]; omega)) (tauB _ 5) rfl [.ptr 1000000 0, .d (.sl 1 1 fun i => List.take 1 (List.drop i [DV.int x.a]))] (by simp) (by simp) (by simp) (by simp [gOf, LB, LW0, tauB]) (by simp [gOf, LB, LW0, tauB]) (by simp [gOf, LB, LW0, tauB]) (by simp [LB, LW0, idsOk]) ?_
    simp [LB, LW0, tauB]
    rw [encIs_one]
    exact ⟨.id 34, by simp [gE, e, ← ByteArray.append_assoc, Nat.add_assoc], by simp [gE]⟩
  · have e : encInst x = encI x.op := by simp [encInst, h, show ¬ x.op ≤ 11 by omega, h3, h4, h5, h6]
    exact ⟨.id 5, by simp [gE, e, ← ByteArray.append_assoc, Nat.add_assoc], by simp [gE]⟩

set_option maxRecDepth 10000 in
theorem rowInst_eff (bs : ByteArray) (l : List Inst) (hok : ∀ x ∈ l, instK x) (hlen : bs.size + (encL encInst l).size ≤ 140737488355328) :
    AEff Try.prog 55 [.ptr 1000000 0, .d (insD l), .bm 56 (.ptr 1000000 0)] (LB (.ptr 1000000 0) bs) (.tup []) (LW0 (bs ++ encL encInst l)) := by
  refine aeffG _ _ Try.func55 (by kernel_rfl) t_bit_row_api_Inst_ u_bit_row_api_Inst_ rfl rfl (by simp [LB, LW0]) (by simp [LB, LW0, idsOk]) (fun hx => ?_)
  have hl : l.length ≤ 9223372036854775807 := by
    obtain ⟨γ, X, w, us, h⟩ := hx
    obtain ⟨v, vs, _, _, h⟩ := h.uncons
    obtain ⟨v, vs, _, h1, _⟩ := h.uncons
    have := sl_len h1.dv
    simpa [maxLen] using this
  clear hx
  simp [c_bit_row_api_Inst_, r_bit_row_api_Inst_, hof_LB]
  have hlen' : bs.size + ((encI l.length).size + (catM encInst l).size) ≤ 140737488355328 := by rw [← ByteArray.size_append]; exact hlen
  clear hlen
  refine calle_k (nums_eff bs [l.length] (by rw [encIs_one]; omega)) (tauB _ 1000001) rfl [.ptr 1000000 0, .d (.sl 1 1 fun i => List.take 1 (List.drop i [DV.int l.length]))] (by simp) (by simp) (by simp) (by simp [gOf, LB, tauB]) (by simp [gOf, LB, tauB]) (by simp [gOf, LB, tauB]) (by simp [LB, LW0, idsOk]) ?_
  rw [encIs_one]
  simp [LB, LW0, tauB]
  refine loop_s (κ := Nat) (fun k => k ≤ l.length) (fun k => l.length - k) (fun k => [(sl 15, .int k)]) (fun k => [(1000000, .boxT (some 51) [.ptr 1000000 0, .own 4 (bs ++ encI l.length ++ catM encInst (l.take k)).size]), (4, .row 5 1 (bs ++ encI l.length ++ catM encInst (l.take k)).size (strRow (bs ++ encI l.length ++ catM encInst (l.take k))))]) 9 0 (srcs [(4, .id 4)]) (by simp) (by simp [catM]) ?_
  rintro k hk
  simp
  refine ⟨fun hlt => ⟨hlt, ?_⟩, fun hge => ?_⟩
  · rw [getD_some hlt]
    have hsz := catM_mid encInst hlt
    refine calle_k (winst_eff (bs ++ encI l.length ++ catM encInst (l.take k)) l[k] (hok _ (List.getElem_mem hlt)) (by rw [ByteArray.size_append, ByteArray.size_append]; omega)) (tauB _ 4) rfl [.ptr 1000000 0, .d (.agg (instC l[k]))] (by simp) (by simp) (by simp; rfl) (by simp [gOf, LB, LW0, tauB]) (by simp [gOf, LB, LW0, tauB]) (by simp [gOf, LB, LW0, tauB]) (by simp [LB, LW0, idsOk]) ?_
    simp [LB, LW0, tauB]
    have e := catM_take encInst hlt
    refine ⟨k + 1, by omega, by omega, srcs [(4, .id 16)], ?_⟩
    simp [SLeK, e, ← ByteArray.append_assoc]
    exact ⟨DLe_int (wrap_succ (by omega)), by omega⟩
  · rw [List.take_of_length_le hge]
    refine ⟨.id 4, ?_, ?_⟩
    · simp [LB, gE, encL, ← ByteArray.append_assoc]
      omega
    · simp [LB, gE]

end Go.Proofs.Ytciihchbiifgkaa
