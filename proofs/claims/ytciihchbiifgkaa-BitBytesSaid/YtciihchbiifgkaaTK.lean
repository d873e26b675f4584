/- Contracts by the evaluator: functions, globals, modules laid by the writer. -/
import Derived.Test.YtciihchbiifgkaaTJ
namespace Go.Proofs.Ytciihchbiifgkaa
open Go.RowKit

set_option maxRecDepth 10000 in
theorem wfunc_eff (bs : ByteArray) (f : Func) (hk : funcK f) (hlen : bs.size + (encFunc f).size ≤ 140737488355328) :
    AEff Try.prog 20 [.d (.agg (funcC f)), .ptr 1000002 0] (LC bs) (.tup []) (LCW (bs ++ encFunc f)) := by
  refine aeffG _ _ Try.func20 (by kernel_rfl) t_bit_Bytes_1 u_bit_Bytes_1 rfl rfl (by simp [LC]) (by simp [LC, LCW, idsOk]) (fun hx => ?_)
  clear hx
  simp [c_bit_Bytes_1, r_bit_Bytes_1, hof_LC]
  have hlen1 : bs.size + ((encT f.name).size + ((encIs [f.bind, f.params]).size + (encL encBlock f.blocks).size)) ≤ 140737488355328 := by
    rw [← ByteArray.size_append, ← ByteArray.size_append]; exact hlen
  have e0 : encFunc f = encT f.name ++ (encIs [f.bind, f.params] ++ encL encBlock f.blocks) := rfl
  refine calle_k (text_eff bs f.name (by omega)) (tauB _ 1000001) rfl [.ptr 1000000 0, .d (.str f.name)] (by simp) (by simp) (by simp) (by simp [gOf, LB, tauB]) (by simp [gOf, LB, tauB]) (by simp [gOf, LB, tauB]) (by simp [LB, LW0, idsOk]) ?_
  simp [LB, LW0, LCW, tauB]
  refine calle_k (nums_eff (bs ++ encT f.name) [f.bind, f.params] (by rw [ByteArray.size_append]; omega)) (tauB _ 4) rfl [.ptr 1000000 0, .d (.sl 1 2 fun i => List.take 1 (List.drop i [DV.int f.bind, DV.int f.params]))] (by simp) (by simp) (by simp) (by simp [gOf, LB, tauB]) (by simp [gOf, LB, tauB]) (by simp [gOf, LB, tauB]) (by simp [LB, LW0, idsOk]) ?_
  simp [LB, LW0, LCW, tauB]
  refine calle_k (rowBlock_eff (bs ++ encT f.name ++ encIs [f.bind, f.params]) f.blocks hk (by rw [ByteArray.size_append, ByteArray.size_append]; omega)) (tauB _ 11) rfl [.ptr 1000000 0, .d (blocksD f.blocks), .bm 24 (.ptr 1000000 0)] (by simp) (by simp) (by simp) (by simp [gOf, LB, tauB]) (by simp [gOf, LB, tauB]) (by simp [gOf, LB, tauB]) (by simp [LB, LW0, idsOk]) ?_
  simp [LB, LW0, LCW, tauB]
  exact ⟨.id 17, by simp [LC, gE, e0, ← ByteArray.append_assoc, Nat.add_assoc], by simp [LC, gE]⟩

set_option maxRecDepth 10000 in
theorem wglob_eff (bs : ByteArray) (g : Glob) (hk : globK g) (hlen : bs.size + (encGlob g).size ≤ 140737488355328) :
    AEff Try.prog 26 [.d (.agg (globC g)), .ptr 1000002 0] (LC bs) (.tup []) (LCW (bs ++ encGlob g)) := by
  refine aeffG _ _ Try.func26 (by kernel_rfl) t_bit_Bytes_2 u_bit_Bytes_2 rfl rfl (by simp [LC]) (by simp [LC, LCW, idsOk]) (fun hx => ?_)
  clear hx
  have hlen1 : bs.size + ((encT g.name).size + ((encIs [g.bind, if g.here = true then 1 else 0]).size + (numB g.init).size)) ≤ 140737488355328 := by
    rw [← ByteArray.size_append, ← ByteArray.size_append]; exact hlen
  have e0 : encGlob g = encT g.name ++ (encIs [g.bind, if g.here = true then 1 else 0] ++ numB g.init) := rfl
  simp [c_bit_Bytes_2, r_bit_Bytes_2, hof_LC]
  refine ⟨fun h => ?_, fun h => ?_⟩
  · simp only [h, if_true, Bool.false_eq_true, if_false] at e0 hlen1
    refine calle_k (text_eff bs g.name (by omega)) (tauB _ 1000001) rfl [.ptr 1000000 0, .d (.str g.name)] (by simp) (by simp) (by simp) (by simp [gOf, LB, tauB]) (by simp [gOf, LB, tauB]) (by simp [gOf, LB, tauB]) (by simp [LB, LW0, idsOk]) ?_
    simp [LB, LW0, LCW, tauB]
    refine calle_k (nums_eff (bs ++ encT g.name) [g.bind, 1] (by rw [ByteArray.size_append]; omega)) (tauB _ 8) rfl [.ptr 1000000 0, .d (.sl 1 2 fun i => List.take 1 (List.drop i [DV.int g.bind, DV.int 1]))] (by simp) (by simp) (by simp) (by simp [gOf, LB, tauB]) (by simp [gOf, LB, tauB]) (by simp [gOf, LB, tauB]) (by simp [LB, LW0, idsOk]) ?_
    simp [LB, LW0, LCW, tauB]
    refine call_plain (ds := [.lit (.int .u64 g.init)]) _ (by simp) (by simp) (fun _ => by simp) (fun _ => num_pure _ hk) ?_
    simp
    refine calle_k (writeString_eff (.ptr 1000000 0) (.inr rfl) (bs ++ encT g.name ++ encIs [g.bind, 1]) (numB g.init) (by rw [ByteArray.size_append, ByteArray.size_append]; omega)) (tauB _ 14) rfl [.ptr 1000000 0, .d (.str (numB g.init))] (by simp) (by simp) (by simp) (by simp [gOf, LB, tauB]) (by simp [gOf, LB, tauB]) (by simp [gOf, LB, tauB]) (by simp [LB, LW0, idsOk]) ?_
    simp [LB, LW0, LCW, tauB]
    exact ⟨.id 21, by simp [LC, gE, e0, ← ByteArray.append_assoc, Nat.add_assoc], by simp [LC, gE]⟩
  · simp only [h, if_true, Bool.false_eq_true, if_false] at e0 hlen1
    refine calle_k (text_eff bs g.name (by omega)) (tauB _ 1000001) rfl [.ptr 1000000 0, .d (.str g.name)] (by simp) (by simp) (by simp) (by simp [gOf, LB, tauB]) (by simp [gOf, LB, tauB]) (by simp [gOf, LB, tauB]) (by simp [LB, LW0, idsOk]) ?_
    simp [LB, LW0, LCW, tauB]
    refine calle_k (nums_eff (bs ++ encT g.name) [g.bind, 0] (by rw [ByteArray.size_append]; omega)) (tauB _ 7) rfl [.ptr 1000000 0, .d (.sl 1 2 fun i => List.take 1 (List.drop i [DV.int g.bind, DV.int 0]))] (by simp) (by simp) (by simp) (by simp [gOf, LB, tauB]) (by simp [gOf, LB, tauB]) (by simp [gOf, LB, tauB]) (by simp [LB, LW0, idsOk]) ?_
    simp [LB, LW0, LCW, tauB]
    refine call_plain (ds := [.lit (.int .u64 g.init)]) _ (by simp) (by simp) (fun _ => by simp) (fun _ => num_pure _ hk) ?_
    simp
    refine calle_k (writeString_eff (.ptr 1000000 0) (.inr rfl) (bs ++ encT g.name ++ encIs [g.bind, 0]) (numB g.init) (by rw [ByteArray.size_append, ByteArray.size_append]; omega)) (tauB _ 13) rfl [.ptr 1000000 0, .d (.str (numB g.init))] (by simp) (by simp) (by simp) (by simp [gOf, LB, tauB]) (by simp [gOf, LB, tauB]) (by simp [gOf, LB, tauB]) (by simp [LB, LW0, idsOk]) ?_
    simp [LB, LW0, LCW, tauB]
    exact ⟨.id 20, by simp [LC, gE, e0, ← ByteArray.append_assoc, Nat.add_assoc], by simp [LC, gE]⟩

set_option maxRecDepth 10000 in
theorem rowFunc_eff (bs : ByteArray) (l : List Func) (hok : ∀ x ∈ l, funcK x) (hlen : bs.size + (encL encFunc l).size ≤ 140737488355328) :
    AEff Try.prog 19 [.ptr 1000000 0, .d (funcsD l), .fn 20 [.ptr 1000002 0]] (LC bs) (.tup []) (LCW (bs ++ encL encFunc l)) := by
  refine aeffG _ _ Try.func19 (by kernel_rfl) t_bit_row_api_Func_ u_bit_row_api_Func_ rfl rfl (by simp [LC, LCW, LB, LW0]) (by simp [LC, LCW, LB, LW0, idsOk]) (fun hx => ?_)
  have hl : l.length ≤ 9223372036854775807 := by
    obtain ⟨γ, X, w, us, h⟩ := hx
    obtain ⟨v, vs, _, _, h⟩ := h.uncons
    obtain ⟨v, vs, _, h1, _⟩ := h.uncons
    have := sl_len h1.dv
    simpa [maxLen] using this
  clear hx
  simp [c_bit_row_api_Func_, r_bit_row_api_Func_, hof_LC]
  have hlen' : bs.size + ((encI l.length).size + (catM encFunc l).size) ≤ 140737488355328 := by rw [← ByteArray.size_append]; exact hlen
  clear hlen
  refine calle_k (nums_eff bs [l.length] (by rw [encIs_one]; omega)) (tauB _ 1000001) rfl [.ptr 1000000 0, .d (.sl 1 1 fun i => List.take 1 (List.drop i [DV.int l.length]))] (by simp) (by simp) (by simp) (by simp [gOf, LB, tauB]) (by simp [gOf, LB, tauB]) (by simp [gOf, LB, tauB]) (by simp [LB, LW0, idsOk]) ?_
  rw [encIs_one]
  simp [LC, LCW, LB, LW0, tauB]
  refine loop_s (κ := Nat) (fun k => k ≤ l.length) (fun k => l.length - k) (fun k => [(sl 15, .int k)]) (fun k => [(1000000, .boxT (some 51) [.ptr 1000000 0, .own 4 (bs ++ encI l.length ++ catM encFunc (l.take k)).size]), (4, .row 5 1 (bs ++ encI l.length ++ catM encFunc (l.take k)).size (strRow (bs ++ encI l.length ++ catM encFunc (l.take k)))), (1000002, .box [.ptr 1000000 0])]) 9 0 (srcs [(4, .id 4)]) (by simp) (by simp [catM]) ?_
  rintro k hk
  simp
  refine ⟨fun hlt => ⟨hlt, ?_⟩, fun hge => ?_⟩
  · rw [getD_some hlt]
    have hsz := catM_mid encFunc hlt
    refine calle_k (wfunc_eff (bs ++ encI l.length ++ catM encFunc (l.take k)) l[k] (hok _ (List.getElem_mem hlt)) (by rw [ByteArray.size_append, ByteArray.size_append]; omega)) (tauB _ 4) rfl [.d (.agg (funcC l[k])), .ptr 1000002 0] (by simp) (by simp) (by simp; rfl) (by simp [gOf, LC, LCW, LB, LW0, tauB]) (by simp [gOf, LC, LCW, LB, LW0, tauB]) (by simp [gOf, LC, LCW, LB, LW0, tauB]) (by simp [LC, LCW, LB, LW0, idsOk]) ?_
    simp [LC, LCW, LB, LW0, tauB]
    have e := catM_take encFunc hlt
    refine ⟨k + 1, by omega, by omega, srcs [(4, .id 16)], ?_⟩
    simp [SLeK, e, ← ByteArray.append_assoc]
    exact ⟨DLe_int (wrap_succ (by omega)), by omega⟩
  · rw [List.take_of_length_le hge]
    refine ⟨.id 4, ?_, ?_⟩
    · simp [LC, gE, encL, ← ByteArray.append_assoc]
      omega
    · simp [LC, gE]

set_option maxRecDepth 10000 in
theorem rowGlob_eff (bs : ByteArray) (l : List Glob) (hok : ∀ x ∈ l, globK x) (hlen : bs.size + (encL encGlob l).size ≤ 140737488355328) :
    AEff Try.prog 25 [.ptr 1000000 0, .d (globsD l), .fn 26 [.ptr 1000002 0]] (LC bs) (.tup []) (LCW (bs ++ encL encGlob l)) := by
  refine aeffG _ _ Try.func25 (by kernel_rfl) t_bit_row_api_Glob_ u_bit_row_api_Glob_ rfl rfl (by simp [LC, LCW, LB, LW0]) (by simp [LC, LCW, LB, LW0, idsOk]) (fun hx => ?_)
  have hl : l.length ≤ 9223372036854775807 := by
    obtain ⟨γ, X, w, us, h⟩ := hx
    obtain ⟨v, vs, _, _, h⟩ := h.uncons
    obtain ⟨v, vs, _, h1, _⟩ := h.uncons
    have := sl_len h1.dv
    simpa [maxLen] using this
  clear hx
  simp [c_bit_row_api_Glob_, r_bit_row_api_Glob_, hof_LC]
  have hlen' : bs.size + ((encI l.length).size + (catM encGlob l).size) ≤ 140737488355328 := by rw [← ByteArray.size_append]; exact hlen
  clear hlen
  refine calle_k (nums_eff bs [l.length] (by rw [encIs_one]; omega)) (tauB _ 1000001) rfl [.ptr 1000000 0, .d (.sl 1 1 fun i => List.take 1 (List.drop i [DV.int l.length]))] (by simp) (by simp) (by simp) (by simp [gOf, LB, tauB]) (by simp [gOf, LB, tauB]) (by simp [gOf, LB, tauB]) (by simp [LB, LW0, idsOk]) ?_
  rw [encIs_one]
  simp [LC, LCW, LB, LW0, tauB]
  refine loop_s (κ := Nat) (fun k => k ≤ l.length) (fun k => l.length - k) (fun k => [(sl 15, .int k)]) (fun k => [(1000000, .boxT (some 51) [.ptr 1000000 0, .own 4 (bs ++ encI l.length ++ catM encGlob (l.take k)).size]), (4, .row 5 1 (bs ++ encI l.length ++ catM encGlob (l.take k)).size (strRow (bs ++ encI l.length ++ catM encGlob (l.take k)))), (1000002, .box [.ptr 1000000 0])]) 9 0 (srcs [(4, .id 4)]) (by simp) (by simp [catM]) ?_
  rintro k hk
  simp
  refine ⟨fun hlt => ⟨hlt, ?_⟩, fun hge => ?_⟩
  · rw [getD_some hlt]
    have hsz := catM_mid encGlob hlt
    refine calle_k (wglob_eff (bs ++ encI l.length ++ catM encGlob (l.take k)) l[k] (hok _ (List.getElem_mem hlt)) (by rw [ByteArray.size_append, ByteArray.size_append]; omega)) (tauB _ 4) rfl [.d (.agg (globC l[k])), .ptr 1000002 0] (by simp) (by simp) (by simp; rfl) (by simp [gOf, LC, LCW, LB, LW0, tauB]) (by simp [gOf, LC, LCW, LB, LW0, tauB]) (by simp [gOf, LC, LCW, LB, LW0, tauB]) (by simp [LC, LCW, LB, LW0, idsOk]) ?_
    simp [LC, LCW, LB, LW0, tauB]
    have e := catM_take encGlob hlt
    refine ⟨k + 1, by omega, by omega, srcs [(4, .id 16)], ?_⟩
    simp [SLeK, e, ← ByteArray.append_assoc]
    exact ⟨DLe_int (wrap_succ (by omega)), by omega⟩
  · rw [List.take_of_length_le hge]
    refine ⟨.id 4, ?_, ?_⟩
    · simp [LC, gE, encL, ← ByteArray.append_assoc]
      omega
    · simp [LC, gE]

end Go.Proofs.Ytciihchbiifgkaa
