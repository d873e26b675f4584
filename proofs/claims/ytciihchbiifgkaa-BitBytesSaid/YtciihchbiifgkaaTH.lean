/- Contracts by the evaluator: rows of numbers laid by the writer. -/
import Derived.Test.YtciihchbiifgkaaTG
import Derived.Test.YtciihchbiifgkaaTA
namespace Go.Proofs.Ytciihchbiifgkaa
open Go.RowKit

/-- A builder, and a box of a variable that holds it. -/
def LC (bs : ByteArray) : List (Nat × AObj) := [(1000000, .boxT (some 51) [.ptr 1000000 0, .own 1000001 bs.size]), (1000001, .row 5 1 bs.size (strRow bs)), (1000002, .box [.ptr 1000000 0])]
def LCW (bs : ByteArray) : List (Nat × AObj) := [(1000000, .boxT (some 51) [.ptr 1000000 0, .own 999999 bs.size]), (999999, .row 5 1 bs.size (strRow bs)), (1000002, .box [.ptr 1000000 0])]
theorem hof_LC (bs : ByteArray) : hof (LC bs) = hadd 1000000 (.boxT (some 51) [.ptr 1000000 0, .own 1000001 bs.size]) (hadd 1000001 (.row 5 1 bs.size (strRow bs)) (hadd 1000002 (.box [.ptr 1000000 0]) hnil)) := rfl

set_option maxRecDepth 10000 in
theorem row1_eff (bs : ByteArray) (n : Int) (hlen : bs.size + (encI n).size ≤ 140737488355328) :
    AEff Try.prog 78 [.d (.int n), .ptr 1000002 0] (LC bs) (.tup []) (LCW (bs ++ encI n)) := by
  refine aeffG _ _ Try.func78 (by kernel_rfl) t___bit_writer__row_1 u___bit_writer__row_1 rfl rfl (by simp [LC]) (by simp [LC, LCW, idsOk]) (fun hx => ?_)
  simp [c___bit_writer__row_1, r___bit_writer__row_1, hof_LC]
  refine calle_k (nums_eff bs [n] (by rw [encIs_one]; exact hlen)) (tauB _ 1000001) rfl [.ptr 1000000 0, .d (.sl 1 1 fun i => List.take 1 (List.drop i [DV.int n]))] (by simp) (by simp) (by simp) (by simp [gOf, LB, tauB]) (by simp [gOf, LB, tauB]) (by simp [gOf, LB, tauB]) (by simp [LB, LW0, idsOk]) ?_
  rw [encIs_one]
  simp [LB, LW0, LCW, tauB]
  exact ⟨.id 3, by simp [LC, gE], by simp [LC, gE]⟩

/-- A row's bytes: how many, and each one's. -/
def catM {α : Type} (f : α → ByteArray) (l : List α) : ByteArray := catB (l.map f)
theorem catM_take {α : Type} (f : α → ByteArray) {l : List α} {k : Nat} (hk : k < l.length) : catM f (l.take (k + 1)) = catM f (l.take k) ++ f l[k] := catB_take f hk
theorem catM_mid {α : Type} (f : α → ByteArray) {l : List α} {k : Nat} (hk : k < l.length) : (catM f (l.take k)).size + (f l[k]).size ≤ (catM f l).size := catB_mid f hk
def encL {α : Type} (f : α → ByteArray) (l : List α) : ByteArray := encI l.length ++ catM f l
theorem encL_int (l : List Int) : encL encI l = encR l := rfl
set_option maxRecDepth 10000 in
theorem rowInt_eff (bs : ByteArray) (l : List Int) (hlen : bs.size + (encL encI l).size ≤ 140737488355328) :
    AEff Try.prog 77 [.ptr 1000000 0, .d (intsD l), .fn 78 [.ptr 1000002 0]] (LC bs) (.tup []) (LCW (bs ++ encL encI l)) := by
  refine aeffG _ _ Try.func77 (by kernel_rfl) t_bit_row_int_ u_bit_row_int_ rfl rfl (by simp [LC, LCW, LB, LW0]) (by simp [LC, LCW, LB, LW0, idsOk]) (fun hx => ?_)
  have hl : l.length ≤ 9223372036854775807 := by
    obtain ⟨γ, X, w, us, h⟩ := hx
    obtain ⟨v, vs, _, _, h⟩ := h.uncons
    obtain ⟨v, vs, _, h1, _⟩ := h.uncons
    have := sl_len h1.dv
    simpa [maxLen] using this
  clear hx
  simp [c_bit_row_int_, r_bit_row_int_, hof_LC]
  have hlen' : bs.size + ((encI l.length).size + (catM encI l).size) ≤ 140737488355328 := by rw [← ByteArray.size_append]; exact hlen
  clear hlen
  refine calle_k (nums_eff bs [l.length] (by rw [encIs_one]; omega)) (tauB _ 1000001) rfl [.ptr 1000000 0, .d (.sl 1 1 fun i => List.take 1 (List.drop i [DV.int l.length]))] (by simp) (by simp) (by simp) (by simp [gOf, LB, tauB]) (by simp [gOf, LB, tauB]) (by simp [gOf, LB, tauB]) (by simp [LB, LW0, idsOk]) ?_
  rw [encIs_one]
  simp [LC, LCW, LB, LW0, tauB]
  refine loop_s (κ := Nat) (fun k => k ≤ l.length) (fun k => l.length - k) (fun k => [(sl 15, .int k)]) (fun k => [(1000000, .boxT (some 51) [.ptr 1000000 0, .own 4 (bs ++ encI l.length ++ catM encI (l.take k)).size]), (4, .row 5 1 (bs ++ encI l.length ++ catM encI (l.take k)).size (strRow (bs ++ encI l.length ++ catM encI (l.take k)))), (1000002, .box [.ptr 1000000 0])]) 9 0 (srcs [(4, .id 4)]) (by simp) (by simp [catM]) ?_
  rintro k hk
  simp
  refine ⟨fun hlt => ⟨hlt, ?_⟩, fun hge => ?_⟩
  · rw [getD_some hlt]
    have hsz := catM_mid encI hlt
    refine calle_k (row1_eff (bs ++ encI l.length ++ catM encI (l.take k)) l[k] (by rw [ByteArray.size_append, ByteArray.size_append]; omega)) (tauB _ 4) rfl [.d (.int l[k]), .ptr 1000002 0] (by simp) (by simp) (by simp) (by simp [gOf, LC, LCW, LB, LW0, tauB]) (by simp [gOf, LC, LCW, LB, LW0, tauB]) (by simp [gOf, LC, LCW, LB, LW0, tauB]) (by simp [LC, LCW, LB, LW0, idsOk]) ?_
    simp [LC, LCW, LB, LW0, tauB]
    have e := catM_take encI hlt
    refine ⟨k + 1, by omega, by omega, srcs [(4, .id 15)], ?_⟩
    simp [SLeK, e, ← ByteArray.append_assoc]
    exact ⟨DLe_int (wrap_succ (by omega)), by omega⟩
  · rw [List.take_of_length_le hge]
    refine ⟨.id 4, ?_, ?_⟩
    · simp [LC, gE, encL, ← ByteArray.append_assoc]
      omega
    · simp [LC, gE]


end Go.Proofs.Ytciihchbiifgkaa
