/- Contracts by the evaluator: strings.Builder inside a struct of the program's own: WriteString, Len. -/
import Derived.Test.YtciihchbiifgkaaTE
import Derived.Test.YtciihchbiifgkaaKG
namespace Go.Proofs.Ytciihchbiifgkaa
open Go.RowKit

/-- A builder with a new row. -/
def LW0 (bs : ByteArray) : List (Nat × AObj) := [(1000000, .boxT (some 51) [.ptr 1000000 0, .own 999999 bs.size]), (999999, .row 5 1 bs.size (strRow bs))]
theorem size_append (a b : ByteArray) : (a ++ b).size = a.size + b.size := ByteArray.size_append
theorem strCells_app (a b : ByteArray) : Lib.strCells (a ++ b) = Lib.strCells a ++ Lib.strCells b := by
  unfold Lib.strCells
  rw [ByteArray.data_append, Array.toList_append, List.map_append]
theorem strRow_app {a b : ByteArray} {i : Nat} : appRow a.size (strRow a) (strRow b) i = strRow (a ++ b) i := by
  unfold appRow strRow
  rw [strCells_app]
  have h := Lib.strCells_length a
  split
  · rw [List.getElem?_append_left (by omega)]
  · rw [List.getElem?_append_right (by omega), h]

def tauW (n : Nat) : Nat → Nat := fun i => if i = 999999 then n else i
def tauB (n k : Nat) : Nat → Nat := fun i => if i = 999999 then n else if i = 1000001 then k else i

set_option maxRecDepth 10000 in
theorem writeString_eff (p : AV) (hp : p = .d (.lit (.pointer none)) ∨ p = .ptr 1000000 0) (bs s : ByteArray) (hlen : bs.size + s.size ≤ 140737488355328) :
    AEff Try.prog 18 [.ptr 1000000 0, .d (.str s)] (LB p bs) (.tup [.int s.size, .lit .nilIface]) (LW0 (bs ++ s)) := by
  refine aeffG _ _ Try.func18 (by kernel_rfl) t___strings_Builder__WriteString u___strings_Builder__WriteString rfl rfl (by simp [LB]) (by simp [LB, LW0, idsOk]) (fun _ => ?_)
  have hcc : AEff Try.prog 54 [.ptr 1000000 0] (LB p bs) (.tup []) (LB (.ptr 1000000 0) bs) := by
    rcases hp with rfl | rfl
    · exact copyCheck_eff0 bs
    · exact copyCheck_eff1 bs
  have hrow : ∀ i, i < s.size → (strRow s i).length = 1 ∧ ∀ x, x ∈ strRow s i → x.cell = true := fun i hi => by
    have h1 := Lib.strCells_length s
    have h2 := Lib.strCells_oneCell s
    unfold strRow
    rw [List.getElem?_eq_getElem (by omega)]
    refine ⟨rfl, fun x hx => ?_⟩
    obtain rfl := List.mem_singleton.1 hx
    exact h2 _ (List.getElem_mem _)
  simp [c___strings_Builder__WriteString, r___strings_Builder__WriteString, hof_LB]
  refine calle_k hcc (tauW _) rfl [.ptr 1000000 0] (by simp) (by simp) (by simp) ?_ ?_ ?_ (by simp [LB, idsOk]) ?_
  · simp [gOf, LB, tauW]
  · rcases hp with rfl | rfl <;> simp [gOf, LB, tauW]
  · simp [gOf, LB, tauW]
  simp [LB, tauW]
  refine ⟨⟨hlen, hrow⟩, .id 10, ?_, ?_⟩
  · simp [LW0, gE, size_append]
    exact fun i _ => strRow_app
  · simp [LW0, gE]

theorem strRow_cell {s : ByteArray} : ∀ i, i < s.size → (strRow s i).length = 1 ∧ ∀ x, x ∈ strRow s i → x.cell = true := fun i hi => by
  have h1 := Lib.strCells_length s
  have h2 := Lib.strCells_oneCell s
  unfold strRow
  rw [List.getElem?_eq_getElem (by omega)]
  refine ⟨rfl, fun x hx => ?_⟩
  obtain rfl := List.mem_singleton.1 hx
  exact h2 _ (List.getElem_mem _)
set_option maxRecDepth 10000 in
theorem writeString0_eff (s : ByteArray) (hlen : s.size ≤ 140737488355328) :
    AEff Try.prog 18 [.ptr 1000000 0, .d (.str s)] LN0 (.tup [.int s.size, .lit .nilIface]) (LW0 s) := by
  refine aeffG _ _ Try.func18 (by kernel_rfl) t___strings_Builder__WriteString u___strings_Builder__WriteString rfl rfl (by simp [LN0]) (by simp [LN0, LW0, idsOk]) (fun _ => ?_)
  have hrow := strRow_cell (s := s)
  simp [c___strings_Builder__WriteString, r___strings_Builder__WriteString, hof_LN0]
  refine calle_k copyCheck_effN (tauW _) rfl [.ptr 1000000 0] (by simp) (by simp) (by simp) ?_ ?_ ?_ (by simp [LN1, LN0, idsOk]) ?_
  · simp [gOf, LN0, tauW]
  · simp [gOf, LN0, tauW]
  · simp [gOf, LN0, tauW]
  simp [LN0, LN1, tauW]
  refine ⟨⟨hlen, hrow⟩, .id 10, ?_, ?_⟩
  · simp [LW0, gE]
  · simp [LW0, gE]

set_option maxRecDepth 10000 in
theorem len_eff (bs : ByteArray) : AEff Try.prog 27 [.ptr 1000000 0] (LB (.ptr 1000000 0) bs) (.int bs.size) (LB (.ptr 1000000 0) bs) := by
  refine aeffG _ _ Try.func27 (by kernel_rfl) t___strings_Builder__Len u___strings_Builder__Len rfl rfl (by simp [LB]) (by simp [LB, idsOk]) (fun _ => ?_)
  simp [c___strings_Builder__Len, r___strings_Builder__Len, hof_LB]
  exact ⟨.none, by simp [LB, gE], by simp [LB, gE]⟩

end Go.Proofs.Ytciihchbiifgkaa
