/- strings.Builder inside a struct of the program's own: copyCheck, String, by the kit's walks; what they do to the call's own objects. -/
import Derived.Test.YtciihchbiifgkaaKF
import Derived.Test.YtciihchbiifgkaaTA
import Derived.Lib.Builder
import Derived.Lib.UnsafeStr
namespace Go.Proofs.Ytciihchbiifgkaa
open Go.RowKit

set_option maxHeartbeats 1000000 in
set_option maxRecDepth 100000 in
theorem copyCheck_used (b : Nat) (w : World) (h0 : w.cell? ⟨b, 0, none⟩ = some (.pointer (some ⟨b, 0, none⟩))) :
    Calls Try.prog 54 #[.pointer (some ⟨b, 0, none⟩)] w fun e w' => e = .returned (.tuple #[]) ∧ w' = w := by
  obtain ⟨j, hj, hjs⟩ := Option.map_eq_some_iff.1 (show (Try.prog.info? 49).map (·.size) = some 2 by kernel_rfl)
  go_enter Try.func54, Try.ntmps54
  go_wp2
  rw [Lib.run_neq_ptr_same w _ Try.underlying46 hj]
  go_wp2
  go_end0
  exact ⟨rfl, rfl⟩

set_option maxHeartbeats 1000000 in
set_option maxRecDepth 100000 in
theorem copyCheck_fresh (b : Nat) (w : World) (h0 : w.cell? ⟨b, 0, none⟩ = some (.pointer none)) (hsh : w.shape? b = some (51, 2)) (hfz : w.frozen? ⟨b, 0, none⟩ = false) :
    Calls Try.prog 54 #[.pointer (some ⟨b, 0, none⟩)] w fun e w' => e = .returned (.tuple #[]) ∧ w' = w.setCell ⟨b, 0, none⟩ (.pointer (some ⟨b, 0, none⟩)) := by
  obtain ⟨j, hj, hjs⟩ := Option.map_eq_some_iff.1 (show (Try.prog.info? 49).map (·.size) = some 2 by kernel_rfl)
  go_enter Try.func54, Try.ntmps54
  go_wp2
  rw [Lib.run_to_unsafe w ⟨b, 0, none⟩ Try.underlying46 Try.underlying138 hj (by rw [hjs]; decide) hsh (Nat.zero_lt_succ 1)]
  simp only [Result.andThen]
  rw [Oper.upon_value]
  go_wp2
  rw [run_callFunc_extern Try.func76 (by kernel_rfl) (by kernel_rfl) (by kernel_rfl) (e := Extern.AbiNoEscape.same) (by kernel_rfl)]
  rw [Lib.run_noEscape]
  simp only [Result.andThen]
  rw [Oper.upon_value]
  go_wp2
  rw [Lib.run_from_unsafe w ⟨b, 0, none⟩ Try.underlying138 Try.underlying46 hj hsh (by kernel_rfl)]
  simp only [Result.andThen]
  rw [Oper.upon_value]
  go_wp2
  go_end0
  exact ⟨rfl, rfl⟩

/-- A builder: its box, its row. -/
def LB (p : AV) (bs : ByteArray) : List (Nat × AObj) := [(1000000, .boxT (some 51) [p, .own 1000001 bs.size]), (1000001, .row 5 1 bs.size (strRow bs))]
theorem hof_LB (p : AV) (bs : ByteArray) : hof (LB p bs) = hadd 1000000 (.boxT (some 51) [p, .own 1000001 bs.size]) (hadd 1000001 (.row 5 1 bs.size (strRow bs)) hnil) := rfl
theorem set_cell_row {w : World} {b : Nat} {arr : Array Value} {t : TypeId} {fr : Nat × Nat} (hh : w.heap[b]? = some (.cells arr t fr)) (v : Value) (h0 : 0 < arr.size) : w.setCell ⟨b, 0, none⟩ v = w.setRow b (spl arr.toList 0 [v]).toArray := by
  unfold World.setCell World.setRow
  congr 1
  refine Array.ext_getElem? fun i => ?_
  simp only [Array.getElem?_modify]
  by_cases e : b = i
  · subst e
    rw [if_pos rfl, if_pos rfl, hh]
    simp only [Option.map_some, Option.isSome_none, Bool.false_eq_true, if_false]
    congr 2
    refine Array.ext_getElem? fun j => ?_
    cases j with
    | zero => simp [spl, h0]
    | succ j => simp [spl]
  · rw [if_neg e, if_neg e]

set_option maxRecDepth 10000 in
theorem copyCheck_eff1 (bs : ByteArray) : AEff Try.prog 54 [.ptr 1000000 0] (LB (.ptr 1000000 0) bs) (.tup []) (LB (.ptr 1000000 0) bs) := by
  refine aeff_raw (H' := hof (LB (.ptr 1000000 0) bs)) ⟨_, _, Try.func54, by kernel_rfl, rfl⟩ (by simp [LB]) (by simp [LB, idsOk]) ⟨.none, by simp [LB, hof, HLe, gE, hget, hadd, OLe, cellsLe, AVLe, AVLe0], by simp [LB, srcApart, gE]⟩ ?_
  intro X0 W0 γ w Hf vs hS hO hvs
  have hg : ∀ k o, hget (hof (LB (.ptr 1000000 0) bs)) k = some o → hget (hjoin (hof (LB (.ptr 1000000 0) bs)) Hf) k = some o := fun k o h => by
    have h' : hof (LB (.ptr 1000000 0) bs) k = some o := h
    simp [hget, hjoin, h']
  obtain ⟨v0, hv0, b, arr, t0, rfl, hB, hh, hreps⟩ := hS.obj 1000000 _ (hg 1000000 _ (by simp [LB, hof, hget, hadd]; rfl))
  have hargs : vs = #[.pointer (some ⟨b, 0, none⟩)] := by
    obtain ⟨a0, r0, e0, h0, k0⟩ := hvs.uncons
    obtain rfl := k0.unnil
    cases h0 with | ptr b' _ _ h5 =>
    rw [hv0] at h5
    injection h5 with h5
    injection h5 with h5
    injection h5 with h5
    injection h5 with h5
    subst h5
    exact Array.toList_inj.1 e0
  subst hargs
  have hc : w.cell? ⟨b, 0, none⟩ = some (.pointer (some ⟨b, 0, none⟩)) := by
    obtain ⟨a0, r0, e0, h0, k0⟩ := hreps.uncons
    cases h0 with | ptr b' _ _ h5 =>
    rw [hv0] at h5
    injection h5 with h5
    injection h5 with h5
    injection h5 with h5
    injection h5 with h5
    subst h5
    have := box_cells hh 0 _ (by rw [e0]; rfl)
    simpa using this
  refine (copyCheck_used b w hc).mono ?_
  rintro e w' ⟨rfl, rfl⟩
  exact ⟨_, rfl, hS, hO, Keeps.refl _ _, .tup [] [] rfl (fun i h => by simp at h)⟩

set_option maxRecDepth 10000 in
theorem copyCheck_eff0 (bs : ByteArray) : AEff Try.prog 54 [.ptr 1000000 0] (LB (.d (.lit (.pointer none))) bs) (.tup []) (LB (.ptr 1000000 0) bs) := by
  refine aeff_raw (H' := hof (LB (.ptr 1000000 0) bs)) ⟨_, _, Try.func54, by kernel_rfl, rfl⟩ (by simp [LB]) (by simp [LB, idsOk]) ⟨.none, by simp [LB, hof, HLe, gE, hget, hadd, OLe, cellsLe, AVLe, AVLe0], by simp [LB, srcApart, gE]⟩ ?_
  intro X0 W0 γ w Hf vs hS hO hvs
  have hg : ∀ k o, hget (hof (LB (.d (.lit (.pointer none))) bs)) k = some o → hget (hjoin (hof (LB (.d (.lit (.pointer none))) bs)) Hf) k = some o := fun k o h => by
    have h' : hof (LB (.d (.lit (.pointer none))) bs) k = some o := h
    simp [hget, hjoin, h']
  have hg0 : hget (hof (LB (.d (.lit (.pointer none))) bs)) 1000000 = some (.boxT (some 51) [.d (.lit (.pointer none)), .own 1000001 bs.size]) := by simp [LB, hof, hget, hadd]
  obtain ⟨v0, hv0, b, arr, t0, rfl, hB, hh, hreps⟩ := hS.obj 1000000 _ (hg 1000000 _ hg0)
  have hargs : vs = #[.pointer (some ⟨b, 0, none⟩)] := by
    obtain ⟨a0, r0, e0, h0, k0⟩ := hvs.uncons
    obtain rfl := k0.unnil
    cases h0 with | ptr b' _ _ h5 =>
    rw [hv0] at h5
    injection h5 with h5
    injection h5 with h5
    injection h5 with h5
    injection h5 with h5
    subst h5
    exact Array.toList_inj.1 e0
  subst hargs
  have hsz : arr.size = 2 := by have := hreps.1; simpa using this
  have hc : w.cell? ⟨b, 0, none⟩ = some (.pointer none) := by
    obtain ⟨a0, r0, e0, h0, k0⟩ := hreps.uncons
    obtain rfl := h0.lit
    have := box_cells hh 0 _ (by rw [e0]; rfl)
    simpa using this
  have hty : tyOf (some 51) t0 = 51 := rfl
  refine (copyCheck_fresh b w hc (by simp [World.shape?, hh, hsz, hty]) (by simp [World.frozen?, hh])).mono ?_
  rintro e w' ⟨rfl, rfl⟩
  obtain ⟨g1, g2⟩ := hS.store (hg 1000000 _ hg0) hv0 hh hreps 0 [.pointer (some ⟨b, 0, none⟩)] [.ptr 1000000 0] (Reps.cons (.ptr b 1000000 0 hv0) (Reps.nil _ _ _))
  rw [set_cell_row hh _ (by omega)]
  have hH : hjoin (hof (LB (.ptr 1000000 0) bs)) Hf = hset (hjoin (hof (LB (.d (.lit (.pointer none))) bs)) Hf) 1000000 (.boxT (some 51) (spl [.d (.lit (.pointer none)), .own 1000001 bs.size] 0 [.ptr 1000000 0])) := by
    rw [← hjoin_hset hg0]
    congr 1
    funext k
    simp [LB, hof, hset, hadd, hnil, spl]
    by_cases e : 1000000 = k <;> simp [e]
  rw [hH]
  refine ⟨_, rfl, g1, ?_, g2, .tup [] [] rfl (fun i h => by simp at h)⟩
  refine hO.mono fun k _ hn => ?_
  simp [LB, hof, hget, hadd, hnil] at hn ⊢
  by_cases e : 1000000 = k
  · simp [e] at hn
  · simpa [e] using hn

/-- A builder that nothing was laid in. -/
def LN0 : List (Nat × AObj) := [(1000000, .boxT (some 51) [.d (.lit (.pointer none)), .d (.lit (.slice none 0 0))])]
def LN1 : List (Nat × AObj) := [(1000000, .boxT (some 51) [.ptr 1000000 0, .d (.lit (.slice none 0 0))])]
theorem hof_LN0 : hof LN0 = hadd 1000000 (.boxT (some 51) [.d (.lit (.pointer none)), .d (.lit (.slice none 0 0))]) hnil := rfl
set_option maxRecDepth 10000 in
theorem copyCheck_effN : AEff Try.prog 54 [.ptr 1000000 0] LN0 (.tup []) LN1 := by
  refine aeff_raw (H' := hof LN1) ⟨_, _, Try.func54, by kernel_rfl, rfl⟩ (by simp [LN0]) (by simp [LN0, LN1, idsOk]) ⟨.none, by simp [LN0, LN1, hof, HLe, gE, hget, hadd, OLe, cellsLe, AVLe, AVLe0]; exact DLe.refl _, by simp [LN0, LN1, srcApart, gE]⟩ ?_
  intro X0 W0 γ w Hf vs hS hO hvs
  have hg : ∀ k o, hget (hof LN0) k = some o → hget (hjoin (hof LN0) Hf) k = some o := fun k o h => by
    have h' : hof LN0 k = some o := h
    simp [hget, hjoin, h']
  have hg0 : hget (hof LN0) 1000000 = some (.boxT (some 51) [.d (.lit (.pointer none)), .d (.lit (.slice none 0 0))]) := by simp [LN0, LN1, hof, hget, hadd]
  obtain ⟨v0, hv0, b, arr, t0, rfl, hB, hh, hreps⟩ := hS.obj 1000000 _ (hg 1000000 _ hg0)
  have hargs : vs = #[.pointer (some ⟨b, 0, none⟩)] := by
    obtain ⟨a0, r0, e0, h0, k0⟩ := hvs.uncons
    obtain rfl := k0.unnil
    cases h0 with | ptr b' _ _ h5 =>
    rw [hv0] at h5
    injection h5 with h5
    injection h5 with h5
    injection h5 with h5
    injection h5 with h5
    subst h5
    exact Array.toList_inj.1 e0
  subst hargs
  have hsz : arr.size = 2 := by have := hreps.1; simpa using this
  have hc : w.cell? ⟨b, 0, none⟩ = some (.pointer none) := by
    obtain ⟨a0, r0, e0, h0, k0⟩ := hreps.uncons
    obtain rfl := h0.lit
    have := box_cells hh 0 _ (by rw [e0]; rfl)
    simpa using this
  have hty : tyOf (some 51) t0 = 51 := rfl
  refine (copyCheck_fresh b w hc (by simp [World.shape?, hh, hsz, hty]) (by simp [World.frozen?, hh])).mono ?_
  rintro e w' ⟨rfl, rfl⟩
  obtain ⟨g1, g2⟩ := hS.store (hg 1000000 _ hg0) hv0 hh hreps 0 [.pointer (some ⟨b, 0, none⟩)] [.ptr 1000000 0] (Reps.cons (.ptr b 1000000 0 hv0) (Reps.nil _ _ _))
  rw [set_cell_row hh _ (by omega)]
  have hH : hjoin (hof LN1) Hf = hset (hjoin (hof LN0) Hf) 1000000 (.boxT (some 51) (spl [.d (.lit (.pointer none)), .d (.lit (.slice none 0 0))] 0 [.ptr 1000000 0])) := by
    rw [← hjoin_hset hg0]
    congr 1
    funext k
    simp [LN0, LN1, hof, hset, hadd, hnil, spl]
    by_cases e : 1000000 = k <;> simp [e]
  rw [hH]
  refine ⟨_, rfl, g1, ?_, g2, .tup [] [] rfl (fun i h => by simp at h)⟩
  refine hO.mono fun k _ hn => ?_
  simp [LN0, LN1, hof, hget, hadd, hnil] at hn ⊢
  by_cases e : 1000000 = k
  · simp [e] at hn
  · simp [e]

end Go.Proofs.Ytciihchbiifgkaa
