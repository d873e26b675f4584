/- Contracts by the evaluator: layer 5's statements on a module with one function more, or less. -/
import Derived.Test.YtghlfjpmpalpdaaB9
import Derived.Test.YtghlfjpmpalpdaaE12
import Derived.Test.YtghlfjpmpalpdaaLaw5b
namespace Go.Proofs.Ytghlfjpmpalpdaa
open Go.RowKit

theorem DLes_refl : ∀ l : List DV, DLes l l
  | [] => trivial
  | _ :: l => ⟨DLe.refl _, DLes_refl l⟩

theorem newF_row (s : ByteArray) : DLes [DV.str s, DV.int 1, DV.int 0, .sl 8 1 fun i => List.take 8 (List.drop (i * 8) [DV.int 0, .sl 6 1 fun i => List.take 6 (List.drop (i * 6) [DV.int 15, DV.int 0, DV.int 0, DV.lit (.int .u64 0), .str ⟨#[]⟩, .lit (.slice none 0 0)]), DV.int 3, DV.int 0, DV.int 0, .lit (.slice none 0 0), DV.int 0, .lit (.slice none 0 0)])] (funcC (newF s)) := by
  refine ⟨DLe.refl _, DLe.refl _, DLe.refl _, blocksD_cells rfl fun i hi => ?_, trivial⟩
  obtain rfl := at0 hi
  refine ⟨DLe.refl _, insD_cells rfl fun k hk => ?_, DLe.refl _, DLe.refl _, DLe.refl _, intsD_nil, DLe.refl _, intsD_nil, trivial⟩
  obtain rfl := at0 hk
  exact ⟨DLe.refl _, DLe.refl _, DLe.refl _, DLe.refl _, DLe.refl _, intsD_nil, trivial⟩

set_option maxHeartbeats 1000000 in
set_option maxRecDepth 10000 in
theorem irMore_pure (m : Module) (s : ByteArray) (hi : ∀ f ∈ m.funcs, ∀ b ∈ f.blocks, ∀ i ∈ b.ins, i.args.length ≤ 17592186044416) : APure Try.prog 6 [.agg (moduleC m), .str s] (.bool true) := by
  refine apureG _ _ Try.func6 (by kernel_rfl) t_marlinelaw05_IrMore u_marlinelaw05_IrMore rfl rfl (fun _ => ?_)
  simp [c_marlinelaw05_IrMore, r_marlinelaw05_IrMore]
  refine call_plain (ds := []) _ (by simp) (by simp) (fun _ => rfl) (fun _ => shown5_pure) ?_
  simp
  refine call_plain (ds := [.agg (moduleC m)]) _ (by simp) (by simp) (fun _ => rfl) (fun _ => check_pure m hi) ?_
  simp
  refine call_plain (ds := [.agg (moduleC m), .str s]) _ (by simp) (by simp) (fun _ => rfl) (fun _ => findFunc_pure m s) ?_
  simp
  refine call_plain (ds := [.agg (moduleC m), .str s]) _ (by simp) (by simp) (fun _ => rfl) (fun _ => findGlob_pure m s) ?_
  simp
  intro hz hl15 h1 h16 hf hg
  have hok := checkE_zero.1 hz
  have hc := check_pure ⟨m.funcs ++ [newF s], m.globs⟩ (fun f hf' b hb i hib => by
    rcases List.mem_append.1 hf' with h | h
    · exact hi f h b hb i hib
    · rw [List.mem_singleton.1 h] at hb
      rw [List.mem_singleton.1 hb] at hib
      rw [List.mem_singleton.1 hib]
      exact Nat.zero_le _)
  rw [checkE_zero.2 (more_ok hok (by omega) (s := s) (by omega) (by omega) (fun f hf' => by simpa using findI_neg.1 hf f hf') (fun g hg' => by simpa using findI_neg.1 hg g hg'))] at hc
  refine ⟨by omega, by omega, ?_⟩
  refine call_arg (ds := ?ds1) hc (by simp) (by simp) ?hd1 ?hle1 ?h1
  case hd1 => intro _; simp; rfl
  case hle1 =>
    intro _
    refine ⟨DLe_agg ⟨funcsD_cells (by simp) fun i hi => ?_, DLe.refl _, trivial⟩, trivial⟩
    unfold appRow
    split
    · rename_i hlt
      simp only [List.getElem_append_left hlt, getD_some hlt]
      exact DLes_refl _
    · rename_i hge
      obtain rfl : i = m.funcs.length := by simp at hi; omega
      simp
      exact newF_row s
  simp

set_option maxHeartbeats 1000000 in
set_option maxRecDepth 10000 in
theorem irLess_pure (m : Module) (n : Int) (hi : ∀ f ∈ m.funcs, ∀ b ∈ f.blocks, ∀ i ∈ b.ins, i.args.length ≤ 17592186044416) : APure Try.prog 8 [.agg (moduleC m), .int n] (.bool true) := by
  refine apureG _ _ Try.func8 (by kernel_rfl) t_marlinelaw05_IrLess u_marlinelaw05_IrLess rfl rfl (fun _ => ?_)
  simp [c_marlinelaw05_IrLess, r_marlinelaw05_IrLess]
  refine call_plain (ds := []) _ (by simp) (by simp) (fun _ => rfl) (fun _ => shown5_pure) ?_
  simp
  refine call_plain (ds := [.agg (moduleC m)]) _ (by simp) (by simp) (fun _ => rfl) (fun _ => check_pure m hi) ?_
  simp
  intro hz h0 hn0
  obtain ⟨a, rfl⟩ := Int.eq_ofNat_of_zero_le h0
  have hn : a < m.funcs.length := by omega
  have hok := checkE_zero.1 hz
  have hnf := hok.nf
  refine loop_s (κ := Nat) (fun k => k ≤ m.funcs.length ∧ ∀ j (hj : j < m.funcs.length), j < k → j ≠ a → ∀ s ∈ namesOf (allIns m.funcs[j]), s ≠ m.funcs[a].name) (fun k => m.funcs.length - k) (fun k => [(sl 6, .int k)]) (fun _ => []) 0 0 (srcs []) (by simp) (by simp) ?_
  rintro k ⟨hk, hb⟩
  simp
  refine ⟨fun hlt => ⟨hlt, ?_⟩, fun hge => ?_⟩
  · rw [getD_some hlt]
    have hfl := allIns_le (hok.funcs _ (List.getElem_mem hlt))
    refine call_plain (ds := [.agg (funcC m.funcs[k])]) _ (by simp) (by simp) (fun _ => rfl) (fun _ => refs_pure m.funcs[k] (by omega)) ?_
    simp
    obtain ⟨ns, hns⟩ : ∃ ns, namesOf (allIns m.funcs[k]) = ns := ⟨_, rfl⟩
    have hnl : ns.length ≤ 512 := by rw [← hns]; exact Nat.le_trans (namesOf_length _) hfl
    simp only [hns]
    refine loop_s (κ := Nat) (fun j => j ≤ ns.length ∧ ∀ i (hi : i < ns.length), i < j → k ≠ a → ns[i] ≠ m.funcs[a].name) (fun j => ns.length - j) (fun j => [(sl 8, .int j)]) (fun _ => []) 0 0 (srcs []) (by simp) (by simp) ?_
    rintro j ⟨hj, hjb⟩
    simp
    refine ⟨fun hjl hka => ⟨hjl, hn, ?_⟩, fun hge => ?_⟩
    · rw [getD_some hn]
      intro hne
      refine ⟨j + 1, ⟨by omega, fun i hi hij hka' => ?_⟩, by omega, srcs [], ?_⟩
      · rcases Nat.lt_or_ge i j with h1 | h1
        · exact hjb i hi h1 hka'
        · obtain rfl : i = j := by omega
          simpa [hjl] using hne
      · simp [SLeK]
        exact DLe_int (wrap_succ (by omega))
    · refine ⟨k + 1, ⟨by omega, fun i hi hik hia s hs => ?_⟩, by omega, srcs [], ?_⟩
      · rcases Nat.lt_or_ge i k with h1 | h1
        · exact hb i hi h1 hia s hs
        · obtain rfl : i = k := by omega
          rw [hns] at hs
          obtain ⟨p, hp, rfl⟩ := List.getElem_of_mem hs
          have : ¬ j < ns.length := fun h => hia (by have := hge h; omega)
          exact hjb p hp (by omega) hia
      · simp [SLeK]
        exact DLe_int (wrap_succ (by omega))
  have hless := checkE_zero.2 (less_ok hok hn fun j hj hja s hs => hb j hj (by omega) hja s hs)
  have hc := check_pure ⟨m.funcs.eraseIdx a, m.globs⟩ (fun f hf' b hb i hib => hi f ((List.eraseIdx_sublist _ _).subset hf') b hb i hib)
  rw [hless] at hc
  have hw : IntKind.i64.wrap ((a : Int) + 1) = ((a + 1 : Nat) : Int) := wrap_succ (by omega)
  rw [hw]
  simp only [Int.toNat_natCast]
  refine ⟨by omega, by omega, by omega, by omega, ?_⟩
  refine call_arg (ds := ?ds1) hc (by simp) (by simp) ?hd1 ?hle1 ?h1
  case hd1 => intro _; simp; rfl
  case hle1 =>
    intro _
    refine ⟨DLe_agg ⟨funcsD_cells (by simp [List.length_eraseIdx_of_lt hn]; omega) fun i hi => ?_, DLe.refl _, trivial⟩, trivial⟩
    simp only [] at hi ⊢
    rw [List.length_eraseIdx_of_lt hn] at hi
    unfold appRow
    split
    · rename_i hlt
      simp only [List.getElem_eraseIdx, dif_pos hlt]
      rw [getD_some (by omega)]
      exact DLes_refl _
    · rename_i hge
      simp only [List.getElem_eraseIdx, dif_neg hge]
      rw [getD_some (by omega)]
      have e : a + 1 + (i - a) = i + 1 := by omega
      simp only [e]
      exact DLes_refl _
  simp

end Go.Proofs.Ytghlfjpmpalpdaa
