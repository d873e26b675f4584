/- Contracts by the evaluator: the reader of layer 6: rows. -/
import Derived.Test.YtciihchbiifgkaaTU
namespace Go.Proofs.Ytciihchbiifgkaa
open Go.RowKit

theorem appRow_snoc {α : Type} (C : α → List DV) (d : α) {acc : List α} {x : α} {more : Nat → List DV} (h0 : more 0 = C x) {i : Nat} (hi : i < acc.length + 1) : appRow acc.length (fun i => C (acc[i]?.getD d)) more i = C ((acc ++ [x])[i]?.getD d) := by
  unfold appRow
  split
  · rename_i h; rw [List.getElem?_append_left h]
  · rename_i h
    obtain rfl : i = acc.length := by omega
    simp [h0]

set_option maxRecDepth 10000 in
theorem sevInt_eff (st : RS) (most : Nat) (hmost : most ≤ 1000) (F : FuncId) (one : SR Int) (hle : Le one) (hF : ∀ st : RS, st.s.size ≤ 140737488355328 → AEff Try.prog F [.ptr 1000000 0] (LR st) (.int (one st).1) (LR (one st).2)) (hs : st.s.size ≤ 140737488355328) :
    AEff Try.prog 92 [.ptr 1000000 0, .d (.lit (.int .u64 most)), .bm F (.ptr 1000000 0)] (LR st) (intsD (sevS most one st).1) (LR (sevS most one st).2) := by
  refine aeffG _ _ Try.func92 (by kernel_rfl) t_bit_several_int_ u_bit_several_int_ rfl rfl (by simp [LR]) (by simp [LR, idsOk]) (fun hx => ?_)
  clear hx
  simp [c_bit_several_int_, r_bit_several_int_, hof_LR]
  refine calle_k (most_eff st most (by omega) hs) (tauW _) rfl [.ptr 1000000 0, .d (.lit (.int .u64 most))] (by simp) (by simp) (by simp) (by simp [gOf, LR, tauW]) (by simp [gOf, LR, tauW]) (by simp [gOf, LR, tauW]) (by simp [LR, idsOk]) ?_
  simp [LR, tauW]
  obtain ⟨hr0, hr1⟩ := mostS_rng most st
  have hsle := mostS_le most st
  have hdef : sevS most one st = sRepA one (mostS most st).1.toNat [] (mostS most st).2 := rfl
  generalize hq : mostS most st = q at hdef hr0 hr1 hsle ⊢
  obtain ⟨n, s1⟩ := q
  simp only at hdef hr0 hr1 hsle ⊢
  obtain ⟨n, rfl⟩ := Int.eq_ofNat_of_zero_le hr0
  rw [Int.toNat_natCast] at hdef
  refine loop_s (κ := KR Int) (fun q => q.k ≤ n ∧ q.acc.length = q.k ∧ sevS most one st = sRepA one (n - q.k) q.acc q.st ∧ q.st.s.size ≤ 140737488355328) (fun q => n - q.k) (fun q => [(sl 12, .int q.k), (sl 7, .own 2 q.k)]) (fun q => [(1000000, .box [.d (.str q.st.s), .d (.int q.st.e)]), (2, .row 3 1 q.k fun i => intC (q.acc[i]?.getD 0))]) 6 ⟨0, [], s1⟩ (srcs [(2, .nil)]) ⟨by simp, by simp, by simpa using hdef, by simp; omega⟩ (by simp) ?_
  rintro ⟨k, acc, s2⟩ ⟨hk, hacc, hrel, hs2⟩
  simp only at hk hacc hrel hs2
  simp
  refine ⟨fun hlt => ?_, fun hge => ?_⟩
  · have hlo := hle s2
    refine calle_k (hF s2 hs2) (tauW _) rfl [.ptr 1000000 0] (by simp) (by simp) (by simp) (by simp [gOf, LR, tauW]) (by simp [gOf, LR, tauW]) (by simp [gOf, LR, tauW]) (by simp [LR, idsOk]) ?_
    simp [LR, tauW]
    obtain ⟨j, hj⟩ : ∃ j, n - k = j + 1 := ⟨n - k - 1, by omega⟩
    rw [hj] at hrel
    refine ⟨fun he => ?_, fun he => ?_⟩
    · have e : sevS most one st = ([], (one s2).2) := by rw [hrel]; simp [sRepA, he]
      rw [e]
      exact ⟨intsD_nil, .none, by simp [gE], by simp [gE]⟩
    · have e : sevS most one st = sRepA one j (acc ++ [(one s2).1]) (one s2).2 := by rw [hrel]; simp [sRepA, he]
      refine ⟨by omega, ⟨k + 1, acc ++ [(one s2).1], (one s2).2⟩, ⟨by simp; omega, by simp [hacc], ?_, by simp; omega⟩, by simp; omega, srcs [(2, .id 18)], ?_⟩
      · show sevS most one st = sRepA one (n - (k + 1)) _ _
        rw [e, show n - (k + 1) = j by omega]
      · simp [SLeK]
        refine ⟨DLe_int (wrap_succ (by omega)), fun i hi => ?_⟩
        subst hacc
        exact appRow_snoc intC 0 (by rfl) hi
  · obtain rfl : k = n := by omega
    have e : sevS most one st = (acc, s2) := by rw [hrel, Nat.sub_self]; rfl
    rw [e]
    subst hacc
    exact ⟨DLe.refl _, .none, by simp [gE], by simp [gE]⟩

set_option maxRecDepth 10000 in
theorem sevInst_eff (st : RS) (most : Nat) (hmost : most ≤ 1000) (F : FuncId) (one : SR Inst) (hle : Le one) (hF : ∀ st : RS, st.s.size ≤ 140737488355328 → AEff Try.prog F [.ptr 1000000 0] (LR st) (.agg (instC (one st).1)) (LR (one st).2)) (hs : st.s.size ≤ 140737488355328) :
    AEff Try.prog 82 [.ptr 1000000 0, .d (.lit (.int .u64 most)), .bm F (.ptr 1000000 0)] (LR st) (insD (sevS most one st).1) (LR (sevS most one st).2) := by
  refine aeffG _ _ Try.func82 (by kernel_rfl) t_bit_several_api_Inst_ u_bit_several_api_Inst_ rfl rfl (by simp [LR]) (by simp [LR, idsOk]) (fun hx => ?_)
  clear hx
  simp [c_bit_several_api_Inst_, r_bit_several_api_Inst_, hof_LR]
  refine calle_k (most_eff st most (by omega) hs) (tauW _) rfl [.ptr 1000000 0, .d (.lit (.int .u64 most))] (by simp) (by simp) (by simp) (by simp [gOf, LR, tauW]) (by simp [gOf, LR, tauW]) (by simp [gOf, LR, tauW]) (by simp [LR, idsOk]) ?_
  simp [LR, tauW]
  obtain ⟨hr0, hr1⟩ := mostS_rng most st
  have hsle := mostS_le most st
  have hdef : sevS most one st = sRepA one (mostS most st).1.toNat [] (mostS most st).2 := rfl
  generalize hq : mostS most st = q at hdef hr0 hr1 hsle ⊢
  obtain ⟨n, s1⟩ := q
  simp only at hdef hr0 hr1 hsle ⊢
  obtain ⟨n, rfl⟩ := Int.eq_ofNat_of_zero_le hr0
  rw [Int.toNat_natCast] at hdef
  refine loop_s (κ := KR Inst) (fun q => q.k ≤ n ∧ q.acc.length = q.k ∧ sevS most one st = sRepA one (n - q.k) q.acc q.st ∧ q.st.s.size ≤ 140737488355328) (fun q => n - q.k) (fun q => [(sl 12, .int q.k), (sl 7, .own 2 q.k)]) (fun q => [(1000000, .box [.d (.str q.st.s), .d (.int q.st.e)]), (2, .row 82 6 q.k fun i => instC (q.acc[i]?.getD default))]) 6 ⟨0, [], s1⟩ (srcs [(2, .nil)]) ⟨by simp, by simp, by simpa using hdef, by simp; omega⟩ (by simp) ?_
  rintro ⟨k, acc, s2⟩ ⟨hk, hacc, hrel, hs2⟩
  simp only at hk hacc hrel hs2
  simp
  refine ⟨fun hlt => ?_, fun hge => ?_⟩
  · have hlo := hle s2
    refine calle_k (hF s2 hs2) (tauW _) rfl [.ptr 1000000 0] (by simp) (by simp) (by simp) (by simp [gOf, LR, tauW]) (by simp [gOf, LR, tauW]) (by simp [gOf, LR, tauW]) (by simp [LR, idsOk]) ?_
    simp [LR, tauW]
    obtain ⟨j, hj⟩ : ∃ j, n - k = j + 1 := ⟨n - k - 1, by omega⟩
    rw [hj] at hrel
    refine ⟨fun he => ?_, fun he => ?_⟩
    · have e : sevS most one st = ([], (one s2).2) := by rw [hrel]; simp [sRepA, he]
      rw [e]
      exact ⟨insD_nil, .none, by simp [gE], by simp [gE]⟩
    · have e : sevS most one st = sRepA one j (acc ++ [(one s2).1]) (one s2).2 := by rw [hrel]; simp [sRepA, he]
      refine ⟨by omega, ⟨k + 1, acc ++ [(one s2).1], (one s2).2⟩, ⟨by simp; omega, by simp [hacc], ?_, by simp; omega⟩, by simp; omega, srcs [(2, .id 19)], ?_⟩
      · show sevS most one st = sRepA one (n - (k + 1)) _ _
        rw [e, show n - (k + 1) = j by omega]
      · simp [SLeK]
        refine ⟨DLe_int (wrap_succ (by omega)), fun i hi => ?_⟩
        subst hacc
        exact appRow_snoc instC default (by rfl) hi
  · obtain rfl : k = n := by omega
    have e : sevS most one st = (acc, s2) := by rw [hrel, Nat.sub_self]; rfl
    rw [e]
    subst hacc
    exact ⟨DLe.refl _, .none, by simp [gE], by simp [gE]⟩

set_option maxRecDepth 10000 in
theorem sevBlock_eff (st : RS) (most : Nat) (hmost : most ≤ 1000) (F : FuncId) (one : SR Block) (hle : Le one) (hF : ∀ st : RS, st.s.size ≤ 140737488355328 → AEff Try.prog F [.ptr 1000000 0] (LR st) (.agg (blockC (one st).1)) (LR (one st).2)) (hs : st.s.size ≤ 140737488355328) :
    AEff Try.prog 64 [.ptr 1000000 0, .d (.lit (.int .u64 most)), .bm F (.ptr 1000000 0)] (LR st) (blocksD (sevS most one st).1) (LR (sevS most one st).2) := by
  refine aeffG _ _ Try.func64 (by kernel_rfl) t_bit_several_api_Block_ u_bit_several_api_Block_ rfl rfl (by simp [LR]) (by simp [LR, idsOk]) (fun hx => ?_)
  clear hx
  simp [c_bit_several_api_Block_, r_bit_several_api_Block_, hof_LR]
  refine calle_k (most_eff st most (by omega) hs) (tauW _) rfl [.ptr 1000000 0, .d (.lit (.int .u64 most))] (by simp) (by simp) (by simp) (by simp [gOf, LR, tauW]) (by simp [gOf, LR, tauW]) (by simp [gOf, LR, tauW]) (by simp [LR, idsOk]) ?_
  simp [LR, tauW]
  obtain ⟨hr0, hr1⟩ := mostS_rng most st
  have hsle := mostS_le most st
  have hdef : sevS most one st = sRepA one (mostS most st).1.toNat [] (mostS most st).2 := rfl
  generalize hq : mostS most st = q at hdef hr0 hr1 hsle ⊢
  obtain ⟨n, s1⟩ := q
  simp only at hdef hr0 hr1 hsle ⊢
  obtain ⟨n, rfl⟩ := Int.eq_ofNat_of_zero_le hr0
  rw [Int.toNat_natCast] at hdef
  refine loop_s (κ := KR Block) (fun q => q.k ≤ n ∧ q.acc.length = q.k ∧ sevS most one st = sRepA one (n - q.k) q.acc q.st ∧ q.st.s.size ≤ 140737488355328) (fun q => n - q.k) (fun q => [(sl 12, .int q.k), (sl 7, .own 2 q.k)]) (fun q => [(1000000, .box [.d (.str q.st.s), .d (.int q.st.e)]), (2, .row 68 8 q.k fun i => blockC (q.acc[i]?.getD default))]) 6 ⟨0, [], s1⟩ (srcs [(2, .nil)]) ⟨by simp, by simp, by simpa using hdef, by simp; omega⟩ (by simp) ?_
  rintro ⟨k, acc, s2⟩ ⟨hk, hacc, hrel, hs2⟩
  simp only at hk hacc hrel hs2
  simp
  refine ⟨fun hlt => ?_, fun hge => ?_⟩
  · have hlo := hle s2
    refine calle_k (hF s2 hs2) (tauW _) rfl [.ptr 1000000 0] (by simp) (by simp) (by simp) (by simp [gOf, LR, tauW]) (by simp [gOf, LR, tauW]) (by simp [gOf, LR, tauW]) (by simp [LR, idsOk]) ?_
    simp [LR, tauW]
    obtain ⟨j, hj⟩ : ∃ j, n - k = j + 1 := ⟨n - k - 1, by omega⟩
    rw [hj] at hrel
    refine ⟨fun he => ?_, fun he => ?_⟩
    · have e : sevS most one st = ([], (one s2).2) := by rw [hrel]; simp [sRepA, he]
      rw [e]
      exact ⟨blocksD_nil, .none, by simp [gE], by simp [gE]⟩
    · have e : sevS most one st = sRepA one j (acc ++ [(one s2).1]) (one s2).2 := by rw [hrel]; simp [sRepA, he]
      refine ⟨by omega, ⟨k + 1, acc ++ [(one s2).1], (one s2).2⟩, ⟨by simp; omega, by simp [hacc], ?_, by simp; omega⟩, by simp; omega, srcs [(2, .id 19)], ?_⟩
      · show sevS most one st = sRepA one (n - (k + 1)) _ _
        rw [e, show n - (k + 1) = j by omega]
      · simp [SLeK]
        refine ⟨DLe_int (wrap_succ (by omega)), fun i hi => ?_⟩
        subst hacc
        exact appRow_snoc blockC default (by rfl) hi
  · obtain rfl : k = n := by omega
    have e : sevS most one st = (acc, s2) := by rw [hrel, Nat.sub_self]; rfl
    rw [e]
    subst hacc
    exact ⟨DLe.refl _, .none, by simp [gE], by simp [gE]⟩

set_option maxRecDepth 10000 in
theorem sevFunc_eff (st : RS) (most : Nat) (hmost : most ≤ 1000) (F : FuncId) (one : SR Func) (hle : Le one) (hF : ∀ st : RS, st.s.size ≤ 140737488355328 → AEff Try.prog F [.ptr 1000000 0] (LR st) (.agg (funcC (one st).1)) (LR (one st).2)) (hs : st.s.size ≤ 140737488355328) :
    AEff Try.prog 36 [.ptr 1000000 0, .d (.lit (.int .u64 most)), .bm F (.ptr 1000000 0)] (LR st) (funcsD (sevS most one st).1) (LR (sevS most one st).2) := by
  refine aeffG _ _ Try.func36 (by kernel_rfl) t_bit_several_api_Func_ u_bit_several_api_Func_ rfl rfl (by simp [LR]) (by simp [LR, idsOk]) (fun hx => ?_)
  clear hx
  simp [c_bit_several_api_Func_, r_bit_several_api_Func_, hof_LR]
  refine calle_k (most_eff st most (by omega) hs) (tauW _) rfl [.ptr 1000000 0, .d (.lit (.int .u64 most))] (by simp) (by simp) (by simp) (by simp [gOf, LR, tauW]) (by simp [gOf, LR, tauW]) (by simp [gOf, LR, tauW]) (by simp [LR, idsOk]) ?_
  simp [LR, tauW]
  obtain ⟨hr0, hr1⟩ := mostS_rng most st
  have hsle := mostS_le most st
  have hdef : sevS most one st = sRepA one (mostS most st).1.toNat [] (mostS most st).2 := rfl
  generalize hq : mostS most st = q at hdef hr0 hr1 hsle ⊢
  obtain ⟨n, s1⟩ := q
  simp only at hdef hr0 hr1 hsle ⊢
  obtain ⟨n, rfl⟩ := Int.eq_ofNat_of_zero_le hr0
  rw [Int.toNat_natCast] at hdef
  refine loop_s (κ := KR Func) (fun q => q.k ≤ n ∧ q.acc.length = q.k ∧ sevS most one st = sRepA one (n - q.k) q.acc q.st ∧ q.st.s.size ≤ 140737488355328) (fun q => n - q.k) (fun q => [(sl 12, .int q.k), (sl 7, .own 2 q.k)]) (fun q => [(1000000, .box [.d (.str q.st.s), .d (.int q.st.e)]), (2, .row 59 4 q.k fun i => funcC (q.acc[i]?.getD default))]) 6 ⟨0, [], s1⟩ (srcs [(2, .nil)]) ⟨by simp, by simp, by simpa using hdef, by simp; omega⟩ (by simp) ?_
  rintro ⟨k, acc, s2⟩ ⟨hk, hacc, hrel, hs2⟩
  simp only at hk hacc hrel hs2
  simp
  refine ⟨fun hlt => ?_, fun hge => ?_⟩
  · have hlo := hle s2
    refine calle_k (hF s2 hs2) (tauW _) rfl [.ptr 1000000 0] (by simp) (by simp) (by simp) (by simp [gOf, LR, tauW]) (by simp [gOf, LR, tauW]) (by simp [gOf, LR, tauW]) (by simp [LR, idsOk]) ?_
    simp [LR, tauW]
    obtain ⟨j, hj⟩ : ∃ j, n - k = j + 1 := ⟨n - k - 1, by omega⟩
    rw [hj] at hrel
    refine ⟨fun he => ?_, fun he => ?_⟩
    · have e : sevS most one st = ([], (one s2).2) := by rw [hrel]; simp [sRepA, he]
      rw [e]
      exact ⟨funcsD_nil, .none, by simp [gE], by simp [gE]⟩
    · have e : sevS most one st = sRepA one j (acc ++ [(one s2).1]) (one s2).2 := by rw [hrel]; simp [sRepA, he]
      refine ⟨by omega, ⟨k + 1, acc ++ [(one s2).1], (one s2).2⟩, ⟨by simp; omega, by simp [hacc], ?_, by simp; omega⟩, by simp; omega, srcs [(2, .id 19)], ?_⟩
      · show sevS most one st = sRepA one (n - (k + 1)) _ _
        rw [e, show n - (k + 1) = j by omega]
      · simp [SLeK]
        refine ⟨DLe_int (wrap_succ (by omega)), fun i hi => ?_⟩
        subst hacc
        exact appRow_snoc funcC default (by rfl) hi
  · obtain rfl : k = n := by omega
    have e : sevS most one st = (acc, s2) := by rw [hrel, Nat.sub_self]; rfl
    rw [e]
    subst hacc
    exact ⟨DLe.refl _, .none, by simp [gE], by simp [gE]⟩

set_option maxRecDepth 10000 in
theorem sevGlob_eff (st : RS) (most : Nat) (hmost : most ≤ 1000) (F : FuncId) (one : SR Glob) (hle : Le one) (hF : ∀ st : RS, st.s.size ≤ 140737488355328 → AEff Try.prog F [.ptr 1000000 0] (LR st) (.agg (globC (one st).1)) (LR (one st).2)) (hs : st.s.size ≤ 140737488355328) :
    AEff Try.prog 38 [.ptr 1000000 0, .d (.lit (.int .u64 most)), .bm F (.ptr 1000000 0)] (LR st) (globsD (sevS most one st).1) (LR (sevS most one st).2) := by
  refine aeffG _ _ Try.func38 (by kernel_rfl) t_bit_several_api_Glob_ u_bit_several_api_Glob_ rfl rfl (by simp [LR]) (by simp [LR, idsOk]) (fun hx => ?_)
  clear hx
  simp [c_bit_several_api_Glob_, r_bit_several_api_Glob_, hof_LR]
  refine calle_k (most_eff st most (by omega) hs) (tauW _) rfl [.ptr 1000000 0, .d (.lit (.int .u64 most))] (by simp) (by simp) (by simp) (by simp [gOf, LR, tauW]) (by simp [gOf, LR, tauW]) (by simp [gOf, LR, tauW]) (by simp [LR, idsOk]) ?_
  simp [LR, tauW]
  obtain ⟨hr0, hr1⟩ := mostS_rng most st
  have hsle := mostS_le most st
  have hdef : sevS most one st = sRepA one (mostS most st).1.toNat [] (mostS most st).2 := rfl
  generalize hq : mostS most st = q at hdef hr0 hr1 hsle ⊢
  obtain ⟨n, s1⟩ := q
  simp only at hdef hr0 hr1 hsle ⊢
  obtain ⟨n, rfl⟩ := Int.eq_ofNat_of_zero_le hr0
  rw [Int.toNat_natCast] at hdef
  refine loop_s (κ := KR Glob) (fun q => q.k ≤ n ∧ q.acc.length = q.k ∧ sevS most one st = sRepA one (n - q.k) q.acc q.st ∧ q.st.s.size ≤ 140737488355328) (fun q => n - q.k) (fun q => [(sl 12, .int q.k), (sl 7, .own 2 q.k)]) (fun q => [(1000000, .box [.d (.str q.st.s), .d (.int q.st.e)]), (2, .row 73 4 q.k fun i => globC (q.acc[i]?.getD default))]) 6 ⟨0, [], s1⟩ (srcs [(2, .nil)]) ⟨by simp, by simp, by simpa using hdef, by simp; omega⟩ (by simp) ?_
  rintro ⟨k, acc, s2⟩ ⟨hk, hacc, hrel, hs2⟩
  simp only at hk hacc hrel hs2
  simp
  refine ⟨fun hlt => ?_, fun hge => ?_⟩
  · have hlo := hle s2
    refine calle_k (hF s2 hs2) (tauW _) rfl [.ptr 1000000 0] (by simp) (by simp) (by simp) (by simp [gOf, LR, tauW]) (by simp [gOf, LR, tauW]) (by simp [gOf, LR, tauW]) (by simp [LR, idsOk]) ?_
    simp [LR, tauW]
    obtain ⟨j, hj⟩ : ∃ j, n - k = j + 1 := ⟨n - k - 1, by omega⟩
    rw [hj] at hrel
    refine ⟨fun he => ?_, fun he => ?_⟩
    · have e : sevS most one st = ([], (one s2).2) := by rw [hrel]; simp [sRepA, he]
      rw [e]
      exact ⟨globsD_nil, .none, by simp [gE], by simp [gE]⟩
    · have e : sevS most one st = sRepA one j (acc ++ [(one s2).1]) (one s2).2 := by rw [hrel]; simp [sRepA, he]
      refine ⟨by omega, ⟨k + 1, acc ++ [(one s2).1], (one s2).2⟩, ⟨by simp; omega, by simp [hacc], ?_, by simp; omega⟩, by simp; omega, srcs [(2, .id 19)], ?_⟩
      · show sevS most one st = sRepA one (n - (k + 1)) _ _
        rw [e, show n - (k + 1) = j by omega]
      · simp [SLeK]
        refine ⟨DLe_int (wrap_succ (by omega)), fun i hi => ?_⟩
        subst hacc
        exact appRow_snoc globC default (by rfl) hi
  · obtain rfl : k = n := by omega
    have e : sevS most one st = (acc, s2) := by rw [hrel, Nat.sub_self]; rfl
    rw [e]
    subst hacc
    exact ⟨DLe.refl _, .none, by simp [gE], by simp [gE]⟩

end Go.Proofs.Ytciihchbiifgkaa
