/- Contract by the evaluator: the document's Put. -/
import Derived.Test.YtndpejmebhcaaaaC6
import Derived.Test.YtndpejmebhcaaaaNumP
namespace Go.Proofs.Ytndpejmebhcaaaa
open Go.RowKit

theorem appRow_fn {g : Int → Int} {k : Nat} {y : Int} (h : y = g k) : ∀ i, i < k + 1 → appRow k (fun i => intC (g i)) (fun i => List.take 1 (List.drop i [DV.int y])) i = intC (g i) := by
  intro i hi
  unfold appRow
  split
  · rfl
  · obtain rfl : i = k := by omega
    rw [h]
    simp [intC]

theorem putYes_out {b leaf : Block} {at_ : Int} (h : (((((at_ < 0 ∨ (b.ins.length : Int) ≤ at_) ∨ ¬(b.ins[at_.toNat]?.getD default).op = 14) ∨ ¬((b.ins[at_.toNat]?.getD default).args.length : Int) = leaf.params) ∨ ¬leaf.kind = 3) ∨ 33 < (b.ins.length : Int) + leaf.ins.length)) : putYes b leaf at_ = false := by
  rw [← Bool.not_eq_true]
  intro hy
  simp [putYes, insAt] at hy
  obtain ⟨⟨⟨⟨⟨a1, a2⟩, a3⟩, a4⟩, a5⟩, a6⟩ := hy
  rcases h with (((((h | h) | h) | h) | h) | h)
  · omega
  · omega
  · exact h (of_decide_eq_true a3)
  · exact h (of_decide_eq_true a4)
  · exact h a5
  · omega

@[simp] def zB : List AV := [.d (.int 0), .d (.lit (.slice none 0 0)), .d (.int 0), .d (.int 0), .d (.int 0), .d (.lit (.slice none 0 0)), .d (.int 0), .d (.lit (.slice none 0 0))]

set_option maxHeartbeats 2000000 in
set_option maxRecDepth 10000 in
theorem putR_pure (b leaf : Block) (at_ : Int) (hb : NumsOk b) (hl : NumsOk leaf) :
    APure Try.prog 51 [.agg (blockC b), .agg (blockC leaf), .int at_] (.tup [.agg (blockC (if putYes b leaf at_ then putB b leaf at_ else b)), .bool (putYes b leaf at_)]) := by
  refine apureG _ [(79, 3, 1)] Try.func51 (by kernel_rfl) t_marlineref14_Put u_marlineref14_Put rfl rfl (fun _ => ?_)
  have hw : IntKind.i64.wrap ((b.ins.length : Int) + leaf.ins.length) = b.ins.length + leaf.ins.length := wrap_in (by have := hb.n32; have := hl.n32; omega)
  simp [c_marlineref14_Put, r_marlineref14_Put, hw]
  refine ⟨fun h1 h2 h3 => ⟨⟨⟨h1, h2⟩, h3⟩, h1, h2⟩, fun h => ?_, fun h0 h1 h2 h3 h4 h5 => ?_⟩
  · rw [putYes_out h]
    exact DLe.refl _
  have e : putYes b leaf at_ = true := by
    unfold putYes insAt
    rw [decide_eq_true h0, decide_eq_true h1, decide_eq_true h2, decide_eq_true h3, decide_eq_true h4, decide_eq_true (by omega : (b.ins.length : Int) - 1 + leaf.ins.length ≤ 32)]; rfl
  rw [e, if_pos rfl]
  obtain ⟨ak, rfl⟩ := Int.eq_ofNat_of_zero_le h0
  have hk : ak < b.ins.length := by omega
  have hn := hb.n32
  have hp := hb.p6
  have hp0 := hb.p0
  have hln := hl.n32
  have hlp := hl.p6
  have hlt4 := hl.ta (by omega)
  obtain ⟨P, hP⟩ := Int.eq_ofNat_of_zero_le hp0
  obtain ⟨g, hg⟩ : ∃ g, g = afterG b leaf (ak : Int) := ⟨_, rfl⟩
  have g1 : ∀ k : Nat, k < P + ak → g k = k := fun k hk => by rw [hg]; exact after_lo hP (by omega)
  obtain ⟨F, hF⟩ : ∃ F, F = (putB b leaf (ak : Int)).ins := ⟨_, rfl⟩
  obtain ⟨cnt, hcnt⟩ : ∃ cnt, cnt = cntF ak leaf.ins.length := ⟨_, rfl⟩
  have cnt0 : cnt 0 = 0 := by rw [hcnt]; exact cnt_lo (by omega)
  have cntS : ∀ i, ¬ i = ak → cnt (i + 1) = cnt i + 1 := fun i h => by rw [hcnt]; exact cntF_succ h
  have cntA : cnt (ak + 1) = ak + leaf.ins.length := by rw [hcnt]; exact cnt_at
  have cntA' : cnt ak = ak := by rw [hcnt]; exact cnt_lo (by omega)
  have cntN : ∀ i, i ≤ b.ins.length → cnt i ≤ 100 := fun i h => by rw [hcnt]; unfold cntF; split <;> omega
  have gnum : ∀ i, ¬ i = ak → (P : Int) + cnt i = g ((P + i : Nat) : Int) := fun i h => by rw [hg, hcnt]; exact after_num hP h
  have gat : g ((P + ak : Nat) : Int) = inG b leaf ak leaf.ta := by rw [hg]; exact after_at hP
  have Fturn : ∀ i (hi : i < b.ins.length), ¬ i = ak → F[cnt i]?.getD default = mapInst (nuAt (nuL g (P + i + 1))) b.ins[i] := fun i hi h => by rw [hF, hg, hcnt]; exact put_turn hb hP hk h hi
  obtain ⟨Q, hQ⟩ := Int.eq_ofNat_of_zero_le hl.p0
  obtain ⟨gi, hgi⟩ : ∃ gi, gi = inG b leaf (ak : Int) := ⟨_, rfl⟩
  have Fleaf : ∀ j (hj : j < leaf.ins.length), F[ak + j]?.getD default = mapInst (nuAt (nuL gi (Q + j + 1))) leaf.ins[j] := fun j hj => by rw [hF, hgi]; exact put_turn_leaf hl hQ hk hj
  have gilo : ∀ v : Nat, (v : Int) < leaf.params → gi v = (insAt b ak).args[v]?.getD 0 := fun v hv => by rw [hgi]; exact in_lo hv
  have gihi : ∀ j : Nat, gi ((Q + j : Nat) : Int) = ((P + (ak + j) : Nat) : Int) := fun j => by rw [hgi]; exact in_hi hP hQ
  rw [← hgi] at gat
  have hFl : F.length = cnt b.ins.length := by rw [hF, hcnt]; exact put_length hk
  have hend : ∀ l, AllIn (upTo (b.params + b.ins.length)) l → turnsL l (nuL g (P + b.ins.length)) = l.map g := fun l hl => by rw [hg]; exact put_end hP hl
  have hargs : turnsL (insAt b ak).args (nuL g (P + ak)) = (insAt b ak).args := by
    rw [hg]
    refine put_args hP ?_
    have := (hb.ins ak hk).args
    unfold insAt
    rw [show (ak : Int).toNat = ak from rfl, getD_some hk]
    exact this
  refine loop_c (κ := Nat) (fun k => k ≤ P) (fun k => P - k) (fun k => [(sl 9, .int k), (sl 8, .own 0 k)]) (fun k => [(0, .row 3 1 k (fun i => intC (g i))), (2, .box zB)]) 3 0 (srcs [(0, .nil), (2, .id 2)]) (by simp) (by simp) ?_
  intro k hk1
  simp
  refine ⟨fun hlt => ?_, fun hge => ?_⟩
  · refine ⟨by omega, k + 1, by omega, by omega, srcs [(0, .id 10), (2, .id 2)], ?_⟩
    simp
    exact ⟨DLe_int (wrap_succ (by omega)), appRow_fn (g1 k (by omega)).symm⟩
  obtain rfl : k = P := by omega
  clear hk1
  refine loop_s (κ := Nat) (fun i => i ≤ b.ins.length) (fun i => b.ins.length - i) (fun i => [(sl 11, .int i), (sl 8, .own 0 (k + i))]) (fun i => [(0, .row 3 1 (k + i) (fun i => intC (g i))), (1, .row 74 6 (cnt i) (fun j => instC (F[j]?.getD default))), (10, .box ([.d (.int b.params), .own 1 (cnt i)] ++ zB.drop 2)), (2, .box zB)]) 11 0 (srcs [(0, .id 0), (1, .nil), (10, .id 10), (2, .id 2)]) (by simp) (by simp [cnt0]) ?_
  intro i hi
  simp
  refine ⟨fun hlt => ⟨fun hne => ⟨by omega, hlt, ?_⟩, fun he => ⟨hk, ?_⟩⟩, fun hge => ?_⟩
  · have hne : ¬ i = ak := by omega
    have hwc : IntKind.i64.wrap (b.params + (cnt i : Int)) = g ((k + i : Nat) : Int) := by
      have h1 := cntN i hi
      rw [← gnum i hne, hP, wrap_in (by omega)]
    have hrow := appRow_fn (g := g) (k := k + i) hwc
    have hin : InstIn (inL (nuL g (k + i + 1))) (b.ins[i]?.getD default) := by
      rw [getD_some hlt]
      exact (hb.ins i hlt).mono (fun v hv => inL_nuL ⟨hv.1, by have := hv.2; omega⟩)
    refine call_arg (ds := ?ds) (turn_pure (b.ins[i]?.getD default) (nuL g (k + i + 1)) (by rw [getD_some hlt]; have := hb.args6 i hlt; omega) hin) (by simp) (by simp) (fun _ => ?_) (fun _ => ?_) ?_
    rotate_left
    · simp; rfl
    · refine ⟨DLe.refl _, intsD_le (by simp) (fun j hj => ?_), trivial⟩
      simp at hj
      rw [← getD_some (d := 0) (by simpa using hj), nuL_get hj]
      exact hrow j hj
    simp
    have hcn := cntN i hi
    refine ⟨by omega, i + 1, by omega, by omega, srcs [(0, .id 27), (1, .id 39), (10, .id 10), (2, .id 2)], ?_⟩
    simp [SLeK, cntS i hne]
    exact ⟨⟨by omega, DLe_int (wrap_in (by omega))⟩, ⟨by omega, hrow⟩, appRow_inst (by rw [getD_some hlt]; exact Fturn i hlt hne)⟩
  · obtain rfl : i = ak := by omega
    have hin : AllIn (inL (nuL g (k + i))) (b.ins[i]?.getD default).args := by
      rw [getD_some hlt]
      exact ((hb.ins i hlt).args).mono (fun v hv => inL_nuL ⟨hv.1, by have := hv.2; omega⟩)
    have h6 : (b.ins[i]?.getD default).args.length ≤ 6 := by rw [getD_some hlt]; exact hb.args6 i hlt
    refine callo_arg (ds := ?ds2) (turns_own (b.ins[i]?.getD default).args (nuL g (k + i)) (by omega) hin) (by simp) (by simp) ?_ ?_ ?_
    rotate_left
    · simp; rfl
    · refine ⟨DLe.refl _, intsD_le (by simp) (fun j hj => ?_), trivial⟩
      simp at hj
      rw [← getD_some (d := 0) (by simpa using hj), nuL_get hj]
    simp
    refine loop_s (κ := Nat) (fun j => j ≤ leaf.ins.length) (fun j => leaf.ins.length - j) (fun j => [(sl 13, .int j), (sl 12, .own 3 (Q + j)), (sl 8, .own 0 (k + i))]) (fun j => [(0, .row 3 1 (k + i) (fun i => intC (g i))), (3, .row 3 1 (Q + j) (fun i => intC (gi i))), (1, .row 74 6 (i + j) (fun j => instC (F[j]?.getD default))), (10, .box ([.d (.int b.params), .own 1 (i + j)] ++ zB.drop 2)), (2, .box zB)]) 11 0 (srcs [(0, .id 0), (3, .id 26), (1, .id 1), (10, .id 10), (2, .id 2)]) (by simp) ?_ ?_
    · simp [cntA']
      have hlen : (b.ins[i]?.getD default).args.length = Q := by
        have h3' : ((b.ins[i]?.getD default).args.length : Int) = leaf.params := h3
        omega
      refine ⟨hlen, fun v hv => ?_⟩
      have hargs' : turnsL (b.ins[i]?.getD default).args (nuL g (k + i)) = (b.ins[i]?.getD default).args := hargs
      rw [hargs', gilo v (by omega)]
      rfl
    intro j hj
    simp
    refine ⟨fun hlt' => ⟨by omega, hlt', ?_⟩, fun hge' => ?_⟩
    · have hwc : IntKind.i64.wrap (b.params + ((i : Int) + (j : Int))) = gi ((Q + j : Nat) : Int) := by
        rw [gihi j, hP, wrap_in (by omega)]; omega
      have hrow := appRow_fn (g := gi) (k := Q + j) hwc
      have hin : InstIn (inL (nuL gi (Q + j + 1))) (leaf.ins[j]?.getD default) := by
        rw [getD_some hlt']
        exact (hl.ins j hlt').mono (fun v hv => inL_nuL ⟨hv.1, by have := hv.2; omega⟩)
      refine call_arg (ds := ?ds3) (turn_pure (leaf.ins[j]?.getD default) (nuL gi (Q + j + 1)) (by rw [getD_some hlt']; have := hl.args6 j hlt'; omega) hin) (by simp) (by simp) (fun _ => ?_) (fun _ => ?_) ?_
      rotate_left
      · simp; rfl
      · refine ⟨DLe.refl _, intsD_le (by simp) (fun j' hj' => ?_), trivial⟩
        simp at hj'
        rw [← getD_some (d := 0) (by simpa using hj'), nuL_get hj']
        exact hrow j' hj'
      simp
      refine ⟨by omega, j + 1, by omega, by omega, srcs [(0, .id 0), (3, .id 24), (1, .id 36), (10, .id 10), (2, .id 2)], ?_⟩
      simp [SLeK]
      exact ⟨⟨by omega, DLe_int (wrap_in (by omega))⟩, ⟨by omega, hrow⟩, ⟨by omega, appRow_inst (by rw [getD_some hlt']; exact Fleaf j hlt')⟩, by omega⟩
    · obtain rfl : j = leaf.ins.length := by omega
      have hta : 0 ≤ leaf.ta ∧ leaf.ta < (Q : Int) + leaf.ins.length := ⟨hlt4.1, by have := hlt4.2; omega⟩
      rw [show max leaf.ta 0 = leaf.ta by omega]
      refine ⟨hta, by omega, i + 1, by omega, by omega, srcs [(0, .id 24), (1, .id 1), (10, .id 10), (2, .id 2)], ?_⟩
      simp [SLeK, cntA]
      exact ⟨⟨by omega, DLe_int (wrap_in (by omega))⟩, by omega, appRow_fn gat.symm⟩
  · obtain rfl : i = b.ins.length := by omega
    have hrowC : ∀ j (hj : j < (nuL g (k + b.ins.length)).length), intC (g j) = intC (nuL g (k + b.ins.length))[j] := fun j hj => by
      simp at hj
      rw [← getD_some (d := 0) (by simpa using hj), nuL_get hj]
    have hinC : ∀ l, AllIn (upTo (b.params + b.ins.length)) l → AllIn (inL (nuL g (k + b.ins.length))) l := fun l h => h.mono (fun v hv => inL_nuL ⟨hv.1, by have := hv.2; omega⟩)
    refine callo_arg (ds := ?ds4) (turns_own b.args (nuL g (k + b.ins.length)) (by have := hb.args17; omega) (hinC _ hb.args)) (by simp) (by simp) ?_ ?_ ?_
    rotate_left
    · simp; rfl
    · exact ⟨DLe.refl _, intsD_le (by simp) hrowC, trivial⟩
    simp
    refine callo_arg (ds := ?ds5) (turns_own b.elses (nuL g (k + b.ins.length)) (by have := hb.elses17; omega) (hinC _ hb.elses)) (by simp) (by simp) ?_ ?_ ?_
    rotate_left
    · simp; rfl
    · exact ⟨DLe.refl _, intsD_le (by simp) hrowC, trivial⟩
    simp
    have eF : (putB b leaf (ak : Int)).ins = F := hF.symm
    have eA : (putB b leaf (ak : Int)).args = turnsL b.args (nuL g (k + b.ins.length)) := by rw [hend _ hb.args, hg]; rfl
    have eE : (putB b leaf (ak : Int)).elses = turnsL b.elses (nuL g (k + b.ins.length)) := by rw [hend _ hb.elses, hg]; rfl
    have dF : DLe (DV.sl 6 (cnt b.ins.length) fun j => instC (F[j]?.getD default)) (insD (putB b leaf (ak : Int)).ins) := by
      rw [eF]; exact insD_le hFl.symm (fun i hi => by rw [getD_some hi])
    have dA : DLe (DV.sl 1 b.args.length fun k_1 => intC ((turnsL b.args (nuL g (k + b.ins.length)))[k_1]?.getD 0)) (intsD (putB b leaf (ak : Int)).args) := by
      rw [eA]; exact intsD_le (by simp) (fun i hi => by rw [getD_some hi])
    have dE : DLe (DV.sl 1 b.elses.length fun k_1 => intC ((turnsL b.elses (nuL g (k + b.ins.length)))[k_1]?.getD 0)) (intsD (putB b leaf (ak : Int)).elses) := by
      rw [eE]; exact intsD_le (by simp) (fun i hi => by rw [getD_some hi])
    refine ⟨fun hk1 => ?_, fun hk1 => ?_⟩
    · have ht := hb.ta hk1
      have et : (putB b leaf (ak : Int)).ta = g b.ta := by simp [putB, hk1, hg]
      rw [show max b.ta 0 = b.ta by have := ht.1; omega]
      refine ⟨⟨ht.1, by have := ht.2; omega⟩, DLe_tup ⟨DLe_agg ⟨DLe.refl _, dF, DLe.refl _, DLe_int et.symm, DLe.refl _, dA, DLe.refl _, dE, trivial⟩, DLe.refl _, trivial⟩⟩
    · have et : (putB b leaf (ak : Int)).ta = b.ta := by simp [putB, hk1]
      exact DLe_tup ⟨DLe_agg ⟨DLe.refl _, dF, DLe.refl _, DLe_int et.symm, DLe.refl _, dA, DLe.refl _, dE, trivial⟩, DLe.refl _, trivial⟩

end Go.Proofs.Ytndpejmebhcaaaa
