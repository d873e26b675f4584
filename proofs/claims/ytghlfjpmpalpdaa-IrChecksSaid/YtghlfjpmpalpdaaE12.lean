/- Contracts by the evaluator: layer 5's statements on counts and names. -/
import Derived.Test.YtghlfjpmpalpdaaE10
import Derived.Test.YtghlfjpmpalpdaaE11
import Derived.Test.YtghlfjpmpalpdaaLaw5
namespace Go.Proofs.Ytghlfjpmpalpdaa
open Go.RowKit

theorem allIns_le {f : Func} (h : funcOk f = true) : (allIns f).length ≤ 512 := by
  have hb := funcOk_len h
  have key : ∀ l : List Block, (∀ b ∈ l, b.ins.length ≤ 32) → (l.flatMap (·.ins)).length ≤ l.length * 32 := by
    intro l
    induction l with
    | nil => intro _; simp
    | cons b l ih =>
      intro hl
      have h1 := hl b (by simp)
      have h2 := ih fun c hc => hl c (by simp [hc])
      simp only [List.flatMap_cons, List.length_append, List.length_cons]
      omega
  have := key f.blocks fun b hb => by
    obtain ⟨k, hk, rfl⟩ := List.getElem_of_mem hb
    exact (blockOk_parts (funcOk_block h hk)).2.2.1
  unfold allIns
  omega

set_option maxHeartbeats 1000000 in
set_option maxRecDepth 10000 in
theorem irCounts_pure (f : Func) (hi : ∀ b ∈ f.blocks, ∀ i ∈ b.ins, i.args.length ≤ 17592186044416) : APure Try.prog 10 [.agg (funcC f)] (.bool true) := by
  refine apureG _ _ Try.func10 (by kernel_rfl) t_marlinelaw05_IrCounts u_marlinelaw05_IrCounts rfl rfl (fun _ => ?_)
  simp [c_marlinelaw05_IrCounts, r_marlinelaw05_IrCounts]
  refine call_plain (ds := []) _ (by simp) (by simp) (fun _ => rfl) (fun _ => shown5_pure) ?_
  simp
  refine call_plain (ds := [.agg (funcC f)]) _ (by simp) (by simp) (fun _ => rfl) (fun _ => func_pure f hi) ?_
  simp
  intro hok
  have hbl := funcOk_len hok
  refine loop_s (κ := Nat) (fun k => k ≤ f.blocks.length) (fun k => f.blocks.length - k) (fun k => [(sl 4, .int k)]) (fun _ => []) 0 0 (srcs []) (by simp) (by simp) ?_
  rintro k hk
  simp
  refine ⟨fun hlt => ⟨hlt, ?_⟩, fun hge => ?_⟩
  · rw [getD_some hlt]
    have hbi := hi _ (List.getElem_mem hlt)
    obtain ⟨p0, p6, p32, hins, hend⟩ := blockOk_parts (funcOk_block hok hlt)
    obtain ⟨b, hb⟩ : ∃ b, f.blocks[k] = b := ⟨_, rfl⟩
    simp only [hb] at hbi p0 p6 p32 hins hend ⊢
    refine call_plain (ds := [.agg (blockC b)]) _ (by simp) (by simp) (fun _ => rfl) (fun _ => values_pure b) ?_
    rw [wrap_in (n := b.params + (b.ins.length : Int)) (by omega)]
    simp
    refine ⟨fun h => by omega, fun _ => ?_⟩
    refine loop_s (κ := Nat) (fun m => m ≤ b.ins.length) (fun m => b.ins.length - m) (fun m => [(sl 5, .int m)]) (fun _ => []) 0 0 (srcs []) (by simp) (by simp) ?_
    rintro m hm
    simp [hlt, hb]
    refine ⟨fun hml => ⟨hml, ?_⟩, fun hge => ?_⟩
    · have hio := hins m hml
      have hul := uses_len hio
      refine call_plain (ds := [.agg (instC b.ins[m])]) _ (by simp) (by simp) (fun _ => by simp [hml]; rfl) (fun _ => uses_pure b.ins[m] (hbi _ (List.getElem_mem hml))) ?_
      simp
      refine ⟨fun h => by omega, fun _ => ⟨m + 1, by omega, by omega, srcs [], ?_⟩⟩
      simp [SLeK]
      exact DLe_int (wrap_succ (by omega))
    · refine ⟨k + 1, by omega, by omega, srcs [], ?_⟩
      simp [SLeK]
      exact DLe_int (wrap_succ (by omega))
  · refine call_plain (ds := [.agg (funcC f)]) _ (by simp) (by simp) (fun _ => by simp; rfl) (fun _ => refs_pure f (by have := allIns_le hok; omega)) ?_
    simp
    refine DLe_bool ?_
    have h1 := allIns_le hok
    have h2 := namesOf_length (allIns f)
    simp
    omega

set_option maxHeartbeats 1000000 in
set_option maxRecDepth 10000 in
theorem irNames_pure (m : Module) (hi : ∀ f ∈ m.funcs, ∀ b ∈ f.blocks, ∀ i ∈ b.ins, i.args.length ≤ 17592186044416) : APure Try.prog 9 [.agg (moduleC m)] (.bool true) := by
  refine apureG _ _ Try.func9 (by kernel_rfl) t_marlinelaw05_IrNames u_marlinelaw05_IrNames rfl rfl (fun _ => ?_)
  simp [c_marlinelaw05_IrNames, r_marlinelaw05_IrNames]
  refine call_plain (ds := []) _ (by simp) (by simp) (fun _ => rfl) (fun _ => shown5_pure) ?_
  simp
  refine call_plain (ds := [.agg (moduleC m)]) _ (by simp) (by simp) (fun _ => rfl) (fun _ => check_pure m hi) ?_
  simp
  intro hz
  have hok := checkE_zero.1 hz
  have hnf := hok.nf
  have hng := hok.ng
  refine loop_s (κ := Nat) (fun k => k ≤ m.funcs.length) (fun k => m.funcs.length - k) (fun k => [(sl 4, .int k)]) (fun _ => []) 0 0 (srcs []) (by simp) (by simp) ?_
  rintro k hk
  simp
  refine ⟨fun hlt => ⟨hlt, ?_⟩, fun hge => ?_⟩
  · rw [getD_some hlt]
    have hfo := hok.funcs _ (List.getElem_mem hlt)
    have hfl := allIns_le hfo
    refine call_plain (ds := [.agg (funcC m.funcs[k])]) _ (by simp) (by simp) (fun _ => rfl) (fun _ => refs_pure m.funcs[k] (by omega)) ?_
    simp
    have hthere : ∀ s ∈ namesOf (allIns m.funcs[k]), (∃ g ∈ m.funcs, g.name = s) ∨ ∃ g ∈ m.globs, g.name = s := fun s hs => hok.there (List.getElem_mem hlt) hs
    obtain ⟨ns, hns⟩ : ∃ ns, namesOf (allIns m.funcs[k]) = ns := ⟨_, rfl⟩
    have hnl : ns.length ≤ 512 := by rw [← hns]; exact Nat.le_trans (namesOf_length _) hfl
    simp only [hns] at hthere ⊢
    refine loop_s (κ := Nat) (fun j => j ≤ ns.length) (fun j => ns.length - j) (fun j => [(sl 6, .int j)]) (fun _ => []) 0 0 (srcs []) (by simp) (by simp) ?_
    rintro j hj
    simp
    refine ⟨fun hjl => ⟨hjl, ?_⟩, fun hge => ⟨hlt, ?_⟩⟩
    · refine call_plain (ds := [.agg (moduleC m), .str ns[j]]) _ (by simp) (by simp) (fun _ => by simp [hjl]; exact ⟨rfl, rfl⟩) (fun _ => findFunc_pure m ns[j]) ?_
      simp
      refine ⟨fun h => ⟨h, hjl⟩, ?_⟩
      refine call_plain (ds := [.agg (moduleC m), .str ns[j]]) _ (by simp) (by simp) (fun _ => by simp [hjl]; exact ⟨rfl, rfl⟩) (fun _ => findGlob_pure m ns[j]) ?_
      simp
      refine ⟨fun h1 h2 => ?_, fun _ => ⟨j + 1, by omega, by omega, srcs [], ?_⟩⟩
      · rw [findI_neg] at h1 h2
        rcases hthere _ (List.getElem_mem hjl) with ⟨g, hg, hn⟩ | ⟨g, hg, hn⟩
        · have := h1 g hg
          simp [hn] at this
        · have := h2 g hg
          simp [hn] at this
      · simp [SLeK]
        exact DLe_int (wrap_succ (by omega))
    · refine call_plain (ds := [.agg (moduleC m), .str m.funcs[k].name]) _ (by simp) (by simp) (fun _ => by simp [hlt]; exact ⟨rfl, rfl⟩) (fun _ => findGlob_pure m m.funcs[k].name) ?_
      simp
      refine ⟨fun h => ⟨h, hlt⟩, ?_⟩
      refine call_plain (ds := [.agg (moduleC m), .str m.funcs[k].name]) _ (by simp) (by simp) (fun _ => by simp [hlt]; exact ⟨rfl, rfl⟩) (fun _ => findFunc_pure m m.funcs[k].name) ?_
      simp
      have e1 : findI (fun f => decide (f.name = m.funcs[k].name)) m.globs < 0 := findI_neg.2 fun g hg => by
        have := hok.apart (List.getElem_mem hlt) hg
        simp [Ne.symm this]
      have e2 := findI_nodup hok.fnodup hlt
      refine ⟨fun h => by omega, fun _ _ => ⟨k + 1, by omega, by omega, srcs [], ?_⟩⟩
      simp [SLeK]
      exact DLe_int (wrap_succ (by omega))
  · refine DLe_bool ?_
    simp
    omega

end Go.Proofs.Ytghlfjpmpalpdaa
