/- Contracts by the evaluator: the reader of layer 6: instructions, blocks. -/
import Derived.Test.YtciihchbiifgkaaTV
namespace Go.Proofs.Ytciihchbiifgkaa
open Go.RowKit

theorem numS_le : Le numS := mostS_le _
theorem sBind_le {α β : Type} {g : SR α} {h : α → SR β} (hg : Le g) (hh : ∀ x, Le (h x)) : Le (sBind g h) := fun st => Nat.le_trans (hh _ _) (hg st)
theorem sRet_le {α : Type} (x : α) : Le (sRet x) := fun _ => Nat.le_refl _
def argsS : SR (List Int) := sevS 6 numS
theorem argsS_le : Le argsS := sevS_le numS_le 6
def instK1 (op : Int) : SR Inst :=
  if op < 1 ∨ 16 < op then fun st => (⟨op, 0, 0, 0, ⟨#[]⟩, []⟩, oddS st 3)
  else if op = 1 then sBind wideS fun k => sRet ⟨op, 0, 0, k, ⟨#[]⟩, []⟩
  else if op ≤ 11 then sBind numS fun a => sBind numS fun b => sRet ⟨op, a, b, 0, ⟨#[]⟩, []⟩
  else if op = 12 then sBind textS fun s => sRet ⟨op, 0, 0, 0, s, []⟩
  else if op = 13 then sBind numS fun a => sBind textS fun s => sRet ⟨op, a, 0, 0, s, []⟩
  else if op = 14 then sBind textS fun s => sBind argsS fun l => sRet ⟨op, 0, 0, 0, s, l⟩
  else if op = 16 then sBind numS fun a => sRet ⟨op, a, 0, 0, ⟨#[]⟩, []⟩
  else sRet ⟨op, 0, 0, 0, ⟨#[]⟩, []⟩
def instS : SR Inst := sBind numS instK1
theorem odd_le {α : Type} (x : α) (c : Int) : Le (fun st => (x, oddS st c)) := fun st => by show (oddS st c).s.size ≤ _; rw [oddS_s]; exact Nat.le_refl _
theorem instS_le : Le instS := sBind_le numS_le fun op => by
  unfold instK1
  split
  · exact odd_le _ _
  split
  · exact sBind_le wideS_le fun _ => sRet_le _
  split
  · exact sBind_le numS_le fun _ => sBind_le numS_le fun _ => sRet_le _
  split
  · exact sBind_le textS_le fun _ => sRet_le _
  split
  · exact sBind_le numS_le fun _ => sBind_le textS_le fun _ => sRet_le _
  split
  · exact sBind_le textS_le fun _ => sBind_le argsS_le fun _ => sRet_le _
  split
  · exact sBind_le numS_le fun _ => sRet_le _
  · exact sRet_le _

set_option maxRecDepth 10000 in
theorem args_eff (st : RS) (hs : st.s.size ≤ 140737488355328) : AEff Try.prog 84 [.ptr 1000000 0] (LR st) (intsD (argsS st).1) (LR (argsS st).2) := by
  refine aeffG _ _ Try.func84 (by kernel_rfl) t___bit_reader__args u___bit_reader__args rfl rfl (by simp [LR]) (by simp [LR, idsOk]) (fun hx => ?_)
  clear hx
  simp [c___bit_reader__args, r___bit_reader__args, hof_LR]
  refine calle_k (sevInt_eff st 6 (by omega) 63 numS numS_le num_eff hs) (tauW _) rfl [.ptr 1000000 0, .d (.lit (.int .u64 6)), .bm 63 (.ptr 1000000 0)] (by simp) (by simp) (by simp) (by simp [gOf, LR, tauW]) (by simp [gOf, LR, tauW]) (by simp [gOf, LR, tauW]) (by simp [LR, idsOk]) ?_
  simp [LR, tauW]
  exact ⟨DLe.refl _, .none, by simp [gE, argsS], by simp [gE]⟩

set_option maxRecDepth 10000 in
theorem rinst_eff (st : RS) (hs : st.s.size ≤ 140737488355328) : AEff Try.prog 83 [.ptr 1000000 0] (LR st) (.agg (instC (instS st).1)) (LR (instS st).2) := by
  refine aeffG _ _ Try.func83 (by kernel_rfl) t___bit_reader__inst u___bit_reader__inst rfl rfl (by simp [LR]) (by simp [LR, idsOk]) (fun hx => ?_)
  clear hx
  simp [c___bit_reader__inst, r___bit_reader__inst, hof_LR]
  refine calle_k (num_eff st hs) (tauW _) rfl [.ptr 1000000 0] (by simp) (by simp) (by simp) (by simp [gOf, LR, tauW]) (by simp [gOf, LR, tauW]) (by simp [gOf, LR, tauW]) (by simp [LR, idsOk]) ?_
  simp [LR, tauW]
  have h0 := numS_le st
  have e0 : instS st = instK1 (numS st).1 (numS st).2 := rfl
  generalize hq : numS st = q at e0 h0 ⊢
  obtain ⟨op, s1⟩ := q
  simp only at e0 h0 ⊢
  refine ⟨fun h1 => ?_, fun g1 g2 => ⟨fun h2 => ?_, fun h2 => ⟨fun h3 => ?_, fun h3 => ⟨fun h4 => ?_, fun h4 => ⟨fun h5 => ?_, fun h5 => ⟨fun h6 => ?_, fun h6 => ⟨fun h7 => ?_, fun h7 => ?_⟩⟩⟩⟩⟩⟩⟩
  · have e : instS st = (⟨op, 0, 0, 0, ⟨#[]⟩, []⟩, oddS s1 3) := by rw [e0]; unfold instK1; rw [if_pos h1]
    refine calle_k (odd_eff s1 3) (tauW _) rfl [.ptr 1000000 0, .d (.int 3)] (by simp) (by simp) (by simp) (by simp [gOf, LR, tauW]) (by simp [gOf, LR, tauW]) (by simp [gOf, LR, tauW]) (by simp [LR, idsOk]) ?_
    simp [LR, tauW]
    rw [e]
    exact ⟨DLe_agg ⟨DLe.refl _, DLe.refl _, DLe.refl _, DLe.refl _, DLe.refl _, intsD_nil, trivial⟩, .none, by simp [gE], by simp [gE]⟩
  · have e : instS st = (⟨op, 0, 0, (wideS s1).1, ⟨#[]⟩, []⟩, (wideS s1).2) := by rw [e0]; unfold instK1; rw [if_neg (by omega), if_pos h2]; rfl
    have hz40 := wideS_le s1
    refine calle_k (wide_eff s1 (by omega)) (tauW _) rfl [.ptr 1000000 0] (by simp) (by simp) (by simp) (by simp [gOf, LR, tauW]) (by simp [gOf, LR, tauW]) (by simp [gOf, LR, tauW]) (by simp [LR, idsOk]) ?_
    simp [LR, tauW]
    rw [e]
    exact ⟨DLe_agg ⟨DLe.refl _, DLe.refl _, DLe.refl _, DLe.refl _, DLe.refl _, intsD_nil, trivial⟩, .none, by simp [gE], by simp [gE]⟩
  · have e : instS st = (⟨op, (numS s1).1, (numS (numS s1).2).1, 0, ⟨#[]⟩, []⟩, (numS (numS s1).2).2) := by rw [e0]; unfold instK1; rw [if_neg (by omega), if_neg (by omega), if_pos h3]; rfl
    have hz40 := numS_le s1
    refine calle_k (num_eff s1 (by omega)) (tauW _) rfl [.ptr 1000000 0] (by simp) (by simp) (by simp) (by simp [gOf, LR, tauW]) (by simp [gOf, LR, tauW]) (by simp [gOf, LR, tauW]) (by simp [LR, idsOk]) ?_
    simp [LR, tauW]
    have hz41 := numS_le (numS s1).2
    refine calle_k (num_eff (numS s1).2 (by omega)) (tauW _) rfl [.ptr 1000000 0] (by simp) (by simp) (by simp) (by simp [gOf, LR, tauW]) (by simp [gOf, LR, tauW]) (by simp [gOf, LR, tauW]) (by simp [LR, idsOk]) ?_
    simp [LR, tauW]
    rw [e]
    exact ⟨DLe_agg ⟨DLe.refl _, DLe.refl _, DLe.refl _, DLe.refl _, DLe.refl _, intsD_nil, trivial⟩, .none, by simp [gE], by simp [gE]⟩
  · have e : instS st = (⟨op, 0, 0, 0, (textS s1).1, []⟩, (textS s1).2) := by rw [e0]; unfold instK1; rw [if_neg (by omega), if_neg (by omega), if_neg (by omega), if_pos h4]; rfl
    have hz40 := textS_le s1
    refine calle_k (rtext_eff s1 (by omega)) (tauW _) rfl [.ptr 1000000 0] (by simp) (by simp) (by simp) (by simp [gOf, LR, tauW]) (by simp [gOf, LR, tauW]) (by simp [gOf, LR, tauW]) (by simp [LR, idsOk]) ?_
    simp [LR, tauW]
    rw [e]
    exact ⟨DLe_agg ⟨DLe.refl _, DLe.refl _, DLe.refl _, DLe.refl _, DLe.refl _, intsD_nil, trivial⟩, .none, by simp [gE], by simp [gE]⟩
  · have e : instS st = (⟨op, (numS s1).1, 0, 0, (textS (numS s1).2).1, []⟩, (textS (numS s1).2).2) := by rw [e0]; unfold instK1; rw [if_neg (by omega), if_neg (by omega), if_neg (by omega), if_neg (by omega), if_pos h5]; rfl
    have hz40 := numS_le s1
    refine calle_k (num_eff s1 (by omega)) (tauW _) rfl [.ptr 1000000 0] (by simp) (by simp) (by simp) (by simp [gOf, LR, tauW]) (by simp [gOf, LR, tauW]) (by simp [gOf, LR, tauW]) (by simp [LR, idsOk]) ?_
    simp [LR, tauW]
    have hz41 := textS_le (numS s1).2
    refine calle_k (rtext_eff (numS s1).2 (by omega)) (tauW _) rfl [.ptr 1000000 0] (by simp) (by simp) (by simp) (by simp [gOf, LR, tauW]) (by simp [gOf, LR, tauW]) (by simp [gOf, LR, tauW]) (by simp [LR, idsOk]) ?_
    simp [LR, tauW]
    rw [e]
    exact ⟨DLe_agg ⟨DLe.refl _, DLe.refl _, DLe.refl _, DLe.refl _, DLe.refl _, intsD_nil, trivial⟩, .none, by simp [gE], by simp [gE]⟩
  · have e : instS st = (⟨op, 0, 0, 0, (textS s1).1, (argsS (textS s1).2).1⟩, (argsS (textS s1).2).2) := by rw [e0]; unfold instK1; rw [if_neg (by omega), if_neg (by omega), if_neg (by omega), if_neg (by omega), if_neg (by omega), if_pos h6]; rfl
    have hz40 := textS_le s1
    refine calle_k (rtext_eff s1 (by omega)) (tauW _) rfl [.ptr 1000000 0] (by simp) (by simp) (by simp) (by simp [gOf, LR, tauW]) (by simp [gOf, LR, tauW]) (by simp [gOf, LR, tauW]) (by simp [LR, idsOk]) ?_
    simp [LR, tauW]
    have hz41 := argsS_le (textS s1).2
    refine calle_k (args_eff (textS s1).2 (by omega)) (tauW _) rfl [.ptr 1000000 0] (by simp) (by simp) (by simp) (by simp [gOf, LR, tauW]) (by simp [gOf, LR, tauW]) (by simp [gOf, LR, tauW]) (by simp [LR, idsOk]) ?_
    simp [LR, tauW]
    rw [e]
    exact ⟨DLe_agg ⟨DLe.refl _, DLe.refl _, DLe.refl _, DLe.refl _, DLe.refl _, DLe.refl _, trivial⟩, .none, by simp [gE], by simp [gE]⟩
  · have e : instS st = (⟨op, (numS s1).1, 0, 0, ⟨#[]⟩, []⟩, (numS s1).2) := by rw [e0]; unfold instK1; rw [if_neg (by omega), if_neg (by omega), if_neg (by omega), if_neg (by omega), if_neg (by omega), if_neg (by omega), if_pos h7]; rfl
    have hz40 := numS_le s1
    refine calle_k (num_eff s1 (by omega)) (tauW _) rfl [.ptr 1000000 0] (by simp) (by simp) (by simp) (by simp [gOf, LR, tauW]) (by simp [gOf, LR, tauW]) (by simp [gOf, LR, tauW]) (by simp [LR, idsOk]) ?_
    simp [LR, tauW]
    rw [e]
    exact ⟨DLe_agg ⟨DLe.refl _, DLe.refl _, DLe.refl _, DLe.refl _, DLe.refl _, intsD_nil, trivial⟩, .none, by simp [gE], by simp [gE]⟩
  · have e : instS st = (⟨op, 0, 0, 0, ⟨#[]⟩, []⟩, s1) := by rw [e0]; unfold instK1; rw [if_neg (by omega), if_neg (by omega), if_neg (by omega), if_neg (by omega), if_neg (by omega), if_neg (by omega), if_neg (by omega)]; rfl
    rw [e]
    exact ⟨DLe_agg ⟨DLe.refl _, DLe.refl _, DLe.refl _, DLe.refl _, DLe.refl _, intsD_nil, trivial⟩, .none, by simp [gE], by simp [gE]⟩

def blockS : SR Block := sBind numS fun params => sBind (sevS 32 instS) fun ins => sBind numS fun kind =>
  if kind = 1 then sBind numS fun to => sBind argsS fun args => sRet ⟨params, ins, kind, 0, to, args, 0, []⟩
  else if kind = 2 then sBind numS fun ta => sBind numS fun to => sBind argsS fun args => sBind numS fun els => sBind argsS fun elses => sRet ⟨params, ins, kind, ta, to, args, els, elses⟩
  else if kind = 3 then sBind numS fun ta => sRet ⟨params, ins, kind, ta, 0, [], 0, []⟩
  else fun st => (⟨params, ins, kind, 0, 0, [], 0, []⟩, oddS st 3)
theorem blockS_le : Le blockS := sBind_le numS_le fun _ => sBind_le (sevS_le instS_le 32) fun _ => sBind_le numS_le fun _ => by
  split
  · exact sBind_le numS_le fun _ => sBind_le argsS_le fun _ => sRet_le _
  split
  · exact sBind_le numS_le fun _ => sBind_le numS_le fun _ => sBind_le argsS_le fun _ => sBind_le numS_le fun _ => sBind_le argsS_le fun _ => sRet_le _
  split
  · exact sBind_le numS_le fun _ => sRet_le _
  · exact odd_le _ _

set_option maxRecDepth 10000 in
theorem rblock_eff (st : RS) (hs : st.s.size ≤ 140737488355328) : AEff Try.prog 65 [.ptr 1000000 0] (LR st) (.agg (blockC (blockS st).1)) (LR (blockS st).2) := by
  refine aeffG _ _ Try.func65 (by kernel_rfl) t___bit_reader__block u___bit_reader__block rfl rfl (by simp [LR]) (by simp [LR, idsOk]) (fun hx => ?_)
  clear hx
  simp [c___bit_reader__block, r___bit_reader__block, hof_LR]
  have h0 := numS_le st
  refine calle_k (num_eff st hs) (tauW _) rfl [.ptr 1000000 0] (by simp) (by simp) (by simp) (by simp [gOf, LR, tauW]) (by simp [gOf, LR, tauW]) (by simp [gOf, LR, tauW]) (by simp [LR, idsOk]) ?_
  simp [LR, tauW]
  have h1 := sevS_le instS_le 32 (numS st).2
  refine calle_k (sevInst_eff (numS st).2 32 (by omega) 83 instS instS_le rinst_eff (by omega)) (tauW _) rfl [.ptr 1000000 0, .d (.lit (.int .u64 32)), .bm 83 (.ptr 1000000 0)] (by simp) (by simp) (by simp) (by simp [gOf, LR, tauW]) (by simp [gOf, LR, tauW]) (by simp [gOf, LR, tauW]) (by simp [LR, idsOk]) ?_
  simp [LR, tauW]
  have h2 := numS_le (sevS 32 instS (numS st).2).2
  refine calle_k (num_eff (sevS 32 instS (numS st).2).2 (by omega)) (tauW _) rfl [.ptr 1000000 0] (by simp) (by simp) (by simp) (by simp [gOf, LR, tauW]) (by simp [gOf, LR, tauW]) (by simp [gOf, LR, tauW]) (by simp [LR, idsOk]) ?_
  simp [LR, tauW]
  have e0 : blockS st = (if (numS (sevS 32 instS (numS st).2).2).1 = 1 then sBind numS fun to => sBind argsS fun args => sRet ⟨(numS st).1, (sevS 32 instS (numS st).2).1, (numS (sevS 32 instS (numS st).2).2).1, 0, to, args, 0, []⟩
    else if (numS (sevS 32 instS (numS st).2).2).1 = 2 then sBind numS fun ta => sBind numS fun to => sBind argsS fun args => sBind numS fun els => sBind argsS fun elses => sRet ⟨(numS st).1, (sevS 32 instS (numS st).2).1, (numS (sevS 32 instS (numS st).2).2).1, ta, to, args, els, elses⟩
    else if (numS (sevS 32 instS (numS st).2).2).1 = 3 then sBind numS fun ta => sRet ⟨(numS st).1, (sevS 32 instS (numS st).2).1, (numS (sevS 32 instS (numS st).2).2).1, ta, 0, [], 0, []⟩
    else fun st' => (⟨(numS st).1, (sevS 32 instS (numS st).2).1, (numS (sevS 32 instS (numS st).2).2).1, 0, 0, [], 0, []⟩, oddS st' 3)) (numS (sevS 32 instS (numS st).2).2).2 := rfl
  generalize numS (sevS 32 instS (numS st).2).2 = q3 at e0 h2 ⊢
  generalize sevS 32 instS (numS st).2 = q2 at e0 h1 h2 ⊢
  generalize numS st = q1 at e0 h0 h1 ⊢
  obtain ⟨params, s1⟩ := q1
  obtain ⟨ins, s2⟩ := q2
  obtain ⟨kind, s3⟩ := q3
  simp only at e0 h0 h1 h2 ⊢
  refine ⟨fun k1 => ?_, fun k1 => ⟨fun k2 => ?_, fun k2 => ⟨fun k3 => ?_, fun k3 => ?_⟩⟩⟩
  · have e : blockS st = (⟨params, ins, kind, 0, (numS s3).1, (argsS (numS s3).2).1, 0, []⟩, (argsS (numS s3).2).2) := by rw [e0, if_pos k1]; rfl
    have hz40 := numS_le s3
    refine calle_k (num_eff s3 (by omega)) (tauW _) rfl [.ptr 1000000 0] (by simp) (by simp) (by simp) (by simp [gOf, LR, tauW]) (by simp [gOf, LR, tauW]) (by simp [gOf, LR, tauW]) (by simp [LR, idsOk]) ?_
    simp [LR, tauW]
    have hz41 := argsS_le (numS s3).2
    refine calle_k (args_eff (numS s3).2 (by omega)) (tauW _) rfl [.ptr 1000000 0] (by simp) (by simp) (by simp) (by simp [gOf, LR, tauW]) (by simp [gOf, LR, tauW]) (by simp [gOf, LR, tauW]) (by simp [LR, idsOk]) ?_
    simp [LR, tauW]
    rw [e]
    exact ⟨DLe_agg ⟨DLe.refl _, DLe.refl _, DLe.refl _, DLe.refl _, DLe.refl _, DLe.refl _, DLe.refl _, intsD_nil, trivial⟩, .none, by simp [gE], by simp [gE]⟩
  · have e : blockS st = (⟨params, ins, kind, (numS s3).1, (numS (numS s3).2).1, (argsS (numS (numS s3).2).2).1, (numS (argsS (numS (numS s3).2).2).2).1, (argsS (numS (argsS (numS (numS s3).2).2).2).2).1⟩, (argsS (numS (argsS (numS (numS s3).2).2).2).2).2) := by rw [e0, if_neg k1, if_pos k2]; rfl
    have hz40 := numS_le s3
    refine calle_k (num_eff s3 (by omega)) (tauW _) rfl [.ptr 1000000 0] (by simp) (by simp) (by simp) (by simp [gOf, LR, tauW]) (by simp [gOf, LR, tauW]) (by simp [gOf, LR, tauW]) (by simp [LR, idsOk]) ?_
    simp [LR, tauW]
    have hz41 := numS_le (numS s3).2
    refine calle_k (num_eff (numS s3).2 (by omega)) (tauW _) rfl [.ptr 1000000 0] (by simp) (by simp) (by simp) (by simp [gOf, LR, tauW]) (by simp [gOf, LR, tauW]) (by simp [gOf, LR, tauW]) (by simp [LR, idsOk]) ?_
    simp [LR, tauW]
    have hz42 := argsS_le (numS (numS s3).2).2
    refine calle_k (args_eff (numS (numS s3).2).2 (by omega)) (tauW _) rfl [.ptr 1000000 0] (by simp) (by simp) (by simp) (by simp [gOf, LR, tauW]) (by simp [gOf, LR, tauW]) (by simp [gOf, LR, tauW]) (by simp [LR, idsOk]) ?_
    simp [LR, tauW]
    have hz43 := numS_le (argsS (numS (numS s3).2).2).2
    refine calle_k (num_eff (argsS (numS (numS s3).2).2).2 (by omega)) (tauW _) rfl [.ptr 1000000 0] (by simp) (by simp) (by simp) (by simp [gOf, LR, tauW]) (by simp [gOf, LR, tauW]) (by simp [gOf, LR, tauW]) (by simp [LR, idsOk]) ?_
    simp [LR, tauW]
    have hz44 := argsS_le (numS (argsS (numS (numS s3).2).2).2).2
    refine calle_k (args_eff (numS (argsS (numS (numS s3).2).2).2).2 (by omega)) (tauW _) rfl [.ptr 1000000 0] (by simp) (by simp) (by simp) (by simp [gOf, LR, tauW]) (by simp [gOf, LR, tauW]) (by simp [gOf, LR, tauW]) (by simp [LR, idsOk]) ?_
    simp [LR, tauW]
    rw [e]
    exact ⟨DLe_agg ⟨DLe.refl _, DLe.refl _, DLe.refl _, DLe.refl _, DLe.refl _, DLe.refl _, DLe.refl _, DLe.refl _, trivial⟩, .none, by simp [gE], by simp [gE]⟩
  · have e : blockS st = (⟨params, ins, kind, (numS s3).1, 0, [], 0, []⟩, (numS s3).2) := by rw [e0, if_neg k1, if_neg k2, if_pos k3]; rfl
    have hz40 := numS_le s3
    refine calle_k (num_eff s3 (by omega)) (tauW _) rfl [.ptr 1000000 0] (by simp) (by simp) (by simp) (by simp [gOf, LR, tauW]) (by simp [gOf, LR, tauW]) (by simp [gOf, LR, tauW]) (by simp [LR, idsOk]) ?_
    simp [LR, tauW]
    rw [e]
    exact ⟨DLe_agg ⟨DLe.refl _, DLe.refl _, DLe.refl _, DLe.refl _, DLe.refl _, intsD_nil, DLe.refl _, intsD_nil, trivial⟩, .none, by simp [gE], by simp [gE]⟩
  · have e : blockS st = (⟨params, ins, kind, 0, 0, [], 0, []⟩, oddS s3 3) := by rw [e0, if_neg k1, if_neg k2, if_neg k3]
    refine calle_k (odd_eff s3 3) (tauW _) rfl [.ptr 1000000 0, .d (.int 3)] (by simp) (by simp) (by simp) (by simp [gOf, LR, tauW]) (by simp [gOf, LR, tauW]) (by simp [gOf, LR, tauW]) (by simp [LR, idsOk]) ?_
    simp [LR, tauW]
    rw [e]
    exact ⟨DLe_agg ⟨DLe.refl _, DLe.refl _, DLe.refl _, DLe.refl _, DLe.refl _, intsD_nil, DLe.refl _, intsD_nil, trivial⟩, .none, by simp [gE], by simp [gE]⟩

def funcS : SR Func := sBind textS fun name => sBind numS fun bind => sBind numS fun params => sBind (sevS 16 blockS) fun blocks => sRet ⟨name, bind, params, blocks⟩
theorem funcS_le : Le funcS := sBind_le textS_le fun _ => sBind_le numS_le fun _ => sBind_le numS_le fun _ => sBind_le (sevS_le blockS_le 16) fun _ => sRet_le _

set_option maxRecDepth 10000 in
theorem rfun_eff (st : RS) (hs : st.s.size ≤ 140737488355328) : AEff Try.prog 37 [.ptr 1000000 0] (LR st) (.agg (funcC (funcS st).1)) (LR (funcS st).2) := by
  refine aeffG _ _ Try.func37 (by kernel_rfl) t___bit_reader__fun u___bit_reader__fun rfl rfl (by simp [LR]) (by simp [LR, idsOk]) (fun hx => ?_)
  clear hx
  simp [c___bit_reader__fun, r___bit_reader__fun, hof_LR]
  have hz20 := textS_le st
  refine calle_k (rtext_eff st (by omega)) (tauW _) rfl [.ptr 1000000 0] (by simp) (by simp) (by simp) (by simp [gOf, LR, tauW]) (by simp [gOf, LR, tauW]) (by simp [gOf, LR, tauW]) (by simp [LR, idsOk]) ?_
  simp [LR, tauW]
  have hz21 := numS_le (textS st).2
  refine calle_k (num_eff (textS st).2 (by omega)) (tauW _) rfl [.ptr 1000000 0] (by simp) (by simp) (by simp) (by simp [gOf, LR, tauW]) (by simp [gOf, LR, tauW]) (by simp [gOf, LR, tauW]) (by simp [LR, idsOk]) ?_
  simp [LR, tauW]
  have hz22 := numS_le (numS (textS st).2).2
  refine calle_k (num_eff (numS (textS st).2).2 (by omega)) (tauW _) rfl [.ptr 1000000 0] (by simp) (by simp) (by simp) (by simp [gOf, LR, tauW]) (by simp [gOf, LR, tauW]) (by simp [gOf, LR, tauW]) (by simp [LR, idsOk]) ?_
  simp [LR, tauW]
  refine calle_k (sevBlock_eff (numS (numS (textS st).2).2).2 16 (by omega) 65 blockS blockS_le rblock_eff (by omega)) (tauW _) rfl [.ptr 1000000 0, .d (.lit (.int .u64 16)), .bm 65 (.ptr 1000000 0)] (by simp) (by simp) (by simp) (by simp [gOf, LR, tauW]) (by simp [gOf, LR, tauW]) (by simp [gOf, LR, tauW]) (by simp [LR, idsOk]) ?_
  simp [LR, tauW]
  have e : funcS st = (⟨(textS st).1, (numS (textS st).2).1, (numS (numS (textS st).2).2).1, (sevS 16 blockS (numS (numS (textS st).2).2).2).1⟩, (sevS 16 blockS (numS (numS (textS st).2).2).2).2) := rfl
  rw [e]
  exact ⟨DLe_agg ⟨DLe.refl _, DLe.refl _, DLe.refl _, DLe.refl _, trivial⟩, .none, by simp [gE], by simp [gE]⟩

def globS : SR Glob := sBind textS fun name => sBind numS fun bind => sBind numS fun here => sBind (fun st => ((), if 1 < here then oddS st 3 else st)) fun _ => sBind wideS fun init => sRet ⟨name, bind, decide (here = 1), init⟩
theorem globS_le : Le globS := sBind_le textS_le fun _ => sBind_le numS_le fun _ => sBind_le numS_le fun _ => sBind_le (fun st => by show (if _ then oddS st 3 else st).s.size ≤ _; split <;> simp [oddS_s]) fun _ => sBind_le wideS_le fun _ => sRet_le _

set_option maxRecDepth 10000 in
theorem rglob_eff (st : RS) (hs : st.s.size ≤ 140737488355328) : AEff Try.prog 39 [.ptr 1000000 0] (LR st) (.agg (globC (globS st).1)) (LR (globS st).2) := by
  refine aeffG _ _ Try.func39 (by kernel_rfl) t___bit_reader__glob u___bit_reader__glob rfl rfl (by simp [LR]) (by simp [LR, idsOk]) (fun hx => ?_)
  clear hx
  simp [c___bit_reader__glob, r___bit_reader__glob, hof_LR]
  have hz20 := textS_le st
  refine calle_k (rtext_eff st (by omega)) (tauW _) rfl [.ptr 1000000 0] (by simp) (by simp) (by simp) (by simp [gOf, LR, tauW]) (by simp [gOf, LR, tauW]) (by simp [gOf, LR, tauW]) (by simp [LR, idsOk]) ?_
  simp [LR, tauW]
  have hz21 := numS_le (textS st).2
  refine calle_k (num_eff (textS st).2 (by omega)) (tauW _) rfl [.ptr 1000000 0] (by simp) (by simp) (by simp) (by simp [gOf, LR, tauW]) (by simp [gOf, LR, tauW]) (by simp [gOf, LR, tauW]) (by simp [LR, idsOk]) ?_
  simp [LR, tauW]
  have hz22 := numS_le (numS (textS st).2).2
  refine calle_k (num_eff (numS (textS st).2).2 (by omega)) (tauW _) rfl [.ptr 1000000 0] (by simp) (by simp) (by simp) (by simp [gOf, LR, tauW]) (by simp [gOf, LR, tauW]) (by simp [gOf, LR, tauW]) (by simp [LR, idsOk]) ?_
  simp [LR, tauW]
  have e0 : globS st = (⟨(textS st).1, (numS (textS st).2).1, decide ((numS (numS (textS st).2).2).1 = 1), (wideS (if 1 < (numS (numS (textS st).2).2).1 then oddS (numS (numS (textS st).2).2).2 3 else (numS (numS (textS st).2).2).2)).1⟩, (wideS (if 1 < (numS (numS (textS st).2).2).1 then oddS (numS (numS (textS st).2).2).2 3 else (numS (numS (textS st).2).2).2)).2) := rfl
  generalize numS (numS (textS st).2).2 = q3 at e0 hz22 ⊢
  obtain ⟨here, s3⟩ := q3
  simp only at e0 hz22 ⊢
  refine ⟨fun h1 => ?_, fun h1 => ?_⟩
  · rw [if_pos h1] at e0
    refine calle_k (odd_eff s3 3) (tauW _) rfl [.ptr 1000000 0, .d (.int 3)] (by simp) (by simp) (by simp) (by simp [gOf, LR, tauW]) (by simp [gOf, LR, tauW]) (by simp [gOf, LR, tauW]) (by simp [LR, idsOk]) ?_
    simp [LR, tauW]
    have ho := oddS_s s3 3
    refine calle_k (wide_eff (oddS s3 3) (by rw [ho]; omega)) (tauW _) rfl [.ptr 1000000 0] (by simp) (by simp) (by simp) (by simp [gOf, LR, tauW]) (by simp [gOf, LR, tauW]) (by simp [gOf, LR, tauW]) (by simp [LR, idsOk]) ?_
    simp [LR, tauW]
    rw [e0]
    exact ⟨DLe_agg ⟨DLe.refl _, DLe.refl _, DLe.refl _, DLe.refl _, trivial⟩, .none, by simp [gE], by simp [gE]⟩
  · rw [if_neg (by omega)] at e0
    refine calle_k (wide_eff s3 (by omega)) (tauW _) rfl [.ptr 1000000 0] (by simp) (by simp) (by simp) (by simp [gOf, LR, tauW]) (by simp [gOf, LR, tauW]) (by simp [gOf, LR, tauW]) (by simp [LR, idsOk]) ?_
    simp [LR, tauW]
    rw [e0]
    exact ⟨DLe_agg ⟨DLe.refl _, DLe.refl _, DLe.refl _, DLe.refl _, trivial⟩, .none, by simp [gE], by simp [gE]⟩

end Go.Proofs.Ytciihchbiifgkaa
