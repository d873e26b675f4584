/- Some texts of one kind, one behind the other. -/
import Derived.Test.YtciihchbiifgkaaTL
import Derived.Test.YtciihchbiifgkaaVX
import Derived.Test.YtciihchbiifgkaaTN
/- Contracts by the evaluator: the document's bytes (layer 6). -/
namespace Go.Proofs.Ytciihchbiifgkaa
open Go.RowKit

theorem ref6Num_pure (x : Nat) (hx : x < 18446744073709551616) : APure Try.prog 34 [.lit (.int .u64 x)] (.str (numB x)) := by
  refine ⟨⟨_, _, Try.func34, by kernel_rfl, rfl⟩, fun X w vs _ hvs => ?_⟩
  obtain ⟨a0, r0, e0, h0, k0⟩ := hvs.uncons
  obtain rfl := k0.unnil
  cases h0
  obtain rfl : vs = #[.int .u64 x] := Array.toList_inj.1 e0
  refine (refNum_all x w hx).mono ?_
  rintro e w' ⟨rfl, hw⟩
  exact ⟨hw, _, rfl, .lit _⟩
theorem encR_small (l : List Int) (h : l.length ≤ 1000) : (encR l).size ≤ 10010 := by
  have h1 := encI_le l.length
  have h2 := catB_size encI 10 encI_size l
  unfold encR encIs
  rw [ByteArray.size_append]
  omega
set_option maxRecDepth 10000 in
theorem ref6num_pure (n : Int) : APure Try.prog 30 [.int n] (.str (encI n)) := by
  refine apureG _ _ Try.func30 (by kernel_rfl) t_marlineref06_num u_marlineref06_num rfl rfl (fun hx => ?_)
  clear hx
  simp [c_marlineref06_num, r_marlineref06_num]
  refine call_plain (ds := [.lit (.int .u64 (u64N n))]) _ (by simp) (by simp) (fun _ => by simp [u64N_cast]) (fun _ => ref6Num_pure _ (u64N_lt _)) ?_
  simp
  exact DLe.refl _
set_option maxRecDepth 10000 in
theorem ref6text_pure (s : ByteArray) (hs : s.size ≤ 140737488355328) : APure Try.prog 31 [.str s] (.str (encT s)) := by
  refine apureG _ _ Try.func31 (by kernel_rfl) t_marlineref06_text u_marlineref06_text rfl rfl (fun hx => ?_)
  clear hx
  simp [c_marlineref06_text, r_marlineref06_text]
  refine call_plain (ds := [.int s.size]) _ (by simp) (by simp) (fun _ => by simp) (fun _ => ref6num_pure _) ?_
  simp
  have h1 := encI_le s.size
  exact ⟨by omega, DLe.refl _⟩
set_option maxRecDepth 10000 in
theorem ref6nums_pure (l : List Int) (hl : l.length ≤ 1000) : APure Try.prog 59 [intsD l] (.str (encR l)) := by
  refine apureG _ _ Try.func59 (by kernel_rfl) t_marlineref06_nums u_marlineref06_nums rfl rfl (fun hx => ?_)
  clear hx
  simp [c_marlineref06_nums, r_marlineref06_nums]
  refine call_plain (ds := [.int l.length]) _ (by simp) (by simp) (fun _ => by simp) (fun _ => ref6num_pure _) ?_
  simp
  have h1 := encI_le l.length
  have h2 := encR_small l hl
  have h3 : (encR l).size = (encI l.length).size + (encIs l).size := by unfold encR; rw [ByteArray.size_append]
  refine loop_s (κ := Nat) (fun k => k ≤ l.length) (fun k => l.length - k) (fun k => [(sl 4, .int k), (sl 3, .d (.str (encI l.length ++ encIs (l.take k))))]) (fun _ => []) 0 0 (srcs []) (by simp) (by simp [encIs]) ?_
  rintro k hk
  simp
  refine ⟨fun hlt => ⟨hlt, ?_⟩, fun hge => ?_⟩
  · rw [getD_some hlt]
    refine call_plain (ds := [.int l[k]]) _ (by simp) (by simp) (fun _ => by simp) (fun _ => ref6num_pure _) ?_
    simp
    have hsz := catB_mid encI hlt
    have e : encIs (l.take (k + 1)) = encIs (l.take k) ++ encI l[k] := catB_take encI hlt
    refine ⟨by unfold encIs at h3 ⊢; omega, k + 1, by omega, by omega, srcs [], ?_⟩
    simp [SLeK, e, ← ByteArray.append_assoc]
    exact DLe_int (wrap_succ (by omega))
  · rw [List.take_of_length_le hge]
    exact DLe.refl _
/-- What is asked of an instruction, so that its bytes are few. -/
def instSm (i : Inst) : Prop := i.args.length ≤ 6 ∧ i.name.size ≤ 16 ∧ instK i
set_option maxRecDepth 10000 in
theorem ref6inst_pure (i : Inst) (hi : instSm i) : APure Try.prog 32 [.agg (instC i)] (.str (encInst i)) := by
  refine apureG _ _ Try.func32 (by kernel_rfl) t_marlineref06_inst u_marlineref06_inst rfl rfl (fun hx => ?_)
  clear hx
  simp [c_marlineref06_inst, r_marlineref06_inst]
  obtain ⟨q1, q2, q3⟩ := hi
  have s1 := encI_le i.op
  have s2 := encI_le i.a
  have s3 := encI_le i.b
  have s4 := numB_size q3
  have s5 := encT_le i.name q2
  have s6 := encR_le i.args q1
  refine call_plain (ds := [.int i.op]) _ (by simp) (by simp) (fun _ => by simp) (fun _ => ref6num_pure _) ?_
  simp
  refine ⟨fun c1 => ?_, fun c1 => ⟨fun c2 => ?_, fun c2 => ⟨fun c3 => ?_, fun c3 => ⟨fun c4 => ?_, fun c4 => ⟨fun c5 => ?_, fun c5 => ⟨fun c6 => ?_, fun c6 => ?_⟩⟩⟩⟩⟩⟩
  · have e : encInst i = encI i.op ++ (numB i.k) := by unfold encInst; rw [if_pos (by omega)]
    refine call_plain (ds := [.lit (.int .u64 i.k)]) _ (by simp) (by simp) (fun _ => by simp) (fun _ => ref6Num_pure _ q3) ?_
    simp
    refine ⟨by first | omega | (simp only [ByteArray.size_append]; omega), ?_⟩
    rw [e]
    try simp only [ByteArray.append_assoc, append_empty]
    exact DLe.refl _
  · have e : encInst i = encI i.op ++ (encI i.a ++ encI i.b) := by unfold encInst; rw [if_neg (by omega), if_pos (by omega), encIs_two]
    refine call_plain (ds := [.int i.a]) _ (by simp) (by simp) (fun _ => by simp) (fun _ => ref6num_pure _) ?_
    simp
    refine ⟨by first | omega | (simp only [ByteArray.size_append]; omega), ?_⟩
    refine call_plain (ds := [.int i.b]) _ (by simp) (by simp) (fun _ => by simp) (fun _ => ref6num_pure _) ?_
    simp
    refine ⟨by first | omega | (simp only [ByteArray.size_append]; omega), ?_⟩
    rw [e]
    try simp only [ByteArray.append_assoc, append_empty]
    exact DLe.refl _
  · have e : encInst i = encI i.op ++ (encT i.name) := by unfold encInst; rw [if_neg (by omega), if_neg (by omega), if_pos (by omega)]
    refine call_plain (ds := [.str i.name]) _ (by simp) (by simp) (fun _ => by simp) (fun _ => ref6text_pure _ (by omega)) ?_
    simp
    refine ⟨by first | omega | (simp only [ByteArray.size_append]; omega), ?_⟩
    rw [e]
    try simp only [ByteArray.append_assoc, append_empty]
    exact DLe.refl _
  · have e : encInst i = encI i.op ++ (encI i.a ++ encT i.name) := by unfold encInst; rw [if_neg (by omega), if_neg (by omega), if_neg (by omega), if_pos (by omega)]
    refine call_plain (ds := [.int i.a]) _ (by simp) (by simp) (fun _ => by simp) (fun _ => ref6num_pure _) ?_
    simp
    refine ⟨by first | omega | (simp only [ByteArray.size_append]; omega), ?_⟩
    refine call_plain (ds := [.str i.name]) _ (by simp) (by simp) (fun _ => by simp) (fun _ => ref6text_pure _ (by omega)) ?_
    simp
    refine ⟨by first | omega | (simp only [ByteArray.size_append]; omega), ?_⟩
    rw [e]
    try simp only [ByteArray.append_assoc, append_empty]
    exact DLe.refl _
  · have e : encInst i = encI i.op ++ (encT i.name ++ encR i.args) := by unfold encInst; rw [if_neg (by omega), if_neg (by omega), if_neg (by omega), if_neg (by omega), if_pos (by omega)]
    refine call_plain (ds := [.str i.name]) _ (by simp) (by simp) (fun _ => by simp) (fun _ => ref6text_pure _ (by omega)) ?_
    simp
    refine ⟨by first | omega | (simp only [ByteArray.size_append]; omega), ?_⟩
    refine call_plain (ds := [intsD i.args]) _ (by simp) (by simp) (fun _ => by simp) (fun _ => ref6nums_pure _ (by omega)) ?_
    simp
    refine ⟨by first | omega | (simp only [ByteArray.size_append]; omega), ?_⟩
    rw [e]
    try simp only [ByteArray.append_assoc, append_empty]
    exact DLe.refl _
  · have e : encInst i = encI i.op ++ (encI i.a) := by unfold encInst; rw [if_neg (by omega), if_neg (by omega), if_neg (by omega), if_neg (by omega), if_neg (by omega), if_pos (by omega)]
    refine call_plain (ds := [.int i.a]) _ (by simp) (by simp) (fun _ => by simp) (fun _ => ref6num_pure _) ?_
    simp
    refine ⟨by first | omega | (simp only [ByteArray.size_append]; omega), ?_⟩
    rw [e]
    try simp only [ByteArray.append_assoc, append_empty]
    exact DLe.refl _
  · have e : encInst i = encI i.op ++ (ByteArray.empty) := by unfold encInst; rw [if_neg (by omega), if_neg (by omega), if_neg (by omega), if_neg (by omega), if_neg (by omega), if_neg (by omega)]
    rw [e]
    try simp only [ByteArray.append_assoc, append_empty]
    exact DLe.refl _
/-- What is asked of a block. -/
structure BlockSm (b : Block) : Prop where
  kind : b.kind = 1 ∨ b.kind = 2 ∨ b.kind = 3
  args : b.args.length ≤ 6
  elses : b.elses.length ≤ 6
  len : b.ins.length ≤ 32
  ins : ∀ i ∈ b.ins, instSm i
set_option maxRecDepth 10000 in
theorem ref6end_pure (b : Block) (hb : BlockSm b) : APure Try.prog 33 [.agg (termC b)] (.str (encTerm b)) := by
  refine apureG _ _ Try.func33 (by kernel_rfl) t_marlineref06_end u_marlineref06_end rfl rfl (fun hx => ?_)
  clear hx
  simp [c_marlineref06_end, r_marlineref06_end]
  have s1 := encI_le 1
  have s2 := encI_le 2
  have s3 := encI_le 3
  have s4 := encI_le b.to
  have s5 := encI_le b.ta
  have s6 := encI_le b.els
  have s7 := encR_le b.args hb.args
  have s8 := encR_le b.elses hb.elses
  have hk := hb.kind
  refine ⟨fun c1 => ?_, fun c1 => ⟨fun c2 => ?_, fun c2 => ?_⟩⟩
  · have e : encTerm b = encI 1 ++ (encI b.to ++ (encR b.args)) := by unfold encTerm; rw [if_pos c1, c1]
    refine call_plain (ds := [.int 1]) _ (by simp) (by simp) (fun _ => by simp) (fun _ => ref6num_pure 1) ?_
    simp
    refine call_plain (ds := [.int b.to]) _ (by simp) (by simp) (fun _ => by simp) (fun _ => ref6num_pure _) ?_
    simp
    refine ⟨by first | omega | (simp only [ByteArray.size_append]; omega), ?_⟩
    refine call_plain (ds := [intsD b.args]) _ (by simp) (by simp) (fun _ => by simp) (fun _ => ref6nums_pure _ (by have := hb.args; omega)) ?_
    simp
    refine ⟨by first | omega | (simp only [ByteArray.size_append]; omega), ?_⟩
    rw [e]
    try simp only [ByteArray.append_assoc]
    exact DLe.refl _
  · have e : encTerm b = encI 2 ++ (encI b.ta ++ (encI b.to ++ (encR b.args ++ (encI b.els ++ (encR b.elses))))) := by unfold encTerm; rw [if_neg c1, if_pos c2, encIs_two, c2, ByteArray.append_assoc]
    refine call_plain (ds := [.int 2]) _ (by simp) (by simp) (fun _ => by simp) (fun _ => ref6num_pure 2) ?_
    simp
    refine call_plain (ds := [.int b.ta]) _ (by simp) (by simp) (fun _ => by simp) (fun _ => ref6num_pure _) ?_
    simp
    refine ⟨by first | omega | (simp only [ByteArray.size_append]; omega), ?_⟩
    refine call_plain (ds := [.int b.to]) _ (by simp) (by simp) (fun _ => by simp) (fun _ => ref6num_pure _) ?_
    simp
    refine ⟨by first | omega | (simp only [ByteArray.size_append]; omega), ?_⟩
    refine call_plain (ds := [intsD b.args]) _ (by simp) (by simp) (fun _ => by simp) (fun _ => ref6nums_pure _ (by have := hb.args; omega)) ?_
    simp
    refine ⟨by first | omega | (simp only [ByteArray.size_append]; omega), ?_⟩
    refine call_plain (ds := [.int b.els]) _ (by simp) (by simp) (fun _ => by simp) (fun _ => ref6num_pure _) ?_
    simp
    refine ⟨by first | omega | (simp only [ByteArray.size_append]; omega), ?_⟩
    refine call_plain (ds := [intsD b.elses]) _ (by simp) (by simp) (fun _ => by simp) (fun _ => ref6nums_pure _ (by have := hb.elses; omega)) ?_
    simp
    refine ⟨by first | omega | (simp only [ByteArray.size_append]; omega), ?_⟩
    rw [e]
    try simp only [ByteArray.append_assoc]
    exact DLe.refl _
  · have e : encTerm b = encI 3 ++ (encI b.ta) := by unfold encTerm; rw [if_neg c1, if_neg c2, if_pos (by omega), show b.kind = 3 by omega]
    refine call_plain (ds := [.int 3]) _ (by simp) (by simp) (fun _ => by simp) (fun _ => ref6num_pure 3) ?_
    simp
    refine call_plain (ds := [.int b.ta]) _ (by simp) (by simp) (fun _ => by simp) (fun _ => ref6num_pure _) ?_
    simp
    refine ⟨by first | omega | (simp only [ByteArray.size_append]; omega), ?_⟩
    rw [e]
    try simp only [ByteArray.append_assoc]
    exact DLe.refl _

end Go.Proofs.Ytciihchbiifgkaa
/- Contracts by the evaluator: the document's bytes of a module (layer 6). -/
namespace Go.Proofs.Ytciihchbiifgkaa
open Go.RowKit

theorem inst_sm {x : Inst} {n : Int} (h : instOk x n = true) (hk : instK x) : instSm x := by
  simp only [instOk, Bool.and_eq_true, decide_eq_true_eq] at h
  obtain ⟨⟨_, h6⟩, hn⟩ := h
  refine ⟨h6, ?_, hk⟩
  by_cases c : isNamed x.op = true
  · rw [if_pos c] at hn; exact nameOk_le hn
  · rw [if_neg c] at hn
    have : x.name.size = 0 := by simpa using hn
    omega
theorem block_sm {f : Func} (hf : ∀ b ∈ f.blocks, b.params ≤ 6) (hb : f.blocks.length ≤ 16) {b : Block} (h : blockOk f b = true) (hk : blockK b) : BlockSm b := by
  simp only [blockOk, Bool.and_eq_true, decide_eq_true_eq] at h
  obtain ⟨⟨⟨⟨h0, h6⟩, h32⟩, hi⟩, he⟩ := h
  have hins : ∀ i ∈ b.ins, instSm i := fun i hm => by
    obtain ⟨k, hlt, rfl⟩ := List.getElem_of_mem hm
    exact inst_sm ((insFrom_iff _ _).1 hi k hlt) (hk _ hm)
  by_cases c1 : b.kind = 1
  · rw [endB_jump c1] at he
    simp only [Bool.and_eq_true, beq_iff_eq] at he
    obtain ⟨⟨⟨hg, h1⟩, h2⟩, h3⟩ := he
    exact ⟨.inl c1, (goesB_len hg hf).1, by omega, by omega, hins⟩
  by_cases c2 : b.kind = 2
  · rw [endB_if c2] at he
    simp only [Bool.and_eq_true, decide_eq_true_eq] at he
    obtain ⟨⟨⟨q1, q2⟩, hg⟩, hg'⟩ := he
    exact ⟨.inr (.inl c2), (goesB_len hg hf).1, (goesB_len hg' hf).1, by omega, hins⟩
  · rw [endB_other c1 c2] at he
    simp only [Bool.and_eq_true, decide_eq_true_eq, beq_iff_eq] at he
    obtain ⟨⟨⟨⟨⟨c3, q1, q2⟩, h1⟩, h2⟩, h3⟩, h4⟩ := he
    exact ⟨.inr (.inr c3), by omega, by omega, by omega, hins⟩
/-- What is asked of a function. -/
structure FuncSm (f : Func) : Prop where
  name : f.name.size ≤ 16
  len : f.blocks.length ≤ 16
  blocks : ∀ b ∈ f.blocks, BlockSm b
theorem func_sm {f : Func} (h : funcOk f = true) (hk : funcK f) : FuncSm f := by
  obtain ⟨h1, h2, h3, _⟩ := funcOk_blocks h
  exact ⟨nameOk_le h3, h2, fun b hb => block_sm (fun b hb => (blockOk_params (h1 b hb)).1) h2 (h1 b hb) (hk b hb)⟩

set_option maxRecDepth 10000 in
theorem ref6Bytes_pure (m : Module) (hm : BitFit m) : APure Try.prog 11 [.agg (moduleC m)] (.tup [.str (bytesM m), .int (bytesE m)]) := by
  refine apureG _ _ Try.func11 (by kernel_rfl) t_marlineref06_Bytes u_marlineref06_Bytes rfl rfl (fun hx => ?_)
  clear hx
  simp [c_marlineref06_Bytes, r_marlineref06_Bytes]
  refine call_plain (ds := [.agg (moduleC m)]) _ (by simp) (by simp) (fun _ => by simp; rfl) (fun _ => refCheck_pure m hm.args) ?_
  simp
  refine ⟨fun h => ?_, fun h => ?_⟩
  · have e : bytesE m = checkE m := by unfold bytesE; rw [if_neg h]
    have e2 : bytesM m = ⟨#[]⟩ := by unfold bytesM; rw [e, if_neg h]
    rw [e, e2]
    exact DLe.refl _
  have hok := checkE_zero.1 h
  have hT := encMod_le hok hm
  have hsz : (encMod m).size = 4 + (((encI m.funcs.length).size + (catM encFunc m.funcs).size) + ((encI m.globs.length).size + (catM encGlob m.globs).size)) := by
    unfold encMod encL
    simp only [ByteArray.size_append]
    rfl
  generalize hTT : (encMod m).size = T at hT hsz
  refine call_plain (ds := [.int m.funcs.length]) _ (by simp) (by simp) (fun _ => by simp) (fun _ => ref6num_pure _) ?_
  simp
  have hmg : magicB.size = 4 := rfl
  refine ⟨by show 4 + _ ≤ _; omega, ?_⟩
  refine loop_s (κ := Nat) (fun k => k ≤ m.funcs.length) (fun k => m.funcs.length - k) (fun k => [(sl 6, .int k), (sl 5, .d (.str (magicB ++ encI m.funcs.length ++ catM encFunc (m.funcs.take k))))]) (fun _ => []) 0 0 (srcs []) (by simp) (by simp [catM, magicB]) ?_
  rintro k hk
  simp
  refine ⟨fun hlt => ⟨hlt, ?_⟩, fun hge => ?_⟩
  · rw [getD_some hlt]
    have hsm := func_sm (hok.funcs _ (List.getElem_mem hlt)) (hm.ks _ (List.getElem_mem hlt))
    have hmid := catM_mid encFunc hlt
    have hnext := catM_take encFunc hlt
    generalize m.funcs[k] = f at hsm hmid hnext ⊢
    generalize catM encFunc (m.funcs.take k) = Pk at hmid hnext ⊢
    have hfs : (encFunc f).size = (encT f.name).size + (((encI f.bind).size + (encI f.params).size) + ((encI f.blocks.length).size + (catM encBlock f.blocks).size)) := by
      unfold encFunc encL
      rw [encIs_two]
      simp only [ByteArray.size_append]
    refine call_plain (ds := [.str f.name]) _ (by simp) (by simp) (fun _ => by simp) (fun _ => ref6text_pure _ (by have := hsm.name; omega)) ?_
    simp
    refine ⟨by first | omega | (simp only [ByteArray.size_append]; omega), ?_⟩
    refine call_plain (ds := [.int f.bind]) _ (by simp) (by simp) (fun _ => by simp) (fun _ => ref6num_pure _) ?_
    simp
    refine ⟨by first | omega | (simp only [ByteArray.size_append]; omega), ?_⟩
    refine call_plain (ds := [.int f.params]) _ (by simp) (by simp) (fun _ => by simp) (fun _ => ref6num_pure _) ?_
    simp
    refine ⟨by first | omega | (simp only [ByteArray.size_append]; omega), ?_⟩
    refine call_plain (ds := [.int f.blocks.length]) _ (by simp) (by simp) (fun _ => by simp) (fun _ => ref6num_pure _) ?_
    simp
    refine ⟨by first | omega | (simp only [ByteArray.size_append]; omega), ?_⟩
    refine loop_s (κ := Nat) (fun j => j ≤ f.blocks.length) (fun j => f.blocks.length - j) (fun j => [(sl 8, .int j), (sl 5, .d (.str (magicB ++ encI m.funcs.length ++ Pk ++ encT f.name ++ encI f.bind ++ encI f.params ++ encI f.blocks.length ++ catM encBlock (f.blocks.take j))))]) (fun _ => []) 0 0 (srcs []) (by simp) (by simp [catM]) ?_
    rintro j hj
    simp
    refine ⟨fun hlt2 => ⟨hlt2, ?_⟩, fun hge2 => ?_⟩
    · rw [getD_some hlt2]
      have hsb := hsm.blocks _ (List.getElem_mem hlt2)
      have hmid2 := catM_mid encBlock hlt2
      have hnext2 := catM_take encBlock hlt2
      generalize f.blocks[j] = b at hsb hmid2 hnext2 ⊢
      generalize catM encBlock (f.blocks.take j) = Bj at hmid2 hnext2 ⊢
      have hbs : (encBlock b).size = (encI b.params).size + (((encI b.ins.length).size + (catM encInst b.ins).size) + (encTerm b).size) := by
        unfold encBlock encL
        simp only [ByteArray.size_append]
      refine call_plain (ds := [.int b.params]) _ (by simp) (by simp) (fun _ => by simp) (fun _ => ref6num_pure _) ?_
      simp
      refine ⟨by first | omega | (simp only [ByteArray.size_append]; omega), ?_⟩
      refine call_plain (ds := [.int b.ins.length]) _ (by simp) (by simp) (fun _ => by simp) (fun _ => ref6num_pure _) ?_
      simp
      refine ⟨by first | omega | (simp only [ByteArray.size_append]; omega), ?_⟩
      refine loop_s (κ := Nat) (fun i => i ≤ b.ins.length) (fun i => b.ins.length - i) (fun i => [(sl 10, .int i), (sl 5, .d (.str (magicB ++ encI m.funcs.length ++ Pk ++ encT f.name ++ encI f.bind ++ encI f.params ++ encI f.blocks.length ++ Bj ++ encI b.params ++ encI b.ins.length ++ catM encInst (b.ins.take i))))]) (fun _ => []) 0 0 (srcs []) (by simp) (by simp [catM]) ?_
      rintro i hi
      simp
      refine ⟨fun hlt3 => ⟨hlt3, ?_⟩, fun hge3 => ?_⟩
      · rw [getD_some hlt3]
        have hsi := hsb.ins _ (List.getElem_mem hlt3)
        have hmid3 := catM_mid encInst hlt3
        have hnext3 := catM_take encInst hlt3
        generalize b.ins[i] = x at hsi hmid3 hnext3 ⊢
        generalize catM encInst (b.ins.take i) = Ii at hmid3 hnext3 ⊢
        refine call_plain (ds := [.agg (instC x)]) _ (by simp) (by simp) (fun _ => by simp) (fun _ => ref6inst_pure x hsi) ?_
        simp
        refine ⟨by first | omega | (simp only [ByteArray.size_append]; omega), ?_⟩
        refine ⟨i + 1, by omega, by omega, srcs [], ?_⟩
        simp [SLeK, hnext3, ← ByteArray.append_assoc]
        exact DLe_int (wrap_succ (by have := hsb.len; omega))
      · rw [List.take_of_length_le hge3]
        refine call_plain (ds := [.agg (termC b)]) _ (by simp) (by simp) (fun _ => by simp; rfl) (fun _ => ref6end_pure b hsb) ?_
        simp
        refine ⟨by first | omega | (simp only [ByteArray.size_append]; omega), ?_⟩
        refine ⟨j + 1, by omega, by omega, srcs [], ?_⟩
        simp [SLeK, hnext2, encBlock, encL, ← ByteArray.append_assoc]
        exact DLe_int (wrap_succ (by have := hsm.len; omega))
    · rw [List.take_of_length_le hge2]
      refine ⟨k + 1, by omega, by omega, srcs [], ?_⟩
      simp [SLeK, hnext, encFunc, encL, encIs_two, ← ByteArray.append_assoc]
      exact DLe_int (wrap_succ (by have := hok.nf; omega))
  · rw [List.take_of_length_le hge]
    refine call_plain (ds := [.int m.globs.length]) _ (by simp) (by simp) (fun _ => by simp) (fun _ => ref6num_pure _) ?_
    simp
    refine ⟨by first | omega | (simp only [ByteArray.size_append]; omega), ?_⟩
    refine loop_s (κ := Nat) (fun k => k ≤ m.globs.length) (fun k => m.globs.length - k) (fun k => [(sl 11, .int k), (sl 5, .d (.str (magicB ++ encI m.funcs.length ++ catM encFunc m.funcs ++ encI m.globs.length ++ catM encGlob (m.globs.take k))))]) (fun _ => []) 0 0 (srcs []) (by simp) (by simp [catM]) ?_
    rintro k hk
    simp
    refine ⟨fun hlt => ⟨hlt, ?_⟩, fun hge => ?_⟩
    · rw [getD_some hlt]
      have hgk := hm.inits _ (List.getElem_mem hlt)
      have hgn : (m.globs[k]).name.size ≤ 16 := by
        have h1 := hok.globs _ (List.getElem_mem hlt)
        simp only [globOk, Bool.and_eq_true, decide_eq_true_eq] at h1
        exact nameOk_le h1.1.1.1
      have hmid := catM_mid encGlob hlt
      have hnext := catM_take encGlob hlt
      generalize m.globs[k] = g at hgk hgn hmid hnext ⊢
      generalize catM encGlob (m.globs.take k) = Gk at hmid hnext ⊢
      have hgs : (encGlob g).size = (encT g.name).size + (((encI g.bind).size + (encI (if g.here = true then 1 else 0)).size) + (numB g.init).size) := by
        unfold encGlob
        rw [encIs_two]
        simp only [ByteArray.size_append]
      refine ⟨fun hh => ?_, fun hh => ?_⟩
      · rw [if_pos hh] at hgs
        refine call_plain (ds := [.str g.name]) _ (by simp) (by simp) (fun _ => by simp) (fun _ => ref6text_pure _ (by omega)) ?_
        simp
        refine ⟨by first | omega | (simp only [ByteArray.size_append]; omega), ?_⟩
        refine call_plain (ds := [.int g.bind]) _ (by simp) (by simp) (fun _ => by simp) (fun _ => ref6num_pure _) ?_
        simp
        refine ⟨by first | omega | (simp only [ByteArray.size_append]; omega), ?_⟩
        refine call_plain (ds := [.int 1]) _ (by simp) (by simp) (fun _ => by simp) (fun _ => ref6num_pure 1) ?_
        simp
        refine ⟨by first | omega | (simp only [ByteArray.size_append]; omega), ?_⟩
        refine call_plain (ds := [.lit (.int .u64 g.init)]) _ (by simp) (by simp) (fun _ => by simp) (fun _ => ref6Num_pure _ hgk) ?_
        simp
        refine ⟨by first | omega | (simp only [ByteArray.size_append]; omega), ?_⟩
        refine ⟨k + 1, by omega, by omega, srcs [], ?_⟩
        simp [SLeK, hnext, encGlob, encIs_two, hh, ← ByteArray.append_assoc]
        exact DLe_int (wrap_succ (by have := hok.ng; omega))
      · rw [if_neg (by simp [hh])] at hgs
        refine call_plain (ds := [.str g.name]) _ (by simp) (by simp) (fun _ => by simp) (fun _ => ref6text_pure _ (by omega)) ?_
        simp
        refine ⟨by first | omega | (simp only [ByteArray.size_append]; omega), ?_⟩
        refine call_plain (ds := [.int g.bind]) _ (by simp) (by simp) (fun _ => by simp) (fun _ => ref6num_pure _) ?_
        simp
        refine ⟨by first | omega | (simp only [ByteArray.size_append]; omega), ?_⟩
        refine call_plain (ds := [.int 0]) _ (by simp) (by simp) (fun _ => by simp) (fun _ => ref6num_pure 0) ?_
        simp
        refine ⟨by first | omega | (simp only [ByteArray.size_append]; omega), ?_⟩
        refine call_plain (ds := [.lit (.int .u64 g.init)]) _ (by simp) (by simp) (fun _ => by simp) (fun _ => ref6Num_pure _ hgk) ?_
        simp
        refine ⟨by first | omega | (simp only [ByteArray.size_append]; omega), ?_⟩
        refine ⟨k + 1, by omega, by omega, srcs [], ?_⟩
        simp [SLeK, hnext, encGlob, encIs_two, hh, ← ByteArray.append_assoc]
        exact DLe_int (wrap_succ (by have := hok.ng; omega))
    · rw [List.take_of_length_le hge]
      have hen : encMod m = magicB ++ encI m.funcs.length ++ catM encFunc m.funcs ++ encI m.globs.length ++ catM encGlob m.globs := by
        unfold encMod encL
        simp only [ByteArray.append_assoc]
      refine ⟨fun hb => ?_, fun hb => ?_⟩
      · have e : bytesE m = 4 := by unfold bytesE; rw [if_pos h, if_pos (by omega)]
        have e2 : bytesM m = ⟨#[]⟩ := by unfold bytesM; rw [e]; rfl
        rw [e, e2]
        exact DLe.refl _
      · have e : bytesE m = 0 := by unfold bytesE; rw [if_pos h, if_neg (by omega)]
        have e2 : bytesM m = encMod m := by unfold bytesM; rw [if_pos e]
        rw [e, e2, hen]
        exact DLe.refl _

end Go.Proofs.Ytciihchbiifgkaa
