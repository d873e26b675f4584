/- Texts of one kind, one behind the other (merged by program; the bodies of functions are printed by program). -/
import Derived.Test.YtgadlpdbkohlbaaPQF
import Derived.WalkKit
import Derived.WalkSpells
import Derived.WalkLawsBesides
import Derived.Test.YtgadlpdbkohlbaaRows
import Derived.ProofKit
import Derived.Deep.Slices
import Derived.SizedLaws
import Derived.Carry
namespace Go.Proofs.Ytgadlpdbkohlbaa
open Go.RowKit
def c_inline_Leaf : ACode :=
 (.seq (.reg [Ro 2 (.box true (Sv 0)), Ro 4 (.mv (.c (.bool false)))])
 (.seq (.seq (.reg [Ro 7 (Fd 2 3), Ro 8 (Ld 7), Ro 9 (.len false (Sv 8)), Ro 10 (.bin .neq (Sv 9) (Ci 1))])
 (.cond (Sv 10)
 (.seq (.reg [Ro 4 (.mv (.c (.bool false)))])
 .ret)
 .skip))
 (.seq (.seq (.reg [Ro 11 (Fd 2 3), Ro 12 (Ld 11), Ro 13 (.idx true (Sv 12) (Ci 0) 8), Ro 14 (Lk 13 8), Ro 5 (.new [(.int .i64 0), (.slice none 0 0), (.int .i64 0), (.int .i64 0), (.int .i64 0), (.slice none 0 0), (.int .i64 0), (.slice none 0 0)]), Rn (.ini 1 (Sv 5) (Sv 14) 8)])
 (.frz (sl 5)))
 (.seq (.reg [Ro 6 (.mv (.f 90))])
 (.seq (.reg [Ro 15 (Fd 5 2), Ro 16 (Fd 15 0), Ro 17 (Ld 16), Ro 18 (.bin .eql (Sv 17) (Ci 3)), Ro 19 (Mv 18), Rg 20 19 true (Fd 5 1), Rg 21 19 true (Ld 20), Rg 22 19 true (.len false (Sv 21)), Rg 23 19 true (Mv 1), Rg 24 19 true (.bin .leq (Sv 22) (Sv 23)), Ro 25 (.pick (Sv 19) (Sv 24) (.c (.bool false))), Ro 26 (Mv 25), Rg 27 26 true (Fd 5 1), Rg 28 26 true (Ld 27), Rg 29 26 true (Mv 6), Rg 30 26 true (.call true (.f 91) [Sv 28, Sv 29]), Rg 31 26 true (.not (Sv 30)), Ro 32 (.pick (Sv 26) (Sv 31) (.c (.bool false))), Ro 4 (Mv 32)])
 .ret)))))
def r_inline_Leaf : List ARes := [(.tmp (sl 4))]
theorem t_inline_Leaf : (Try.f76).body.bind (trCode Try.prog 8 (Try.f76).ntmps [] [] (drOk 8)) = some c_inline_Leaf := by kernel_rfl
theorem u_inline_Leaf : trRess Try.prog 8 (Try.f76).results.toList = some r_inline_Leaf := by kernel_rfl
def c_inline_Leaf_1 : ACode :=
 (.seq (.reg [Ro 1 (.box true (Sv 0)), Ro 2 (.mv (.c (.bool false)))])
 (.seq (.reg [Ro 3 (Fd 1 0), Ro 4 (Ld 3), Ro 5 (.bin .eql (Sv 4) (Ci 14)), Ro 2 (Mv 5)])
 .ret))
def r_inline_Leaf_1 : List ARes := [(.tmp (sl 2))]
theorem t_inline_Leaf_1 : (Try.f90).body.bind (trCode Try.prog 8 (Try.f90).ntmps [] [] (drOk 8)) = some c_inline_Leaf_1 := by kernel_rfl
theorem u_inline_Leaf_1 : trRess Try.prog 8 (Try.f90).results.toList = some r_inline_Leaf_1 := by kernel_rfl
def c_slices_ContainsFunc___api_Inst_api_Inst_ : ACode :=
 (.seq (.reg [Ro 4 (.mv (.c (.bool false)))])
 (.seq (.reg [Ro 5 (Mv 0), Ro 6 (Mv 1), Ro 7 (.call true (.f 97) [Sv 5, Sv 6]), Ro 8 (.bin .geq (Sv 7) (Ci 0)), Ro 4 (Mv 8)])
 .ret))
def r_slices_ContainsFunc___api_Inst_api_Inst_ : List ARes := [(.tmp (sl 4))]
theorem t_slices_ContainsFunc___api_Inst_api_Inst_ : (Try.f91).body.bind (trCode Try.prog 8 (Try.f91).ntmps [] [] (drOk 8)) = some c_slices_ContainsFunc___api_Inst_api_Inst_ := by kernel_rfl
theorem u_slices_ContainsFunc___api_Inst_api_Inst_ : trRess Try.prog 8 (Try.f91).results.toList = some r_slices_ContainsFunc___api_Inst_api_Inst_ := by kernel_rfl
def c_slices_IndexFunc___api_Inst_api_Inst_ : ACode :=
 (.seq (.reg [Ro 4 (.mv (Ci 0))])
 (.seq (.seq (.reg [Ro 6 (Mv 0), Ro 7 (.len false (Sv 6)), Ro 8 (.mv (Ci 0))])
 (.block 0
 (.loop (.seq (.reg [Ro 9 (.bin .lss (Sv 8) (Sv 7))])
 (.seq (.cond (Sv 9)
 .skip
 (.exit 0))
 (.seq (.block 1
 (.seq (.reg [Ro 10 (Mv 8), Ro 5 (Mv 10)])
 (.seq (.reg [Ro 11 (Mv 1), Ro 12 (Mv 0), Ro 13 (Mv 5), Ro 14 (.idx true (Sv 12) (Sv 13) 6), Ro 15 (Lk 14 6), Ro 16 (.call true (Sv 11) [Sv 15])])
 (.cond (Sv 16)
 (.seq (.reg [Ro 17 (Mv 5), Ro 4 (Mv 17)])
 .ret)
 .skip))))
 (.reg [Ro 18 (.bin .add (Sv 8) (Ci 1)), Ro 8 (Mv 18)])))))))
 (.seq (.reg [Ro 4 (.mv (Ci (-1)))])
 .ret)))
def r_slices_IndexFunc___api_Inst_api_Inst_ : List ARes := [(.tmp (sl 4))]
theorem t_slices_IndexFunc___api_Inst_api_Inst_ : (Try.f97).body.bind (trCode Try.prog 8 (Try.f97).ntmps [] [] (drOk 8)) = some c_slices_IndexFunc___api_Inst_api_Inst_ := by kernel_rfl
theorem u_slices_IndexFunc___api_Inst_api_Inst_ : trRess Try.prog 8 (Try.f97).results.toList = some r_slices_IndexFunc___api_Inst_api_Inst_ := by kernel_rfl
def c_inline_leaf : ACode :=
 (.seq (.reg [Ro 3 (.box true (Sv 0)), Ro 4 (.box true (Sv 1)), Ro 6 (.new [(.int .i64 0), (.slice none 0 0), (.int .i64 0), (.int .i64 0), (.int .i64 0), (.slice none 0 0), (.int .i64 0), (.slice none 0 0)]), Ro 7 (.mv (.c (.bool false)))])
 (.seq (.reg [Ro 9 (Fd 3 0), Ro 10 (Ld 9), Ro 11 (.mkfn 75 [Sv 4]), Ro 12 (.call true (.f 23) [Sv 10, Sv 11]), Ro 8 (Mv 12)])
 (.seq (.seq (.reg [Ro 13 (Mv 8), Ro 14 (.bin .lss (Sv 13) (Ci 0)), Ro 15 (Mv 14), Rg 16 15 false (Fd 3 0), Rg 17 15 false (Ld 16), Rg 18 15 false (Mv 8), Rg 19 15 false (.idx true (Sv 17) (Sv 18) 4), Rg 20 15 false (Lk 19 4), Rg 21 15 false (Mv 2), Rg 22 15 false (.call true (.f 76) [Sv 20, Sv 21]), Rg 23 15 false (.not (Sv 22)), Ro 24 (.pick (Sv 15) (.c (.bool true)) (Sv 23))])
 (.cond (Sv 24)
 (.seq (.reg [Ro 25 (.bld [(.int .i64 0), (.slice none 0 0), (.int .i64 0), (.int .i64 0), (.int .i64 0), (.slice none 0 0), (.int .i64 0), (.slice none 0 0)] []), Rn (.st (Sv 6) (Sv 25) 8), Ro 7 (.mv (.c (.bool false)))])
 .ret)
 .skip))
 (.seq (.reg [Ro 26 (Fd 3 0), Ro 27 (Ld 26), Ro 28 (Mv 8), Ro 29 (.idx true (Sv 27) (Sv 28) 4), Ro 30 (Fd 29 3), Ro 31 (Ld 30), Ro 32 (.idx true (Sv 31) (Ci 0) 8), Ro 33 (Lk 32 8), Rn (.st (Sv 6) (Sv 33) 8), Ro 7 (.mv (.c (.bool true)))])
 .ret))))
def r_inline_leaf : List ARes := [(.cell (sl 6) (some 8)), (.tmp (sl 7))]
theorem t_inline_leaf : (Try.f61).body.bind (trCode Try.prog 8 (Try.f61).ntmps [6] [] (drOk 8)) = some c_inline_leaf := by kernel_rfl
theorem u_inline_leaf : trRess Try.prog 8 (Try.f61).results.toList = some r_inline_leaf := by kernel_rfl
def c_inline_leaf_1 : ACode :=
 (.seq (.reg [Ro 2 (.box true (Sv 0)), Ro 3 (.mv (.c (.bool false)))])
 (.seq (.reg [Ro 4 (Fd 2 0), Ro 5 (Ld 4), Ro 6 (Ld 1), Ro 7 (.bin .eql (Sv 5) (Sv 6)), Ro 3 (Mv 7)])
 .ret))
def r_inline_leaf_1 : List ARes := [(.tmp (sl 3))]
theorem t_inline_leaf_1 : (Try.f75).body.bind (trCode Try.prog 8 (Try.f75).ntmps [] [] (drOk 8)) = some c_inline_leaf_1 := by kernel_rfl
theorem u_inline_leaf_1 : trRess Try.prog 8 (Try.f75).results.toList = some r_inline_leaf_1 := by kernel_rfl
def c_inline_Block : ACode :=
 (.seq (.reg [Ro 3 (.box false (Sv 0)), Ro 4 (.box true (Sv 1)), Ro 6 (.new [(.int .i64 0), (.slice none 0 0), (.int .i64 0), (.int .i64 0), (.int .i64 0), (.slice none 0 0), (.int .i64 0), (.slice none 0 0)])])
 (.seq (.reg [Ro 7 (.mv (Ci 0))])
 (.seq .skip
 (.seq (.block 0
 (.loop (.seq (.seq (.reg [Ro 13 (Mv 7), Ro 14 (Fd 3 1), Ro 15 (.ld false (Sv 14) none), Ro 16 (.len false (Sv 15)), Ro 17 (.bin .lss (Sv 13) (Sv 16))])
 (.cond (Sv 17)
 .skip
 (.exit 0)))
 (.block 1
 (.seq (.seq (.reg [Ro 18 (Fd 3 1), Ro 19 (.ld false (Sv 18) none), Ro 20 (Mv 7), Ro 21 (.idx false (Sv 19) (Sv 20) 6), Ro 22 (.ld false (Sv 21) (some 6)), Ro 8 (.new [(.int .i64 0), (.int .i64 0), (.int .i64 0), (.int .u64 0), (.string ⟨#[]⟩), (.slice none 0 0)]), Rn (.ini 1 (Sv 8) (Sv 22) 6)])
 (.frz (sl 8)))
 (.seq (.seq (.reg [Ro 23 (Fd 8 0), Ro 24 (Ld 23), Ro 25 (.bin .neq (Sv 24) (Ci 14))])
 (.cond (Sv 25)
 (.seq (.reg [Ro 26 (Mv 7), Ro 27 (.bin .add (Sv 26) (Ci 1)), Ro 7 (Mv 27)])
 (.exit 1))
 .skip))
 (.seq (.seq (.reg [Ro 29 (Lk 4 2), Ro 30 (Fd 8 4), Ro 31 (Ld 30), Ro 32 (Mv 2), Ro 33 (.call true (.f 61) [Sv 29, Sv 31, Sv 32]), Ro 28 (Mv 33), Ro 34 (.ext (Sv 28) 0), Ro 35 (.ext (Sv 28) 1), Ro 9 (.new [(.int .i64 0), (.slice none 0 0), (.int .i64 0), (.int .i64 0), (.int .i64 0), (.slice none 0 0), (.int .i64 0), (.slice none 0 0)]), Rn (.ini 1 (Sv 9) (Sv 34) 8), Ro 10 (Mv 35)])
 (.frz (sl 9)))
 (.seq (.seq (.reg [Ro 36 (Mv 10), Ro 37 (.not (Sv 36))])
 (.cond (Sv 37)
 (.seq (.reg [Ro 38 (Mv 7), Ro 39 (.bin .add (Sv 38) (Ci 1)), Ro 7 (Mv 39)])
 (.exit 1))
 .skip))
 (.seq (.seq (.reg [Ro 41 (.ld false (Sv 3) (some 8)), Ro 42 (Lk 9 8), Ro 43 (Mv 7), Ro 44 (.call false (.f 62) [Sv 41, Sv 42, Sv 43]), Ro 40 (Mv 44), Ro 45 (.ext (Sv 40) 0), Ro 46 (.ext (Sv 40) 1), Ro 11 (.new [(.int .i64 0), (.slice none 0 0), (.int .i64 0), (.int .i64 0), (.int .i64 0), (.slice none 0 0), (.int .i64 0), (.slice none 0 0)]), Rn (.ini 1 (Sv 11) (Sv 45) 8), Ro 12 (Mv 46)])
 (.frz (sl 11)))
 (.seq (.seq (.reg [Ro 47 (Mv 12), Ro 48 (.not (Sv 47))])
 (.cond (Sv 48)
 (.seq (.reg [Ro 49 (Mv 7), Ro 50 (.bin .add (Sv 49) (Ci 1)), Ro 7 (Mv 50)])
 (.exit 1))
 .skip))
 (.seq (.reg [Ro 51 (Lk 11 8), Rn (.st (Sv 3) (Sv 51) 8)])
 (.reg [Ro 52 (Mv 7), Ro 53 (Fd 9 1), Ro 54 (Ld 53), Ro 55 (.len false (Sv 54)), Ro 56 (.bin .add (Sv 52) (Sv 55)), Ro 7 (Mv 56)]))))))))))))
 (.seq (.reg [Ro 57 (.ld false (Sv 3) (some 8)), Rn (.st (Sv 6) (Sv 57) 8)])
 .ret)))))
def r_inline_Block : List ARes := [(.cell (sl 6) (some 8))]
theorem t_inline_Block : (Try.f47).body.bind (trCode Try.prog 8 (Try.f47).ntmps [3, 6, 14, 15, 18, 19, 21, 22, 41, 57] [] (drOk 8)) = some c_inline_Block := by kernel_rfl
theorem u_inline_Block : trRess Try.prog 8 (Try.f47).results.toList = some r_inline_Block := by kernel_rfl
set_option maxRecDepth 10000 in
theorem leaf1_pure (x : Inst) : APure Try.prog 90 [.agg (instC x)] (.bool (decide (x.op = 14))) := by
 refine apureG _ _ Try.func90 (by kernel_rfl) t_inline_Leaf_1 u_inline_Leaf_1 rfl rfl (fun _ => ?_)
 simp [c_inline_Leaf_1, r_inline_Leaf_1]
set_option maxRecDepth 10000 in
theorem leafn1_pure (s : ByteArray) (f : Func) : APure Try.prog 75 [.agg (funcC f), .cref [.str s] 0] (.bool (decide (f.name = s))) := by
 refine apureG _ _ Try.func75 (by kernel_rfl) t_inline_leaf_1 u_inline_leaf_1 rfl rfl (fun _ => ?_)
 simp [c_inline_leaf_1, r_inline_leaf_1]
theorem indexIn_pure (xs : List Inst) (F : FuncId) (caps : List DV) (p : Inst → Bool) (hF : ∀ v ∈ xs, APure Try.prog F (.agg (instC v) :: caps) (.bool (p v))) : APure Try.prog 97 [insD xs, .fn F caps] (.int (findI p xs)) := by
 refine apureG _ _ Try.func97 (by kernel_rfl) t_slices_IndexFunc___api_Inst_api_Inst_ u_slices_IndexFunc___api_Inst_api_Inst_ rfl rfl (fun hx => len1 hx fun hl => ?_)
 clear hx
 simp [c_slices_IndexFunc___api_Inst_api_Inst_, r_slices_IndexFunc___api_Inst_api_Inst_]
 refine loop_s (κ := Nat) (fun k => k ≤ xs.length ∧ ∀ i (h : i < xs.length), i < k → p xs[i] = false) (fun k => xs.length - k) (fun k => [(sl 8, .int k)]) (fun _ => []) 0 0 (srcs []) (by simp) (by simp) ?_
 rintro k ⟨hk, hb⟩
 simp
 refine ⟨fun hlt => ⟨hlt, ?_⟩, fun hge => ?_⟩
 ·rw [getD_some hlt]
  refine call_plain _ (by simp) (by simp) (fun _ => by simp) (fun _ => hF _ (List.getElem_mem hlt)) ?_
  simp
  refine ⟨fun h => DLe_int (findI_hit hlt hb h).symm, fun h => ?_⟩
  refine ⟨k + 1, ⟨by omega, fun i hi h1 => ?_⟩, by omega, srcs [], ?_⟩
  ·rcases Nat.lt_or_ge i k with h2 | h2
   ·exact hb i hi h2
   ·obtain rfl : i = k := by omega
    exact h
  ·simp [SLeK]
   exact DLe_int (wrap_succ (by omega))
 ·exact DLe_int (findI_miss fun i hi => hb i hi (by omega)).symm
theorem containsIn_pure (xs : List Inst) (F : FuncId) (caps : List DV) (p : Inst → Bool) (hF : ∀ v ∈ xs, APure Try.prog F (.agg (instC v) :: caps) (.bool (p v))) : APure Try.prog 91 [insD xs, .fn F caps] (.bool (xs.any p)) := by
 refine apureG _ _ Try.func91 (by kernel_rfl) t_slices_ContainsFunc___api_Inst_api_Inst_ u_slices_ContainsFunc___api_Inst_api_Inst_ rfl rfl (fun _ => ?_)
 simp [c_slices_ContainsFunc___api_Inst_api_Inst_, r_slices_ContainsFunc___api_Inst_api_Inst_]
 refine call_plain _ (by simp) (by simp) (fun _ => rfl) (fun _ => indexIn_pure xs F caps p hF) ?_
 simp
 exact DLe_bool (findI_ge p xs)
set_option maxRecDepth 10000 in
theorem leaf_pure (f : Func) (budget : Int) : APure Try.prog 76 [.agg (funcC f), .int budget] (.bool (leafB f budget)) := by
  refine apureG _ _ Try.func76 (by kernel_rfl) t_inline_Leaf u_inline_Leaf rfl rfl (fun _ => ?_)
  simp [c_inline_Leaf, r_inline_Leaf]
  obtain ⟨b, hb⟩ : ∃ b, f.blocks[0]?.getD default = b := ⟨_, rfl⟩
  simp only [hb]
  have hone : (f.blocks.length : Int) = 1 → f.blocks = [b] := fun h => by
    cases hf : f.blocks with
    | nil => rw [hf] at h; simp at h
    | cons c r =>
      rw [hf] at h hb
      cases r with
      | nil => simp at hb; rw [hb]
      | cons d r => simp at h; omega
  refine ⟨fun h => DLe_bool ?_, fun h1 => ⟨by omega, ?_⟩⟩
  · symm
    rw [← Bool.not_eq_true, leafB_iff]
    rintro ⟨c, k1, _⟩
    rw [k1] at h
    simp at h
  refine call_plain (ds := [insD b.ins, .fn 90 []]) _ (by simp) (by simp) (fun _ => rfl) (fun _ => containsIn_pure b.ins _ [] (fun x => decide (x.op = 14)) (fun x _ => leaf1_pure x)) ?_
  simp
  refine DLe_bool ?_
  unfold leafB
  rw [hone h1]
theorem noBlock : DLe (.agg [.int 0, .lit (.slice none 0 0), .int 0, .int 0, .int 0, .lit (.slice none 0 0), .int 0, .lit (.slice none 0 0)]) (.agg (blockC default)) :=
 DLe_agg ⟨DLe.refl _, DLe_nil, DLe.refl _, DLe.refl _, DLe.refl _, DLe_nil, DLe.refl _, DLe_nil, trivial⟩
theorem noLeaf : DLe (.tup [.agg [.int 0, .lit (.slice none 0 0), .int 0, .int 0, .int 0, .lit (.slice none 0 0), .int 0, .lit (.slice none 0 0)], .bool false]) (.tup [.agg (blockC default), .bool false]) :=
 DLe_tup ⟨noBlock, DLe.refl _, trivial⟩
set_option maxRecDepth 10000 in
theorem leafI_pure (m : Module) (s : ByteArray) (budget : Int) : APure Try.prog 61 [.agg (moduleC m), .str s, .int budget] (.tup [.agg (blockC ((leafL m budget s).getD default)), .bool (leafL m budget s).isSome]) := by
 refine apureG _ _ Try.func61 (by kernel_rfl) t_inline_leaf u_inline_leaf rfl rfl (fun _ => ?_)
 simp [c_inline_leaf, r_inline_leaf]
 refine call_plain (ds := [funcsD m.funcs, .fn 75 [.cref [.str s] 0]]) _ (by simp) (by simp) (fun _ => rfl) (fun _ => indexF_pure m.funcs _ _ (fun f => decide (f.name = s)) (fun f _ => leafn1_pure s f)) ?_
 simp
 obtain ⟨k, hk, h1, h2⟩ | ⟨h1, h2⟩ := leads_eq m s
 ·rw [h1]
  refine ⟨fun _ => by omega, ?_⟩
  simp only [Int.toNat_natCast, getD_some hk]
  obtain ⟨f, hf⟩ : ∃ f, m.funcs[k] = f := ⟨_, rfl⟩
  have hL : leafL m budget s = if leafB f budget = true then f.blocks[0]? else none := by unfold leafL; rw [h2, hf]
  simp only [hf]
  refine call_plain (ds := [.agg (funcC f), .int budget]) _ (by simp) (by simp) (fun _ => by simp) (fun _ => leaf_pure f budget) ?_
  simp
  simp only [getD_some hk, hf]
  refine ⟨fun h => ?_, fun h => ?_⟩
  ·have hz : leafB f budget = false := by
    rcases h with h | h
    ·omega
    ·exact h
   rw [hL, hz]
   exact noLeaf
  ·obtain ⟨b, hb, _⟩ := leafB_iff.1 h
   rw [hL, if_pos h, hb]
   exact ⟨hk, by simp, DLe.refl _⟩
 ·rw [h1]
  have hL : leafL m budget s = none := by unfold leafL; rw [h2]
  refine ⟨fun h => by omega, ?_⟩
  refine call_plain (F := 0) (ds := []) (.bool false) (by simp) (by simp) (fun h => by simp at h) (fun h => by simp at h) ?_
  simp
  rw [hL]
  trace_state
  exact noLeaf
theorem SameParams.rfl' (f : Func) : SameParams f f := ⟨rfl, fun k b h => ⟨b, h, rfl⟩⟩
theorem blockI_step {m : Module} {budget : Int} {b : Block} {at' : Nat} (h : at' < b.ins.length) : blockI m budget (b.ins.length - at') b at' =
  if (b.ins[at']'h).op = 14 then (match leafL m budget (b.ins[at']'h).name with
    | some l => if putYes b l at' = true then blockI m budget (b.ins.length - at' - 1) (putB b l at') (at' + l.ins.length) else blockI m budget (b.ins.length - (at' + 1)) b (at' + 1)
    | none => blockI m budget (b.ins.length - (at' + 1)) b (at' + 1)) else blockI m budget (b.ins.length - (at' + 1)) b (at' + 1) := by
 obtain ⟨n, hn⟩ : ∃ n, b.ins.length - at' = n + 1 := ⟨b.ins.length - at' - 1, by omega⟩
 rw [hn, show b.ins.length - (at' + 1) = n by omega]
 rw [blockI, List.getElem?_eq_getElem h]
 simp only [Nat.add_sub_cancel]
 cases leafL m budget (b.ins[at']'h).name <;> rfl
theorem blockI_end {m : Module} {budget : Int} {b : Block} {at' : Nat} (h : b.ins.length ≤ at') : blockI m budget (b.ins.length - at') b at' = b := by
 rw [show b.ins.length - at' = 0 by omega]
 rfl
theorem blockOk_put {m : Module} (hok : ModOk m) {budget : Int} {f : Func} {b l : Block} {at' : Nat} (hb : blockOk f b = true) (h : at' < b.ins.length) (h14 : (b.ins[at']'h).op = 14) (hl : leafL m budget (b.ins[at']'h).name = some l) (hy : putYes b l at' = true) :
  blockOk f (putB b l at') = true ∧ (putB b l at').ins.length = b.ins.length - 1 + l.ins.length := by
 obtain ⟨y1, y2, y3, y4, y5⟩ := putYes_iff.1 hy
 rw [List.getElem?_eq_getElem h] at y3
 obtain ⟨g, hg, hgl, hk, hno⟩ := leafL_some hl
 have hgo : blockOk g l = true := List.all_eq_true.1 (funcOk_all (hok.funcs g (List.mem_of_find?_eq_some hg))) l (by rw [hgl]; simp)
 obtain ⟨P, hP⟩ := Int.eq_ofNat_of_zero_le (blockOk_iff.1 hb).1
 obtain ⟨Q, hQ⟩ := Int.eq_ofNat_of_zero_le (blockOk_iff.1 hgo).1
 exact ⟨putB_ok (.rfl' f) hb hgo hk hP hQ (List.getElem?_eq_getElem h) h14 (by simp at y3; omega) (by omega), by rw [put_length h, cnt_hi h]⟩
theorem nums_of {f : Func} {b : Block} (hf : funcOk f = true) (hb : blockOk f b = true) : NumsOk b := (blockOk_nums (f := f) (fun c hc => (blockOk_iff.1 (List.all_eq_true.1 (funcOk_all hf) c hc)).2.1) hb).1
theorem nums_leaf {m : Module} (hok : ModOk m) {budget : Int} {s : ByteArray} {l : Block} (h : leafL m budget s = some l) : NumsOk l := by
 obtain ⟨g, hg, hgl, hk, hno⟩ := leafL_some h
 have hgm := hok.funcs g (List.mem_of_find?_eq_some hg)
 exact nums_of hgm (List.all_eq_true.1 (funcOk_all hgm) l (by rw [hgl]; simp))
set_option maxRecDepth 10000 in
set_option maxHeartbeats 1000000 in
theorem blockI_pure (m : Module) (hok : ModOk m) (budget : Int) (f : Func) (hf : funcOk f = true) (b : Block) (hb : blockOk f b = true) : APure Try.prog 47 [.agg (blockC b), .agg (moduleC m), .int budget] (.agg (blockC (inlB m budget b))) := by
  refine apureG _ _ Try.func47 (by kernel_rfl) t_inline_Block u_inline_Block rfl rfl (fun _ => ?_)
  simp [c_inline_Block, r_inline_Block]
  obtain ⟨R, hR⟩ : ∃ R, inlB m budget b = R := ⟨_, rfl⟩
  rw [hR]
  refine loop_s (κ := Nat × Block) (fun q => q.1 ≤ q.2.ins.length ∧ blockOk f q.2 = true ∧ blockI m budget (q.2.ins.length - q.1) q.2 q.1 = R) (fun q => q.2.ins.length - q.1) (fun q => [(sl 7, .int q.1)])
    (fun q => [(0, .box ((blockC q.2).map .d)), (2, .box [.d (.int 0), .d (.lit (.slice none 0 0)), .d (.int 0), .d (.int 0), .d (.int 0), .d (.lit (.slice none 0 0)), .d (.int 0), .d (.lit (.slice none 0 0))])]) 3 (0, b) (srcs [(0, .id 0), (2, .id 2)])
    ⟨Nat.zero_le _, hb, hR⟩ (by simp) ?_
  rintro ⟨at1, b1⟩ ⟨hat, hb1, hR1⟩
  simp
  simp only at hat hb1 hR1
  have hb32 := (blockOk_iff.1 hb1).2.2.1
  refine ⟨fun hlt => ?_, fun hge => ?_⟩
  rotate_left
  · rw [blockI_end hge] at hR1
    rw [hR1]
    exact DLe.refl _
  rw [blockI_step hlt] at hR1
  simp only [getD_some hlt]
  refine ⟨hlt, fun h14 => ?_, fun h14 => ?_⟩
  · rw [if_neg h14] at hR1
    refine ⟨at1 + 1, b1, ⟨hlt, hb1, hR1⟩, by omega, srcs [(0, .id 0), (2, .id 2)], ?_⟩
    simp [SLeK]
    exact DLe_int (wrap_succ (by omega))
  · rw [if_pos h14] at hR1
    refine call_plain (ds := [.agg (moduleC m), .str b1.ins[at1].name, .int budget]) _ (by simp) (by simp) (fun _ => by simp; rfl) (fun _ => leafI_pure m _ budget) ?_
    simp
    cases hl : leafL m budget b1.ins[at1].name with
    | none =>
      rw [hl] at hR1
      simp
      refine ⟨at1 + 1, b1, ⟨hlt, hb1, hR1⟩, by omega, srcs [(0, .id 0), (2, .id 2)], ?_⟩
      simp [SLeK]
      exact DLe_int (wrap_succ (by omega))
    | some l =>
      rw [hl] at hR1
      simp only at hR1
      simp
      have hn1 := nums_of hf hb1
      have hn2 := nums_leaf hok hl
      refine call_plain (ds := [.agg (blockC b1), .agg (blockC l), .int at1]) _ (by simp) (by simp) (fun _ => by simp; exact ⟨rfl, rfl⟩) (fun _ => putI_pure b1 l at1 hn1 hn2) ?_
      simp
      refine ⟨fun hy => ?_, fun hy => ?_⟩
      · rw [if_neg (by simp [hy])] at hR1
        refine ⟨at1 + 1, b1, ⟨hlt, hb1, hR1⟩, by omega, srcs [(0, .id 0), (2, .id 2)], ?_⟩
        simp [SLeK]
        exact DLe_int (wrap_succ (by omega))
      · rw [if_pos hy] at hR1
        obtain ⟨k1, k2⟩ := blockOk_put hok hb1 hlt h14 hl hy
        have hl32 := hn2.n32
        refine ⟨at1 + l.ins.length, putB b1 l at1, ⟨by omega, k1, by rw [← hR1, k2]; congr 1; omega⟩, by omega, srcs [(0, .id 0), (2, .id 2)], ?_⟩
        simp [SLeK, hy]
        exact DLe_int (wrap_in (by omega))
def c_inline_Module : ACode :=
 (.seq (.reg [Ro 2 (.box true (Sv 0)), Ro 4 (.new [(.slice none 0 0), (.slice none 0 0)])])
 (.seq (.seq (.reg [Ro 10 (Lk 2 2), Ro 11 (.call true (.f 13) [Sv 10]), Ro 12 (.bin .neq (Sv 11) (Ci 0))])
 (.cond (Sv 12)
 (.seq (.reg [Ro 13 (Lk 2 2), Rn (.st (Sv 4) (Sv 13) 2)])
 .ret)
 .skip))
 (.seq (.reg [Ro 14 (Lk 2 2), Ro 5 (.new [(.slice none 0 0), (.slice none 0 0)]), Rn (.ini 1 (Sv 5) (Sv 14) 2)])
 (.seq (.reg [Ro 15 (Fd 2 0), Ro 16 (Ld 15), Ro 17 (.callv 47 4 (.f 42) [Sv 16]), Ro 18 (Fd 5 0), Rn (.st (Sv 18) (Sv 17) 1)])
 (.seq (.seq (.reg [Ro 19 (Fd 2 0), Ro 20 (Ld 19), Ro 21 (.len false (Sv 20)), Ro 22 (.mv (Ci 0))])
 (.block 0
 (.loop (.seq (.reg [Ro 23 (.bin .lss (Sv 22) (Sv 21))])
 (.seq (.cond (Sv 23)
 .skip
 (.exit 0))
 (.seq (.block 1
 (.seq (.seq (.reg [Ro 24 (Mv 22), Ro 25 (.idx true (Sv 20) (Sv 22) 4), Ro 26 (Lk 25 4), Ro 7 (.new [(.string ⟨#[]⟩), (.int .i64 0), (.int .i64 0), (.slice none 0 0)]), Ro 6 (Mv 24), Rn (.ini 2 (Sv 7) (Sv 26) 4)])
 (.frz (sl 7)))
 (.seq (.reg [Ro 27 (Fd 5 0), Ro 28 (.ld false (Sv 27) none), Ro 29 (Mv 6), Ro 30 (.idx false (Sv 28) (Sv 29) 4), Ro 31 (Fd 30 3), Rn (.st (Sv 31) (.c (.slice none 0 0)) 1)])
 (.seq (.reg [Ro 32 (Fd 7 3), Ro 33 (Ld 32), Ro 34 (.len false (Sv 33)), Ro 35 (.mv (Ci 0))])
 (.block 2
 (.loop (.seq (.reg [Ro 36 (.bin .lss (Sv 35) (Sv 34))])
 (.seq (.cond (Sv 36)
 .skip
 (.exit 2))
 (.seq (.block 3
 (.seq (.seq (.reg [Ro 37 (.idx true (Sv 33) (Sv 35) 8), Ro 38 (Lk 37 8), Ro 9 (.new [(.int .i64 0), (.slice none 0 0), (.int .i64 0), (.int .i64 0), (.int .i64 0), (.slice none 0 0), (.int .i64 0), (.slice none 0 0)]), Rn (.ini 1 (Sv 9) (Sv 38) 8)])
 (.frz (sl 9)))
 (.reg [⟨(some (sl 39)), none, (Fd 5 0), (some (0, [[]]))⟩, ⟨(some (sl 40)), none, (.ld false (Sv 39) none), (some (1, [[]]))⟩, ⟨(some (sl 41)), none, (Mv 6), (some (2, [[]]))⟩, ⟨(some (sl 42)), none, (Fd 5 0), (some (3, [[]]))⟩, ⟨(some (sl 43)), none, (.ld false (Sv 42) none), (some (4, [[]]))⟩, ⟨(some (sl 44)), none, (Mv 6), (some (5, [[]]))⟩, ⟨(some (sl 45)), none, (.idx false (Sv 43) (Sv 44) 4), (some (6, [[]]))⟩, ⟨(some (sl 46)), none, (Fd 45 3), (some (7, [[]]))⟩, ⟨(some (sl 47)), none, (.ld false (Sv 46) none), (some (8, [[]]))⟩, ⟨(some (sl 48)), none, (Lk 9 8), (some (9, [[]]))⟩, ⟨(some (sl 49)), none, (Lk 2 2), (some (10, [[]]))⟩, ⟨(some (sl 50)), none, (Mv 1), (some (11, [[]]))⟩, ⟨(some (sl 51)), none, (.call true (.f 47) [Sv 48, Sv 49, Sv 50]), (some (12, [[]]))⟩, ⟨(some (sl 52)), none, (.mksl 8 1 [(.int .i64 0), (.slice none 0 0), (.int .i64 0), (.int .i64 0), (.int .i64 0), (.slice none 0 0), (.int .i64 0), (.slice none 0 0)] [(0, 8, (Sv 51))]), (some (13, [[]]))⟩, ⟨(some (sl 53)), none, (.app 44 8 112 (Sv 47) (Sv 52)), (some (14, [[]]))⟩, ⟨(some (sl 54)), none, (.idx false (Sv 40) (Sv 41) 4), (some (15, [[]]))⟩, ⟨(some (sl 55)), none, (Fd 54 3), (some (16, [[]]))⟩, ⟨none, none, (.st (Sv 55) (Sv 53) 1), (some (17, [[]]))⟩])))
 (.reg [Ro 56 (.bin .add (Sv 35) (Ci 1)), Ro 35 (Mv 56)]))))))))))
 (.reg [Ro 57 (.bin .add (Sv 22) (Ci 1)), Ro 22 (Mv 57)])))))))
 (.seq (.reg [Ro 58 (.ld false (Sv 5) (some 2)), Rn (.st (Sv 4) (Sv 58) 2)])
 .ret))))))
def r_inline_Module : List ARes := [(.cell (sl 4) (some 2))]
theorem t_inline_Module : (Try.f34).body.bind (trCode Try.prog 8 (Try.f34).ntmps [4, 5, 17, 18, 27, 28, 30, 31, 39, 40, 42, 43, 45, 46, 47, 53, 54, 55, 58] [(42, 47, 1004), (4000008, 0, 1)] (drOk 8)) = some c_inline_Module := by kernel_rfl
theorem u_inline_Module : trRess Try.prog 8 (Try.f34).results.toList = some r_inline_Module := by kernel_rfl
def c_slices_Clone___api_Func_api_Func_ : ACode :=
 (.seq (.reg [Ro 2 (.mv (.c (.slice none 0 0)))])
 (.seq (.seq (.reg [Ro 3 (Mv 0), Ro 4 (.isnil false (Sv 3))])
 (.cond (Sv 4)
 (.seq (.reg [Ro 2 (.mv (.c (.slice none 0 0)))])
 .ret)
 .skip))
 (.seq (.reg [Ro 5 (.nrow 47 4), Ro 6 (Mv 0), Ro 7 (.vapp 47 4 56 (Sv 5) (Sv 6)), Ro 2 (Mv 7)])
 .ret)))
def r_slices_Clone___api_Func_api_Func_ : List ARes := [(.tmp (sl 2))]
theorem t_slices_Clone___api_Func_api_Func_ : (Try.f42).body.bind (trCode Try.prog 8 (Try.f42).ntmps [2, 7] [(2000007, 47, 4)] (drOk 8)) = some c_slices_Clone___api_Func_api_Func_ := by kernel_rfl
theorem u_slices_Clone___api_Func_api_Func_ : trRess Try.prog 8 (Try.f42).results.toList = some r_slices_Clone___api_Func_api_Func_ := by kernel_rfl
theorem AOwnV.nilSplit {P : Program} {F : FuncId} {n len : Nat} {row : Nat → List DV} {as' : List DV} {te : TypeId} {m l : Nat} {r : Nat → List DV} (h0 : len = 0 → AOwnV P F (.lit (.slice none 0 0) :: as') te m l r) (h1 : AOwnV P F (.sn n len row :: as') te m l r) : AOwnV P F (.sl n len row :: as') te m l r := by
 refine ⟨h1.1, fun X w vs hX hvs => ?_⟩
 obtain ⟨v, vs', he, hv, hr⟩ := hvs.uncons
 by_cases hn : v = .slice none 0 0
 ·have hl : len = 0 := by
   subst hn
   cases hv
   rfl
  subst hn
  exact (h0 hl).2 X w vs hX (by rw [he]; exact DReps.cons (.lit _) hr)
 ·exact h1.2 X w vs hX (by rw [he]; exact DReps.cons (.sn v _ _ _ hv hn) hr)
set_option maxRecDepth 10000 in
theorem cloneF_own (fs : List Func) (hl : fs.length ≤ 1000000) : AOwnV Try.prog 42 [funcsD fs] 47 4 fs.length (fun i => funcC (fs[i]?.getD default)) := by
 refine AOwnV.nilSplit (fun h0 => ?_) ?_
 ·refine aownVG _ _ Try.func42 (by kernel_rfl) t_slices_Clone___api_Func_api_Func_ u_slices_Clone___api_Func_api_Func_ rfl rfl (fun _ => ?_)
  simp [c_slices_Clone___api_Func_api_Func_, r_slices_Clone___api_Func_api_Func_]
  exact List.length_eq_zero_iff.1 h0
 ·refine aownVG _ _ Try.func42 (by kernel_rfl) t_slices_Clone___api_Func_api_Func_ u_slices_Clone___api_Func_api_Func_ rfl rfl (fun _ => ?_)
  simp [c_slices_Clone___api_Func_api_Func_, r_slices_Clone___api_Func_api_Func_]
  omega
def stepF (m : Module) (budget : Int) (i : Nat) : List Func := (m.funcs.take i).map (inlF m budget) ++ m.funcs.drop i
theorem stepF_at {m : Module} {budget : Int} {i : Nat} (hi : i < m.funcs.length) : (stepF m budget i)[i]? = some m.funcs[i] := by
 unfold stepF
 rw [List.getElem?_append_right (by simp; omega)]
 simp only [List.length_map, List.length_take, List.getElem?_drop]
 rw [show i + (i - min i m.funcs.length) = i by omega, List.getElem?_eq_getElem hi]
theorem stepF_next {m : Module} {budget : Int} {i : Nat} (hi : i < m.funcs.length) (j : Nat) : (stepF m budget (i + 1))[j]? = if j = i then some (inlF m budget m.funcs[i]) else (stepF m budget i)[j]? := by
 unfold stepF
 by_cases h : j = i
 ·subst h
  rw [if_pos rfl, List.getElem?_append_left (by simp; omega)]
  simp [hi]
 ·rw [if_neg h]
  by_cases h1 : j < i
  ·rw [List.getElem?_append_left (by simp; omega), List.getElem?_append_left (by simp; omega)]
   simp [h1, show j < i + 1 by omega]
  ·rw [List.getElem?_append_right (by simp; omega), List.getElem?_append_right (by simp; omega)]
   simp only [List.length_map, List.length_take, List.getElem?_drop]
   congr 1
   omega
theorem stepF_all {m : Module} {budget : Int} {i : Nat} (hi : m.funcs.length ≤ i) : stepF m budget i = m.funcs.map (inlF m budget) := by
 unfold stepF
 rw [List.take_of_length_le hi, List.drop_eq_nil_of_le hi, List.append_nil]
set_option maxRecDepth 10000 in
set_option maxHeartbeats 1000000 in
theorem moduleI_pure (m : Module) (hm : ∀ f ∈ m.funcs, ∀ b ∈ f.blocks, ∀ i ∈ b.ins, i.args.length ≤ 17592186044416) (budget : Int) : APure Try.prog 34 [.agg (moduleC m), .int budget] (.agg (moduleC (inlM m budget))) := by
 refine apureG _ _ Try.func34 (by kernel_rfl) t_inline_Module u_inline_Module rfl rfl (fun _ => ?_)
 simp [c_inline_Module, r_inline_Module]
 refine call_plain (ds := [.agg (moduleC m)]) _ (by simp) (by simp) (fun _ => by simp; rfl) (fun _ => check_pure m hm) ?_
 simp
 refine ⟨fun hz => ?_, fun hz => ?_⟩
 ·have e : inlM m budget = m := by unfold inlM; rw [if_neg hz]
  rw [e]
  exact DLe.refl _
 have hok := checkE_zero.1 hz
 have hnf := hok.nf
 refine callvv_k m.funcs.length _ (by simp) (by simp) (by simp) (cloneF_own m.funcs (by omega)) ?_
 simp
 refine loop_s (κ := Nat) (fun i => i ≤ m.funcs.length) (fun i => m.funcs.length - i) (fun i => [(sl 22, .int i)])
  (fun i => [(10, .vec 47 4 m.funcs.length fun j => (funcC ((stepF m budget i)[j]?.getD default)).map .d), (6, .box [.own 10 m.funcs.length, .d (globsD m.globs)]), (1, .box [.d (.lit (.slice none 0 0)), .d (.lit (.slice none 0 0))])]) 11 0 (srcs [(10, .id 10), (6, .id 6), (1, .id 1)]) (by simp) (by simp [stepF]) ?_
 intro i hi
 simp
 refine ⟨fun hlt => ?_, fun hge => ?_⟩
 ·refine ⟨hlt, ?_⟩
  rw [getD_some hlt]
  obtain ⟨f, hf⟩ : ∃ f, m.funcs[i] = f := ⟨_, rfl⟩
  have hsi : (stepF m budget i)[i]?.getD default = f := by rw [stepF_at hlt, hf]; rfl
  have hfm : f ∈ m.funcs := by rw [← hf]; exact List.getElem_mem hlt
  have hfo := hok.funcs f hfm
  have hbl := funcOk_len hfo
  simp only [hf, hsi]
  obtain ⟨bs, hbs⟩ : ∃ bs, f.blocks.map (inlB m budget) = bs := ⟨_, rfl⟩
  have hbsl : bs.length = f.blocks.length := by rw [← hbs]; simp
  refine loop_s (κ := Nat) (fun k => k ≤ f.blocks.length) (fun k => f.blocks.length - k) (fun k => [(sl 35, .int k)])
   (fun k => [(0, .row 44 8 k fun j => blockC (bs[j]?.getD default)), (10, .vec 47 4 m.funcs.length (updR (fun j => (funcC ((stepF m budget i)[j]?.getD default)).map .d) i [.d (.str f.name), .d (.int f.bind), .d (.int f.params), .own 0 k])), (6, .box [.own 10 m.funcs.length, .d (globsD m.globs)]), (1, .box [.d (.lit (.slice none 0 0)), .d (.lit (.slice none 0 0))])]) 11 0 (srcs [(0, .nil), (10, .id 10), (6, .id 6), (1, .id 1)]) (by simp) ?_ ?_
  ·simp
   intro j hj
   split <;> simp
  intro k hk
  simp
  refine ⟨fun hkl => ?_, fun hge => ?_⟩
  ·refine ⟨hkl, ?_⟩
   rw [getD_some hkl]
   have hbo : blockOk f f.blocks[k] = true := funcOk_block hfo hkl
   refine ⟨hlt, ?_⟩
   refine call_plain (ds := [.agg (blockC f.blocks[k]), .agg (moduleC m), .int budget]) _ (by simp) (by simp) (fun _ => by simp; exact ⟨rfl, rfl⟩) (fun _ => blockI_pure m hok budget f hfo _ hbo) ?_
   simp
   refine ⟨by omega, hlt, k + 1, by omega, by omega, srcs [(0, .id 30), (10, .id 10), (6, .id 6), (1, .id 1)], ?_⟩
   simp [SLeK]
   refine ⟨DLe_int (wrap_succ (by omega)), fun j hj => ?_, fun j hj => ?_⟩
   ·unfold appRow
    split
    ·rfl
    ·obtain rfl : j = k := by omega
     rw [← hbs]
     simp [hkl, blockC]
   ·split <;> simp
  ·obtain rfl : k = f.blocks.length := by omega
   refine ⟨i + 1, by omega, by omega, srcs [(10, .id 10), (6, .id 6), (1, .id 1)], ?_⟩
   simp [SLeK]
   refine ⟨DLe_int (wrap_succ (by omega)), fun j hj => ?_⟩
   rw [stepF_next hlt]
   by_cases hji : j = i
   ·rw [if_pos hji, if_pos hji]
    simp [inlF, hf]
    rw [hbs, ← hbsl]
    exact DLe.refl _
   ·rw [if_neg hji, if_neg hji]
    simp
 ·rw [stepF_all hge]
  have e : inlM m budget = { m with funcs := m.funcs.map (inlF m budget) } := by unfold inlM; rw [if_pos hz]
  rw [e]
  refine DLe.of_eq ?_
  simp [moduleC, funcsD]
  rfl
theorem DLe_snoc {cs : List DV} {x y : DV} (h : DLe x y) : DLe (.agg (cs ++ [x])) (.agg (cs ++ [y])) := by
 refine DLe.agg (by simp) fun i h1 h2 => ?_
 by_cases hi : i < cs.length
 ·rw [List.getElem_append_left hi, List.getElem_append_left hi]
  exact DLe.refl _
 ·have : i = cs.length := by simp at h1; omega
  subst this
  rw [List.getElem_append_right (Nat.le_refl _), List.getElem_append_right (Nat.le_refl _)]
  simpa using h
def mapT {α β : Type} (g : α → β) (xs : List α) (k : Nat) : List β := (xs.take k).map g
@[simp] theorem mapT_zero {α β : Type} (g : α → β) (xs : List α) : mapT g xs 0 = [] := by simp [mapT]
theorem mapT_length {α β : Type} (g : α → β) (xs : List α) (k : Nat) : (mapT g xs k).length ≤ xs.length := by simp [mapT]; omega
theorem mapT_succ {α β : Type} (g : α → β) {xs : List α} {k : Nat} (hk : k < xs.length) : mapT g xs (k + 1) = mapT g xs k ++ [g xs[k]] := by
 unfold mapT
 rw [List.take_succ_eq_append_getElem hk, List.map_append]
 rfl
theorem mapT_all {α β : Type} (g : α → β) {xs : List α} {k : Nat} (h : xs.length ≤ k) : mapT g xs k = xs.map g := by
 unfold mapT
 rw [List.take_of_length_le h]
set_option maxRecDepth 10000 in
theorem eachB_pure (xs : List Block) (hl : xs.length ≤ 1000000) (F : FuncId) (g : Block → Block) (hF : ∀ v ∈ xs, APure Try.prog F [.agg (blockC v)] (.agg (blockC (g v)))) : APure Try.prog 51 [blocksD xs, .fn F []] (blocksD (xs.map g)) := by
 refine apureG _ _ Try.func51 (by kernel_rfl) t_fold_each_api_Block_api_Block_ u_fold_each_api_Block_api_Block_ rfl rfl (fun _ => ?_)
 simp [c_fold_each_api_Block_api_Block_, r_fold_each_api_Block_api_Block_]
 refine loop_s (κ := Nat) (fun k => k ≤ xs.length) (fun k => xs.length - k) (fun k => [(sl 10, .int k), (sl 5, .own 0 (mapT g xs k).length)]) (fun k => [(0, .row 44 8 (mapT g xs k).length fun i => blockC ((mapT g xs k)[i]?.getD default))]) 10 0 (srcs [(0, .nil)]) (by simp) (by simp) ?_
 rintro k hk
 simp
 have hlen := mapT_length g xs k
 refine ⟨fun hlt => ⟨hlt, ?_⟩, fun hge => ?_⟩
 ·rw [getD_some hlt]
  have hsucc := mapT_succ g hlt
  refine call_plain (ds := [.agg (blockC xs[k])]) _ (by simp) (by simp) (fun _ => by simp; rfl) (fun _ => hF _ (List.getElem_mem hlt)) ?_
  simp
  refine ⟨by omega, k + 1, by omega, by omega, srcs [(0, .id 20)], ?_⟩
  simp [SLeK, hsucc]
  exact ⟨DLe_int (wrap_succ (by omega)), fun i hi => appRow_snocG blockC default rfl hi⟩
 ·rw [mapT_all g hge]
  exact DLe.refl _
set_option maxRecDepth 10000 in
theorem eachF_pure (xs : List Func) (hl : xs.length ≤ 1000000) (F : FuncId) (g : Func → Func) (hF : ∀ v ∈ xs, APure Try.prog F [.agg (funcC v)] (.agg (funcC (g v)))) : APure Try.prog 40 [funcsD xs, .fn F []] (funcsD (xs.map g)) := by
 refine apureG _ _ Try.func40 (by kernel_rfl) t_fold_each_api_Func_api_Func_ u_fold_each_api_Func_api_Func_ rfl rfl (fun _ => ?_)
 simp [c_fold_each_api_Func_api_Func_, r_fold_each_api_Func_api_Func_]
 refine loop_s (κ := Nat) (fun k => k ≤ xs.length) (fun k => xs.length - k) (fun k => [(sl 10, .int k), (sl 5, .own 0 (mapT g xs k).length)]) (fun k => [(0, .row 47 4 (mapT g xs k).length fun i => funcC ((mapT g xs k)[i]?.getD default))]) 10 0 (srcs [(0, .nil)]) (by simp) (by simp) ?_
 rintro k hk
 simp
 have hlen := mapT_length g xs k
 refine ⟨fun hlt => ⟨hlt, ?_⟩, fun hge => ?_⟩
 ·rw [getD_some hlt]
  have hsucc := mapT_succ g hlt
  refine call_plain (ds := [.agg (funcC xs[k])]) _ (by simp) (by simp) (fun _ => by simp; rfl) (fun _ => hF _ (List.getElem_mem hlt)) ?_
  simp
  refine ⟨by omega, k + 1, by omega, by omega, srcs [(0, .id 20)], ?_⟩
  simp [SLeK, hsucc]
  exact ⟨DLe_int (wrap_succ (by omega)), fun i hi => appRow_snocG funcC default rfl hi⟩
 ·rw [mapT_all g hge]
  exact DLe.refl _
set_option maxRecDepth 10000 in
theorem cloneI_own (xs : List Inst) (hl : xs.length ≤ 1000000) : AOwnV Try.prog 68 [insD xs] 39 6 xs.length (fun i => instC (xs[i]?.getD default)) := by
 refine AOwnV.nilSplit (fun h0 => ?_) ?_
 ·refine aownVG _ _ Try.func68 (by kernel_rfl) t_slices_Clone___api_Inst_api_Inst_ u_slices_Clone___api_Inst_api_Inst_ rfl rfl (fun _ => ?_)
  simp [c_slices_Clone___api_Inst_api_Inst_, r_slices_Clone___api_Inst_api_Inst_]
  exact List.length_eq_zero_iff.1 h0
 ·refine aownVG _ _ Try.func68 (by kernel_rfl) t_slices_Clone___api_Inst_api_Inst_ u_slices_Clone___api_Inst_api_Inst_ rfl rfl (fun _ => ?_)
  simp [c_slices_Clone___api_Inst_api_Inst_, r_slices_Clone___api_Inst_api_Inst_]
  omega
def foldStep (b : Block) (i : Nat) : List Inst := (foldIns b).take i ++ b.ins.drop i
theorem foldStep_zero (b : Block) : foldStep b 0 = b.ins := by simp [foldStep]
theorem foldStep_all {b : Block} {i : Nat} (h : b.ins.length ≤ i) : foldStep b i = foldIns b := by
 unfold foldStep
 rw [List.take_of_length_le (by rw [foldIns_length]; exact h), List.drop_eq_nil_of_le h, List.append_nil]
theorem foldStep_at {b : Block} {i : Nat} (hi : i < b.ins.length) : (foldStep b i)[i]? = some b.ins[i] := by
 unfold foldStep
 rw [List.getElem?_append_right (by rw [List.length_take, foldIns_length]; omega), List.length_take, foldIns_length, List.getElem?_drop, Nat.min_eq_left (by omega), Nat.sub_self, Nat.add_zero, List.getElem?_eq_getElem hi]
theorem foldStep_next {b : Block} {i : Nat} (hi : i < b.ins.length) (j : Nat) : (foldStep b (i + 1))[j]? = if j = i then (foldIns b)[i]? else (foldStep b i)[j]? := by
 have hl := foldIns_length b
 unfold foldStep
 by_cases h : j = i
 ·subst h
  rw [if_pos rfl, List.getElem?_append_left (by rw [List.length_take]; omega), List.getElem?_take, if_pos (by omega)]
 ·rw [if_neg h]
  by_cases h1 : j < i
  ·rw [List.getElem?_append_left (by rw [List.length_take]; omega), List.getElem?_append_left (by rw [List.length_take]; omega), List.getElem?_take, List.getElem?_take, if_pos h1, if_pos (by omega)]
  ·rw [List.getElem?_append_right (by rw [List.length_take]; omega), List.getElem?_append_right (by rw [List.length_take]; omega), List.getElem?_drop, List.getElem?_drop, List.length_take, List.length_take]
   congr 1
   omega
set_option maxRecDepth 10000 in
theorem fblock_pure (b : Block) (hp : 0 ≤ b.params ∧ b.params ≤ 1000) (hn : b.ins.length ≤ 1000) (hk : ∀ x ∈ b.ins, x.k < 18446744073709551616) : APure Try.prog 52 [.agg (blockC b)] (.agg (blockC (foldB b))) := by
  refine apureG _ _ Try.func52 (by kernel_rfl) t_fold_Block u_fold_Block rfl rfl (fun _ => ?_)
  have hmx : (if b.params < 0 then 0 else b.params) = b.params := if_neg (by omega)
  simp [c_fold_Block, r_fold_Block, hmx]
  refine call_plain (ds := [.agg (blockC b)]) _ (by simp) (by simp) (fun _ => by simp; rfl) (fun _ => fvalues_pure b hp hn hk) ?_
  simp
  refine callvv_k b.ins.length _ (by simp) (by simp) (by simp) (cloneI_own b.ins (by omega)) ?_
  simp
  refine loop_s (κ := Nat) (fun i => i ≤ b.ins.length) (fun i => b.ins.length - i) (fun i => [(sl 23, .int i)])
    (fun i => [(14, .vec 39 6 b.ins.length fun j => (instC ((foldStep b i)[j]?.getD default)).map .d), (0, .box [.int b.params, .own 14 b.ins.length, .int b.kind, .int b.ta, .int b.to, .d (intsD b.args), .int b.els, .d (intsD b.elses)]), (1, .box [.int 0, .d (.lit (.slice none 0 0)), .int 0, .int 0, .int 0, .d (.lit (.slice none 0 0)), .int 0, .d (.lit (.slice none 0 0))])]) 21 0 (srcs [(14, .id 14), (0, .id 0), (1, .id 1)]) (by simp) (by simp [foldStep_zero]) ?_
  intro i hi
  have hlv : (foldVals b).length = b.params.toNat + b.ins.length := foldVals_length b
  have hfirst : IntKind.i64.wrap ((foldVals b).length - b.ins.length) = b.params := by rw [hlv, wrap_in (by omega)]; omega
  have hend : ∀ (kd ta to el : Int) (ar es : List Int), b.ins.length ≤ i → DLe (DV.agg [.int b.params, .sl 6 b.ins.length fun j => instC ((foldStep b i)[j]?.getD default), .int kd, .int ta, .int to, intsD ar, .int el, intsD es]) (.agg (blockC ⟨b.params, foldIns b, kd, ta, to, ar, el, es⟩)) := fun kd ta to el ar es hge => by
    rw [foldStep_all hge]
    have e : (DV.sl 6 b.ins.length fun j => instC ((foldIns b)[j]?.getD default)) = insD (foldIns b) := by rw [← foldIns_length b]
    rw [e]
    exact DLe.refl _
  simp [hfirst]
  refine ⟨fun hlt => ?_, fun hge => ?_⟩
  · have hw : IntKind.i64.wrap (b.params + (i : Int)) = b.params + i := wrap_in (by omega)
    have hin : (b.params + (i : Int)).toNat = b.params.toNat + i := by omega
    have hx := foldIns_at (List.getElem?_eq_getElem hlt)
    have hat : (foldVals b)[b.params.toNat + i]? = some (foldV (foldL (noneL b) (b.ins.take i)) b.ins[i]) := by
      have h := foldL_at (l := noneL b) (List.getElem?_eq_getElem hlt)
      rw [noneL_length] at h
      exact h
    simp only [hw, hin, hat]
    refine ⟨⟨by omega, by omega⟩, ?_⟩
    generalize foldV (foldL (noneL b) (b.ins.take i)) b.ins[i] = o at *
    cases o with
    | none =>
      simp
      refine ⟨i + 1, by omega, by omega, srcs [(14, .id 14), (0, .id 0), (1, .id 1)], ?_⟩
      simp [SLeK]
      refine ⟨DLe_int (wrap_succ (by omega)), fun j hj => ?_⟩
      rw [foldStep_next hlt, hx]
      by_cases hji : j = i
      · subst hji
        rw [if_pos rfl, foldStep_at hlt]
        simp [foldX]
      · rw [if_neg hji]
        simp
    | some v =>
      have hv0 : 0 ≤ v := (KnOk.foldL _ hk (.none b) v (List.mem_of_getElem? hat)).1
      simp
      refine ⟨hlt, i + 1, by omega, by omega, srcs [(14, .id 14), (0, .id 0), (1, .id 1)], ?_⟩
      simp [SLeK]
      refine ⟨DLe_int (wrap_succ (by omega)), fun j hj => ?_⟩
      rw [foldStep_next hlt, hx]
      by_cases hji : j = i
      · subst hji
        rw [if_pos rfl, if_pos rfl]
        simp [foldX]
        exact ⟨DLe_lit (by rw [Int.max_eq_left hv0]), intsD_nil⟩
      · rw [if_neg hji, if_neg hji]
        simp
  · generalize hL : foldVals b = l at *
    refine ⟨fun h1 h2 h3 => ⟨⟨⟨h1, h2⟩, h3⟩, h2, h3⟩, fun h => ?_, fun h1 h2 h3 h4 => ⟨⟨h2, h3⟩, fun h5 => ?_, fun h5 => ?_⟩⟩
    · have e : foldB b = ⟨b.params, foldIns b, b.kind, b.ta, b.to, b.args, b.els, b.elses⟩ := by
        unfold foldB
        rw [hL]
        split
        · rename_i h1
          have : atO l b.ta = none := by
            unfold atO
            split
            · rename_i h2
              rcases h with ((h | h) | h) | h
              · exact absurd h1 h
              · omega
              · rw [List.getElem?_eq_none (by omega)]; rfl
              · exact h
            · rfl
          rw [this]
        · rfl
      rw [e]
      exact hend _ _ _ _ _ _ hge
    · obtain ⟨v, hv⟩ := Option.isSome_iff_exists.1 h4
      rw [hv] at h5
      simp only [Option.getD_some] at h5
      have e : foldB b = ⟨b.params, foldIns b, 1, 0, b.els, b.elses, 0, []⟩ := by
        unfold foldB
        have : atO l b.ta = some v := by unfold atO; rw [if_pos h2]; exact hv
        rw [hL, if_pos h1, this]
        exact if_pos h5
      rw [e]
      exact (DLe_snoc (cs := [_, _, _, _, _, _, _]) intsD_nil).trans (hend _ _ _ _ _ _ hge)
    · obtain ⟨v, hv⟩ := Option.isSome_iff_exists.1 h4
      rw [hv] at h5
      simp only [Option.getD_some] at h5
      have e : foldB b = ⟨b.params, foldIns b, 1, 0, b.to, b.args, 0, []⟩ := by
        unfold foldB
        have : atO l b.ta = some v := by unfold atO; rw [if_pos h2]; exact hv
        rw [hL, if_pos h1, this]
        exact if_neg h5
      rw [e]
      exact (DLe_snoc (cs := [_, _, _, _, _, _, _]) intsD_nil).trans (hend _ _ _ _ _ _ hge)
set_option maxRecDepth 10000 in
theorem ffunc_pure (f : Func) (hb : f.blocks.length ≤ 1000) (hp : ∀ b ∈ f.blocks, (0 ≤ b.params ∧ b.params ≤ 1000) ∧ b.ins.length ≤ 1000 ∧ ∀ x ∈ b.ins, x.k < 18446744073709551616) : APure Try.prog 41 [.agg (funcC f)] (.agg (funcC (foldF f))) := by
 refine apureG _ _ Try.func41 (by kernel_rfl) t_fold_Func u_fold_Func rfl rfl (fun _ => ?_)
 simp [c_fold_Func, r_fold_Func]
 refine call_plain (ds := [blocksD f.blocks, .fn 52 []]) _ (by simp) (by simp) (fun _ => by simp) (fun _ => eachB_pure f.blocks (by omega) _ foldB fun b hbm => fblock_pure b (hp b hbm).1 (hp b hbm).2.1 (hp b hbm).2.2) ?_
 simp
 exact DLe.refl _
set_option maxRecDepth 10000 in
theorem fmodule_pure (m : Module) (hok : ModOk m) (hk : KOk' m) : APure Try.prog 30 [.agg (moduleC m)] (.agg (moduleC (foldM m))) := by
 refine apureG _ _ Try.func30 (by kernel_rfl) t_fold_Module u_fold_Module rfl rfl (fun _ => ?_)
 simp [c_fold_Module, r_fold_Module]
 have hnf := hok.nf
 refine call_plain (ds := [funcsD m.funcs, .fn 41 []]) _ (by simp) (by simp) (fun _ => by simp) (fun _ => eachF_pure m.funcs (by omega) _ foldF fun f hf => ffunc_pure f ?_ ?_) ?_
 ·have := funcOk_len (hok.funcs f hf)
  omega
 ·intro b hb
  obtain ⟨h0, h6, h32, _⟩ := blockOk_iff.1 (funcOk_blocks (hok.funcs f hf) b hb)
  exact ⟨⟨h0, by omega⟩, by omega, hk f hf b hb⟩
 simp
 exact DLe.refl _

def c_trim_does : ACode :=
 (.seq (.reg [Ro 1 (.box true (Sv 0)), Ro 2 (.mv (.c (.bool false)))])
 (.seq (.reg [Ro 3 (Fd 1 0), Ro 4 (Ld 3), Ro 5 (.bin .eql (Sv 4) (Ci 13)), Ro 6 (Mv 5), Rg 7 6 false (Fd 1 0), Rg 8 6 false (Ld 7), Rg 9 6 false (.bin .eql (Sv 8) (Ci 14)), Ro 10 (.pick (Sv 6) (.c (.bool true)) (Sv 9)), Ro 11 (Mv 10), Rg 12 11 false (Fd 1 0), Rg 13 11 false (Ld 12), Rg 14 11 false (.bin .eql (Sv 13) (Ci 15)), Ro 15 (.pick (Sv 11) (.c (.bool true)) (Sv 14)), Ro 16 (Mv 15), Rg 17 16 false (Fd 1 0), Rg 18 16 false (Ld 17), Rg 19 16 false (.bin .eql (Sv 18) (Ci 16)), Ro 20 (.pick (Sv 16) (.c (.bool true)) (Sv 19)), Ro 2 (Mv 20)])
 .ret))
def r_trim_does : List ARes := [(.tmp (sl 2))]
theorem t_trim_does : (Try.f71).body.bind (trCode Try.prog 8 (Try.f71).ntmps [] [] (drOk 8)) = some c_trim_does := by kernel_rfl
theorem u_trim_does : trRess Try.prog 8 (Try.f71).results.toList = some r_trim_does := by kernel_rfl
def c_trim_ends : ACode :=
 (.seq (.reg [Ro 1 (.box true (Sv 0)), Ro 2 (.mv (.c (.slice none 0 0)))])
 (.seq (.reg [Rl 4 (Fd 1 3) 0, Rl 5 (Ld 4) 1, Rl 6 (.callo 3 1 (.f 84) [Sv 5]) 2, Rl 7 (Fd 1 5) 3, Rl 8 (Ld 7) 4, Rl 9 (.app 3 1 8 (Sv 6) (Sv 8)) 5, Rl 3 (Mv 9) 6])
 (.seq (.seq (.reg [Ro 10 (Fd 1 0), Ro 11 (Ld 10), Ro 12 (.bin .neq (Sv 11) (Ci 1))])
 (.cond (Sv 12)
 (.reg [Ro 13 (Mv 3), Ro 14 (Fd 1 1), Ro 15 (Ld 14), Ro 16 (.mksl 1 1 [(.int .i64 0)] [(0, 1, (Sv 15))]), Ro 17 (.app 3 1 8 (Sv 13) (Sv 16)), Ro 3 (Mv 17)])
 .skip))
 (.seq (.reg [Ro 18 (Mv 3), Ro 2 (Mv 18)])
 .ret))))
def r_trim_ends : List ARes := [(.tmp (sl 2))]
theorem t_trim_ends : (Try.f89).body.bind (trCode Try.prog 8 (Try.f89).ntmps [2, 3, 6, 9, 13, 17, 18] [(84, 3, 1)] (drOk 8)) = some c_trim_ends := by kernel_rfl
theorem u_trim_ends : trRess Try.prog 8 (Try.f89).results.toList = some r_trim_ends := by kernel_rfl
def c_trim_Used : ACode :=
 (.seq (.reg [Ro 1 (.box true (Sv 0)), Ro 2 (.mv (.c (.slice none 0 0)))])
 (.seq (.reg [Ro 7 (Lk 1 8), Ro 8 (.call true (.f 65) [Sv 7]), Ro 9 (.vop 3 4 1 1 (Sv 8) (.c (.agg #[(.bool false)]))), Ro 3 (.new [(.slice none 0 0)]), Rn (.st (Sv 3) (Sv 9) 1)])
 (.seq (.reg [Ro 10 (.mkfn 88 [Sv 3]), Ro 4 (Mv 10)])
 (.seq (.reg [Ro 11 (Mv 4), Ro 12 (Fd 1 2), Ro 13 (Lk 12 6), Ro 14 (.call true (.f 89) [Sv 13]), Ro 15 (.calle (Sv 11) [Sv 14])])
 (.seq .skip
 (.seq (.seq (.reg [Ro 16 (Fd 1 1), Ro 17 (Ld 16), Ro 18 (.len false (Sv 17)), Ro 19 (.bin .sub (Sv 18) (Ci 1)), Ro 5 (Mv 19)])
 (.block 0
 (.loop (.seq (.seq (.reg [Ro 20 (Mv 5), Ro 21 (.bin .geq (Sv 20) (Ci 0))])
 (.cond (Sv 21)
 .skip
 (.exit 0)))
 (.seq (.block 1
 (.seq (.seq (.reg [Ro 24 (Fd 1 1), Ro 25 (Ld 24), Ro 26 (Mv 5), Ro 27 (.idx true (Sv 25) (Sv 26) 6), Ro 28 (Lk 27 6), Ro 6 (.new [(.int .i64 0), (.int .i64 0), (.int .i64 0), (.int .u64 0), (.string ⟨#[]⟩), (.slice none 0 0)]), Rn (.ini 1 (Sv 6) (Sv 28) 6)])
 (.frz (sl 6)))
 (.seq (.seq (.reg [Ro 29 (Lk 6 6), Ro 30 (.call true (.f 71) [Sv 29]), Ro 31 (.not (Sv 30)), Ro 32 (Mv 31), Rg 33 32 true (.ld false (Sv 3) none), Rg 34 32 true (Fd 1 0), Rg 35 32 true (Ld 34), Rg 36 32 true (Mv 5), Rg 37 32 true (.bin .add (Sv 35) (Sv 36)), Rg 38 32 true (.idx false (Sv 33) (Sv 37) 1), Rg 39 32 true (.ld false (Sv 38) none), Rg 40 32 true (.not (Sv 39)), Ro 41 (.pick (Sv 32) (Sv 40) (.c (.bool false)))])
 (.cond (Sv 41)
 (.exit 1)
 .skip))
 (.reg [Ro 42 (Mv 4), Ro 43 (Lk 6 6), Ro 44 (.call true (.f 64) [Sv 43]), Ro 45 (.calle (Sv 42) [Sv 44])]))))
 (.reg [Ro 22 (Mv 5), Ro 23 (.bin .sub (Sv 22) (Ci 1)), Ro 5 (Mv 23)]))))))
 (.seq (.reg [Ro 46 (.ld false (Sv 3) none), Ro 2 (Mv 46)])
 .ret)))))))
def r_trim_Used : List ARes := [(.tmp (sl 2))]
theorem t_trim_Used : (Try.f70).body.bind (trCode Try.prog 8 (Try.f70).ntmps [2, 3, 4, 10, 11, 33, 38, 39, 42, 46] [(6000009, 0, 1), (8000003, 0, 1), (1000011, 0, 0), (1000042, 0, 0)] (drOk 8)) = some c_trim_Used := by kernel_rfl
theorem u_trim_Used : trRess Try.prog 8 (Try.f70).results.toList = some r_trim_Used := by kernel_rfl
def c_trim_Used_1 : ACode :=
 (.seq (.reg [Ro 5 (Mv 0), Ro 6 (.len false (Sv 5)), Ro 7 (.mv (Ci 0))])
 (.block 0
 (.loop (.seq (.reg [Ro 8 (.bin .lss (Sv 7) (Sv 6))])
 (.seq (.cond (Sv 8)
 .skip
 (.exit 0))
 (.seq (.block 1
 (.seq (.reg [Ro 9 (.idx true (Sv 5) (Sv 7) 1), Ro 10 (Ld 9), Ro 4 (Mv 10)])
 (.reg [Ro 11 (.ld false (Sv 1) none), Ro 12 (Mv 4), Ro 13 (.idx false (Sv 11) (Sv 12) 1), Rn (.st (Sv 13) (.c (.bool true)) 1)])))
 (.reg [Ro 14 (.bin .add (Sv 7) (Ci 1)), Ro 7 (Mv 14)])))))))
def r_trim_Used_1 : List ARes := []
theorem t_trim_Used_1 : (Try.f88).body.bind (trCode Try.prog 8 (Try.f88).ntmps [1, 11, 13] [] (drOk 8)) = some c_trim_Used_1 := by kernel_rfl
theorem u_trim_Used_1 : trRess Try.prog 8 (Try.f88).results.toList = some r_trim_Used_1 := by kernel_rfl
def c_trim_anew_int_ : ACode :=
 (.seq (.reg [Ro 4 (.mv (.c (.slice none 0 0)))])
 (.seq (.reg [Ro 5 (.mv (.c (.slice none 0 0)))])
 (.seq (.seq (.reg [Ro 8 (Mv 0), Ro 9 (.len false (Sv 8)), Ro 10 (.mv (Ci 0))])
 (.block 0
 (.loop (.seq (.reg [Ro 11 (.bin .lss (Sv 10) (Sv 9))])
 (.seq (.cond (Sv 11)
 .skip
 (.exit 0))
 (.seq (.block 1
 (.seq (.reg [Ro 12 (.idx true (Sv 8) (Sv 10) 1), Ro 13 (Ld 12), Ro 7 (Mv 13)])
 (.reg [Ro 14 (Mv 5), Ro 15 (Mv 1), Ro 16 (Mv 7), Ro 17 (.mget (Sv 15) (Sv 16) false (.int .i64) (.int .i64 0)), Ro 18 (.mksl 1 1 [(.int .i64 0)] [(0, 1, (Sv 17))]), Ro 19 (.app 3 1 8 (Sv 14) (Sv 18)), Ro 5 (Mv 19)])))
 (.reg [Ro 20 (.bin .add (Sv 10) (Ci 1)), Ro 10 (Mv 20)])))))))
 (.seq (.reg [Ro 21 (Mv 5), Ro 4 (Mv 21)])
 .ret))))
def r_trim_anew_int_ : List ARes := [(.tmp (sl 4))]
theorem t_trim_anew_int_ : (Try.f72).body.bind (trCode Try.prog 8 (Try.f72).ntmps [4, 5, 14, 19, 21] [] (drOk 8)) = some c_trim_anew_int_ := by kernel_rfl
theorem u_trim_anew_int_ : trRess Try.prog 8 (Try.f72).results.toList = some r_trim_anew_int_ := by kernel_rfl
def c_trim_Block : ACode :=
 (.seq (.reg [Ro 1 (.box true (Sv 0)), Ro 2 (.new [(.int .i64 0), (.slice none 0 0), (.int .i64 0), (.int .i64 0), (.int .i64 0), (.slice none 0 0), (.int .i64 0), (.slice none 0 0)])])
 (.seq (.reg [Ro 10 (Lk 1 8), Ro 11 (.call true (.f 70) [Sv 10]), Ro 3 (Mv 11)])
 (.seq (.reg [Ro 12 (.mmk (.int .i64)), Ro 4 (Mv 12)])
 (.seq (.seq (.reg [Ro 13 (Fd 1 0), Ro 14 (Ld 13), Ro 15 (.mv (Ci 0))])
 (.block 0
 (.loop (.seq (.reg [Ro 16 (.bin .lss (Sv 15) (Sv 14))])
 (.seq (.cond (Sv 16)
 .skip
 (.exit 0))
 (.seq (.block 1
 (.seq (.reg [Ro 17 (Mv 15), Ro 5 (Mv 17)])
 (.reg [Ro 18 (Mv 4), Ro 19 (Mv 5), Ro 20 (Mv 5), Rn (.mset false (Sv 18) (Sv 19) (Sv 20) (.int .i64))])))
 (.reg [Ro 21 (.bin .add (Sv 15) (Ci 1)), Ro 15 (Mv 21)])))))))
 (.seq (.reg [Ro 6 (.mv (.c (.slice none 0 0)))])
 (.seq (.seq (.reg [Ro 22 (Fd 1 1), Ro 23 (Ld 22), Ro 24 (.len false (Sv 23)), Ro 25 (.mv (Ci 0))])
 (.block 2
 (.loop (.seq (.reg [Ro 26 (.bin .lss (Sv 25) (Sv 24))])
 (.seq (.cond (Sv 26)
 .skip
 (.exit 2))
 (.seq (.block 3
 (.seq (.reg [Ro 27 (Mv 25), Ro 28 (.idx true (Sv 23) (Sv 25) 6), Ro 29 (Lk 28 6), Ro 8 (.new [(.int .i64 0), (.int .i64 0), (.int .i64 0), (.int .u64 0), (.string ⟨#[]⟩), (.slice none 0 0)]), Ro 7 (Mv 27), Rn (.ini 2 (Sv 8) (Sv 29) 6)])
 (.seq (.seq (.reg [Ro 30 (.ld false (Sv 8) (some 6)), Ro 31 (.call false (.f 71) [Sv 30]), Ro 32 (.not (Sv 31)), Ro 33 (Mv 32), Rg 34 33 true (Mv 3), Rg 35 33 true (Fd 1 0), Rg 36 33 true (Ld 35), Rg 37 33 true (Mv 7), Rg 38 33 true (.bin .add (Sv 36) (Sv 37)), Rg 39 33 true (.idx true (Sv 34) (Sv 38) 1), Rg 40 33 true (Ld 39), Rg 41 33 true (.not (Sv 40)), Ro 42 (.pick (Sv 33) (Sv 41) (.c (.bool false)))])
 (.cond (Sv 42)
 (.exit 3)
 .skip))
 (.seq (.reg [Ro 43 (Mv 4), Ro 44 (Fd 1 0), Ro 45 (Ld 44), Ro 46 (Mv 7), Ro 47 (.bin .add (Sv 45) (Sv 46)), Ro 48 (Fd 1 0), Ro 49 (Ld 48), Ro 50 (Mv 6), Ro 51 (.len false (Sv 50)), Ro 52 (.bin .add (Sv 49) (Sv 51)), Rn (.mset false (Sv 43) (Sv 47) (Sv 52) (.int .i64))])
 (.seq (.seq (.reg [Ro 53 (.ld false (Sv 8) (some 6)), Ro 54 (.call false (.f 64) [Sv 53]), Ro 55 (.len false (Sv 54)), Ro 56 (.bin .gtr (Sv 55) (Ci 0))])
 (.cond (Sv 56)
 (.seq (.reg [Rl 57 (Mv 4) 0, Rl 58 (Fd 8 1) 1, Rl 59 (.ld false (Sv 58) none) 2, Rl 60 (.mget (Sv 57) (Sv 59) false (.int .i64) (.int .i64 0)) 3, Rl 61 (Mv 4) 4, Rl 62 (Fd 8 2) 5, Rl 63 (.ld false (Sv 62) none) 6, Rl 64 (.mget (Sv 61) (Sv 63) false (.int .i64) (.int .i64 0)) 7, Rl 65 (Fd 8 1) 8, ⟨none, none, (.st (Sv 65) (Sv 60) 1), (some (9, []))⟩, Rl 66 (Fd 8 2) 10, ⟨none, none, (.st (Sv 66) (Sv 64) 1), (some (11, []))⟩])
 (.reg [Ro 67 (Fd 8 5), Ro 68 (.ld false (Sv 67) none), Ro 69 (Mv 4), Ro 70 (.calle (.f 72) [Sv 68, Sv 69]), Ro 71 (Fd 8 5), Rn (.st (Sv 71) (Sv 70) 1)]))
 .skip))
 (.seq (.seq (.reg [Ro 72 (Fd 8 0), Ro 73 (.ld false (Sv 72) none), Ro 74 (.bin .eql (Sv 73) (Ci 14)), Ro 75 (Mv 74), Rg 76 75 false (Fd 8 0), Rg 77 75 false (.ld false (Sv 76) none), Rg 78 75 false (.bin .eql (Sv 77) (Ci 13)), Ro 79 (.pick (Sv 75) (.c (.bool true)) (Sv 78)), Ro 80 (Mv 79), Rg 81 80 false (Fd 8 0), Rg 82 80 false (.ld false (Sv 81) none), Rg 83 80 false (.bin .eql (Sv 82) (Ci 16)), Ro 84 (.pick (Sv 80) (.c (.bool true)) (Sv 83))])
 (.cond (Sv 84)
 (.reg [Ro 85 (Fd 8 2), Rn (.st (Sv 85) (Ci 0) 1)])
 .skip))
 (.seq (.seq (.reg [Ro 86 (Fd 8 0), Ro 87 (.ld false (Sv 86) none), Ro 88 (.bin .eql (Sv 87) (Ci 14))])
 (.cond (Sv 88)
 (.reg [Ro 89 (Fd 8 1), Rn (.st (Sv 89) (Ci 0) 1)])
 .skip))
 (.reg [Ro 90 (Mv 6), Ro 91 (.ld false (Sv 8) (some 6)), Ro 92 (.mksl 6 1 [(.int .i64 0), (.int .i64 0), (.int .i64 0), (.int .u64 0), (.string ⟨#[]⟩), (.slice none 0 0)] [(0, 6, (Sv 91))]), Ro 93 (.app 39 6 72 (Sv 90) (Sv 92)), Ro 6 (Mv 93)]))))))))
 (.reg [Ro 94 (.bin .add (Sv 25) (Ci 1)), Ro 25 (Mv 94)])))))))
 (.seq (.reg [Ro 95 (Fd 1 2), Ro 96 (Lk 95 6), Ro 9 (.new [(.int .i64 0), (.int .i64 0), (.int .i64 0), (.slice none 0 0), (.int .i64 0), (.slice none 0 0)]), Rn (.ini 1 (Sv 9) (Sv 96) 6)])
 (.seq (.reg [Rl 97 (Fd 9 3) 0, Rl 98 (.ldk 43 (Sv 97) none) 1, Rl 99 (Mv 4) 2, Rl 100 (.callk 43 (.f 72) [Sv 98, Sv 99]) 3, Rl 101 (Fd 9 5) 4, Rl 102 (.ldk 43 (Sv 101) none) 5, Rl 103 (Mv 4) 6, Rl 104 (.callk 43 (.f 72) [Sv 102, Sv 103]) 7, Rl 105 (Fd 9 3) 8, ⟨none, none, (.st (Sv 105) (Sv 100) 1), (some (9, []))⟩, Rl 106 (Fd 9 5) 10, ⟨none, none, (.st (Sv 106) (Sv 104) 1), (some (11, []))⟩])
 (.seq (.seq (.reg [Ro 107 (Fd 9 0), Ro 108 (.ld false (Sv 107) none), Ro 109 (.bin .neq (Sv 108) (Ci 1))])
 (.cond (Sv 109)
 (.reg [Ro 110 (Mv 4), Ro 111 (Fd 9 1), Ro 112 (.ld false (Sv 111) none), Ro 113 (.mget (Sv 110) (Sv 112) false (.int .i64) (.int .i64 0)), Ro 114 (Fd 9 1), Rn (.st (Sv 114) (Sv 113) 1)])
 .skip))
 (.seq (.reg [Ro 115 (Fd 1 0), Ro 116 (Ld 115), Ro 117 (Mv 6), Ro 118 (.ld false (Sv 9) (some 6)), Ro 119 (.bld [(.int .i64 0), (.slice none 0 0), (.int .i64 0), (.int .i64 0), (.int .i64 0), (.slice none 0 0), (.int .i64 0), (.slice none 0 0)] [(0, 1, (Sv 116)), (1, 1, (Sv 117)), (2, 6, (Sv 118))]), Rn (.st (Sv 2) (Sv 119) 8)])
 .ret))))))))))
def r_trim_Block : List ARes := [(.cell (sl 2) (some 8))]
theorem t_trim_Block : (Try.f54).body.bind (trCode Try.prog 8 (Try.f54).ntmps [2, 6, 8, 9, 30, 50, 53, 58, 59, 62, 63, 65, 66, 67, 68, 70, 71, 72, 73, 76, 77, 81, 82, 85, 86, 87, 89, 90, 91, 92, 93, 97, 98, 100, 101, 102, 104, 105, 106, 107, 108, 111, 112, 114, 117, 118, 119] [(72, 0, 0), (7000098, 0, 43), (7000100, 0, 43), (7000102, 0, 43), (7000104, 0, 43)] (drOk 8)) = some c_trim_Block := by kernel_rfl
theorem u_trim_Block : trRess Try.prog 8 (Try.f54).results.toList = some r_trim_Block := by kernel_rfl
def c_trim_Reached : ACode :=
 (.seq (.reg [Ro 1 (.box true (Sv 0)), Ro 2 (.mv (.c (.slice none 0 0)))])
 (.seq (.reg [Ro 5 (Fd 1 3), Ro 6 (Ld 5), Ro 7 (.len false (Sv 6)), Ro 8 (.vop 3 4 1 1 (Sv 7) (.c (.agg #[(.bool false)]))), Ro 3 (.new [(.slice none 0 0)]), Rn (.st (Sv 3) (Sv 8) 1)])
 (.seq (.reg [Ro 4 (.new [.nilFunc])])
 (.seq (.reg [Ro 9 (.mkfn 69 [Sv 3, Sv 1, Sv 4]), Rn (.st (Sv 4) (Sv 9) 1)])
 (.seq (.seq (.reg [Ro 10 (.ld false (Sv 3) none), Ro 11 (.len false (Sv 10)), Ro 12 (.bin .gtr (Sv 11) (Ci 0))])
 (.cond (Sv 12)
 (.reg [Ro 13 (.ld false (Sv 4) none), Ro 14 (.calle (Sv 13) [Ci 0])])
 .skip))
 (.seq (.reg [Ro 15 (.ld false (Sv 3) none), Ro 2 (Mv 15)])
 .ret))))))
def r_trim_Reached : List ARes := [(.tmp (sl 2))]
theorem t_trim_Reached : (Try.f53).body.bind (trCode Try.prog 8 (Try.f53).ntmps [2, 3, 4, 9, 10, 13, 15] [(6000008, 0, 1), (8000003, 0, 1), (1000013, 0, 0)] (drOk 8)) = some c_trim_Reached := by kernel_rfl
theorem u_trim_Reached : trRess Try.prog 8 (Try.f53).results.toList = some r_trim_Reached := by kernel_rfl
def c_trim_Reached_1 : ACode :=
 (.seq (.seq (.reg [Ro 6 (.ld false (Sv 1) none), Ro 7 (Mv 0), Ro 8 (.idx false (Sv 6) (Sv 7) 1), Ro 9 (.ld false (Sv 8) none)])
 (.cond (Sv 9)
 .ret
 .skip))
 (.seq (.reg [Ro 10 (.ld false (Sv 1) none), Ro 11 (Mv 0), Ro 12 (.idx false (Sv 10) (Sv 11) 1), Rn (.st (Sv 12) (.c (.bool true)) 1)])
 (.seq (.seq (.reg [Ro 13 (Fd 2 3), Ro 14 (Ld 13), Ro 15 (Mv 0), Ro 16 (.idx true (Sv 14) (Sv 15) 8), Ro 17 (Fd 16 2), Ro 18 (Lk 17 6), Ro 5 (.new [(.int .i64 0), (.int .i64 0), (.int .i64 0), (.slice none 0 0), (.int .i64 0), (.slice none 0 0)]), Rn (.ini 1 (Sv 5) (Sv 18) 6)])
 (.frz (sl 5)))
 (.seq (.seq (.reg [Ro 19 (Fd 5 0), Ro 20 (Ld 19), Ro 21 (.bin .neq (Sv 20) (Ci 3))])
 (.cond (Sv 21)
 (.reg [Ro 22 (.ld false (Sv 3) none), Ro 23 (Fd 5 2), Ro 24 (Ld 23), Ro 25 (.calle (Sv 22) [Sv 24])])
 .skip))
 (.seq (.reg [Ro 26 (Fd 5 0), Ro 27 (Ld 26), Ro 28 (.bin .eql (Sv 27) (Ci 2))])
 (.cond (Sv 28)
 (.reg [Ro 29 (.ld false (Sv 3) none), Ro 30 (Fd 5 4), Ro 31 (Ld 30), Ro 32 (.calle (Sv 29) [Sv 31])])
 .skip))))))
def r_trim_Reached_1 : List ARes := []
theorem t_trim_Reached_1 : (Try.f69).body.bind (trCode Try.prog 8 (Try.f69).ntmps [1, 3, 6, 8, 9, 10, 12, 22, 29] [(1000022, 0, 0), (1000029, 0, 0)] (drOk 8)) = some c_trim_Reached_1 := by kernel_rfl
theorem u_trim_Reached_1 : trRess Try.prog 8 (Try.f69).results.toList = some r_trim_Reached_1 := by kernel_rfl
def c_trim_Func : ACode :=
 (.seq (.reg [Ro 1 (.box false (Sv 0)), Ro 2 (.new [(.string ⟨#[]⟩), (.int .i64 0), (.int .i64 0), (.slice none 0 0)])])
 (.seq (.reg [Ro 11 (.ld false (Sv 1) (some 4)), Ro 12 (.call false (.f 53) [Sv 11]), Ro 3 (Mv 12)])
 (.seq (.reg [Ro 13 (.mmk (.int .i64)), Ro 4 (Mv 13)])
 (.seq (.reg [Ro 5 (.mv (Ci 0))])
 (.seq (.seq (.reg [Ro 14 (Mv 3), Ro 15 (.len false (Sv 14)), Ro 16 (.mv (Ci 0))])
 (.block 0
 (.loop (.seq (.reg [Ro 17 (.bin .lss (Sv 16) (Sv 15))])
 (.seq (.cond (Sv 17)
 .skip
 (.exit 0))
 (.seq (.block 1
 (.seq (.reg [Ro 18 (Mv 16), Ro 19 (.idx true (Sv 14) (Sv 16) 1), Ro 20 (Ld 19), Ro 6 (Mv 18), Ro 7 (Mv 20)])
 (.seq (.reg [Ro 21 (Mv 7)])
 (.cond (Sv 21)
 (.seq (.reg [Ro 22 (Mv 4), Ro 23 (Mv 6), Ro 24 (Mv 5), Rn (.mset false (Sv 22) (Sv 23) (Sv 24) (.int .i64))])
 (.reg [Ro 25 (Mv 5), Ro 26 (.bin .add (Sv 25) (Ci 1)), Ro 5 (Mv 26)]))
 .skip))))
 (.reg [Ro 27 (.bin .add (Sv 16) (Ci 1)), Ro 16 (Mv 27)])))))))
 (.seq (.reg [Ro 8 (.mv (.c (.slice none 0 0)))])
 (.seq (.seq (.reg [Ro 28 (Fd 1 3), Ro 29 (.ld false (Sv 28) none), Ro 30 (.len false (Sv 29)), Ro 31 (.mv (Ci 0))])
 (.block 2
 (.loop (.seq (.reg [Ro 32 (.bin .lss (Sv 31) (Sv 30))])
 (.seq (.cond (Sv 32)
 .skip
 (.exit 2))
 (.seq (.block 3
 (.seq (.reg [Ro 33 (Mv 31), Ro 34 (.idx false (Sv 29) (Sv 31) 8), Ro 35 (.ld false (Sv 34) (some 8)), Ro 10 (.new [(.int .i64 0), (.slice none 0 0), (.int .i64 0), (.int .i64 0), (.int .i64 0), (.slice none 0 0), (.int .i64 0), (.slice none 0 0)]), Ro 9 (Mv 33), Rn (.ini 2 (Sv 10) (Sv 35) 8)])
 (.seq (.seq (.reg [Ro 36 (Mv 3), Ro 37 (Mv 9), Ro 38 (.idx true (Sv 36) (Sv 37) 1), Ro 39 (Ld 38), Ro 40 (.not (Sv 39))])
 (.cond (Sv 40)
 (.exit 3)
 .skip))
 (.seq (.reg [Ro 41 (.ld false (Sv 10) (some 8)), Ro 42 (.call false (.f 54) [Sv 41]), Rn (.st (Sv 10) (Sv 42) 8)])
 (.seq (.seq (.reg [Ro 43 (Fd 10 2), Ro 44 (Fd 43 0), Ro 45 (.ld false (Sv 44) none), Ro 46 (.bin .neq (Sv 45) (Ci 3))])
 (.cond (Sv 46)
 (.reg [Ro 47 (Mv 4), Ro 48 (Fd 10 2), Ro 49 (Fd 48 2), Ro 50 (.ld false (Sv 49) none), Ro 51 (.mget (Sv 47) (Sv 50) false (.int .i64) (.int .i64 0)), Ro 52 (Fd 10 2), Ro 53 (Fd 52 2), Rn (.st (Sv 53) (Sv 51) 1)])
 .skip))
 (.seq (.seq (.reg [Ro 54 (Fd 10 2), Ro 55 (Fd 54 0), Ro 56 (.ld false (Sv 55) none), Ro 57 (.bin .eql (Sv 56) (Ci 2))])
 (.cond (Sv 57)
 (.reg [Ro 58 (Mv 4), Ro 59 (Fd 10 2), Ro 60 (Fd 59 4), Ro 61 (.ld false (Sv 60) none), Ro 62 (.mget (Sv 58) (Sv 61) false (.int .i64) (.int .i64 0)), Ro 63 (Fd 10 2), Ro 64 (Fd 63 4), Rn (.st (Sv 64) (Sv 62) 1)])
 .skip))
 (.reg [Ro 65 (Mv 8), Ro 66 (.ld false (Sv 10) (some 8)), Ro 67 (.mksl 8 1 [(.int .i64 0), (.slice none 0 0), (.int .i64 0), (.int .i64 0), (.int .i64 0), (.slice none 0 0), (.int .i64 0), (.slice none 0 0)] [(0, 8, (Sv 66))]), Ro 68 (.app 44 8 112 (Sv 65) (Sv 67)), Ro 8 (Mv 68)])))))))
 (.reg [Ro 69 (.bin .add (Sv 31) (Ci 1)), Ro 31 (Mv 69)])))))))
 (.seq (.reg [Ro 70 (Mv 8), Ro 71 (Fd 1 3), Rn (.st (Sv 71) (Sv 70) 1)])
 (.seq (.reg [Ro 72 (.ld false (Sv 1) (some 4)), Rn (.st (Sv 2) (Sv 72) 4)])
 .ret)))))))))
def r_trim_Func : List ARes := [(.cell (sl 2) (some 4))]
theorem t_trim_Func : (Try.f43).body.bind (trCode Try.prog 8 (Try.f43).ntmps [1, 2, 8, 10, 11, 28, 29, 34, 35, 41, 43, 44, 45, 48, 49, 50, 52, 53, 54, 55, 56, 59, 60, 61, 63, 64, 65, 66, 67, 68, 70, 71, 72] [] (drOk 8)) = some c_trim_Func := by kernel_rfl
theorem u_trim_Func : trRess Try.prog 8 (Try.f43).results.toList = some r_trim_Func := by kernel_rfl
def c_trim_Module : ACode :=
 (.seq (.reg [Ro 1 (.box false (Sv 0)), Ro 2 (.new [(.slice none 0 0), (.slice none 0 0)])])
 (.seq (.reg [Ro 5 (Fd 1 0), Ro 6 (.ld false (Sv 5) none), Ro 7 (.callv 47 4 (.f 42) [Sv 6]), Ro 8 (Fd 1 0), Rn (.st (Sv 8) (Sv 7) 1)])
 (.seq (.seq (.reg [Ro 9 (Fd 1 0), Ro 10 (.ld false (Sv 9) none), Ro 11 (.len false (Sv 10)), Ro 12 (.mv (Ci 0))])
 (.block 0
 (.loop (.seq (.reg [Ro 13 (.bin .lss (Sv 12) (Sv 11))])
 (.seq (.cond (Sv 13)
 .skip
 (.exit 0))
 (.seq (.block 1
 (.seq (.seq (.reg [Ro 14 (Mv 12), Ro 15 (.idx false (Sv 10) (Sv 12) 4), Ro 16 (.ld false (Sv 15) (some 4)), Ro 4 (.new [(.string ⟨#[]⟩), (.int .i64 0), (.int .i64 0), (.slice none 0 0)]), Ro 3 (Mv 14), Rn (.ini 2 (Sv 4) (Sv 16) 4)])
 (.frz (sl 4)))
 (.seq (.reg [Ro 17 (Lk 4 4), Ro 18 (.call true (.f 20) [Sv 17])])
 (.cond (Sv 18)
 (.reg [Rl 19 (Fd 1 0) 0, Rl 20 (.ld false (Sv 19) none) 1, Rl 21 (Mv 3) 2, Rl 22 (Lk 4 4) 3, Rl 23 (.call true (.f 43) [Sv 22]) 4, Rl 24 (.idx false (Sv 20) (Sv 21) 4) 5, ⟨none, none, (.st (Sv 24) (Sv 23) 4), (some (6, []))⟩])
 .skip))))
 (.reg [Ro 25 (.bin .add (Sv 12) (Ci 1)), Ro 12 (Mv 25)])))))))
 (.seq (.reg [Ro 26 (.ld false (Sv 1) (some 2)), Rn (.st (Sv 2) (Sv 26) 2)])
 .ret))))
def r_trim_Module : List ARes := [(.cell (sl 2) (some 2))]
theorem t_trim_Module : (Try.f31).body.bind (trCode Try.prog 8 (Try.f31).ntmps [1, 2, 5, 6, 7, 8, 9, 10, 15, 16, 19, 20, 24, 26] [(42, 47, 1004)] (drOk 8)) = some c_trim_Module := by kernel_rfl
theorem u_trim_Module : trRess Try.prog 8 (Try.f31).results.toList = some r_trim_Module := by kernel_rfl
theorem does_pure (x : Inst) : APure Try.prog 71 [.agg (instC x)] (.bool (doesB x.op)) := by
 refine apureG _ _ Try.func71 (by kernel_rfl) t_trim_does u_trim_does rfl rfl (fun _ => ?_)
 simp [c_trim_does, r_trim_does]
 exact DLe_bool (by rw [Bool.eq_iff_iff]; simp [doesB])
theorem AOwn.nilSplit {P : Program} {F : FuncId} {n len : Nat} {row : Nat → List DV} {as' : List DV} {te : TypeId} {m l : Nat} {r : Nat → List DV} (h0 : len = 0 → AOwn P F (.lit (.slice none 0 0) :: as') te m l r) (h1 : AOwn P F (.sn n len row :: as') te m l r) : AOwn P F (.sl n len row :: as') te m l r := by
 refine ⟨h1.1, fun X w vs hX hvs => ?_⟩
 obtain ⟨v, vs', he, hv, hr⟩ := hvs.uncons
 by_cases hn : v = .slice none 0 0
 ·have hl : len = 0 := by
   subst hn
   cases hv
   rfl
  subst hn
  exact (h0 hl).2 X w vs hX (by rw [he]; exact DReps.cons (.lit _) hr)
 ·exact h1.2 X w vs hX (by rw [he]; exact DReps.cons (.sn v _ _ _ hv hn) hr)
set_option maxRecDepth 10000 in
theorem cloneN_own (xs : List Int) (hl : xs.length ≤ 1000000) : AOwn Try.prog 84 [intsD xs] 3 1 xs.length (fun i => intC (xs[i]?.getD 0)) := by
 refine AOwn.nilSplit (fun h0 => ?_) ?_
 ·refine aownG _ _ Try.func84 (by kernel_rfl) t_slices_Clone___int_int_ u_slices_Clone___int_int_ rfl rfl (fun _ => ?_)
  simp [c_slices_Clone___int_int_, r_slices_Clone___int_int_]
  exact List.length_eq_zero_iff.1 h0
 ·refine aownG _ _ Try.func84 (by kernel_rfl) t_slices_Clone___int_int_ u_slices_Clone___int_int_ rfl rfl (fun _ => ?_)
  simp [c_slices_Clone___int_int_, r_slices_Clone___int_int_]
  omega
set_option maxRecDepth 10000 in
theorem ends_pure (b : Block) (h1 : b.args.length ≤ 1000) (h2 : b.elses.length ≤ 1000) : APure Try.prog 89 [.agg (termC b)] (intsD (endsL b)) := by
 refine apureG _ _ Try.func89 (by kernel_rfl) t_trim_ends u_trim_ends rfl rfl (fun _ => ?_)
 simp [c_trim_ends, r_trim_ends]
 refine callo_k (ds := [intsD b.args]) _ _ rfl (by simp) (by simp) (cloneN_own b.args (by omega)) ?_
 simp
 have hr : ∀ i, i < b.args.length + b.elses.length → appRow b.args.length (fun i => intC (b.args[i]?.getD 0)) (fun k => intC (b.elses[k]?.getD 0)) i = intC ((b.args ++ b.elses)[i]?.getD 0) := fun i hi => by
  unfold appRow
  split
  ·rename_i h; rw [List.getElem?_append_left h]
  ·rename_i h; rw [List.getElem?_append_right (by omega)]
 refine ⟨by omega, fun hk => ⟨by omega, ?_⟩, fun hk => ?_⟩
 ·have e : endsL b = (b.args ++ b.elses) ++ [b.ta] := by unfold endsL; rw [if_neg hk]
  rw [e]
  refine DLe_rows (by simp; omega) fun i hi => ?_
  have h := appRow_snocG intC 0 (acc := b.args ++ b.elses) (x := b.ta) (more := fun i => List.take 1 (List.drop i [DV.lit (Value.int IntKind.i64 b.ta)])) rfl (i := i) (by rw [List.length_append]; exact hi)
  rw [← h]
  unfold appRow
  rw [List.length_append]
  split
  ·rename_i h1
   exact hr i h1
  ·rfl
 ·have e : endsL b = b.args ++ b.elses := by unfold endsL; rw [if_pos hk, List.append_nil]
  rw [e]
  exact DLe_rows (by simp) fun i hi => hr i hi
def rowU (u : List Bool) : Nat → List AV := fun j => (boolC (u[j]?.getD false)).map .d
def LU (u : List Bool) : List (Nat × AObj) := [(1000000, .box [.own 1000001 u.length]), (1000001, .vec 4 1 u.length (rowU u))]
theorem hof_LU (u : List Bool) : hof (LU u) = hadd 1000000 (.box [.own 1000001 u.length]) (hadd 1000001 (.vec 4 1 u.length (rowU u)) hnil) := rfl
theorem LU_end {u u' : List Bool} {row : Nat → List AV} (hl : u'.length = u.length) (hr : ∀ j, j < u.length → row j = rowU u' j) : EffEnd (LU u) (LU u') (hadd 1000000 (.box [.own 1000001 u.length]) (hadd 1000001 (.vec 4 1 u.length row) hnil)) := by
 refine ⟨.none, ?_, ?_⟩
 ·simp [LU, gE, hl]
  intro j hj
  rw [hr j hj]
  simp [rowU]
 ·simp [LU, gE]
theorem rowU_set {u : List Bool} {v : Nat} (hv : v < u.length) (b : Bool) (j : Nat) : (if j = v then [.d (.bool b)] else rowU u j) = rowU (u.set v b) j := by
 unfold rowU
 split
 ·rename_i h
  subst h
  simp [hv]
 ·rename_i h
  rw [List.getElem?_set_ne (by omega)]
@[simp] theorem rowU_tail (u : List Bool) (j : Nat) : (rowU u j).tail = [] := rfl
@[simp] theorem rowU_length (u : List Bool) (j : Nat) : (rowU u j).length = 1 := rfl
@[simp] theorem rowU_0 (u : List Bool) (j : Nat) : (rowU u j)[0]? = some (.d (.bool (u[j]?.getD false))) := rfl
@[simp] theorem rowU_dv (u : List Bool) (j : Nat) : (rowU u j).map AV.dv = boolC (u[j]?.getD false) := rfl
@[simp] theorem ren_rowU (τ : Nat → Nat) (u : List Bool) (j : Nat) : AV.ren.renL τ (rowU u j) = rowU u j := by simp [rowU]
theorem rowU_nil {n j : Nat} : rowU (List.replicate n false) j = [.d (.bool false)] := by
 unfold rowU
 rw [List.getElem?_replicate]
 split <;> rfl
theorem markL_take {u : List Bool} {l : List Int} {k : Nat} (hk : k < l.length) : markL u (l.take (k + 1)) = (markL u (l.take k)).set l[k].toNat true := by
 unfold markL
 rw [List.take_succ_eq_append_getElem hk, List.foldl_append]
 rfl
set_option maxRecDepth 10000 in
theorem mark_eff (u : List Bool) (l : List Int) (hl : l.length ≤ 1000000) (hv : ∀ v ∈ l, 0 ≤ v ∧ v.toNat < u.length) : AEff Try.prog 88 [.d (intsD l), .ptr 1000000 0] (LU u) (.tup []) (LU (markL u l)) := by
 refine aeffG _ _ Try.func88 (by kernel_rfl) t_trim_Used_1 u_trim_Used_1 rfl rfl (by simp [LU]) (by simp [LU, idsOk]) (fun _ => ?_)
 simp [c_trim_Used_1, r_trim_Used_1, hof_LU]
 refine loop_s (κ := Nat) (fun k => k ≤ l.length) (fun k => l.length - k) (fun k => [(sl 7, .int k)]) (fun k => LU (markL u (l.take k))) 0 0 (srcs []) (by simp) (by simp [LU, rowU, markL]) ?_
 rintro k hk
 simp [hof_LU]
 refine ⟨fun hlt => ⟨hlt, ?_⟩, fun hge => ?_⟩
 ·rw [getD_some hlt]
  have hin := hv _ (List.getElem_mem hlt)
  refine ⟨⟨hin.1, by omega⟩, hin.2, k + 1, by omega, by omega, srcs [], ?_⟩
  simp [SLeK, LU, markL_take hlt]
  refine ⟨DLe_int (wrap_succ (by omega)), fun j hj => ?_⟩
  have e := rowU_set (u := markL u (l.take k)) (v := l[k].toNat) (by rw [markL_length]; exact hin.2) true j
  rw [e]
  simp [rowU]
 ·rw [List.take_of_length_le hge] at *
  exact LU_end (markL_length _ _) fun _ _ => rfl
def tauU (c : Nat) (a b : Nat) : Nat → Nat := fun i => if i = 1000000 then a else if i = 1000001 then b else c
set_option maxRecDepth 10000 in
theorem used_pure (f : Func) (b : Block) (hb : blockOk f b = true) (ha : b.args.length ≤ 1000) (he : b.elses.length ≤ 1000) (hi : ∀ x ∈ b.ins, x.args.length ≤ 1000) : APure Try.prog 70 [.agg (blockC b)] (boolsD (usedL b)) := by
  obtain ⟨h0, h6, h32, _⟩ := blockOk_iff.1 hb
  have hfit := blkFit hb
  have hw : IntKind.i64.wrap (b.params + b.ins.length) = b.params + b.ins.length := wrap_in (by omega)
  refine apureG _ _ Try.func70 (by kernel_rfl) t_trim_Used u_trim_Used rfl rfl (fun _ => ?_)
  simp [c_trim_Used, r_trim_Used]
  refine call_plain (ds := [.agg (blockC b)]) _ (by simp) (by simp) (fun _ => by simp; rfl) (fun _ => values_pure b) ?_
  have hN : (b.params + (b.ins.length : Int)).toNat = b.params.toNat + b.ins.length := by omega
  simp [hw, hN]
  refine ⟨⟨by omega, by omega, by omega⟩, ?_⟩
  refine call_plain (ds := [.agg (termC b)]) _ (by simp) (by simp) (fun _ => by simp; rfl) (fun _ => ends_pure b ha he) ?_
  simp
  have hel : (endsL b).length ≤ 3000 := by
    unfold endsL
    split <;> simp <;> omega
  obtain ⟨n, hn⟩ : ∃ n, b.params.toNat + b.ins.length = n := ⟨_, rfl⟩
  simp only [hn]
  refine calle_k (mark_eff (List.replicate n false) (endsL b) (by omega) (fun v hv => ?_)) (tauU _ 5 4) rfl [.d (intsD (endsL b)), .ptr 5 0] (by simp) (by simp) (by simp) (by simp [gOf, LU, tauU]) ?_ (by simp [gOf, LU, tauU]) (by simp [LU, idsOk]) ?_
  · have := hfit.ends v hv
    simp
    omega
  · simp [gOf, LU, tauU, rowU_nil]
  simp [LU, tauU]
  have hu0 : usedK b b.ins.length (markL (List.replicate n false) (endsL b)) = usedL b := by unfold usedL; rw [hn]
  refine loop_s (κ := Nat × List Bool) (fun p => p.1 ≤ b.ins.length ∧ p.2.length = n ∧ usedK b p.1 p.2 = usedL b) (fun p => p.1) (fun p => [(sl 5, .int ((p.1 : Int) - 1))]) (fun p => [(5, .box [.own 4 n]), (4, .vec 4 1 n (rowU p.2))]) 19 (b.ins.length, markL (List.replicate n false) (endsL b)) (srcs [(5, .id 5), (4, .id 4)]) ⟨by simp, by simp, hu0⟩ ?_ ?_
  · simp [rowU]
    exact DLe_int (wrap_in (by omega))
  rintro ⟨k, u⟩ ⟨hk, hul, huk⟩
  simp only at hk hul huk
  cases k with
  | zero =>
    simp
    rw [← huk]
    show DLe _ (boolsD u)
    rw [← hul]
    exact DLe.refl _
  | succ k =>
    have hlt : k < b.ins.length := by omega
    obtain ⟨x, hx⟩ : ∃ x, b.ins[k] = x := ⟨_, rfl⟩
    have hxa : b.ins[k]? = some x := by rw [List.getElem?_eq_getElem hlt, hx]
    have hxm : x ∈ b.ins := List.mem_of_getElem? hxa
    have hus : usedK b (k + 1) u = if doesB x.op = true ∨ u[b.params.toNat + k]? = some true then usedK b k (markL u (uses x)) else usedK b k u := by
      conv => lhs; unfold usedK
      rw [hxa]
    have hp : IntKind.i64.wrap (b.params + (k : Int)) = b.params + k := wrap_in (by omega)
    have hpt : (b.params + (k : Int)).toNat = b.params.toNat + k := by omega
    have hun : b.params.toNat + k < u.length := by omega
    simp
    refine ⟨by omega, ?_⟩
    rw [getD_some hlt, hx]
    refine call_plain (ds := [.agg (instC x)]) _ (by simp) (by simp) (fun _ => by simp; rfl) (fun _ => does_pure x) ?_
    have hul1 : (uses x).length ≤ 1000000 := by
      have := hi x hxm
      unfold uses
      repeat' split
      all_goals simp
      all_goals omega
    have huv : ∀ v ∈ uses x, 0 ≤ v ∧ v.toNat < u.length := fun v hv => by
      have := hfit.ins k x hxa v hv
      omega
    cases hd : doesB x.op with
    | true =>
      have huy : usedK b k (markL u (uses x)) = usedL b := by rw [← huk, hus, if_pos (.inl hd)]
      simp [hp, hpt]
      refine call_plain (ds := [.agg (instC x)]) _ (by simp) (by simp) (fun _ => by simp; rfl) (fun _ => uses_pure x (by have := hi x hxm; omega)) ?_
      simp
      refine calle_k (mark_eff u (uses x) hul1 huv) (tauU _ 5 4) rfl [.d (intsD (uses x)), .ptr 5 0] (by simp) (by simp) (by simp) (by simp [gOf, LU, tauU]) (by simp [gOf, LU, tauU, hul, rowU]) (by simp [gOf, LU, tauU]) (by simp [LU, idsOk]) ?_
      simp [LU, tauU, hul]
      refine ⟨k, markL u (uses x), ⟨by omega, by rw [markL_length]; exact hul, huy⟩, by omega, srcs [(5, .id 5), (4, .id 4)], ?_⟩
      simp [SLeK, rowU]
      exact DLe_int (wrap_in (by omega))
    | false =>
      simp [hp, hpt]
      refine ⟨⟨by omega, by omega⟩, by omega, fun hf => ?_, fun hf => ?_⟩
      · have huy : usedK b k u = usedL b := by
          rw [← huk, hus, if_neg]
          rintro (h | h)
          · rw [hd] at h; cases h
          · rw [h] at hf; cases hf
        refine ⟨k, u, ⟨by omega, hul, huy⟩, by omega, srcs [(5, .id 5), (4, .id 4)], ?_⟩
        simp [SLeK, rowU]
        exact DLe_int (wrap_in (by omega))
      have huy : usedK b k (markL u (uses x)) = usedL b := by
        have hut : u[b.params.toNat + k]? = some true := by
          rw [List.getElem?_eq_getElem hun] at hf ⊢
          simpa using hf
        rw [← huk, hus, if_pos (.inr hut)]
      refine call_plain (ds := [.agg (instC x)]) _ (by simp) (by simp) (fun _ => by simp; rfl) (fun _ => uses_pure x (by have := hi x hxm; omega)) ?_
      simp
      refine calle_k (mark_eff u (uses x) hul1 huv) (tauU _ 5 4) rfl [.d (intsD (uses x)), .ptr 5 0] (by simp) (by simp) (by simp) (by simp [gOf, LU, tauU]) (by simp [gOf, LU, tauU, hul, rowU]) (by simp [gOf, LU, tauU]) (by simp [LU, idsOk]) ?_
      simp [LU, tauU, hul]
      refine ⟨k, markL u (uses x), ⟨by omega, by rw [markL_length]; exact hul, huy⟩, by omega, srcs [(5, .id 5), (4, .id 4)], ?_⟩
      simp [SLeK, rowU]
      exact DLe_int (wrap_in (by omega))
def trimK (b : Block) (k : Nat) : List Inst := (sel ((stayL b).drop b.params.toNat) (b.ins.take k)).map (mapInst (gT b))
@[simp] theorem trimK_zero (b : Block) : trimK b 0 = [] := by
 unfold trimK
 rw [List.take_zero]
 cases (stayL b).drop b.params.toNat with
 | nil => rfl
 | cons s l => cases s <;> rfl
theorem trimK_all {b : Block} {k : Nat} (h : b.ins.length ≤ k) : trimK b k = trimIns b := by
 unfold trimK trimIns
 rw [List.take_of_length_le h]
theorem trimK_next {b : Block} {k : Nat} {s : Bool} (hk : k < b.ins.length) (hs : (stayL b)[b.params.toNat + k]? = some s) : trimK b (k + 1) = trimK b k ++ (if s = true then [mapInst (gT b) b.ins[k]] else []) := by
 unfold trimK
 rw [List.take_succ_eq_append_getElem hk, sel_snoc (s := s) (by rw [List.getElem?_drop, List.length_take, Nat.min_eq_left (by omega)]; exact hs), List.map_append]
 cases s <;> rfl
theorem trimK_length (b : Block) (k : Nat) : (trimK b k).length ≤ k := by
 unfold trimK
 rw [List.length_map, sel_length (by rw [List.length_take, List.length_drop, stayL_length]; omega)]
 exact Nat.le_trans (nst_le _ _) (by rw [List.length_take]; omega)
def trimT (f : Func) (k : Nat) : List Block := (sel (inBL f) (f.blocks.take k)).map fun b => endT f (trimB b)
@[simp] theorem trimT_zero (f : Func) : trimT f 0 = [] := by
 unfold trimT
 rw [List.take_zero]
 cases inBL f with
 | nil => rfl
 | cons s l => cases s <;> rfl
theorem trimT_all {f : Func} {k : Nat} (h : f.blocks.length ≤ k) : trimT f k = (trimF f).blocks := by
 unfold trimT trimF
 rw [List.take_of_length_le h]
theorem trimT_next {f : Func} {k : Nat} {s : Bool} (hk : k < f.blocks.length) (hs : (inBL f)[k]? = some s) : trimT f (k + 1) = trimT f k ++ (if s = true then [endT f (trimB f.blocks[k])] else []) := by
 unfold trimT
 rw [List.take_succ_eq_append_getElem hk, sel_snoc (s := s) (by rw [List.length_take, Nat.min_eq_left (by omega)]; exact hs), List.map_append]
 cases s <;> rfl
theorem trimT_length (f : Func) (k : Nat) : (trimT f k).length ≤ k := by
 unfold trimT
 rw [List.length_map, sel_length (by rw [List.length_take, inBL_length]; omega)]
 exact Nat.le_trans (nst_le _ _) (by rw [List.length_take]; omega)
theorem endsSmall {f : Func} (h : funcOk f = true) {b : Block} (hb : b ∈ f.blocks) : (b.args.length ≤ 1000 ∧ b.elses.length ≤ 1000) ∧ (¬ b.kind = 3 → 0 ≤ b.to) ∧ (b.kind = 2 → 0 ≤ b.els) := by
 have hbk := (blockOk_iff.1 (funcOk_blocks h b hb)).2.2.2.2
 have hg : ∀ (to : Int) (l : List Int) (n : Int), goesB f to l n = true → 0 ≤ to ∧ l.length ≤ 1000 := fun to l n hg => by
  obtain ⟨h0, ⟨c, hc, hl⟩, _⟩ := goesB_iff.1 hg
  have := (blockOk_iff.1 (funcOk_blocks h c (List.mem_of_getElem? hc))).2.1
  exact ⟨h0, by omega⟩
 rcases endB_iff.1 hbk with ⟨e1, e2, _, e4, e5⟩ | ⟨e1, _, e3, e4⟩ | ⟨e1, _, e3, e4, e5, e6⟩
 ·rw [e5]
  exact ⟨⟨(hg _ _ _ e2).2, by simp⟩, fun _ => (hg _ _ _ e2).1, fun h => by omega⟩
 ·exact ⟨⟨(hg _ _ _ e3).2, (hg _ _ _ e4).2⟩, fun _ => (hg _ _ _ e3).1, fun _ => (hg _ _ _ e4).1⟩
 ·rw [e4, e6]
  exact ⟨by simp, fun h => absurd e1 h, fun h => by omega⟩
def LA (n : Nat) (f : Value → Option Value) : List (Nat × AObj) := [(1000000, .map (.int .i64) n f)]
set_option maxRecDepth 10000 in
theorem anew_eff (n : Nat) (f : Value → Option Value) (l : List Int) (g : Int → Int) (hl : l.length ≤ 1000000) (hg : ∀ v ∈ l, (f (.int .i64 v)).getD (.int .i64 0) = .int .i64 (g v)) : AEff Try.prog 72 [.d (intsD l), .mp 1000000] (LA n f) (intsD (l.map g)) (LA n f) := by
 refine aeffG _ _ Try.func72 (by kernel_rfl) t_trim_anew_int_ u_trim_anew_int_ rfl rfl (by simp [LA]) (by simp [LA, idsOk]) (fun _ => ?_)
 simp [c_trim_anew_int_, r_trim_anew_int_, LA]
 refine loop_s (κ := Nat) (fun k => k ≤ l.length) (fun k => l.length - k) (fun k => [(sl 10, .int k), (sl 5, .own 0 (mapT g l k).length)]) (fun k => [(0, .row 3 1 (mapT g l k).length fun i => intC ((mapT g l k)[i]?.getD 0)), (1000000, .map (.int .i64) n f)]) 10 0 (srcs [(0, .nil)]) (by simp) (by simp) ?_
 rintro k hk
 have hlen := mapT_length g l k
 simp
 refine ⟨fun hlt => ?_, fun hge => ?_⟩
 ·have hgk := hg _ (List.getElem_mem hlt)
  have hsucc := mapT_succ g hlt
  rw [getD_some hlt, hgk]
  refine ⟨hlt, rfl, ⟨by omega, rfl⟩, k + 1, by omega, by omega, srcs [(0, .id 19)], ?_⟩
  simp [SLeK, hsucc]
  exact ⟨DLe_int (wrap_succ (by omega)), fun i hi => appRow_snocG intC 0 rfl hi⟩
 ·rw [mapT_all _ hge]
  exact ⟨DLe.refl _, .none, by simp [gE], by simp [gE]⟩
def asF (b : Block) (k : Nat) : Value → Option Value
 | .int .i64 v => if (0 ≤ v ∧ v.toNat < k) ∧ (stayL b)[v.toNat]? = some true then some (.int .i64 (gT b v)) else none
 | _ => none
theorem asF_yes {b : Block} {k : Nat} {v : Int} (h0 : 0 ≤ v) (hk : v.toNat < k) (hs : (stayL b)[v.toNat]? = some true) : asF b k (.int .i64 v) = some (.int .i64 (gT b v)) := if_pos ⟨⟨h0, hk⟩, hs⟩
theorem asF_at {b : Block} {k : Nat} : asF b k (.int .i64 (k : Int)) = none := by
 refine if_neg ?_
 rintro ⟨⟨_, h⟩, _⟩
 omega
theorem asF_zero {b : Block} (key : Value) : none = asF b 0 key := by
 unfold asF
 split
 ·rw [if_neg]
  rintro ⟨⟨_, h⟩, _⟩
  omega
 ·rfl
theorem asF_next {b : Block} {k : Nat} (hs : (stayL b)[k]? = some true) {key : Value} (hkey : kdOk (.int .i64) key = true) : mset (asF b k) (.int .i64 (k : Int)) (.int .i64 (gT b (k : Int))) key = asF b (k + 1) key := by
  cases key with
  | int q v =>
    simp only [kdOk, decide_eq_true_eq] at hkey
    subst hkey
    unfold mset
    by_cases hv : v = (k : Int)
    · subst hv
      rw [if_pos (by simp [keq]), asF_yes (by omega) (by omega) (by rw [Int.toNat_natCast]; exact hs)]
    · rw [if_neg (by simp [keq]; exact hv)]
      unfold asF
      have : ((0 ≤ v ∧ v.toNat < k) ∧ (stayL b)[v.toNat]? = some true) = ((0 ≤ v ∧ v.toNat < k + 1) ∧ (stayL b)[v.toNat]? = some true) := by
        apply propext
        constructor
        · rintro ⟨⟨h1, h2⟩, h3⟩; exact ⟨⟨h1, by omega⟩, h3⟩
        · rintro ⟨⟨h1, h2⟩, h3⟩; exact ⟨⟨h1, by omega⟩, h3⟩
      simp only [this]
  | _ => simp [kdOk] at hkey
theorem asF_skip {b : Block} {k : Nat} (hs : (stayL b)[k]? = some false) : asF b (k + 1) = asF b k := by
 funext key
 unfold asF
 split
 ·rename_i v
  have : ((0 ≤ v ∧ v.toNat < k + 1) ∧ (stayL b)[v.toNat]? = some true) = ((0 ≤ v ∧ v.toNat < k) ∧ (stayL b)[v.toNat]? = some true) := by
   apply propext
   constructor
   ·rintro ⟨⟨h1, h2⟩, h3⟩
    refine ⟨⟨h1, ?_⟩, h3⟩
    rcases Nat.lt_or_ge v.toNat k with h | h
    ·exact h
    ·obtain rfl : v.toNat = k := by omega
     rw [hs] at h3; cases h3
   ·rintro ⟨⟨h1, h2⟩, h3⟩; exact ⟨⟨h1, by omega⟩, h3⟩
  simp only [this]
 ·rfl
set_option maxRecDepth 10000 in
set_option maxHeartbeats 1000000 in
theorem tblock_pure (f : Func) (b : Block) (hb : blockOk f b = true) (ha : b.args.length ≤ 1000) (he : b.elses.length ≤ 1000) : APure Try.prog 54 [.agg (blockC b)] (.agg (blockC (trimB b))) := by
  obtain ⟨h0, h6, h32, hio, hen⟩ := blockOk_iff.1 hb
  have hfit := blkFit hb
  have hi : ∀ x ∈ b.ins, x.args.length ≤ 1000 := fun x hx => by
    obtain ⟨k, hk, rfl⟩ := List.getElem_of_mem hx
    have := instOk_args (hio k hk)
    omega
  have hnp : ∀ k, k ≤ b.params.toNat → nst (stayL b) k = k := fun k hk => nst_all (by rw [stayL_length]; omega) fun i h => stayL_param (by omega)
  refine apureG _ _ Try.func54 (by kernel_rfl) t_trim_Block u_trim_Block rfl rfl (fun _ => ?_)
  simp [c_trim_Block, r_trim_Block]
  refine call_plain (ds := [.agg (blockC b)]) _ (by simp) (by simp) (fun _ => by simp; rfl) (fun _ => used_pure f b hb ha he hi) ?_
  simp
  refine loop_s (κ := Nat) (fun k => k ≤ b.params.toNat) (fun k => b.params.toNat - k) (fun k => [(sl 15, .int k)]) (fun k => [(5, .map (.int .i64) (nst (stayL b) k) (asF b k)), (1, .box [.int 0, .d (.lit (.slice none 0 0)), .int 0, .int 0, .int 0, .d (.lit (.slice none 0 0)), .int 0, .d (.lit (.slice none 0 0))])]) 10 0 (srcs [(5, .id 5), (1, .id 1)]) (by simp) ?_ ?_
  · simp [nst]
    exact fun key _ => asF_zero key
  intro k hk
  simp
  refine ⟨fun hlt => ?_, fun hge => ?_⟩
  · have hgk : gT b (k : Int) = k := by unfold gT; rw [Int.toNat_natCast, hnp k hk]
    have hs := stayL_param (b := b) (i := k) (by omega)
    refine ⟨k + 1, by omega, by omega, srcs [(5, .id 5), (1, .id 1)], ?_⟩
    simp [SLeK, asF_at]
    refine ⟨DLe_int (wrap_succ (by omega)), ?_, fun key hkey => ?_⟩
    · rw [hnp k hk, hnp (k + 1) (by omega)]
    · have h := asF_next hs hkey
      rw [hgk] at h
      exact h
  obtain rfl : k = b.params.toNat := by omega
  refine loop_s (κ := Nat) (fun i => i ≤ b.ins.length) (fun i => b.ins.length - i) (fun i => [(sl 25, .int i), (sl 6, .own 0 (trimK b i).length)]) (fun i => [(0, .row 39 6 (trimK b i).length fun j => instC ((trimK b i)[j]?.getD default)), (5, .map (.int .i64) (nst (stayL b) (b.params.toNat + i)) (asF b (b.params.toNat + i))), (1, .box [.int 0, .d (.lit (.slice none 0 0)), .int 0, .int 0, .int 0, .d (.lit (.slice none 0 0)), .int 0, .d (.lit (.slice none 0 0))])]) 40 0 (srcs [(0, .nil), (5, .id 5), (1, .id 1)]) (by simp) (by simp) ?_
  intro i hi1
  simp
  refine ⟨fun hlt => ?_, fun hge => ?_⟩
  · have hp : IntKind.i64.wrap (b.params + (i : Int)) = b.params + i := wrap_in (by omega)
    have hpt : (b.params + (i : Int)).toNat = b.params.toNat + i := by omega
    obtain ⟨x, hx⟩ : ∃ x, b.ins[i] = x := ⟨_, rfl⟩
    have hxa : b.ins[i]? = some x := by rw [List.getElem?_eq_getElem hlt, hx]
    have hxm : x ∈ b.ins := List.mem_of_getElem? hxa
    have hul := usedL_length b
    have hut : b.params.toNat + i < (usedL b).length := by omega
    obtain ⟨s, hs⟩ : ∃ s, (usedL b)[b.params.toNat + i]? = some s := ⟨_, List.getElem?_eq_getElem hut⟩
    have hst := stayL_ins hxa
    rw [hs] at hst
    simp only [Option.getD_some] at hst
    have hnext := trimK_next hlt hst
    have hln := trimK_length b i
    rw [hx] at hnext
    refine ⟨hlt, ?_⟩
    rw [hxa]
    simp only [Option.getD_some]
    refine call_plain (ds := [.agg (instC x)]) _ (by simp) (by simp) (fun _ => by simp; rfl) (fun _ => does_pure x) ?_
    cases hq : (doesB x.op || s) with
    | false =>
      rw [hq] at hst hnext
      obtain ⟨hd, rfl⟩ : doesB x.op = false ∧ s = false := by simpa using hq
      simp at hnext
      simp [hd, hp, hpt, hs]
      refine ⟨⟨by omega, by omega⟩, i + 1, by omega, by omega, srcs [(0, .id 0), (5, .id 5), (1, .id 1)], ?_⟩
      have hsk := asF_skip hst
      have hns := nst_snoc hst
      rw [if_neg (by simp), Nat.add_zero] at hns
      rw [Nat.add_assoc] at hsk hns
      simp [SLeK, hnext, hsk, hns]
      exact DLe_int (wrap_succ (by omega))
    | true =>
      rw [hq] at hst hnext
      simp only [if_pos] at hnext
      have hkk : ((b.params.toNat + i : Nat) : Int) = b.params + i := by omega
      have hno14 : ¬ x.op = 14 → x.args = [] := fun h14 => by
        have h := hx ▸ hio i hlt
        unfold instOk at h
        simp only [Bool.and_eq_true, Bool.or_eq_true, beq_iff_eq] at h
        rcases h.1.1.2 with h1 | h1
        · exact absurd h1 h14
        · exact List.length_eq_zero_iff.1 h1
      have hc : IntKind.i64.wrap (b.params + ((trimK b i).length : Int)) = gT b (b.params + (i : Int)) := by
        rw [wrap_in (by omega)]
        unfold gT
        rw [hpt, nst_ins]
        have : (trimK b i).length = nst ((stayL b).drop b.params.toNat) i := by
          unfold trimK
          rw [List.length_map, sel_length (by rw [List.length_take, List.length_drop, stayL_length]; omega), List.length_take, Nat.min_eq_left (by omega)]
        omega
      have hasn : (asF b (b.params.toNat + i) (.int .i64 (b.params + (i : Int)))) = none := by rw [← hkk]; exact asF_at
      simp [hp, hpt, hs]
      refine ⟨fun h => ⟨h, by omega, by omega⟩, fun h1 h2 => (by rw [h1, h2] at hq; cases hq), fun _ => ?_⟩
      obtain ⟨M, hM⟩ : ∃ M, mset (asF b (b.params.toNat + i)) (.int .i64 (b.params + (i : Int))) (.int .i64 (gT b (b.params + (i : Int)))) = M := ⟨_, rfl⟩
      have hMu : ∀ v ∈ uses x, M (.int .i64 v) = some (.int .i64 (gT b v)) := fun v hv => by
        have h1 := asF_next hst (key := .int .i64 v) (by simp [kdOk])
        rw [hkk, hM] at h1
        have h2 := hfit.ins i x hxa v hv
        rw [h1, asF_yes h2.1 (by omega) (stayL_uses hfit hxa hst hv)]
      have hMe : ∀ key, kdOk (.int .i64) key = true → M key = asF b (b.params.toNat + (i + 1)) key := fun key hkey => by
        have h1 := asF_next hst hkey
        rw [hkk, hM] at h1
        exact h1
      have hMa : ∀ v ∈ x.args, (M (.int .i64 v)).getD (.int .i64 0) = .int .i64 (gT b v) := fun v hv => by
        by_cases h14 : x.op = 14
        · rw [hMu v (by unfold uses; rw [if_neg (by omega), if_neg (by omega), if_pos h14]; exact hv)]
          rfl
        · rw [hno14 h14] at hv
          cases hv
      have hMb : ∀ v, ∃ w, (M (.int .i64 v)).getD (.int .i64 0) = .int .i64 w := fun v => by
        rw [hMe _ (by simp [kdOk])]
        unfold asF
        simp only
        split
        · exact ⟨_, rfl⟩
        · exact ⟨_, rfl⟩
      have hns : nst (stayL b) (b.params.toNat + (i + 1)) = nst (stayL b) (b.params.toNat + i) + 1 := by
        have h := nst_snoc hst
        rw [if_pos rfl] at h
        exact h
      simp only [hc, hM, hasn]
      refine call_plain (ds := [.agg (instC x)]) _ (by simp) (by simp) (fun _ => by simp; rfl) (fun _ => uses_pure x (by have := hi x hxm; omega)) ?_
      by_cases htwo : 2 ≤ x.op ∧ x.op ≤ 11
      · have hux : uses x = [x.a, x.b] := by unfold uses; rw [if_pos htwo]
        have m1 := hMu x.a (by rw [hux]; simp)
        have m2 := hMu x.b (by rw [hux]; simp)
        have n13 : ¬ x.op = 13 := by omega
        have n14 : ¬ x.op = 14 := by omega
        have n16 : ¬ x.op = 16 := by omega
        simp [hux, m1, m2]
        refine calle_k (anew_eff (nst (stayL b) (b.params.toNat + i) + 1) M x.args (gT b) (by have := hi x hxm; omega) hMa) (fun q => if q = 1000000 then 5 else 90) rfl [.d (intsD x.args), .mp 5] (by simp) (by simp) (by simp) (by simp [gOf, LA]) (by simp [gOf, LA]) (by simp [gOf, LA]) (by simp [LA, idsOk]) ?_
        have htw : isTwo x.op = true := (isTwo_iff _).2 htwo
        have hon : isOne x.op = true := (isOne_iff _).2 (.inl htwo)
        simp [LA, n13, n14, n16]
        refine ⟨by omega, i + 1, by omega, by omega, srcs [(0, .id 112), (5, .id 5), (1, .id 1)], ?_⟩
        simp [SLeK, hnext, hns]
        refine ⟨DLe_int (wrap_succ (by omega)), fun j hj => appRow_snocG instC default ?_ hj, fun key hkey => hMe key hkey⟩
        simp [instC, mapInst, htw, hon]
      have htw : isTwo x.op = false := by rw [← Bool.not_eq_true, isTwo_iff]; exact htwo
      have hb0 : x.b = 0 := by
        have h := hx ▸ hio i hlt
        unfold instOk at h
        simp only [Bool.and_eq_true, Bool.or_eq_true, beq_iff_eq] at h
        rcases h.1.1.1.1.2 with h1 | h1
        · rw [htw] at h1; cases h1
        · exact h1
      obtain ⟨wa, hwa⟩ := hMb x.a
      obtain ⟨wb, hwb⟩ := hMb x.b
      by_cases hone : x.op = 13 ∨ x.op = 16
      · have hux : uses x = [x.a] := by unfold uses; rw [if_neg htwo, if_pos hone]
        have hon : isOne x.op = true := (isOne_iff _).2 (.inr hone)
        have m1 := hMu x.a (by rw [hux]; simp)
        have n14 : ¬ x.op = 14 := by omega
        simp [hux, m1, hwb]
        refine calle_k (anew_eff (nst (stayL b) (b.params.toNat + i) + 1) M x.args (gT b) (by have := hi x hxm; omega) hMa) (fun q => if q = 1000000 then 5 else 90) rfl [.d (intsD x.args), .mp 5] (by simp) (by simp) (by simp) (by simp [gOf, LA]) (by simp [gOf, LA]) (by simp [gOf, LA]) (by simp [LA, idsOk]) ?_
        rcases hone with hone | hone
        · simp [LA, hone]
          refine ⟨by omega, i + 1, by omega, by omega, srcs [(0, .id 114), (5, .id 5), (1, .id 1)], ?_⟩
          simp [SLeK, hnext, hns]
          refine ⟨DLe_int (wrap_succ (by omega)), fun j hj => appRow_snocG instC default ?_ hj, fun key hkey => hMe key hkey⟩
          simp [instC, mapInst, htw, hon, hone, hb0]
          exact ⟨fun h => absurd h (by decide), fun h => absurd h (by decide)⟩
        · simp [LA, hone]
          refine ⟨by omega, i + 1, by omega, by omega, srcs [(0, .id 114), (5, .id 5), (1, .id 1)], ?_⟩
          simp [SLeK, hnext, hns]
          refine ⟨DLe_int (wrap_succ (by omega)), fun j hj => appRow_snocG instC default ?_ hj, fun key hkey => hMe key hkey⟩
          simp [instC, mapInst, htw, hon, hone, hb0]
          exact ⟨fun h => absurd h (by decide), fun h => absurd h (by decide)⟩
      have hon : isOne x.op = false := by rw [← Bool.not_eq_true, isOne_iff]; rintro (h | h); exact htwo h; exact hone h
      have ha0 : x.a = 0 := by
        have h := hx ▸ hio i hlt
        unfold instOk at h
        simp only [Bool.and_eq_true, Bool.or_eq_true, beq_iff_eq] at h
        rcases h.1.1.1.1.1.2 with h1 | h1
        · rw [hon] at h1; cases h1
        · exact h1
      have n13 : ¬ x.op = 13 := fun h => hone (.inl h)
      have n16 : ¬ x.op = 16 := fun h => hone (.inr h)
      by_cases h14 : x.op = 14
      · have hux : uses x = x.args := by unfold uses; rw [if_neg htwo, if_neg hone, if_pos h14]
        by_cases hl0 : x.args = []
        · simp [hux, hl0, h14]
          refine ⟨by omega, i + 1, by omega, by omega, srcs [(0, .id 98), (5, .id 5), (1, .id 1)], ?_⟩
          simp [SLeK, hnext, hns]
          refine ⟨DLe_int (wrap_succ (by omega)), fun j hj => appRow_snocG instC default ?_ hj, fun key hkey => hMe key hkey⟩
          simp [instC, mapInst, htw, hon, h14, hl0, ha0, hb0]
          exact ⟨fun h => absurd h (by decide), fun h => absurd h (by decide)⟩
        · have hlp : 0 < x.args.length := List.length_pos_iff.2 hl0
          simp [hux, hlp, hwa, hwb]
          refine calle_k (anew_eff (nst (stayL b) (b.params.toNat + i) + 1) M x.args (gT b) (by have := hi x hxm; omega) hMa) (fun q => if q = 1000000 then 5 else 90) rfl [.d (intsD x.args), .mp 5] (by simp) (by simp) (by simp) (by simp [gOf, LA]) (by simp [gOf, LA]) (by simp [gOf, LA]) (by simp [LA, idsOk]) ?_
          simp [LA, h14]
          refine ⟨by omega, i + 1, by omega, by omega, srcs [(0, .id 116), (5, .id 5), (1, .id 1)], ?_⟩
          simp [SLeK, hnext, hns]
          refine ⟨DLe_int (wrap_succ (by omega)), fun j hj => appRow_snocG instC default ?_ hj, fun key hkey => hMe key hkey⟩
          simp [instC, mapInst, htw, hon, h14, ha0, hb0]
          exact ⟨fun h => absurd h (by decide), fun h => absurd h (by decide)⟩
      · have hux : uses x = [] := by unfold uses; rw [if_neg htwo, if_neg hone, if_neg h14]
        simp [hux, n13, h14, n16]
        refine ⟨by omega, i + 1, by omega, by omega, srcs [(0, .id 94), (5, .id 5), (1, .id 1)], ?_⟩
        simp [SLeK, hnext, hns]
        refine ⟨DLe_int (wrap_succ (by omega)), fun j hj => appRow_snocG instC default ?_ hj, fun key hkey => hMe key hkey⟩
        simp [instC, mapInst, htw, hon, hno14 h14]
  obtain rfl : i = b.ins.length := by omega
  have hval : ∀ v ∈ endsL b, (asF b (b.params.toNat + b.ins.length) (.int .i64 v)).getD (.int .i64 0) = .int .i64 (gT b v) := fun v hv => by
    have h := hfit.ends v hv
    rw [asF_yes h.1 (by omega) (stayL_ends hfit hv)]
    rfl
  refine callk_k (anew_eff (nst (stayL b) (b.params.toNat + b.ins.length)) (asF b (b.params.toNat + b.ins.length)) b.args (gT b) (by omega) (fun v hv => hval v (by simp [endsL, hv]))) (fun q => if q = 1000000 then 5 else 48) rfl [.d (intsD b.args), .mp 5] (by simp) (by simp) (by simp) (by simp [gOf, LA]) (by simp [gOf, LA]) (by simp [gOf, LA]) (by simp [LA, idsOk]) (by simp [LA]) ?_
  simp [LA]
  refine callk_k (anew_eff (nst (stayL b) (b.params.toNat + b.ins.length)) (asF b (b.params.toNat + b.ins.length)) b.elses (gT b) (by omega) (fun v hv => hval v (by simp [endsL, hv]))) (fun q => if q = 1000000 then 5 else 52) rfl [.d (intsD b.elses), .mp 5] (by simp) (by simp) (by simp) (by simp [gOf, LA]) (by simp [gOf, LA]) (by simp [gOf, LA]) (by simp [LA, idsOk]) (by simp [LA]) ?_
  simp [LA]
  rw [trimK_all (Nat.le_refl _)]
  by_cases hk1 : b.kind = 1
  · simp [hk1]
    unfold trimB
    rw [if_pos hk1, hk1]
    exact DLe.refl _
  · have hta : b.ta ∈ endsL b := by unfold endsL; rw [if_neg hk1]; simp
    simp [hk1, hval _ hta]
    unfold trimB
    rw [if_neg hk1]
    exact DLe.refl _
def dfsB (f : Func) : Nat → List Bool → Nat → List Bool
  | 0, u, _ => u
  | n + 1, u, k => if u[k]? = some true then u else match f.blocks[k]? with
    | none => u.set k true
    | some b =>
      let u2 := if b.kind = 3 then u.set k true else dfsB f n (u.set k true) b.to.toNat
      if b.kind = 2 then dfsB f n u2 b.els.toNat else u2
def leftB (u : List Bool) : Nat := u.countP fun x => !x
theorem leftB_le : ∀ {u v : List Bool}, v.length = u.length → (∀ i : Nat, u[i]? = some true → v[i]? = some true) → leftB v ≤ leftB u
  | [], [], _, _ => Nat.le_refl _
  | a :: u, c :: v, hl, h => by
    have ih := leftB_le (u := u) (v := v) (by simpa using hl) fun i hi => by simpa using h (i + 1) (by simpa using hi)
    have h0 := h 0
    unfold leftB at ih ⊢
    cases a <;> cases c <;> simp_all <;> omega
  | [], _ :: _, hl, _ => by simp at hl
  | _ :: _, [], hl, _ => by simp at hl
theorem leftB_set : ∀ {u : List Bool} {k : Nat}, u[k]? = some false → leftB (u.set k true) + 1 = leftB u
  | [], k, h => by simp at h
  | a :: u, 0, h => by
    simp at h
    subst h
    simp [leftB]
  | a :: u, k + 1, h => by
    have ih := leftB_set (u := u) (k := k) (by simpa using h)
    unfold leftB at ih ⊢
    cases a <;> simp <;> omega
def SuccIn (f : Func) (j : Nat) (r : List Bool) : Prop := ∀ b, f.blocks[j]? = some b → (¬ b.kind = 3 → r[b.to.toNat]? = some true) ∧ (b.kind = 2 → r[b.els.toNat]? = some true)
theorem SuccIn.mono {f : Func} {j : Nat} {r r' : List Bool} (h : SuccIn f j r) (hl : LeB r r') : SuccIn f j r' := fun b hb => ⟨fun h3 => hl.2 _ ((h b hb).1 h3), fun h2 => hl.2 _ ((h b hb).2 h2)⟩
theorem dfsB_spec {f : Func} (he : EndsIn f) : ∀ (n : Nat) (u : List Bool) (k : Nat), u.length = f.blocks.length → leftB u < n → k < u.length →
    LeB u (dfsB f n u k) ∧ (dfsB f n u k)[k]? = some true ∧ ∀ j, (dfsB f n u k)[j]? = some true → u[j]? = some true ∨ SuccIn f j (dfsB f n u k) := by
  intro n
  induction n with
  | zero => intro u k _ h; omega
  | succ n ih =>
    intro u k hl hn hk
    unfold dfsB
    by_cases hu : u[k]? = some true
    · rw [if_pos hu]
      exact ⟨LeB.refl u, hu, fun j hj => .inl hj⟩
    rw [if_neg hu]
    have hf : u[k]? = some false := by
      rw [List.getElem?_eq_getElem hk] at hu ⊢
      cases h : u[k] with
      | true => rw [h] at hu; exact absurd rfl hu
      | false => rfl
    have hlt := leftB_set hf
    obtain ⟨u1, hu1⟩ : ∃ u1, u.set k true = u1 := ⟨_, rfl⟩
    have hk1 : u1[k]? = some true := by rw [← hu1, List.getElem?_set, if_pos rfl, if_pos hk]
    have hle1 : LeB u u1 := hu1 ▸ LeB.set u k
    have hl1 : u1.length = f.blocks.length := by rw [hle1.1, hl]
    have hin : ∀ j : Nat, u1[j]? = some true → u[j]? = some true ∨ j = k := fun j hj => by
      rw [← hu1, List.getElem?_set] at hj
      split at hj
      · rename_i e; exact .inr e.symm
      · exact .inl hj
    rw [hu1] at hlt
    cases hb : f.blocks[k]? with
    | none => rw [List.getElem?_eq_getElem (by omega)] at hb; cases hb
    | some b =>
      have hbe := he b (List.mem_of_getElem? hb)
      simp only [hu1]
      obtain ⟨u2, hu2⟩ : ∃ u2, (if b.kind = 3 then u1 else dfsB f n u1 b.to.toNat) = u2 := ⟨_, rfl⟩
      rw [hu2]
      have h2 : LeB u1 u2 ∧ (¬ b.kind = 3 → u2[b.to.toNat]? = some true) ∧ ∀ j, u2[j]? = some true → u1[j]? = some true ∨ SuccIn f j u2 := by
        by_cases h3 : b.kind = 3
        · rw [if_pos h3] at hu2
          subst hu2
          exact ⟨LeB.refl _, fun h => absurd h3 h, fun j hj => .inl hj⟩
        · rw [if_neg h3] at hu2
          have h := ih u1 b.to.toNat hl1 (by omega) (by rw [hl1]; exact hbe.1 h3)
          rw [hu2] at h
          exact ⟨h.1, fun _ => h.2.1, h.2.2⟩
      obtain ⟨hle2, hto, hs2⟩ := h2
      have hl2 : u2.length = f.blocks.length := by rw [hle2.1, hl1]
      have hleft2 := leftB_le hle2.1 hle2.2
      obtain ⟨r, hr⟩ : ∃ r, (if b.kind = 2 then dfsB f n u2 b.els.toNat else u2) = r := ⟨_, rfl⟩
      rw [hr]
      have h3 : LeB u2 r ∧ (b.kind = 2 → r[b.els.toNat]? = some true) ∧ ∀ j, r[j]? = some true → u2[j]? = some true ∨ SuccIn f j r := by
        by_cases h2 : b.kind = 2
        · rw [if_pos h2] at hr
          have h := ih u2 b.els.toNat hl2 (by omega) (by rw [hl2]; exact hbe.2 h2)
          rw [hr] at h
          exact ⟨h.1, fun _ => h.2.1, h.2.2⟩
        · rw [if_neg h2] at hr
          subst hr
          exact ⟨LeB.refl _, fun h => absurd h h2, fun j hj => .inl hj⟩
      obtain ⟨hle3, hels, hs3⟩ := h3
      refine ⟨hle1.trans (hle2.trans hle3), hle3.2 _ (hle2.2 _ hk1), fun j hj => ?_⟩
      rcases hs3 j hj with h | h
      · rcases hs2 j h with h | h
        · rcases hin j h with h | h
          · exact .inl h
          · subst h
            refine .inr fun c hc => ?_
            rw [hb] at hc
            injection hc with hc
            subst hc
            exact ⟨fun h3 => hle3.2 _ (hto h3), hels⟩
        · exact .inr (h.mono hle3)
      · exact .inr h
theorem dfsB_sound {f : Func} (he : EndsIn f) : ∀ (n : Nat) (u : List Bool) (k : Nat), RchB f k → (∀ j : Nat, u[j]? = some true → RchB f j) → ∀ j : Nat, (dfsB f n u k)[j]? = some true → RchB f j := by
  intro n
  induction n with
  | zero => intro u k _ h j hj; exact h j hj
  | succ n ih =>
    intro u k hk h j hj
    unfold dfsB at hj
    split at hj
    · exact h j hj
    have h1 : ∀ j : Nat, (u.set k true)[j]? = some true → RchB f j := fun j hj => by
      rw [List.getElem?_set] at hj
      split at hj
      · rename_i e; subst e; exact hk
      · exact h j hj
    split at hj
    · exact h1 j hj
    · rename_i b hb
      simp only at hj
      have h2 : ∀ j : Nat, (if b.kind = 3 then u.set k true else dfsB f n (u.set k true) b.to.toNat)[j]? = some true → RchB f j := fun j hj => by
        split at hj
        · exact h1 j hj
        · rename_i h3
          exact ih _ _ (.to hk hb h3) h1 j hj
      split at hj
      · rename_i h3
        exact ih _ _ (.els hk hb h3) h2 j hj
      · exact h2 j hj
theorem dfsB_all {f : Func} (he : EndsIn f) (hp : 0 < f.blocks.length) : dfsB f (f.blocks.length + 1) (List.replicate f.blocks.length false) 0 = inBL f := by
  have hl0 : leftB (List.replicate f.blocks.length false) < f.blocks.length + 1 := Nat.lt_succ_of_le (Nat.le_trans List.countP_le_length (by simp))
  have hnone : ∀ j : Nat, (List.replicate f.blocks.length false)[j]? = some true → False := fun j hj => by
    have := List.eq_of_mem_replicate (List.mem_of_getElem? hj)
    cases this
  obtain ⟨h1, h2, h3⟩ := dfsB_spec he (f.blocks.length + 1) (List.replicate f.blocks.length false) 0 (by simp) hl0 (by simpa using hp)
  have hiff : ∀ k : Nat, (dfsB f (f.blocks.length + 1) (List.replicate f.blocks.length false) 0)[k]? = some true ↔ RchB f k := fun k => by
    constructor
    · exact dfsB_sound he _ _ _ (.first hp) (fun j hj => (hnone j hj).elim) k
    · intro h
      induction h with
      | first h => exact h2
      | @to k b h hb hk ih =>
        rcases h3 k ih with h | h
        · exact (hnone k h).elim
        · exact (h b hb).1 hk
      | @els k b h hb hk ih =>
        rcases h3 k ih with h | h
        · exact (hnone k h).elim
        · exact (h b hb).2 hk
  apply List.ext_getElem?
  intro k
  have hlen : (dfsB f (f.blocks.length + 1) (List.replicate f.blocks.length false) 0).length = f.blocks.length := by rw [h1.1]; simp
  by_cases hk : k < f.blocks.length
  · have e1 := List.getElem?_eq_getElem (l := dfsB f (f.blocks.length + 1) (List.replicate f.blocks.length false) 0) (i := k) (by omega)
    have e2 := List.getElem?_eq_getElem (l := inBL f) (i := k) (by rw [inBL_length]; exact hk)
    have e3 := (hiff k).trans (inBL_iff he k).symm
    rw [e1, e2] at e3 ⊢
    congr 1
    rw [Bool.eq_iff_iff]
    simpa using e3
  · rw [List.getElem?_eq_none (by omega), List.getElem?_eq_none (by rw [inBL_length]; omega)]
def LBk (f : Func) (u : List Bool) : List (Nat × AObj) :=
 [(1000000, .box [.own 1000001 u.length]), (1000001, .vec 4 1 u.length (rowU u)), (1000002, .box [.fn 69 [.ptr 1000000 0, .d (.cref (funcC f) 0), .ptr 1000002 0]])]
theorem hof_LBk (f : Func) (u : List Bool) : hof (LBk f u) = hadd 1000000 (.box [.own 1000001 u.length]) (hadd 1000001 (.vec 4 1 u.length (rowU u)) (hadd 1000002 (.box [.fn 69 [.ptr 1000000 0, .d (.cref (funcC f) 0), .ptr 1000002 0]]) hnil)) := rfl
theorem LBk_end {f : Func} {u u' : List Bool} {row : Nat → List AV} {n : Nat} (hn : n = u'.length) (hr : ∀ j, j < n → row j = rowU u' j) : EffEnd (LBk f u) (LBk f u') (hadd 1000000 (.box [.own 1000001 n]) (hadd 1000001 (.vec 4 1 n row) (hadd 1000002 (.box [.fn 69 [.ptr 1000000 0, .d (.cref (funcC f) 0), .ptr 1000002 0]]) hnil))) := by
 refine ⟨.none, ?_, ?_⟩
 ·simp [LBk, gE, hn]
  intro j hj
  rw [hr j (by omega)]
  simp [rowU]
 ·simp [LBk, gE]
set_option maxRecDepth 10000 in
theorem reachB_eff (f : Func) (he : EndsIn f) (hto : ∀ b ∈ f.blocks, (¬ b.kind = 3 → 0 ≤ b.to) ∧ (b.kind = 2 → 0 ≤ b.els)) : ∀ (n : Nat) (u : List Bool) (k : Nat), u.length = f.blocks.length → leftB u < n → k < u.length → AEff Try.prog 69 [.d (.int k), .ptr 1000000 0, .d (.cref (funcC f) 0), .ptr 1000002 0] (LBk f u) (.tup []) (LBk f (dfsB f n u k)) := by
  intro n
  induction n with
  | zero => intro u k _ h; omega
  | succ n ih =>
    intro u k hl hn hk
    refine aeffG _ _ Try.func69 (by kernel_rfl) t_trim_Reached_1 u_trim_Reached_1 rfl rfl (by simp [LBk]) (by simp [LBk, idsOk]) (fun _ => ?_)
    have hke := List.getElem?_eq_getElem hk
    cases hu : u[k] with
    | true =>
      rw [hu] at hke
      have e : dfsB f (n + 1) u k = u := by unfold dfsB; rw [if_pos hke]
      rw [e]
      simp [c_trim_Reached_1, r_trim_Reached_1, hof_LBk, hke]
      exact ⟨hk, LBk_end rfl fun _ _ => rfl⟩
    | false =>
      rw [hu] at hke
      have hkb : k < f.blocks.length := by omega
      obtain ⟨b, hb⟩ : ∃ b, f.blocks[k] = b := ⟨_, rfl⟩
      have hbm : b ∈ f.blocks := by rw [← hb]; exact List.getElem_mem _
      have hbe := he b hbm
      have hbt := hto b hbm
      have hlt := leftB_set hke
      obtain ⟨u1, hu1⟩ : ∃ u1, u.set k true = u1 := ⟨_, rfl⟩
      have hl1 : u1.length = u.length := by rw [← hu1, List.length_set]
      have hset := rowU_set (u := u) (v := k) hk true
      rw [hu1] at hlt hset
      have hle1 : LeB u u1 := hu1 ▸ LeB.set u k
      have e : dfsB f (n + 1) u k = (let u2 := if b.kind = 3 then u1 else dfsB f n u1 b.to.toNat; if b.kind = 2 then dfsB f n u2 b.els.toNat else u2) := by
        conv => lhs; unfold dfsB
        rw [if_neg (by rw [hke]; simp), List.getElem?_eq_getElem hkb, hb]
        simp only [hu1]
      rw [e]
      have hrow : ∀ j, j < u.length → (if j = k then [AV.d (DV.lit (Value.bool true))] else rowU u j) = rowU u1 j := fun j _ => hset j
      by_cases h3 : b.kind = 3
      · simp [c_trim_Reached_1, r_trim_Reached_1, hof_LBk, hke, hkb, hb, h3, hk, hu]
        exact LBk_end hl1.symm hrow
      have tonn : max b.to 0 = b.to := by have := hbt.1 h3; omega
      have hs2 := dfsB_spec he n u1 b.to.toNat (by omega) (by omega) (by have := hbe.1 h3; omega)
      obtain ⟨u2, hu2⟩ : ∃ u2, dfsB f n u1 b.to.toNat = u2 := ⟨_, rfl⟩
      have hlf2 := leftB_le hs2.1.1 hs2.1.2
      have hl2 := hs2.1.1
      by_cases h2 : b.kind = 2
      · have elsnn : max b.els 0 = b.els := by have := hbt.2 h2; omega
        simp [c_trim_Reached_1, r_trim_Reached_1, hof_LBk, hke, hkb, hb, h2, hk, hu]
        refine calle_k (ih u1 b.to.toNat (by omega) (by omega) (by have := hbe.1 h3; omega)) (tau _) rfl [.d (.int b.to), .ptr 1000000 0, .d (.cref (funcC f) 0), .ptr 1000002 0] (by simp) (by simp) (by simp) (by simp [gOf, LBk, tau, tonn]) ?_ (by simp [gOf, LBk, tau]) (by simp [LBk, idsOk]) ?_
        · simp [gOf, LBk, tau, hl1]
          intro j hj
          rw [hset j]
          simp [rowU]
        rw [hu2] at hl2 hlf2 ⊢
        simp [LBk, tau, h2]
        refine calle_k (ih u2 b.els.toNat (by omega) (by omega) (by have := hbe.2 h2; omega)) (tau _) rfl [.d (.int b.els), .ptr 1000000 0, .d (.cref (funcC f) 0), .ptr 1000002 0] (by simp) (by simp) (by simp) (by simp [gOf, LBk, tau, elsnn]) ?_ (by simp [gOf, LBk, tau]) (by simp [LBk, idsOk]) ?_
        · simp [gOf, LBk, tau, rowU]
        simp [LBk, tau]
        exact LBk_end (u := u) rfl fun _ _ => rfl
      · simp [c_trim_Reached_1, r_trim_Reached_1, hof_LBk, hke, hkb, hb, h2, h3, hk, hu]
        refine calle_k (ih u1 b.to.toNat (by omega) (by omega) (by have := hbe.1 h3; omega)) (tau _) rfl [.d (.int b.to), .ptr 1000000 0, .d (.cref (funcC f) 0), .ptr 1000002 0] (by simp) (by simp) (by simp) (by simp [gOf, LBk, tau, tonn]) ?_ (by simp [gOf, LBk, tau]) (by simp [LBk, idsOk]) ?_
        · simp [gOf, LBk, tau, hl1]
          intro j hj
          rw [hset j]
          simp [rowU]
        rw [hu2] at hl2 hlf2 ⊢
        simp [LBk, tau, h2]
        exact LBk_end (u := u) rfl fun _ _ => rfl
set_option maxRecDepth 10000 in
theorem reachedT_pure (f : Func) (he : EndsIn f) (hto : ∀ b ∈ f.blocks, (¬ b.kind = 3 → 0 ≤ b.to) ∧ (b.kind = 2 → 0 ≤ b.els)) (hl : f.blocks.length ≤ 1000) : APure Try.prog 53 [.agg (funcC f)] (boolsD (inBL f)) := by
 refine apureG _ _ Try.func53 (by kernel_rfl) t_trim_Reached u_trim_Reached rfl rfl (fun _ => ?_)
 simp [c_trim_Reached, r_trim_Reached]
 refine ⟨by omega, fun hp => ?_, fun hz => ?_⟩
 ·have hp' : 0 < f.blocks.length := by omega
  have hl0 : leftB (List.replicate f.blocks.length false) < f.blocks.length + 1 := Nat.lt_succ_of_le (Nat.le_trans List.countP_le_length (by simp))
  refine calle_k (reachB_eff f he hto (f.blocks.length + 1) (List.replicate f.blocks.length false) 0 (by simp) hl0 (by simpa using hp')) (fun i => if i = 1000000 then 6 else if i = 1000001 then 5 else if i = 1000002 then 8 else 15) rfl [.d (.int 0), .ptr 6 0, .d (.cref (funcC f) 0), .ptr 8 0] (by simp) (by simp) (by simp; rfl) (by simp [gOf, LBk]) ?_ (by simp [gOf, LBk]) (by simp [LBk, idsOk]) ?_
  ·simp [gOf, LBk, rowU_nil]
   exact DLe.refl _
  rw [dfsB_all he hp']
  simp [LBk]
  exact DLe_rows (inBL_length f).symm fun _ _ => rfl
 ·have e : f.blocks = [] := by simpa using hz
  have e2 : inBL f = [] := by
   have := inBL_length f
   rw [e] at this
   exact List.length_eq_zero_iff.1 this
  rw [e2, e]
  exact DLe.sl fun i hi => by simp at hi
def blF (f : Func) (k : Nat) : Value → Option Value
 | .int .i64 v => if (0 ≤ v ∧ v.toNat < k) ∧ (inBL f)[v.toNat]? = some true then some (.int .i64 (gB f v)) else none
 | _ => none
theorem blF_yes {f : Func} {k : Nat} {v : Int} (h0 : 0 ≤ v) (hk : v.toNat < k) (hs : (inBL f)[v.toNat]? = some true) : blF f k (.int .i64 v) = some (.int .i64 (gB f v)) := if_pos ⟨⟨h0, hk⟩, hs⟩
theorem blF_at {f : Func} {k : Nat} : blF f k (.int .i64 (k : Int)) = none := by
 refine if_neg ?_
 rintro ⟨⟨_, h⟩, _⟩
 omega
theorem blF_zero {f : Func} (key : Value) : none = blF f 0 key := by
 unfold blF
 split
 ·rw [if_neg]
  rintro ⟨⟨_, h⟩, _⟩
  omega
 ·rfl
theorem blF_next {f : Func} {k : Nat} (hs : (inBL f)[k]? = some true) {key : Value} (hkey : kdOk (.int .i64) key = true) : mset (blF f k) (.int .i64 (k : Int)) (.int .i64 (gB f (k : Int))) key = blF f (k + 1) key := by
  cases key with
  | int q v =>
    simp only [kdOk, decide_eq_true_eq] at hkey
    subst hkey
    unfold mset
    by_cases hv : v = (k : Int)
    · subst hv
      rw [if_pos (by simp [keq]), blF_yes (by omega) (by omega) (by rw [Int.toNat_natCast]; exact hs)]
    · rw [if_neg (by simp [keq]; exact hv)]
      unfold blF
      have : ((0 ≤ v ∧ v.toNat < k) ∧ (inBL f)[v.toNat]? = some true) = ((0 ≤ v ∧ v.toNat < k + 1) ∧ (inBL f)[v.toNat]? = some true) := by
        apply propext
        constructor
        · rintro ⟨⟨h1, h2⟩, h3⟩; exact ⟨⟨h1, by omega⟩, h3⟩
        · rintro ⟨⟨h1, h2⟩, h3⟩; exact ⟨⟨h1, by omega⟩, h3⟩
      simp only [this]
  | _ => simp [kdOk] at hkey
theorem blF_skip {f : Func} {k : Nat} (hs : (inBL f)[k]? = some false) : blF f (k + 1) = blF f k := by
 funext key
 unfold blF
 split
 ·rename_i v
  have : ((0 ≤ v ∧ v.toNat < k + 1) ∧ (inBL f)[v.toNat]? = some true) = ((0 ≤ v ∧ v.toNat < k) ∧ (inBL f)[v.toNat]? = some true) := by
   apply propext
   constructor
   ·rintro ⟨⟨h1, h2⟩, h3⟩
    refine ⟨⟨h1, ?_⟩, h3⟩
    rcases Nat.lt_or_ge v.toNat k with h | h
    ·exact h
    ·obtain rfl : v.toNat = k := by omega
     rw [hs] at h3; cases h3
   ·rintro ⟨⟨h1, h2⟩, h3⟩; exact ⟨⟨h1, by omega⟩, h3⟩
  simp only [this]
 ·rfl
set_option maxRecDepth 10000 in
set_option maxHeartbeats 1000000 in
theorem tfunc_pure (f : Func) (hf : funcOk f = true) : APure Try.prog 43 [.agg (funcC f)] (.agg (funcC (trimF f))) := by
  have hlen := funcOk_len hf
  have he := endsIn hf
  have hil := inBL_length f
  refine apureG _ _ Try.func43 (by kernel_rfl) t_trim_Func u_trim_Func rfl rfl (fun _ => ?_)
  simp [c_trim_Func, r_trim_Func]
  refine call_plain (ds := [.agg (funcC f)]) _ (by simp) (by simp) (fun _ => by simp; rfl) (fun _ => reachedT_pure f he (fun b hb => (endsSmall hf hb).2) (by omega)) ?_
  simp
  refine loop_s (κ := Nat) (fun k => k ≤ (inBL f).length) (fun k => (inBL f).length - k) (fun k => [(sl 16, .int k), (sl 5, .int (nst (inBL f) k))]) (fun k => [(5, .map (.int .i64) (nst (inBL f) k) (blF f k)), (1, .box [.d (.lit (.string ⟨#[]⟩)), .d (.lit (.int .i64 0)), .d (.lit (.int .i64 0)), .d (.lit (.slice none 0 0))]), (0, .box [.d (.str f.name), .d (.int f.bind), .d (.int f.params), .d (blocksD f.blocks)])]) 10 0 (srcs [(5, .id 5), (1, .id 1), (0, .id 0)]) (by simp) ?_ ?_
  · simp [nst]
    exact fun key _ => blF_zero key
  intro k hk
  simp
  have hnl := nst_le (inBL f) k
  refine ⟨fun hlt => ⟨hlt, ?_⟩, fun hge => ?_⟩
  · obtain ⟨s, hs⟩ : ∃ s, (inBL f)[k]? = some s := ⟨_, List.getElem?_eq_getElem (by rw [hil]; exact hlt)⟩
    have hns := nst_snoc hs
    rw [hs]
    cases s with
    | true =>
      have hgk : gB f (k : Int) = nst (inBL f) k := by unfold gB; rw [Int.toNat_natCast]
      simp [blF_at]
      refine ⟨k + 1, by omega, by omega, srcs [(5, .id 5), (1, .id 1), (0, .id 0)], ?_⟩
      simp at hns
      simp [SLeK, hns]
      refine ⟨⟨DLe_int (wrap_succ (by omega)), DLe_int (wrap_succ (by omega))⟩, fun key hkey => ?_⟩
      have h := blF_next hs hkey
      rw [hgk] at h
      exact h
    | false =>
      simp
      refine ⟨k + 1, by omega, by omega, srcs [(5, .id 5), (1, .id 1), (0, .id 0)], ?_⟩
      simp at hns
      simp [SLeK, hns, blF_skip hs]
      exact DLe_int (wrap_succ (by omega))
  obtain rfl : k = (inBL f).length := by omega
  obtain ⟨M, hM⟩ : ∃ M, blF f (inBL f).length = M := ⟨_, rfl⟩
  obtain ⟨c, hc⟩ : ∃ c, nst (inBL f) (inBL f).length = c := ⟨_, rfl⟩
  have hval : ∀ v : Int, 0 ≤ v → v.toNat < f.blocks.length → RchB f v.toNat → (M (.int .i64 v)).getD (.int .i64 0) = .int .i64 (gB f v) := fun v h0 hv hr => by
    rw [← hM, blF_yes h0 (by omega) ((inBL_iff he _).2 hr)]
    rfl
  simp only [hM, hc]
  refine loop_s (κ := Nat) (fun i => i ≤ f.blocks.length) (fun i => f.blocks.length - i) (fun i => [(sl 31, .int i), (sl 8, .own 2 (trimT f i).length)])
    (fun i => [(2, .row 44 8 (trimT f i).length fun j => blockC ((trimT f i)[j]?.getD default)), (5, .map (.int .i64) c M), (1, .box [.d (.lit (.string ⟨#[]⟩)), .d (.lit (.int .i64 0)), .d (.lit (.int .i64 0)), .d (.lit (.slice none 0 0))]), (0, .box [.d (.str f.name), .d (.int f.bind), .d (.int f.params), .d (blocksD f.blocks)])]) 30 0 (srcs [(2, .nil), (5, .id 5), (1, .id 1), (0, .id 0)]) (by simp) (by simp) ?_
  intro i hi
  have hln := trimT_length f i
  simp
  refine ⟨fun hlt => ?_, fun hge => ?_⟩
  · have hit : i < (inBL f).length := by rw [inBL_length]; exact hlt
    obtain ⟨s, hs⟩ : ∃ s, (inBL f)[i]? = some s := ⟨_, List.getElem?_eq_getElem hit⟩
    have hnext := trimT_next hlt hs
    obtain ⟨b, hb⟩ : ∃ b, f.blocks[i] = b := ⟨_, rfl⟩
    have hbm : b ∈ f.blocks := by rw [← hb]; exact List.getElem_mem _
    have hbi : f.blocks[i]? = some b := by rw [List.getElem?_eq_getElem hlt, hb]
    have hbs := endsSmall hf hbm
    have hbe := he b hbm
    rw [hb] at hnext
    rw [hs, getD_some hlt, hb]
    cases s with
    | false =>
      simp at hnext
      simp
      refine ⟨hlt, i + 1, by omega, by omega, srcs [(2, .id 2), (5, .id 5), (1, .id 1), (0, .id 0)], ?_⟩
      simp [SLeK, hnext]
      exact DLe_int (wrap_succ (by omega))
    | true =>
      simp only [if_pos] at hnext
      have hr := (inBL_iff he i).1 hs
      simp
      refine ⟨hlt, ?_⟩
      refine call_plain (ds := [.agg (blockC b)]) _ (by simp) (by simp) (fun _ => by simp; rfl) (fun _ => tblock_pure f b (funcOk_blocks hf b hbm) hbs.1.1 hbs.1.2) ?_
      have htk : (trimB b).kind = b.kind := rfl
      have htt : (trimB b).to = b.to := rfl
      have hte : (trimB b).els = b.els := rfl
      by_cases h3 : b.kind = 3
      · simp [htk, htt, hte, h3]
        refine ⟨by omega, i + 1, by omega, by omega, srcs [(2, .id 56), (5, .id 5), (1, .id 1), (0, .id 0)], ?_⟩
        simp [SLeK, hnext]
        refine ⟨DLe_int (wrap_succ (by omega)), fun j hj => appRow_snocG blockC default ?_ hj⟩
        simp [blockC, endT, *]
      have hvt := hval b.to (hbs.2.1 h3) (hbe.1 h3) (.to hr hbi h3)
      by_cases h2 : b.kind = 2
      · have hve := hval b.els (hbs.2.2 h2) (hbe.2 h2) (.els hr hbi h2)
        simp [htk, htt, hte, h2, hvt, hve]
        refine ⟨by omega, i + 1, by omega, by omega, srcs [(2, .id 72), (5, .id 5), (1, .id 1), (0, .id 0)], ?_⟩
        simp [SLeK, hnext]
        refine ⟨DLe_int (wrap_succ (by omega)), fun j hj => appRow_snocG blockC default ?_ hj⟩
        simp [blockC, endT, *]
      · simp [htk, htt, hte, h2, h3, hvt]
        refine ⟨by omega, i + 1, by omega, by omega, srcs [(2, .id 64), (5, .id 5), (1, .id 1), (0, .id 0)], ?_⟩
        simp [SLeK, hnext]
        refine ⟨DLe_int (wrap_succ (by omega)), fun j hj => appRow_snocG blockC default ?_ hj⟩
        simp [blockC, endT, *]
  · rw [trimT_all hge]
    exact DLe.refl _
def stepM {α : Type} (g : α → α) (xs : List α) (i : Nat) : List α := (xs.take i).map g ++ xs.drop i
theorem stepM_zero {α : Type} (g : α → α) (xs : List α) : stepM g xs 0 = xs := by simp [stepM]
theorem stepM_at {α : Type} {g : α → α} {xs : List α} {i : Nat} (hi : i < xs.length) : (stepM g xs i)[i]? = some xs[i] := by
 unfold stepM
 rw [List.getElem?_append_right (by simp; omega)]
 simp only [List.length_map, List.length_take, List.getElem?_drop]
 rw [show i + (i - min i xs.length) = i by omega, List.getElem?_eq_getElem hi]
theorem stepM_next {α : Type} {g : α → α} {xs : List α} {i : Nat} (hi : i < xs.length) (j : Nat) : (stepM g xs (i + 1))[j]? = if j = i then some (g xs[i]) else (stepM g xs i)[j]? := by
 unfold stepM
 by_cases h : j = i
 ·subst h
  rw [if_pos rfl, List.getElem?_append_left (by simp; omega)]
  simp [hi]
 ·rw [if_neg h]
  by_cases h1 : j < i
  ·rw [List.getElem?_append_left (by simp; omega), List.getElem?_append_left (by simp; omega)]
   simp [h1, show j < i + 1 by omega]
  ·rw [List.getElem?_append_right (by simp; omega), List.getElem?_append_right (by simp; omega)]
   simp only [List.length_map, List.length_take, List.getElem?_drop]
   congr 1
   omega
theorem stepM_all {α : Type} {g : α → α} {xs : List α} {i : Nat} (hi : xs.length ≤ i) : stepM g xs i = xs.map g := by
 unfold stepM
 rw [List.take_of_length_le hi, List.drop_eq_nil_of_le hi, List.append_nil]
set_option maxRecDepth 10000 in
theorem tmodule_pure (m : Module) (hok : ModOk m) : APure Try.prog 31 [.agg (moduleC m)] (.agg (moduleC (trimM m))) := by
 refine apureG _ _ Try.func31 (by kernel_rfl) t_trim_Module u_trim_Module rfl rfl (fun _ => ?_)
 simp [c_trim_Module, r_trim_Module]
 have hnf := hok.nf
 refine callvv_k m.funcs.length _ (by simp) (by simp) (by simp) (cloneF_own m.funcs (by omega)) ?_
 simp
 refine loop_s (κ := Nat) (fun i => i ≤ m.funcs.length) (fun i => m.funcs.length - i) (fun i => [(sl 12, .int i), (sl 10, .own 4 m.funcs.length)])
  (fun i => [(4, .vec 47 4 m.funcs.length fun j => (funcC ((stepM trimF m.funcs i)[j]?.getD default)).map .d), (0, .box [.own 4 m.funcs.length, .d (globsD m.globs)]), (1, .box [.d (.lit (.slice none 0 0)), .d (.lit (.slice none 0 0))])]) 11 0 (srcs [(4, .id 4), (0, .id 0), (1, .id 1)]) (by simp) (by simp [stepM_zero]) ?_
 intro i hi
 simp
 refine ⟨fun hlt => ?_, fun hge => ?_⟩
 ·rw [stepM_at hlt]
  obtain ⟨f, hf⟩ : ∃ f, m.funcs[i] = f := ⟨_, rfl⟩
  have hfm : f ∈ m.funcs := by rw [← hf]; exact List.getElem_mem hlt
  have hfo := hok.funcs f hfm
  simp [hf]
  refine ⟨hlt, ?_⟩
  refine call_plain (ds := [.agg (funcC f)]) _ (by simp) (by simp) (fun _ => by simp; rfl) (fun _ => func_pure f fun b hb x hx => by
   obtain ⟨k, hk, rfl⟩ := List.getElem_of_mem hx
   have := instOk_args ((blockOk_iff.1 (funcOk_blocks hfo b hb)).2.2.2.1 k hk)
   omega) ?_
  simp [hfo]
  refine call_plain (ds := [.agg (funcC f)]) _ (by simp) (by simp) (fun _ => by simp; rfl) (fun _ => tfunc_pure f hfo) ?_
  simp
  refine ⟨hlt, i + 1, by omega, by omega, srcs [(4, .id 4), (0, .id 0), (1, .id 1)], ?_⟩
  simp [SLeK]
  refine ⟨DLe_int (wrap_succ (by omega)), fun j hj => ?_⟩
  rw [stepM_next hlt, hf]
  by_cases hji : j = i
  ·rw [if_pos hji, if_pos hji]
   simp
  ·rw [if_neg hji, if_neg hji]
   simp
 ·rw [stepM_all hge]
  have e : trimM m = { m with funcs := m.funcs.map trimF } := rfl
  rw [e]
  refine DLe.of_eq ?_
  simp [moduleC, funcsD]
  rfl
def c_pass_passes_1 : ACode :=
 (.seq (.reg [Ro 2 (.box true (Sv 0)), Ro 3 (.new [(.slice none 0 0), (.slice none 0 0)])])
 (.seq (.reg [Ro 4 (Lk 2 2), Ro 5 (Ld 1), Ro 6 (.call true (.f 34) [Sv 4, Sv 5]), Rn (.st (Sv 3) (Sv 6) 2)])
 .ret))
def r_pass_passes_1 : List ARes := [(.cell (sl 3) (some 2))]
theorem t_pass_passes_1 : (Try.f33).body.bind (trCode Try.prog 8 (Try.f33).ntmps [3] [] (drOk 8)) = some c_pass_passes_1 := by kernel_rfl
theorem u_pass_passes_1 : trRess Try.prog 8 (Try.f33).results.toList = some r_pass_passes_1 := by kernel_rfl
def c_pass_behind : ACode :=
 (.seq (.reg [Ro 3 (.box false (Sv 0)), Ro 6 (.new [(.slice none 0 0), (.slice none 0 0)]), Ro 7 (.mv (.c (.bool false)))])
 (.seq (.reg [Ro 8 (.mv (.c (.bool true)))])
 (.seq .skip
 (.seq (.seq (.reg [Ro 13 (Mv 2), Ro 14 (.len false (Sv 13)), Ro 15 (.mv (Ci 0))])
 (.block 0
 (.loop (.seq (.reg [Ro 16 (.bin .lss (Sv 15) (Sv 14))])
 (.seq (.cond (Sv 16)
 .skip
 (.exit 0))
 (.seq (.block 1
 (.seq (.reg [Ro 17 (.idx true (Sv 13) (Sv 15) 1), Ro 18 (Ld 17), Ro 10 (Mv 18)])
 (.seq (.seq (.reg [Ro 20 (.ld false (Sv 3) (some 2)), Ro 21 (Mv 10), Ro 22 (Mv 1), Ro 23 (.call false (.f 12) [Sv 20, Sv 21, Sv 22]), Ro 19 (Mv 23), Ro 24 (.ext (Sv 19) 0), Ro 25 (.ext (Sv 19) 1), Ro 11 (.new [(.slice none 0 0), (.slice none 0 0)]), Rn (.ini 1 (Sv 11) (Sv 24) 2), Ro 12 (Mv 25)])
 (.frz (sl 11)))
 (.seq (.seq (.reg [Ro 26 (Mv 12), Ro 27 (.bin .neq (Sv 26) (Ci 0))])
 (.cond (Sv 27)
 (.seq (.reg [Ro 8 (.mv (.c (.bool false)))])
 (.exit 0))
 .skip))
 (.reg [Ro 28 (Lk 11 2), Rn (.st (Sv 3) (Sv 28) 2)])))))
 (.reg [Ro 29 (.bin .add (Sv 15) (Ci 1)), Ro 15 (Mv 29)])))))))
 (.seq (.reg [Ro 30 (.ld false (Sv 3) (some 2)), Ro 31 (Mv 8), Rn (.st (Sv 6) (Sv 30) 2), Ro 7 (Mv 31)])
 .ret)))))
def r_pass_behind : List ARes := [(.cell (sl 6) (some 2)), (.tmp (sl 7))]
theorem t_pass_behind : (Try.f9).body.bind (trCode Try.prog 8 (Try.f9).ntmps [3, 6, 20, 30] [] (drOk 8)) = some c_pass_behind := by kernel_rfl
theorem u_pass_behind : trRess Try.prog 8 (Try.f9).results.toList = some r_pass_behind := by kernel_rfl
def c_pass_Run : ACode :=
 (.seq (.reg [Ro 3 (.box true (Sv 0)), Ro 6 (.new [(.slice none 0 0), (.slice none 0 0)]), Ro 7 (.mv (Ci 0))])
 (.seq (.seq (.seq (.reg [Ro 14 (.bld [(.slice none 0 0), (.slice none 0 0)] []), Ro 15 (Mv 2), Ro 16 (Mv 1), Ro 17 (.call true (.f 9) [Sv 14, Sv 15, Sv 16]), Ro 13 (Mv 17), Ro 18 (.ext (Sv 13) 0), Ro 19 (.ext (Sv 13) 1), Ro 8 (.new [(.slice none 0 0), (.slice none 0 0)]), Rn (.ini 1 (Sv 8) (Sv 18) 2), Ro 9 (Mv 19)])
 (.frz (sl 8)))
 (.seq (.reg [Ro 20 (Mv 9), Ro 21 (.not (Sv 20)), Ro 22 (Mv 21), Rg 23 22 false (Mv 1), Rg 24 22 false (.len false (Sv 23)), Rg 25 22 false (.bin .gtr (Sv 24) (Ci 16)), Ro 26 (.pick (Sv 22) (.c (.bool true)) (Sv 25))])
 (.cond (Sv 26)
 (.seq (.reg [Ro 27 (.bld [(.slice none 0 0), (.slice none 0 0)] []), Rn (.st (Sv 6) (Sv 27) 2), Ro 7 (.mv (Ci 1))])
 .ret)
 .skip)))
 (.seq (.seq (.reg [Ro 28 (Lk 3 2), Ro 29 (.call true (.f 10) [Sv 28]), Ro 10 (Mv 29)])
 (.seq (.reg [Ro 30 (Mv 10), Ro 31 (.bin .neq (Sv 30) (Ci 0))])
 (.cond (Sv 31)
 (.seq (.reg [Ro 32 (.bld [(.slice none 0 0), (.slice none 0 0)] []), Ro 33 (Mv 10), Rn (.st (Sv 6) (Sv 32) 2), Ro 7 (Mv 33)])
 .ret)
 .skip)))
 (.seq (.seq (.reg [Ro 35 (Lk 3 2), Ro 36 (Mv 2), Ro 37 (Mv 1), Ro 38 (.call true (.f 9) [Sv 35, Sv 36, Sv 37]), Ro 34 (Mv 38), Ro 39 (.ext (Sv 34) 0), Ro 40 (.ext (Sv 34) 1), Ro 11 (.new [(.slice none 0 0), (.slice none 0 0)]), Rn (.ini 1 (Sv 11) (Sv 39) 2), Ro 12 (Mv 40)])
 (.frz (sl 11)))
 (.seq (.reg [Ro 41 (Lk 11 2), Rn (.st (Sv 6) (Sv 41) 2), Ro 7 (.mv (Ci 0))])
 .ret)))))
def r_pass_Run : List ARes := [(.cell (sl 6) (some 2)), (.tmp (sl 7))]
theorem t_pass_Run : (Try.f6).body.bind (trCode Try.prog 8 (Try.f6).ntmps [6] [] (drOk 8)) = some c_pass_Run := by kernel_rfl
theorem u_pass_Run : trRess Try.prog 8 (Try.f6).results.toList = some r_pass_Run := by kernel_rfl
def X00 : Nat → Nat → Prop := fun _ _ => False
def fnV (F : FuncId) : Value := .func (.func F) #[] #[]
def passF (u : Value) : Value → Option Value :=
 mset (mset (mset (mset (fun _ => none) (.int .i64 1) (fnV 30)) (.int .i64 2) (fnV 31)) (.int .i64 3) (fnV 32)) (.int .i64 4) u
theorem mapU {w w' : World} {γ : Nat → Option Value} {n : Nat} {f : Value → Option Value} (hS : St X00 w γ w' (hadd 0 (.map (.int .i64) n f) hnil)) {b : Nat} (hγ : γ 0 = some (.map (some b))) (key : Int) (x : Value) (bb : Nat) (hb : bb < b) (c : Value) (hc : w'.cell? ⟨bb, 0, none⟩ = some c) (hbb : bb < w'.heap.size) :
  ∃ w2 n2, (Instr.mapUpdate 65 (.map (some b)) (.int .i64 key) x).run Try.prog w' = .ok () w2 ∧ St X00 w γ w2 (hadd 0 (.map (.int .i64) n2 (mset f (.int .i64 key) x)) hnil) ∧ w2.cell? ⟨bb, 0, none⟩ = some c ∧ bb < w2.heap.size := by
 obtain ⟨w2, h1, h2, h3⟩ := run_mset (P := Try.prog) (t := 65) (x := x) (kt := 3) (et := 63) (by kernel_rfl) (kd := .int .i64) (by show Try.prog.underlying _ = _; kernel_rfl) hS (id := 0) (n := n) (f := f) (by simp) hγ (key := .int .i64 key) rfl
 have hX : ∀ H n0 f0, H = hadd 0 (.map (.int .i64) n0 f0) hnil → ¬ XOf X00 γ H bb 0 := by
  rintro H n0 f0 rfl (h | ⟨id, ob, v, k1, k2, k3, _⟩)
  ·exact h
  ·simp at k1
   obtain ⟨rfl, _⟩ := k1
   rw [hγ] at k2
   injection k2 with k2
   subst k2
   simp [blk] at k3
   omega
 refine ⟨w2, if (f (.int .i64 key)).isSome = true then n else n + 1, h1, ?_, h3.cells bb 0 c hbb (hX _ _ _ rfl) hc, Nat.lt_of_lt_of_le hbb h3.size⟩
 have e : ∀ m g, hset (hadd 0 (.map (.int .i64) n f) hnil) 0 (.map (.int .i64) m g) = hadd 0 (.map (.int .i64) m g) hnil := fun m g => by
  simp
 rw [e] at h2
 exact h2
set_option maxRecDepth 100000 in
set_option maxHeartbeats 2000000 in
theorem passes_calls (budget : Int) (w : World) :
  Calls Try.prog 19 #[.int .i64 budget] w fun e w' => Ext w w' ∧ ∃ b bb γ n, e = .returned (.map (some b)) ∧ γ 0 = some (.map (some b)) ∧
   St X00 w γ w' (hadd 0 (.map (.int .i64) n (passF (.func (.func 33) #[] #[.pointer (some ⟨bb, 0, none⟩)]))) hnil) ∧ w.heap.size ≤ bb ∧ w'.cell? ⟨bb, 0, none⟩ = some (.int .i64 budget) ∧ bb < w'.heap.size := by
 go_enter Try.func19, Try.ntmps19
 have hS0 : St X00 w (fun _ => none) w hnil := ⟨fun b o h => h.elim, Ext.refl w, fun id o h => by simp at h, fun id id' o o' v v' b h => by simp at h⟩
 have he1 : Ext w (w.alloc (.cells #[.int .i64 budget] 3)) := Ext.alloc w _
 obtain ⟨w1, hw1⟩ : ∃ w1, w.alloc (.cells #[.int .i64 budget] 3) = w1 := ⟨_, rfl⟩
 have hc1 : w1.cell? ⟨w.heap.size, 0, none⟩ = some (.int .i64 budget) := by rw [← hw1]; simp only [World.cell?, heap_alloc_new]; rfl
 have hs1 : w1.heap.size = w.heap.size + 1 := by rw [← hw1]; exact World.size_alloc _ _
 rw [hw1] at he1
 obtain ⟨hS1, hk1, hkk1⟩ := (hS0.stay he1).newMap 0 rfl (.int .i64)
 obtain ⟨w2, hw2⟩ : ∃ w2, w1.alloc (.map #[] 0) = w2 := ⟨_, rfl⟩
 rw [hw2] at hS1
 have hc2 : w2.cell? ⟨w.heap.size, 0, none⟩ = some (.int .i64 budget) := by
  have := (Ext.alloc w1 (.map #[] 0)).block w.heap.size (by omega)
  rw [hw2] at this
  rw [← hc1]
  exact World.cell?_of_block this
 rw [hs1] at hS1
 have hγ : upd (fun _ => none) 0 (Value.map (some (w.heap.size + 1))) 0 = some (.map (some (w.heap.size + 1))) := rfl
 have hb2 : w.heap.size < w2.heap.size := by
  have := (Ext.alloc w1 (.map #[] 0)).size
  rw [hw2] at this
  omega
 obtain ⟨w3, n3, hr3, hS3, hc3, hb3⟩ := mapU hS1 hγ 1 (fnV 30) w.heap.size (by omega) _ hc2 hb2
 obtain ⟨w4, n4, hr4, hS4, hc4, hb4⟩ := mapU hS3 hγ 2 (fnV 31) w.heap.size (by omega) _ hc3 hb3
 obtain ⟨w5, n5, hr5, hS5, hc5, hb5⟩ := mapU hS4 hγ 3 (fnV 32) w.heap.size (by omega) _ hc4 hb4
 obtain ⟨w6, n6, hr6, hS6, hc6, hb6⟩ := mapU hS5 hγ 4 (.func (.func 33) #[] #[.pointer (some ⟨w.heap.size, 0, none⟩)]) w.heap.size (by omega) _ hc5 hb5
 simp only [fnV] at hr3 hr4 hr5
 go_wp2
 rw [run_makeMap, hw2]
 simp only [Result.andThen]
 go_wp2
 refine bodyPost_ret (v := .map (some (w.heap.size + 1))) (by simp [results, Try.results19]) rfl ?_
 exact ⟨hS6.ext, w.heap.size + 1, w.heap.size, _, n6, rfl, hγ, hS6, Nat.le_refl _, hc6, hb6⟩
theorem passF_at (u : Value) (tag : Int) : passF u (.int .i64 tag) = if tag = 4 then some u else if tag = 3 then some (fnV 32) else if tag = 2 then some (fnV 31) else if tag = 1 then some (fnV 30) else none := by
 simp [passF, mset, keq]
set_option maxRecDepth 10000 in
theorem passes1_pure (m : Module) (hm : ∀ f ∈ m.funcs, ∀ b ∈ f.blocks, ∀ i ∈ b.ins, i.args.length ≤ 17592186044416) (budget : Int) : APure Try.prog 33 [.agg (moduleC m), .cref [.int budget] 0] (.agg (moduleC (inlM m budget))) := by
 refine apureG _ _ Try.func33 (by kernel_rfl) t_pass_passes_1 u_pass_passes_1 rfl rfl (fun _ => ?_)
 simp [c_pass_passes_1, r_pass_passes_1]
 refine call_plain (ds := [.agg (moduleC m), .int budget]) _ (by simp) (by simp) (fun _ => by simp; rfl) (fun _ => moduleI_pure m hm budget) ?_
 simp
 exact DLe.refl _
theorem store1 {w : World} {g o : Nat} {t : TypeId} {cur : Array Value} (h : w.heap[g]? = some (.cells cur t (0, 0))) (ho : o < cur.size) {v : Value} (hv : v.oneCell' = true) : (store ⟨g, o, none⟩ v).run Try.prog w = .ok () (w.setRow g (cur.toList.take o ++ [v] ++ cur.toList.drop (o + 1)).toArray) := by
  have hs := run_storeCells_at Try.prog g o t [v] 0 cur w h (by simp; omega) (by simpa using hv)
  simp only [storeCells] at hs
  have e : (⟨g, o, none⟩ : Addr).add 0 = ⟨g, o, none⟩ := by simp [Addr.add]
  rw [e] at hs
  simp only [Sem.run_bind, List.length_singleton, Nat.add_zero] at hs
  cases hr : (store ⟨g, o, none⟩ v).run Try.prog w with
  | ok u w' =>
    rw [hr] at hs
    simpa [Sem.run_pure] using hs
  | halt h' w' =>
    rw [hr] at hs
    simp at hs
def oneR (m : Module) (tag budget : Int) : DV := if tagOk tag = true then .tup [.agg (moduleC (oneP m tag budget)), .int 0] else .tup [.agg (moduleC ⟨[], []⟩), .int 1]
theorem lookT {w w1 : World} {γ : Nat → Option Value} {n : Nat} {u : Value} (hS : St X00 w γ w1 (hadd 0 (.map (.int .i64) n (passF u)) hnil)) {b : Nat} (hγ : γ 0 = some (.map (some b))) (tag : Int) :
  (Instr.lookup 65 (.map (some b)) (.int .i64 tag) true).run Try.prog w1 = .ok (.tuple #[(passF u (.int .i64 tag)).getD .nilFunc, .bool (passF u (.int .i64 tag)).isSome]) w1 := by
 have hinf : ∃ i, Try.prog.info? 63 = some i ∧ i.zero = some .nilFunc := by
  have h : (Try.prog.info? 63).bind (·.zero) = some .nilFunc := by kernel_rfl
  cases hi : Try.prog.info? 63 with
  | none => rw [hi] at h; cases h
  | some i => rw [hi] at h; exact ⟨i, rfl, h⟩
 obtain ⟨i, hi, hz⟩ := hinf
 have h := run_mget (P := Try.prog) (t := 65) (kt := 3) (et := 63) (z := .nilFunc) (ok := true) (by kernel_rfl) (kd := .int .i64) (by show Try.prog.underlying _ = _; kernel_rfl) (w := w1) (by simp [zeroValue, typeInfo, hi, hz]) hS (id := 0) (n := n) (f := passF u) (by simp) hγ (key := .int .i64 tag) rfl
 exact h
set_option maxRecDepth 100000 in
set_option maxHeartbeats 2000000 in
theorem pone_pure (m : Module) (hok : ModOk m) (hk : KOk' m) (hm : Small m) (tag budget : Int) : APure Try.prog 12 [.agg (moduleC m), .int tag, .int budget] (oneR m tag budget) := by
  refine ⟨⟨_, _, Try.func12, by kernel_rfl, rfl⟩, fun X w vs hX hvs => ?_⟩
  obtain ⟨v, vs1, he, hv, hr1⟩ := hvs.uncons
  obtain ⟨v1, vs2, he1, hv1, hr2⟩ := hr1.uncons
  obtain ⟨v2, vs3, he2, hv2, hr3⟩ := hr2.uncons
  have h3 : vs3 = [] := List.length_eq_zero_iff.1 hr3.1
  cases hv1
  cases hv2
  have hvv : ∃ va vb, v = .agg #[va, vb] := by
    cases hv with
    | agg vs _ hl hr => match vs, hl with
      | [a, c], _ => exact ⟨a, c, rfl⟩
  obtain ⟨va, vb, rfl⟩ := hvv
  have hvs' : vs = #[.agg #[va, vb], .int .i64 tag, .int .i64 budget] := by
    apply Array.toList_inj.1
    rw [he, he1, he2, h3]
  subst hvs'
  clear he he1 he2 hvs hr1 hr2 hr3
  go_enter Try.func12, Try.ntmps12
  go_wp2_with fail
  refine (passes_calls budget _).mono ?_
  rintro e w1 ⟨hx1, b, bb, γ, n, rfl, hγ, hS, hbb, hc, hb⟩
  have hl := lookT hS hγ tag
  rw [passF_at] at hl
  obtain ⟨wa, hwa⟩ : ∃ wa, w.alloc (.cells #[va, vb] 25) = wa := ⟨_, rfl⟩
  obtain ⟨w0, hw0⟩ : ∃ w0, wa.alloc (.cells #[.slice none 0 0, .slice none 0 0] 25) = w0 := ⟨_, rfl⟩
  have hsa : wa.heap.size = w.heap.size + 1 := by rw [← hwa]; exact World.size_alloc _ _
  have hs0 : w0.heap.size = w.heap.size + 2 := by rw [← hw0]; rw [World.size_alloc, hsa]
  have hxa : Ext w wa := hwa ▸ Ext.alloc w _
  have hx0 : Ext wa w0 := hw0 ▸ Ext.alloc wa _
  rw [hwa, hw0] at hx1
  have hbk : w1.heap[w.heap.size]? = some (.cells #[va, vb] 25 (0, 0)) := by
    rw [hx1.block _ (by omega), hx0.block _ (by omega), ← hwa]
    exact heap_alloc_new w _
  have hbr : w1.heap[w.heap.size + 1]? = some (.cells #[.slice none 0 0, .slice none 0 0] 25 (0, 0)) := by
    rw [hx1.block _ (by omega), ← hw0, ← hsa]
    exact heap_alloc_new wa _
  have hca : w1.cell? ⟨w.heap.size, 0, none⟩ = some va := by simp only [World.cell?, hbk]; rfl
  have hcb : w1.cell? ⟨w.heap.size, 1, none⟩ = some vb := by simp only [World.cell?, hbk]; rfl
  have hx01 : Ext w w1 := hxa.trans (hx0.trans hx1)
  have hX1 : ∀ b o, X b o → b < w1.heap.size := fun b o h => Nat.lt_of_lt_of_le (hX b o h) hx01.size
  have hv1 : DRep X w1 (.agg #[va, vb]) (.agg (moduleC m)) := hv.ext hx01
  obtain ⟨X', hX'⟩ : ∃ X' : Nat → Nat → Prop, X' = fun b o => X b o ∨ b = w.heap.size + 1 := ⟨_, rfl⟩
  have hX1' : ∀ b o, X' b o → b < w1.heap.size := fun b o h => by
    rw [hX'] at h
    rcases h with h | h
    · exact hX1 b o h
    · have := (Array.getElem?_eq_some_iff.1 hbr).1
      omega
  have hK1 : Keeps X X' w w1 := .of_blocks hx01.size (fun k hk => .inr (hx01.block k hk)) (fun k o hk h => by
    rw [hX'] at h
    rcases h with h | h
    · exact h
    · omega)
  have hv1' : DRep X' w1 (.agg #[va, vb]) (.agg (moduleC m)) := hv.mono hK1
  have htail : ∀ {m' : Module} {r : Value} {w2 : World}, Ext w1 w2 → DRep X' w2 r (.agg (moduleC m')) → ∃ ra rb w3 w4, r = .agg #[ra, rb] ∧ (store ⟨w.heap.size + 1, 0, none⟩ ra).run Try.prog w2 = .ok () w3 ∧ (store ⟨w.heap.size + 1, 1, none⟩ rb).run Try.prog w3 = .ok () w4 ∧
      w4.cell? ⟨w.heap.size + 1, 0, none⟩ = some ra ∧ w4.cell? ⟨w.heap.size + 1, 1, none⟩ = some rb ∧ Ext w w4 ∧ DRep X w4 (.agg #[ra, rb]) (.agg (moduleC m')) := fun {m' r w2} hx hr => by
    have hsl : ∀ {v : Value} {n len : Nat} {row : Nat → List DV}, DRep X' w2 v (.sl n len row) → v.oneCell' = true := fun {v n len row} h => by
      cases h <;> rfl
    have hvv : ∃ va vb, r = .agg #[va, vb] ∧ DRep X' w2 va (funcsD m'.funcs) ∧ DRep X' w2 vb (globsD m'.globs) := by
      cases hr with
      | agg vs _ hl hr => match vs, hl with
        | [a, c], _ => exact ⟨a, c, rfl, hr 0 (by simp) (by simp), hr 1 (by simp) (by simp)⟩
    obtain ⟨ra, rb, rfl, hra, hrb⟩ := hvv
    have hb2 : w2.heap[w.heap.size + 1]? = some (.cells #[.slice none 0 0, .slice none 0 0] 25 (0, 0)) := by rw [hx.block _ (Array.getElem?_eq_some_iff.1 hbr).1]; exact hbr
    have s1 := store1 hb2 (o := 0) (by simp) (hsl hra)
    have hb3 := setRow_heap w2 (w.heap.size + 1) _ (List.take 0 [Value.slice none 0 0, .slice none 0 0] ++ [ra] ++ List.drop 1 [Value.slice none 0 0, .slice none 0 0]).toArray _ _ hb2
    have s2 := store1 hb3 (o := 1) (by simp) (hsl hrb)
    have hb4 := setRow_heap _ (w.heap.size + 1) _ (List.take 1 (List.take 0 [Value.slice none 0 0, .slice none 0 0] ++ [ra] ++ List.drop 1 [Value.slice none 0 0, .slice none 0 0]) ++ [rb] ++ List.drop 2 (List.take 0 [Value.slice none 0 0, .slice none 0 0] ++ [ra] ++ List.drop 1 [Value.slice none 0 0, .slice none 0 0])).toArray _ _ hb3
    refine ⟨ra, rb, _, _, rfl, s1, s2, ?_, ?_, ?_, ?_⟩
    · simp only [World.cell?, hb4]
      rfl
    · simp only [World.cell?, hb4]
      rfl
    · exact setRow_ext _ (setRow_ext _ (hx01.trans hx) (by omega)) (by omega)
    · refine hr.mono (.of_blocks ?_ (fun k hk => ?_) (fun k o hk h => by rw [hX']; exact .inl h))
      · rw [setRow_size, setRow_size]
        exact Nat.le_refl _
      · by_cases e : k = w.heap.size + 1
        · exact .inl fun q => by rw [hX']; exact .inr e
        · exact .inr ((setRow_other _ _ k _ (by omega)).trans (setRow_other _ _ k _ (by omega)))
  rw [hwa, hw0] at hbb
  rw [hs0] at hbb
  have hcap : DRep X' w1 (.pointer (some ⟨bb, 0, none⟩)) (.cref [.int budget] 0) := by
    refine .cref bb 0 0 [.int budget] [.int .i64 budget] hb (fun j hj h => ?_) rfl (fun j v hj => ?_) (fun j h h' => ?_)
    · rw [hX'] at h
      rcases h with h | h
      · have := hX _ _ h
        omega
      · omega
    · match j, hj with
      | 0, hj => simp at hj; subst hj; exact hc
    · match j, h with
      | 0, _ => exact .lit _
  have hfin : ∀ {m' : Module} {ra rb : Value} {w4 : World} {k : Int}, DRep X w4 (.agg #[ra, rb]) (.agg (moduleC m')) → ∀ i (h : i < [Value.agg #[ra, rb], .int .i64 k].length) (h' : i < [DV.agg (moduleC m'), .int k].length), DRep X w4 [Value.agg #[ra, rb], .int .i64 k][i] [DV.agg (moduleC m'), .int k][i] := fun h i h1 h2 => by
    match i, h1 with
    | 0, _ => exact h
    | 1, _ => exact .lit _
  by_cases h4 : tag = 4
  · subst h4
    simp [fnV] at hl
    go_wp2_with fail
    refine ((passes1_pure m hm.args budget).2 X' w1 _ hX1' (DReps.cons hv1' (DReps.cons hcap (DReps.nil _ _)))).mono ?_
    rintro e w2 ⟨hx2, r, rfl, hr⟩
    obtain ⟨ra, rb, w3, w4, rfl, s1, s2, c1, c2, hx4, hr4⟩ := htail hx2 hr
    go_wp2_with fail
    refine bodyPost_ret (v := .tuple #[.agg #[ra, rb], .int .i64 0]) (by simp [results, Try.results12, go_sem, c1, c2]) rfl ?_
    exact ⟨hx4, _, rfl, .tup [.agg #[ra, rb], .int .i64 0] _ rfl (hfin hr4)⟩
  by_cases h3' : tag = 3
  · subst h3'
    simp [fnV] at hl
    go_wp2_with fail
    refine ((drop_pure m hm).2 X' w1 _ hX1' (DReps.cons hv1' (DReps.nil _ _))).mono ?_
    rintro e w2 ⟨hx2, r, rfl, hr⟩
    obtain ⟨ra, rb, w3, w4, rfl, s1, s2, c1, c2, hx4, hr4⟩ := htail hx2 hr
    go_wp2_with fail
    refine bodyPost_ret (v := .tuple #[.agg #[ra, rb], .int .i64 0]) (by simp [results, Try.results12, go_sem, c1, c2]) rfl ?_
    exact ⟨hx4, _, rfl, .tup [.agg #[ra, rb], .int .i64 0] _ rfl (hfin hr4)⟩
  by_cases h2 : tag = 2
  · subst h2
    simp [fnV] at hl
    go_wp2_with fail
    refine ((tmodule_pure m hok).2 X' w1 _ hX1' (DReps.cons hv1' (DReps.nil _ _))).mono ?_
    rintro e w2 ⟨hx2, r, rfl, hr⟩
    obtain ⟨ra, rb, w3, w4, rfl, s1, s2, c1, c2, hx4, hr4⟩ := htail hx2 hr
    go_wp2_with fail
    refine bodyPost_ret (v := .tuple #[.agg #[ra, rb], .int .i64 0]) (by simp [results, Try.results12, go_sem, c1, c2]) rfl ?_
    exact ⟨hx4, _, rfl, .tup [.agg #[ra, rb], .int .i64 0] _ rfl (hfin hr4)⟩
  by_cases h1 : tag = 1
  · subst h1
    simp [fnV] at hl
    go_wp2_with fail
    refine ((fmodule_pure m hok hk).2 X' w1 _ hX1' (DReps.cons hv1' (DReps.nil _ _))).mono ?_
    rintro e w2 ⟨hx2, r, rfl, hr⟩
    obtain ⟨ra, rb, w3, w4, rfl, s1, s2, c1, c2, hx4, hr4⟩ := htail hx2 hr
    go_wp2_with fail
    refine bodyPost_ret (v := .tuple #[.agg #[ra, rb], .int .i64 0]) (by simp [results, Try.results12, go_sem, c1, c2]) rfl ?_
    exact ⟨hx4, _, rfl, .tup [.agg #[ra, rb], .int .i64 0] _ rfl (hfin hr4)⟩
  rw [if_neg h4, if_neg h3', if_neg h2, if_neg h1] at hl
  simp at hl
  have f0 : w1.cell? ⟨w.heap.size + 1, 0, none⟩ = some (.slice none 0 0) := by simp only [World.cell?, hbr]; rfl
  have f1 : w1.cell? ⟨w.heap.size + 1, 1, none⟩ = some (.slice none 0 0) := by simp only [World.cell?, hbr]; rfl
  have z0 : w1.frozen? ⟨w.heap.size + 1, 0, none⟩ = false := by simp only [World.frozen?, hbr]; rfl
  have z1 : w1.frozen? ⟨w.heap.size + 1, 1, none⟩ = false := by simp only [World.frozen?, hbr]; rfl
  have hself := setRow_self w1 (w.heap.size + 1) _ _ _ hbr
  have e0 : w1.setCell ⟨w.heap.size + 1, 0, none⟩ (.slice none 0 0) = w1 := by
    have s := store1 hbr (o := 0) (by simp) (v := .slice none 0 0) rfl
    rw [show (List.take 0 (#[Value.slice none 0 0, .slice none 0 0] : Array Value).toList ++ [Value.slice none 0 0] ++ List.drop 1 (#[Value.slice none 0 0, .slice none 0 0] : Array Value).toList).toArray = #[.slice none 0 0, .slice none 0 0] from rfl, hself] at s
    rw [run_store Try.prog w1 _ _ _ rfl] at s
    simpa [stored, f0, z0] using s
  have e1 : w1.setCell ⟨w.heap.size + 1, 1, none⟩ (.slice none 0 0) = w1 := by
    have s := store1 hbr (o := 1) (by simp) (v := .slice none 0 0) rfl
    rw [show (List.take 1 (#[Value.slice none 0 0, .slice none 0 0] : Array Value).toList ++ [Value.slice none 0 0] ++ List.drop 2 (#[Value.slice none 0 0, .slice none 0 0] : Array Value).toList).toArray = #[.slice none 0 0, .slice none 0 0] from rfl, hself] at s
    rw [run_store Try.prog w1 _ _ _ rfl] at s
    simpa [stored, f1, z1] using s
  go_wp2_with fail
  have hno : tagOk tag = false := by rw [← Bool.not_eq_true, tagOk_iff]; omega
  have e : oneR m tag budget = .tup [.agg (moduleC ⟨[], []⟩), .int 1] := by unfold oneR; rw [hno]; rfl
  rw [e]
  refine bodyPost_ret (v := .tuple #[.agg #[.slice none 0 0, .slice none 0 0], .int .i64 1]) (by simp [results, Try.results12, go_sem, f0, f1]) rfl ?_
  refine ⟨hx01, _, rfl, .tup [.agg #[.slice none 0 0, .slice none 0 0], .int .i64 1] _ rfl (hfin (.agg [.slice none 0 0, .slice none 0 0] _ rfl fun i h1 h2 => ?_))⟩
  match i, h1 with
  | 0, _ => exact .nil _ _
  | 1, _ => exact .nil _ _
def c_eval_Whole : ACode :=
 (.seq (.reg [Ro 1 (.box true (Sv 0)), Ro 2 (.mv (Ci 0))])
 (.seq (.seq (.reg [Ro 13 (Lk 1 2), Ro 14 (.call true (.f 13) [Sv 13]), Ro 3 (Mv 14)])
 (.seq (.reg [Ro 15 (Mv 3), Ro 16 (.bin .neq (Sv 15) (Ci 0))])
 (.cond (Sv 16)
 (.seq (.reg [Ro 17 (Mv 3), Ro 2 (Mv 17)])
 .ret)
 .skip)))
 (.seq (.seq (.seq (.reg [Ro 19 (Lk 1 2), Ro 20 (.call true (.f 14) [Sv 19, (.c (.string ⟨#[109, 97, 105, 110]⟩))]), Ro 18 (Mv 20), Ro 21 (.ext (Sv 18) 0), Ro 22 (.ext (Sv 18) 1), Ro 4 (.new [(.string ⟨#[]⟩), (.int .i64 0), (.int .i64 0), (.slice none 0 0)]), Rn (.ini 1 (Sv 4) (Sv 21) 4), Ro 5 (Mv 22)])
 (.frz (sl 4)))
 (.seq (.reg [Ro 23 (Mv 5), Ro 24 (.not (Sv 23)), Ro 25 (Mv 24), Rg 26 25 false (Fd 4 3), Rg 27 25 false (Ld 26), Rg 28 25 false (.len false (Sv 27)), Rg 29 25 false (.bin .eql (Sv 28) (Ci 0)), Ro 30 (.pick (Sv 25) (.c (.bool true)) (Sv 29)), Ro 31 (Mv 30), Rg 32 31 false (Fd 4 2), Rg 33 31 false (Ld 32), Rg 34 31 false (.bin .neq (Sv 33) (Ci 0)), Ro 35 (.pick (Sv 31) (.c (.bool true)) (Sv 34))])
 (.cond (Sv 35)
 (.seq (.reg [Ro 2 (.mv (Ci 11))])
 .ret)
 .skip)))
 (.seq (.reg [Ro 36 (.mmk .string), Ro 6 (.new [(.map none)]), Rn (.ini 1 (Sv 6) (Sv 36) 1)])
 (.seq (.seq (.reg [Ro 37 (Fd 1 0), Ro 38 (Ld 37), Ro 39 (.len false (Sv 38)), Ro 40 (.mv (Ci 0))])
 (.block 0
 (.loop (.seq (.reg [Ro 41 (.bin .lss (Sv 40) (Sv 39))])
 (.seq (.cond (Sv 41)
 .skip
 (.exit 0))
 (.seq (.block 1
 (.seq (.seq (.reg [Ro 42 (.idx true (Sv 38) (Sv 40) 4), Ro 43 (Lk 42 4), Ro 8 (.new [(.string ⟨#[]⟩), (.int .i64 0), (.int .i64 0), (.slice none 0 0)]), Rn (.ini 1 (Sv 8) (Sv 43) 4)])
 (.frz (sl 8)))
 (.reg [Ro 44 (.ld false (Sv 6) none), Ro 45 (Fd 8 0), Ro 46 (Ld 45), Ro 47 (Fd 8 3), Ro 48 (Ld 47), Ro 49 (.len false (Sv 48)), Ro 50 (.bin .gtr (Sv 49) (Ci 0)), Rn (.mset false (Sv 44) (Sv 46) (Sv 50) .string)])))
 (.reg [Ro 51 (.bin .add (Sv 40) (Ci 1)), Ro 40 (Mv 51)])))))))
 (.seq (.seq (.reg [Ro 52 (Fd 1 1), Ro 53 (Ld 52), Ro 54 (.len false (Sv 53)), Ro 55 (.mv (Ci 0))])
 (.block 2
 (.loop (.seq (.reg [Ro 56 (.bin .lss (Sv 55) (Sv 54))])
 (.seq (.cond (Sv 56)
 .skip
 (.exit 2))
 (.seq (.block 3
 (.seq (.seq (.reg [Ro 57 (.idx true (Sv 53) (Sv 55) 4), Ro 58 (Lk 57 4), Ro 10 (.new [(.string ⟨#[]⟩), (.int .i64 0), (.bool false), (.int .u64 0)]), Rn (.ini 1 (Sv 10) (Sv 58) 4)])
 (.frz (sl 10)))
 (.reg [Ro 59 (.ld false (Sv 6) none), Ro 60 (Fd 10 0), Ro 61 (Ld 60), Ro 62 (Fd 10 2), Ro 63 (Ld 62), Rn (.mset false (Sv 59) (Sv 61) (Sv 63) .string)])))
 (.reg [Ro 64 (.bin .add (Sv 55) (Ci 1)), Ro 55 (Mv 64)])))))))
 (.seq (.seq (.reg [Ro 65 (Fd 1 0), Ro 66 (Ld 65), Ro 67 (.len false (Sv 66)), Ro 68 (.mv (Ci 0))])
 (.block 4
 (.loop (.seq (.reg [Ro 69 (.bin .lss (Sv 68) (Sv 67))])
 (.seq (.cond (Sv 69)
 .skip
 (.exit 4))
 (.seq (.block 5
 (.seq (.seq (.reg [Ro 70 (.idx true (Sv 66) (Sv 68) 4), Ro 71 (Lk 70 4), Ro 12 (.new [(.string ⟨#[]⟩), (.int .i64 0), (.int .i64 0), (.slice none 0 0)]), Rn (.ini 1 (Sv 12) (Sv 71) 4)])
 (.frz (sl 12)))
 (.seq (.reg [Ro 72 (Lk 12 4), Ro 73 (.call true (.f 16) [Sv 72]), Ro 74 (.mkfn 17 [Sv 6]), Ro 75 (.calle (.f 15) [Sv 73, Sv 74])])
 (.cond (Sv 75)
 (.seq (.reg [Ro 2 (.mv (Ci 8))])
 .ret)
 .skip))))
 (.reg [Ro 76 (.bin .add (Sv 68) (Ci 1)), Ro 68 (Mv 76)])))))))
 (.seq (.reg [Ro 2 (.mv (Ci 0))])
 .ret))))))))
def r_eval_Whole : List ARes := [(.tmp (sl 2))]
theorem t_eval_Whole : (Try.f10).body.bind (trCode Try.prog 8 (Try.f10).ntmps [6, 44, 59, 74, 75] [(15, 0, 0)] (drOk 8)) = some c_eval_Whole := by kernel_rfl
theorem u_eval_Whole : trRess Try.prog 8 (Try.f10).results.toList = some r_eval_Whole := by kernel_rfl
def c_eval_Whole_1_w : ACode :=
 (.seq (.reg [Ro 3 (.mv (.c (.bool false)))])
 (.seq (.reg [Ro 4 (.ld false (Sv 1) none), Ro 5 (Mv 0), Ro 6 (.mget (Sv 4) (Sv 5) false .string (.bool false)), Ro 7 (.not (Sv 6)), Ro 3 (Mv 7)])
 .ret))
def r_eval_Whole_1_w : List ARes := [(.tmp (sl 3))]
theorem t_eval_Whole_1_w : (Try.f17).body.bind (trCode Try.prog 8 (Try.f17).ntmps [1, 4] [(25, 0, 0), (1000011, 0, 0)] (drOk 8)) = some c_eval_Whole_1_w := by kernel_rfl
theorem u_eval_Whole_1_w : trRess Try.prog 8 (Try.f17).results.toList = some r_eval_Whole_1_w := by kernel_rfl
def c_slices_ContainsFunc___string_string__w : ACode :=
 (.seq (.reg [Ro 4 (.mv (.c (.bool false)))])
 (.seq (.reg [Ro 5 (Mv 0), Ro 6 (Mv 1), Ro 7 (.calle (.f 25) [Sv 5, Sv 6]), Ro 8 (.bin .geq (Sv 7) (Ci 0)), Ro 4 (Mv 8)])
 .ret))
def r_slices_ContainsFunc___string_string__w : List ARes := [(.tmp (sl 4))]
theorem t_slices_ContainsFunc___string_string__w : (Try.f15).body.bind (trCode Try.prog 8 (Try.f15).ntmps [1, 6, 7] [(25, 0, 0), (1000011, 0, 0)] (drOk 8)) = some c_slices_ContainsFunc___string_string__w := by kernel_rfl
theorem u_slices_ContainsFunc___string_string__w : trRess Try.prog 8 (Try.f15).results.toList = some r_slices_ContainsFunc___string_string__w := by kernel_rfl
def c_slices_IndexFunc___string_string__w : ACode :=
 (.seq (.reg [Ro 4 (.mv (Ci 0))])
 (.seq (.seq (.reg [Ro 6 (Mv 0), Ro 7 (.len false (Sv 6)), Ro 8 (.mv (Ci 0))])
 (.block 0
 (.loop (.seq (.reg [Ro 9 (.bin .lss (Sv 8) (Sv 7))])
 (.seq (.cond (Sv 9)
 .skip
 (.exit 0))
 (.seq (.block 1
 (.seq (.reg [Ro 10 (Mv 8), Ro 5 (Mv 10)])
 (.seq (.reg [Ro 11 (Mv 1), Ro 12 (Mv 0), Ro 13 (Mv 5), Ro 14 (.idx true (Sv 12) (Sv 13) 1), Ro 15 (Ld 14), Ro 16 (.calle (Sv 11) [Sv 15])])
 (.cond (Sv 16)
 (.seq (.reg [Ro 17 (Mv 5), Ro 4 (Mv 17)])
 .ret)
 .skip))))
 (.reg [Ro 18 (.bin .add (Sv 8) (Ci 1)), Ro 8 (Mv 18)])))))))
 (.seq (.reg [Ro 4 (.mv (Ci (-1)))])
 .ret)))
def r_slices_IndexFunc___string_string__w : List ARes := [(.tmp (sl 4))]
theorem t_slices_IndexFunc___string_string__w : (Try.f25).body.bind (trCode Try.prog 8 (Try.f25).ntmps [1, 11] [(25, 0, 0), (1000011, 0, 0)] (drOk 8)) = some c_slices_IndexFunc___string_string__w := by kernel_rfl
theorem u_slices_IndexFunc___string_string__w : trRess Try.prog 8 (Try.f25).results.toList = some r_slices_IndexFunc___string_string__w := by kernel_rfl
abbrev MapW := Nat × (Value → Option Value)
def putW (s : MapW) (x : ByteArray) (b : Bool) : MapW := (if (s.2 (.string x)).isSome then s.1 else s.1 + 1, mset s.2 (.string x) (.bool b))
def putWs (s : MapW) (l : List (ByteArray × Bool)) : MapW := l.foldl (fun s p => putW s p.1 p.2) s
theorem putWs_succ {s : MapW} {l : List (ByteArray × Bool)} {k : Nat} (hk : k < l.length) : putWs s (l.take (k + 1)) = putW (putWs s (l.take k)) l[k].1 l[k].2 := by
 unfold putWs
 rw [List.take_succ_eq_append_getElem hk, List.foldl_append]
 rfl
theorem keq_T (x y : ByteArray) : keq (.string y) (.string x) = decide (x = y) := by
 rw [Bool.eq_iff_iff, keq_iff (kd := .string) rfl rfl]
 simp [eq_comm]
theorem putW_get (s : MapW) (x y : ByteArray) (b : Bool) : (putW s x b).2 (.string y) = if x = y then some (.bool b) else s.2 (.string y) := by
 simp only [putW, mset, keq_T]
 by_cases h : x = y <;> simp [h]
theorem putWs_not : ∀ (l : List (ByteArray × Bool)) (s : MapW) (x : ByteArray), x ∉ l.map (·.1) → (putWs s l).2 (.string x) = s.2 (.string x)
  | [], s, x, _ => rfl
  | p :: l, s, x, h => by
    simp only [List.map_cons, List.mem_cons, not_or] at h
    show (putWs (putW s p.1 p.2) l).2 _ = _
    rw [putWs_not l _ x h.2, putW_get, if_neg (Ne.symm h.1)]
theorem putWs_mem : ∀ (l : List (ByteArray × Bool)) (s : MapW) (x : ByteArray) (b : Bool), (l.map (·.1)).Nodup → (x, b) ∈ l → (putWs s l).2 (.string x) = some (.bool b)
  | [], s, x, b, _, h => by cases h
  | p :: l, s, x, b, hn, h => by
    simp only [List.map_cons, List.nodup_cons] at hn
    show (putWs (putW s p.1 p.2) l).2 _ = _
    rcases List.mem_cons.1 h with h | h
    · subst h
      rw [putWs_not l _ x hn.1, putW_get, if_pos rfl]
    · exact putWs_mem l _ x b hn.2 h
def hereF (m : Module) : List (ByteArray × Bool) := m.funcs.map fun f => (f.name, decide (0 < f.blocks.length))
def hereG (m : Module) : List (ByteArray × Bool) := m.globs.map fun g => (g.name, g.here)
def hereS (m : Module) : MapW := putWs (putWs (0, fun _ => none) (hereF m)) (hereG m)
def isB (f : Value → Option Value) (x : ByteArray) : Bool := match f (.string x) with
 | some (.bool b) => b
 | _ => false
def AllB (f : Value → Option Value) : Prop := ∀ v u, f v = some u → ∃ b, u = .bool b
theorem AllB.put {s : MapW} (h : AllB s.2) (x : ByteArray) (b : Bool) : AllB (putW s x b).2 := by
 intro v u hu
 simp only [putW, mset] at hu
 split at hu
 ·injection hu with hu
  exact ⟨b, hu.symm⟩
 ·exact h v u hu
theorem AllB.puts : ∀ (l : List (ByteArray × Bool)) {s : MapW}, AllB s.2 → AllB (putWs s l).2
 | [], s, h => h
 | p :: l, s, h => AllB.puts l (h.put p.1 p.2)
theorem hereS_all (m : Module) : AllB (hereS m).2 := AllB.puts _ (AllB.puts _ fun v u h => by cases h)
theorem hereS_there {m : Module} (hn : (namesM m).Nodup) (s : ByteArray) : isB (hereS m).2 s = thereB m s := by
  have e : hereS m = putWs (0, fun _ => none) (hereF m ++ hereG m) := by unfold hereS putWs; rw [List.foldl_append]
  have hnn : ((hereF m ++ hereG m).map (·.1)).Nodup := by
    simpa [hereF, hereG, namesM, fnames, gnames, Function.comp_def] using hn
  unfold isB thereB
  rw [e]
  cases hf : findF m s with
  | some f =>
    have h1 := List.mem_of_find?_eq_some hf
    have h2 : f.name = s := by simpa using List.find?_some hf
    rw [putWs_mem _ _ s (decide (0 < f.blocks.length)) hnn (List.mem_append.2 (.inl (List.mem_map.2 ⟨f, h1, by rw [h2]⟩)))]
    simp only
    by_cases h : f.blocks.length = 0
    · simp [h]
    · simp [h]; omega
  | none =>
    have h1 : s ∉ (hereF m).map (·.1) := by
      intro h
      simp only [hereF, List.map_map, List.mem_map, Function.comp] at h
      obtain ⟨f, hm, hs⟩ := h
      have := List.find?_eq_none.1 hf f hm
      simp [hs] at this
    cases hg : findG m s with
    | some g =>
      have h3 := List.mem_of_find?_eq_some hg
      have h2 : g.name = s := by simpa using List.find?_some hg
      rw [putWs_mem _ _ s g.here hnn (List.mem_append.2 (.inr (List.mem_map.2 ⟨g, h3, by rw [h2]⟩)))]
    | none =>
      have h3 : s ∉ (hereG m).map (·.1) := by
        intro h
        simp only [hereG, List.map_map, List.mem_map, Function.comp] at h
        obtain ⟨f, hm, hs⟩ := h
        have := List.find?_eq_none.1 hg f hm
        simp [hs] at this
      rw [putWs_not _ _ s (by rw [List.map_append, List.mem_append, not_or]; exact ⟨h1, h3⟩)]
def LB (s : MapW) : List (Nat × AObj) := [(1000000, .box [.mp 1000001]), (1000001, .map .string s.1 s.2)]
theorem hof_LB (s : MapW) : hof (LB s) = hadd 1000000 (.box [.mp 1000001]) (hadd 1000001 (.map .string s.1 s.2) hnil) := rfl
theorem LB_end (s : MapW) : EffEnd (LB s) (LB s) (hadd 1000000 (.box [.mp 1000001]) (hadd 1000001 (.map .string s.1 s.2) hnil)) := by
 refine ⟨.none, ?_, ?_⟩
 ·simp [LB, gE]
 ·simp [LB, gE]
set_option maxRecDepth 10000 in
theorem whole1_eff (s : MapW) (hs : AllB s.2) (x : ByteArray) : AEff Try.prog 17 [.d (.str x), .ptr 1000000 0] (LB s) (.bool (!isB s.2 x)) (LB s) := by
  refine aeffG _ _ Try.func17 (by kernel_rfl) t_eval_Whole_1_w u_eval_Whole_1_w rfl rfl (by simp [LB]) (by simp [LB, idsOk]) (fun _ => ?_)
  obtain ⟨b, hb, he⟩ : ∃ b, (s.2 (.string x)).getD (.bool false) = .bool b ∧ isB s.2 x = b := by
    unfold isB
    cases h : s.2 (.string x) with
    | none => exact ⟨false, rfl, rfl⟩
    | some u =>
      obtain ⟨b, rfl⟩ := hs _ _ h
      exact ⟨b, rfl, rfl⟩
  simp [c_eval_Whole_1_w, r_eval_Whole_1_w, LB, hb, he]
  exact LB_end s
def tauB (n : Nat) : Nat → Nat := fun i => if i = 999999 then n else i
set_option maxRecDepth 10000 in
theorem indexB_eff (s : MapW) (hs : AllB s.2) (xs : List ByteArray) : AEff Try.prog 25 [.d (strsD xs), .fn 17 [.ptr 1000000 0]] (LB s) (.int (findI (fun x => !isB s.2 x) xs)) (LB s) := by
 refine aeffG _ _ Try.func25 (by kernel_rfl) t_slices_IndexFunc___string_string__w u_slices_IndexFunc___string_string__w rfl rfl (by simp [LB]) (by simp [LB, idsOk]) (fun hx => ?_)
 have hl : xs.length ≤ 9223372036854775807 := by
  obtain ⟨γ, X, w, us, h⟩ := hx
  obtain ⟨v, vs, _, h1, _⟩ := h.uncons
  have := sl_len h1.dv
  simpa [maxLen] using this
 clear hx
 obtain ⟨p, hp⟩ : ∃ p : ByteArray → Bool, (fun x => !isB s.2 x) = p := ⟨_, rfl⟩
 have hp' : ∀ x, (!isB s.2 x) = p x := fun x => congrFun hp x
 have hw : ∀ x, AEff Try.prog 17 [.d (.str x), .ptr 1000000 0] (LB s) (.bool (p x)) (LB s) := fun x => by rw [← hp' x]; exact whole1_eff s hs x
 rw [hp]
 simp [c_slices_IndexFunc___string_string__w, r_slices_IndexFunc___string_string__w, hof_LB]
 refine loop_s (κ := Nat) (fun k => k ≤ xs.length ∧ ∀ i (h : i < xs.length), i < k → p xs[i] = false) (fun k => xs.length - k) (fun k => [(sl 8, .int k)]) (fun _ => LB s) 0 0 (srcs []) (by simp) (by simp [LB]) ?_
 rintro k ⟨hk, hb⟩
 simp [hof_LB]
 refine ⟨fun hlt => ⟨hlt, ?_⟩, fun hge => ⟨DLe_int (findI_miss fun i hi => hb i hi (by omega)).symm, LB_end s⟩⟩
 rw [getD_some hlt]
 refine calle_k (hw xs[k]) (tauB _) rfl [.d (.str xs[k]), .ptr 1000000 0] (by simp) (by simp) (by simp) (by simp [gOf, LB, tauB]) (by simp [gOf, LB, tauB]) (by simp [gOf, LB, tauB]) (by simp [LB, idsOk]) ?_
 simp [LB, tauB]
 refine ⟨fun h => ⟨DLe_int (findI_hit hlt hb h).symm, LB_end s⟩, fun h => ?_⟩
 refine ⟨k + 1, ⟨by omega, fun i hi h1 => ?_⟩, by omega, srcs [], ?_⟩
 ·rcases Nat.lt_or_ge i k with h2 | h2
  ·exact hb i hi h2
  ·obtain rfl : i = k := by omega
   exact h
 ·simp [SLeK]
  exact DLe_int (wrap_succ (by omega))
theorem containsB_eff (s : MapW) (hs : AllB s.2) (xs : List ByteArray) : AEff Try.prog 15 [.d (strsD xs), .fn 17 [.ptr 1000000 0]] (LB s) (.bool (xs.any fun x => !isB s.2 x)) (LB s) := by
 refine aeffG _ _ Try.func15 (by kernel_rfl) t_slices_ContainsFunc___string_string__w u_slices_ContainsFunc___string_string__w rfl rfl (by simp [LB]) (by simp [LB, idsOk]) (fun _ => ?_)
 have h0 := indexB_eff s hs xs
 obtain ⟨p, hp⟩ : ∃ p : ByteArray → Bool, (fun x => !isB s.2 x) = p := ⟨_, rfl⟩
 rw [hp] at h0 ⊢
 simp [c_slices_ContainsFunc___string_string__w, r_slices_ContainsFunc___string_string__w, hof_LB, -List.any_eq_true]
 refine calle_k h0 (tauB _) rfl [.d (strsD xs), .fn 17 [.ptr 1000000 0]] (by simp) (by simp) (by simp) (by simp [gOf, LB, tauB]) (by simp [gOf, LB, tauB]) (by simp [gOf, LB, tauB]) (by simp [LB, idsOk]) ?_
 simp [LB, tauB, -List.any_eq_true]
 exact ⟨DLe_bool (findI_ge _ xs), LB_end s⟩
def tauV : Nat → Nat := fun i => if i = 999999 then 208 else if i = 1000000 then 29 else if i = 1000001 then 28 else i
set_option maxRecDepth 10000 in
set_option maxHeartbeats 1000000 in
theorem ewhole_pure (m : Module) (hm : ArgsOk m) : APure Try.prog 10 [.agg (moduleC m)] (.int (wholeE m)) := by
  refine apureG _ _ Try.func10 (by kernel_rfl) t_eval_Whole u_eval_Whole rfl rfl (fun _ => ?_)
  simp [c_eval_Whole, r_eval_Whole]
  refine call_plain (ds := [.agg (moduleC m)]) _ (by simp) (by simp) (fun _ => by simp; rfl) (fun _ => check_pure m hm) ?_
  simp
  refine ⟨fun hz => ?_, fun hz => ?_⟩
  · unfold wholeE; rw [if_pos hz]; exact DLe.refl _
  have hok := checkE_zero.1 hz
  have hnf := hok.nf
  have hng := hok.ng
  have hsm := small_ok hok
  have hw0 : wholeE m = if mainB m = true then (if (refsA m.funcs).all (thereB m) = true then 0 else 8) else 11 := by
    unfold wholeE
    rw [if_neg (by rw [hz]; simp)]
  have hfind := efind_pure m mainS
  unfold efindR at hfind
  cases hf : findF m mainS with
  | none =>
    have hb : mainB m = false := by unfold mainB; rw [hf]
    rw [hf] at hfind
    refine call_plain (ds := [.agg (moduleC m), .str mainS]) _ (by simp) (by simp) (fun _ => by simp; exact ⟨rfl, rfl⟩) (fun _ => hfind) ?_
    rw [hw0, hb]
    simp
  | some f =>
    rw [hf] at hfind
    refine call_plain (ds := [.agg (moduleC m), .str mainS]) _ (by simp) (by simp) (fun _ => by simp; exact ⟨rfl, rfl⟩) (fun _ => hfind) ?_
    have hmb : mainB m = (decide (f.blocks.length ≠ 0) && decide (f.params = 0)) := by unfold mainB; rw [hf]
    simp
    refine ⟨fun h => DLe_int ?_, fun h1 h2 => ?_⟩
    · rw [hw0, hmb]
      rcases h with h | h <;> simp [h]
    have hmt : mainB m = true := by
      rw [hmb]
      simp [h1, h2]
    rw [hmt, if_pos rfl] at hw0
    have hlF : (hereF m).length = m.funcs.length := by simp [hereF]
    have hlG : (hereG m).length = m.globs.length := by simp [hereG]
    refine loop_s (κ := Nat) (fun k => k ≤ m.funcs.length) (fun k => m.funcs.length - k) (fun k => [(sl 40, .int k)]) (fun k => [(29, .box [.mp 28]), (28, .map .string (putWs (0, fun _ => none) ((hereF m).take k)).1 (putWs (0, fun _ => none) ((hereF m).take k)).2)]) 35 0 (srcs [(29, .id 29), (28, .id 28)]) (by simp) (by simp [putWs]) ?_
    rintro k hk
    simp
    refine ⟨fun hlt => ⟨hlt, ?_⟩, fun hge => ?_⟩
    · rw [getD_some hlt]
      refine ⟨k + 1, by omega, by omega, srcs [(29, .id 29), (28, .id 28)], ?_⟩
      have e : (hereF m)[k]'(by omega) = (m.funcs[k].name, decide (0 < m.funcs[k].blocks.length)) := by simp [hereF]
      simp [SLeK, putWs_succ (show k < (hereF m).length by omega), e, putW]
      exact DLe_int (wrap_succ (by omega))
    rw [List.take_of_length_le (by omega)]
    refine loop_s (κ := Nat) (fun k => k ≤ m.globs.length) (fun k => m.globs.length - k) (fun k => [(sl 55, .int k)]) (fun k => [(29, .box [.mp 28]), (28, .map .string (putWs (putWs (0, fun _ => none) (hereF m)) ((hereG m).take k)).1 (putWs (putWs (0, fun _ => none) (hereF m)) ((hereG m).take k)).2)]) 100 0 (srcs [(29, .id 29), (28, .id 28)]) (by simp) (by simp [putWs]) ?_
    rintro k hk
    simp
    refine ⟨fun hlt => ⟨hlt, ?_⟩, fun hge => ?_⟩
    · rw [getD_some hlt]
      refine ⟨k + 1, by omega, by omega, srcs [(29, .id 29), (28, .id 28)], ?_⟩
      have e : (hereG m)[k]'(by omega) = (m.globs[k].name, m.globs[k].here) := by simp [hereG]
      simp [SLeK, putWs_succ (show k < (hereG m).length by omega), e, putW]
      exact DLe_int (wrap_succ (by omega))
    rw [List.take_of_length_le (by omega)]
    rw [show putWs (putWs (0, fun _ => none) (hereF m)) (hereG m) = hereS m from rfl]
    refine loop_s (κ := Nat) (fun i => i ≤ m.funcs.length ∧ ∀ x ∈ refsA (m.funcs.take i), thereB m x = true) (fun i => m.funcs.length - i) (fun i => [(sl 68, .int i)]) (fun _ => [(29, .box [.mp 28]), (28, .map .string (hereS m).1 (hereS m).2)]) 200 0 (srcs [(29, .id 29), (28, .id 28)]) (by simp [refsA]) (by simp) ?_
    rintro i ⟨hi, hall⟩
    simp
    refine ⟨fun hlt => ⟨hlt, ?_⟩, fun hge => ?_⟩
    · rw [getD_some hlt]
      obtain ⟨f', hf'⟩ : ∃ f', m.funcs[i] = f' := ⟨_, rfl⟩
      have hfm : f' ∈ m.funcs := by rw [← hf']; exact List.getElem_mem hlt
      have hfi := hsm.ins f' hfm
      simp only [hf']
      refine call_plain (ds := [.agg (funcC f')]) _ (by simp) (by simp) (fun _ => by simp; rfl) (fun _ => refs_pure f' (by omega)) ?_
      simp
      refine calle_k (containsB_eff (hereS m) (hereS_all m) (namesOf (allIns f'))) tauV rfl [.d (strsD (namesOf (allIns f'))), .fn 17 [.ptr 29 0]] (by simp) (by simp) (by simp) (by simp [gOf, LB, tauV]) (by simp [gOf, LB, tauV]) (by simp [gOf, LB, tauV]) (by simp [LB, idsOk]) ?_
      have hmem : ∀ s ∈ namesOf (allIns f'), isB (hereS m).2 s = thereB m s := fun s _ => hereS_there hok.names s
      obtain ⟨bb, hbb⟩ : ∃ bb, ((namesOf (allIns f')).any fun x => !isB (hereS m).2 x) = bb := ⟨_, rfl⟩
      rw [hbb]
      simp [LB, tauV]
      refine ⟨fun h => DLe_int ?_, fun h => ?_⟩
      · rw [h] at hbb
        obtain ⟨s, hs, hn⟩ := List.any_eq_true.1 hbb
        have ht : thereB m s = false := by
          rw [← hmem s hs]
          simpa using hn
        rw [hw0, if_neg]
        intro h'
        have := List.all_eq_true.1 h' s (List.mem_flatMap.2 ⟨f', hfm, hs⟩)
        rw [ht] at this
        cases this
      · rw [h] at hbb
        refine ⟨i + 1, ⟨by omega, ?_⟩, by omega, srcs [(29, .id 29), (28, .id 28)], ?_⟩
        · intro x hx
          rw [List.take_succ_eq_append_getElem hlt, refsA_append, hf'] at hx
          rcases List.mem_append.1 hx with hx | hx
          · exact hall x hx
          · have hx' : x ∈ namesOf (allIns f') := by simpa [refsA] using hx
            have := List.any_eq_false.1 hbb x hx'
            rw [← hmem x hx']
            simpa using this
        · simp [SLeK]
          exact DLe_int (wrap_succ (by omega))
    · rw [List.take_of_length_le hge] at hall
      rw [hw0, if_pos (List.all_eq_true.2 hall)]
      exact DLe.refl _
theorem kok_map {m : Module} {F : Func → Func} (h : KOk' m) (hF : ∀ f ∈ m.funcs, (∀ b ∈ f.blocks, ∀ i ∈ b.ins, i.k < 18446744073709551616) → ∀ b ∈ (F f).blocks, ∀ i ∈ b.ins, i.k < 18446744073709551616) : KOk' (mapM F m) := fun f hf => by
 obtain ⟨f0, h0, rfl⟩ := List.mem_map.1 hf
 exact hF f0 h0 (h f0 h0)
theorem kok_fold {m : Module} (h : KOk' m) : KOk' (foldM m) := kok_map h fun f _ hk b hb i hi => by
  obtain ⟨b0, h0, rfl⟩ := List.mem_map.1 hb
  rw [foldB_ins] at hi
  obtain ⟨k, hk', rfl⟩ := List.getElem_of_mem hi
  rw [foldIns_length] at hk'
  have hx := foldIns_at (List.getElem?_eq_getElem hk')
  have hxk := hk b0 h0 _ (List.getElem_mem hk')
  rw [List.getElem?_eq_getElem (by rw [foldIns_length]; exact hk')] at hx
  injection hx with hx
  rw [hx]
  cases ho : foldV (foldL (noneL b0) (b0.ins.take k)) b0.ins[k] with
  | none => exact hxk
  | some v =>
    have := KnOk.foldV hxk ho
    show v.toNat < _
    omega
theorem kok_trim {m : Module} (h : KOk' m) : KOk' (trimM m) := kok_map h fun f _ hk b hb i hi => by
 obtain ⟨b0, h0, rfl⟩ := List.mem_map.1 hb
 obtain ⟨k, _, h2⟩ := sel_mem h0
 obtain ⟨x, hx, rfl⟩ := List.mem_map.1 hi
 obtain ⟨j, _, h4⟩ := sel_mem hx
 exact hk b0 (List.mem_of_getElem? h2) x (List.mem_of_getElem? h4)
theorem kok_drop {m : Module} (h : KOk' m) : KOk' (dropM m) := fun f hf => h f (by
 unfold dropM at hf
 exact (List.mem_filter.1 hf).1)
theorem kok_put {m : Module} (h : KOk' m) {fi : Nat} {f0 : Func} {bi : Nat} {b0 : Block} {ak : Nat} {x0 : Inst} {g0 : Func} {l : Block} (hp : OnePut m fi f0 bi b0 ak x0 g0 l) : KOk' (putM m fi f0 bi b0 ak l) := by
 have hl : ∀ i ∈ l.ins, i.k < 18446744073709551616 := h g0 (List.mem_of_find?_eq_some hp.hg) l (by rw [hp.hl]; simp)
 have hb : ∀ i ∈ b0.ins, i.k < 18446744073709551616 := h f0 (List.mem_of_getElem? hp.hf) b0 (List.mem_of_getElem? hp.hb)
 intro f hf b hb1 i hi
 rcases List.mem_or_eq_of_mem_set hf with hf | hf
 ·exact h f hf b hb1 i hi
 ·subst hf
  rcases List.mem_or_eq_of_mem_set hb1 with hb1 | hb1
  ·exact h f0 (List.mem_of_getElem? hp.hf) b hb1 i hi
  ·subst hb1
   simp only [putB, List.mem_append, List.mem_map] at hi
   rcases hi with (hi | ⟨x, hx, rfl⟩) | ⟨x, hx, rfl⟩
   ·exact hb i (List.mem_of_mem_take hi)
   ·exact hl x hx
   ·exact hb x (List.mem_of_mem_drop hx)
theorem kok_inl {m : Module} (hok : ModOk m) (h : KOk' m) (budget : Int) : KOk' (inlM m budget) := by
 unfold inlM
 split
 ·have key : ∀ {M : Module}, Puts m M → KOk' M := fun {M} hp => by
   induction hp with
   | refl => exact h
   | step _ hp ih => exact kok_put ih hp
  exact key (puts_inl hok budget)
 ·exact h
theorem kok_one {m : Module} (hok : ModOk m) (h : KOk' m) (t budget : Int) : KOk' (oneP m t budget) := by
 unfold oneP
 repeat' split
 ·exact kok_fold h
 ·exact kok_trim h
 ·exact kok_drop h
 ·exact kok_inl hok h budget
 ·exact h
theorem kok_run {budget : Int} : ∀ (tags : List Int) {m : Module}, ModOk m → KOk' m → KOk' (runP m tags budget)
 | [], _, _, h => h
 | t :: tags, m, hok, h => kok_run tags (oneP_ok hok t budget) (kok_one hok h t budget)
theorem takeWhile_stop {p : Int → Bool} : ∀ {l : List Int} {k : Nat} (hk : k < l.length), (∀ i (h : i < l.length), i < k → p l[i] = true) → p l[k] = false → l.takeWhile p = l.take k ∧ l.all p = false
  | x :: l, 0, _, _, h => by simp at h; simp [h]
  | x :: l, k + 1, hk, hb, h => by
    have h0 := hb 0 (by simp) (by omega)
    simp at h0
    have ih := takeWhile_stop (p := p) (l := l) (k := k) (by simpa using hk) (fun i hi hik => hb (i + 1) (by simpa using hi) (by omega)) (by simpa using h)
    simp [h0, ih.1, ih.2]
theorem takeWhile_all {p : Int → Bool} {l : List Int} (h : ∀ i (h : i < l.length), p l[i] = true) : l.takeWhile p = l ∧ l.all p = true := by
  have : ∀ x ∈ l, p x = true := fun x hx => by
    obtain ⟨i, hi, rfl⟩ := List.getElem_of_mem hx
    exact h i hi
  exact ⟨by
    clear h
    induction l with
    | nil => rfl
    | cons x l ih =>
      rw [List.takeWhile_cons, this x (List.mem_cons_self ..)]
      simp [ih fun y hy => this y (List.mem_cons_of_mem _ hy)], List.all_eq_true.2 this⟩
set_option maxRecDepth 10000 in
theorem behind_pure (m : Module) (hok : ModOk m) (hk : KOk' m) (tags : List Int) (ht : tags.length ≤ 1000) (budget : Int) : APure Try.prog 9 [.agg (moduleC m), .int budget, intsD tags] (.tup [.agg (moduleC (runP m (tags.takeWhile tagOk) budget)), .bool (tags.all tagOk)]) := by
  refine apureG _ _ Try.func9 (by kernel_rfl) t_pass_behind u_pass_behind rfl rfl (fun _ => ?_)
  simp [c_pass_behind, r_pass_behind]
  refine loop_s (κ := Nat) (fun k => k ≤ tags.length ∧ ∀ i (h : i < tags.length), i < k → tagOk tags[i] = true) (fun k => tags.length - k) (fun k => [(sl 15, .int k)]) (fun k => [(0, .box [.d (funcsD (runP m (tags.take k) budget).funcs), .d (globsD (runP m (tags.take k) budget).globs)]), (1, .box [.d (.lit (.slice none 0 0)), .d (.lit (.slice none 0 0))])]) 10 0 (srcs [(0, .id 0), (1, .id 1)]) (by simp) (by simp [runP]) ?_
  rintro k ⟨hkl, hb⟩
  simp
  obtain ⟨M, hM⟩ : ∃ M, runP m (tags.take k) budget = M := ⟨_, rfl⟩
  have hokM : ModOk M := hM ▸ runP_ok (tags.take k) hok
  have hkM : KOk' M := hM ▸ kok_run (tags.take k) hok hk
  simp only [hM]
  refine ⟨fun hlt => ⟨hlt, ?_⟩, fun hge => ?_⟩
  · rw [getD_some hlt]
    have hnext := runP_take (m := m) (budget := budget) hlt
    rw [hM] at hnext
    refine call_plain (ds := [.agg (moduleC M), .int tags[k], .int budget]) _ (by simp) (by simp) (fun _ => by simp; exact ⟨rfl, rfl⟩) (fun _ => pone_pure M hokM hkM (small_ok hokM) tags[k] budget) ?_
    cases hq : tagOk tags[k] with
    | true =>
      have e : oneR M tags[k] budget = .tup [.agg (moduleC (oneP M tags[k] budget)), .int 0] := by unfold oneR; rw [if_pos hq]
      rw [e]
      simp
      refine ⟨k + 1, ⟨by omega, fun i hi hik => ?_⟩, by omega, srcs [(0, .id 0), (1, .id 1)], ?_⟩
      · rcases Nat.lt_or_ge i k with h | h
        · exact hb i hi h
        · obtain rfl : i = k := by omega
          exact hq
      · simp [SLeK, hnext]
        exact DLe_int (wrap_succ (by omega))
    | false =>
      have e : oneR M tags[k] budget = .tup [.agg (moduleC ⟨[], []⟩), .int 1] := by unfold oneR; rw [if_neg (by rw [hq]; simp)]
      rw [e]
      obtain ⟨e1, e2⟩ := takeWhile_stop hlt hb hq
      simp
      rw [e1, e2, hM]
      exact DLe.refl _
  · obtain ⟨e1, e2⟩ := takeWhile_all (p := tagOk) (l := tags) fun i hi => hb i hi (by omega)
    rw [List.take_of_length_le hge] at hM
    rw [e1, e2, hM]
    exact DLe.refl _
theorem nil_ok : ModOk ⟨[], []⟩ := { nf := by simp, ng := by simp, funcs := by simp, globs := by simp, names := by decide, miss := by simp [insM], odd := by simp [insM] }
theorem nil_kok : KOk' ⟨[], []⟩ := fun f hf => by cases hf
def runRes (m : Module) (tags : List Int) (budget : Int) : DV := if passE m tags = 0 then .tup [.agg (moduleC (runP m tags budget)), .int 0] else .tup [.agg (moduleC ⟨[], []⟩), .int (passE m tags)]
set_option maxRecDepth 10000 in
theorem prun_pure (m : Module) (hm : ArgsOk m) (hk : KOk' m) (tags : List Int) (ht : tags.length ≤ 1000) (budget : Int) : APure Try.prog 6 [.agg (moduleC m), intsD tags, .int budget] (runRes m tags budget) := by
  refine apureG _ _ Try.func6 (by kernel_rfl) t_pass_Run u_pass_Run rfl rfl (fun _ => ?_)
  simp [c_pass_Run, r_pass_Run]
  refine call_arg (ds := [.agg [.lit (.slice none 0 0), .lit (.slice none 0 0)], .int budget, intsD tags]) (behind_pure ⟨[], []⟩ nil_ok nil_kok tags ht budget) (by simp) (by simp) (fun _ => by simp) (fun _ => ?_) ?_
  · simp
    refine DLe.agg rfl fun i h1 h2 => ?_
    match i, h1 with
    | 0, _ => exact funcsD_nil
    | 1, _ => exact globsD_nil
  simp
  have hone : ∀ (h : passE m tags = 1), DLe (.tup [.agg [.lit (.slice none 0 0), .lit (.slice none 0 0)], .lit (.int .i64 1)]) (runRes m tags budget) := fun h => by
    unfold runRes
    rw [if_neg (by omega), h]
    refine DLe.tup rfl fun i h1 h2 => ?_
    match i, h1 with
    | 0, _ => exact DLe.agg rfl fun i h1 h2 => (match i, h1 with
      | 0, _ => funcsD_nil
      | 1, _ => globsD_nil)
    | 1, _ => exact DLe.refl _
  have hall : (∀ x ∈ tags, tagOk x = true) → tags.all tagOk = true := fun h => List.all_eq_true.2 h
  refine ⟨fun h => hone ?_, fun ha hl => ?_⟩
  · unfold passE
    rw [if_neg]
    rintro ⟨h1, h2⟩
    rcases h with ⟨x, hx, h⟩ | h
    · rw [List.all_eq_true.1 h2 x hx] at h; cases h
    · omega
  have hp : passE m tags = wholeE m := by unfold passE; rw [if_pos ⟨by omega, hall ha⟩]
  refine call_plain (ds := [.agg (moduleC m)]) _ (by simp) (by simp) (fun _ => by simp; rfl) (fun _ => ewhole_pure m hm) ?_
  simp
  refine ⟨fun hw => ?_, fun hw => ?_⟩
  · unfold runRes
    rw [hp, if_neg hw]
    refine DLe.tup rfl fun i h1 h2 => ?_
    match i, h1 with
    | 0, _ => exact DLe.agg rfl fun i h1 h2 => (match i, h1 with
      | 0, _ => funcsD_nil
      | 1, _ => globsD_nil)
    | 1, _ => exact DLe.refl _
  · have hok := (wholeE_zero.1 hw).1
    refine call_plain (ds := [.agg (moduleC m), .int budget, intsD tags]) _ (by simp) (by simp) (fun _ => by simp; rfl) (fun _ => behind_pure m hok hk tags ht budget) ?_
    obtain ⟨e1, e2⟩ := takeWhile_all (p := tagOk) (l := tags) fun i hi => ha _ (List.getElem_mem hi)
    rw [e1, e2]
    simp
    unfold runRes
    rw [hp, if_pos hw]
    exact DLe.refl _
def c_marlinelaw15_shown : ACode :=
 (.seq (.reg [Ro 0 (.mv (.c (.bool false)))])
 (.seq (.seq (.reg [Ro 6 (.bld [(.int .i64 0), (.int .i64 0), (.int .i64 0), (.int .u64 0), (.string ⟨#[]⟩), (.slice none 0 0)] [(0, 1, (Ci 1)), (3, 1, (.c (.int .u64 7)))]), Ro 7 (.mksl 6 1 [(.int .i64 0), (.int .i64 0), (.int .i64 0), (.int .u64 0), (.string ⟨#[]⟩), (.slice none 0 0)] [(0, 6, (Sv 6))]), Ro 8 (.bld [(.int .i64 0), (.int .i64 0), (.int .i64 0), (.slice none 0 0), (.int .i64 0), (.slice none 0 0)] [(0, 1, (Ci 3))]), Ro 9 (.bld [(.int .i64 0), (.slice none 0 0), (.int .i64 0), (.int .i64 0), (.int .i64 0), (.slice none 0 0), (.int .i64 0), (.slice none 0 0)] [(1, 1, (Sv 7)), (2, 6, (Sv 8))]), Ro 10 (.mksl 8 1 [(.int .i64 0), (.slice none 0 0), (.int .i64 0), (.int .i64 0), (.int .i64 0), (.slice none 0 0), (.int .i64 0), (.slice none 0 0)] [(0, 8, (Sv 9))]), Ro 11 (.bld [(.string ⟨#[]⟩), (.int .i64 0), (.int .i64 0), (.slice none 0 0)] [(0, 1, (.c (.string ⟨#[109, 97, 105, 110]⟩))), (1, 1, (Ci 2)), (3, 1, (Sv 10))]), Ro 12 (.mksl 4 1 [(.string ⟨#[]⟩), (.int .i64 0), (.int .i64 0), (.slice none 0 0)] [(0, 4, (Sv 11))]), Ro 13 (.bld [(.slice none 0 0), (.slice none 0 0)] [(0, 1, (Sv 12))]), Ro 1 (.new [(.slice none 0 0), (.slice none 0 0)]), Rn (.ini 1 (Sv 1) (Sv 13) 2)])
 (.frz (sl 1)))
 (.seq (.seq (.reg [Ro 15 (Lk 1 2), Ro 16 (.call true (.f 6) [Sv 15, (.c (.slice none 0 0)), Ci 0]), Ro 14 (Mv 16), Ro 17 (.ext (Sv 14) 0), Ro 18 (.ext (Sv 14) 1), Ro 2 (.new [(.slice none 0 0), (.slice none 0 0)]), Rn (.ini 1 (Sv 2) (Sv 17) 2), Ro 3 (Mv 18)])
 (.frz (sl 2)))
 (.seq (.seq (.reg [Ro 20 (Lk 1 2), Ro 21 (.mksl 1 1 [(.int .i64 0)] [(0, 1, (Ci 9))]), Ro 22 (.call true (.f 6) [Sv 20, Sv 21, Ci 0]), Ro 19 (Mv 22), Ro 23 (.ext (Sv 19) 0), Ro 24 (.ext (Sv 19) 1), Ro 4 (.new [(.slice none 0 0), (.slice none 0 0)]), Rn (.ini 1 (Sv 4) (Sv 23) 2), Ro 5 (Mv 24)])
 (.frz (sl 4)))
 (.seq (.reg [Ro 25 (Mv 3), Ro 26 (.bin .eql (Sv 25) (Ci 0)), Ro 27 (Mv 26), Rg 28 27 true (Fd 2 0), Rg 29 27 true (Ld 28), Rg 30 27 true (.len false (Sv 29)), Rg 31 27 true (.bin .eql (Sv 30) (Ci 1)), Ro 32 (.pick (Sv 27) (Sv 31) (.c (.bool false))), Ro 33 (Mv 32), Rg 34 33 true (Mv 5), Rg 35 33 true (.bin .eql (Sv 34) (Ci 1)), Ro 36 (.pick (Sv 33) (Sv 35) (.c (.bool false))), Ro 37 (Mv 36), Rg 38 37 true (Lk 2 2), Rg 39 37 true (.call true (.f 7) [Sv 38]), Rg 40 37 true (.bin .eql (Sv 39) (Ci 2)), Ro 41 (.pick (Sv 37) (Sv 40) (.c (.bool false))), Ro 0 (Mv 41)])
 .ret)))))
def r_marlinelaw15_shown : List ARes := [(.tmp (sl 0))]
theorem t_marlinelaw15_shown : (Try.f5).body.bind (trCode Try.prog 8 (Try.f5).ntmps [] [] (drOk 8)) = some c_marlinelaw15_shown := by kernel_rfl
theorem u_marlinelaw15_shown : trRess Try.prog 8 (Try.f5).results.toList = some r_marlinelaw15_shown := by kernel_rfl
structure Fr where
 f : Func
 blk : Nat
 pos : Nat
 vals : List Int
def valsR (vals : List Int) : Nat → List DV := fun i => u64C (vals[i]?.getD 0)
@[simp] theorem valsR_len (vals : List Int) (i : Nat) : (valsR vals i).length = 1 := rfl
@[simp] theorem valsR_0 (vals : List Int) (i : Nat) : (valsR vals i)[0]? = some (.lit (.int .u64 (vals[i]?.getD 0))) := rfl





def u64In (v : Int) : Prop := 0 ≤ v ∧ v < 18446744073709551616



def KOk (m : Module) : Prop := (∀ f ∈ m.funcs, ∀ b ∈ f.blocks, ∀ i ∈ b.ins, i.k < 18446744073709551616) ∧ ∀ g ∈ m.globs, g.init < 18446744073709551616
def unwind (m : Module) (inp : ByteArray) (fuel deep : Nat) : Wd × Int → List Fr → Wd × Int
 | r, [] => r
 | r, fr :: rest => if r.1.bad ≠ 0 then (r.1, 0) else unwind m inp fuel deep (goF m inp fuel deep r.1 fr.f fr.blk fr.pos (fr.vals ++ [r.2]) (rest.length + 1)) rest
def FrIn (m : Module) (d : Nat) (fr : Fr) : Prop := fr.f ∈ m.funcs ∧ (∃ b, fr.f.blocks[fr.blk]? = some b ∧ fr.pos ≤ b.ins.length ∧ (fr.vals.length : Int) + d = b.params + fr.pos) ∧ ∀ v ∈ fr.vals, u64In v
structure MOk (m : Module) (inp : ByteArray) (fuel deep : Nat) (R : Wd × Int) (q : Wd × Fr × List Fr) : Prop where
 good : Good m fuel q.1
 glob : ∀ v ∈ q.1.globs, u64In v
 top : FrIn m 0 q.2.1
 lo : ∀ fr ∈ q.2.2, FrIn m 1 fr
 n : q.2.2.length + 1 ≤ deep
 fin : unwind m inp fuel deep (goF m inp fuel deep q.1 q.2.1.f q.2.1.blk q.2.1.pos q.2.1.vals (q.2.2.length + 1)) q.2.2 = R

def exF7 : Func := ⟨⟨#[109, 97, 105, 110]⟩, 2, 0, [⟨0, [⟨1, 0, 0, 7, ⟨#[]⟩, []⟩], 3, 0, 0, [], 0, []⟩]⟩
def exM7 : Module := ⟨[exF7], []⟩
theorem exF7_ins : ∀ b ∈ exF7.blocks, ∀ i ∈ b.ins, i.args.length ≤ 17592186044416 ∧ i.k < 18446744073709551616 := by
 intro b hb i hi
 simp [exF7] at hb
 subst hb
 simp at hi
 subst hi
 simp
theorem exM7_args : ArgsOk exM7 := fun f hf b hb i hi => by
 simp [exM7] at hf
 subst hf
 exact (exF7_ins b hb i hi).1
theorem exM7_k : KOk exM7 := ⟨fun f hf b hb i hi => by
 simp [exM7] at hf
 subst hf
 exact (exF7_ins b hb i hi).2, fun g hg => by cases hg⟩
theorem at07 {n : Nat} (h : n < 1) : n = 0 := by omega
def sizeB (bs : List Block) : Nat := (bs.map fun b => b.ins.length + 1).sum
def sizeFs (fs : List Func) : Nat := (fs.map fun f => sizeB f.blocks).sum
theorem sizeB_take {bs : List Block} {k : Nat} (h : k < bs.length) : sizeB (bs.take (k + 1)) = sizeB (bs.take k) + (bs[k].ins.length + 1) := by
 unfold sizeB
 rw [List.take_succ_eq_append_getElem h, List.map_append, List.sum_append]
 rfl
theorem sizeFs_take {fs : List Func} {k : Nat} (h : k < fs.length) : sizeFs (fs.take (k + 1)) = sizeFs (fs.take k) + sizeB fs[k].blocks := by
 unfold sizeFs
 rw [List.take_succ_eq_append_getElem h, List.map_append, List.sum_append]
 rfl
theorem sizeB_le {f : Func} (h : funcOk f = true) : ∀ k, k ≤ f.blocks.length → sizeB (f.blocks.take k) ≤ 33 * k
  | 0, _ => by simp [sizeB]
  | k + 1, hk => by
    rw [sizeB_take (by omega)]
    have := sizeB_le h k (by omega)
    obtain ⟨_, _, h32, _⟩ := blockOk_iff.1 (funcOk_block h (show k < f.blocks.length by omega))
    omega
theorem sizeFs_le {m : Module} (h : ModOk m) : ∀ k, k ≤ m.funcs.length → sizeFs (m.funcs.take k) ≤ 528 * k
  | 0, _ => by simp [sizeFs]
  | k + 1, hk => by
    rw [sizeFs_take (by omega)]
    have := sizeFs_le h k (by omega)
    have hf := h.funcs _ (List.getElem_mem (show k < m.funcs.length by omega))
    have h1 := sizeB_le hf _ (Nat.le_refl _)
    have h2 := funcOk_len hf
    rw [List.take_length] at h1
    omega
set_option maxRecDepth 10000 in
theorem psize_pure (m : Module) (hok : ModOk m) : APure Try.prog 7 [.agg (moduleC m)] (.int (sizeM m)) := by
 refine apureG _ _ Try.func7 (by kernel_rfl) t_pass_Size u_pass_Size rfl rfl (fun _ => ?_)
 simp [c_pass_Size, r_pass_Size]
 have hnf := hok.nf
 refine loop_s (κ := Nat) (fun k => k ≤ m.funcs.length) (fun k => m.funcs.length - k) (fun k => [(sl 3, .int (sizeFs (m.funcs.take k))), (sl 11, .int k)]) (fun _ => []) 0 0 (srcs []) (by simp) (by simp [sizeFs]) ?_
 intro k hk
 simp
 refine ⟨fun hlt => ⟨hlt, ?_⟩, fun hge => ?_⟩
 rotate_left
 ·rw [List.take_of_length_le hge]
  exact DLe.refl _
 rw [getD_some hlt]
 obtain ⟨f, hf⟩ : ∃ f, m.funcs[k] = f := ⟨_, rfl⟩
 have hfo : funcOk f = true := hok.funcs f (by rw [← hf]; exact List.getElem_mem hlt)
 have hbl := funcOk_len hfo
 have hs1 := sizeFs_le hok k (by omega)
 simp only [hf]
 refine loop_s (κ := Nat) (fun j => j ≤ f.blocks.length) (fun j => f.blocks.length - j) (fun j => [(sl 3, .int ((sizeFs (m.funcs.take k) + sizeB (f.blocks.take j) : Nat))), (sl 18, .int j)]) (fun _ => []) 0 0 (srcs []) (by simp) (by simp [sizeB]) ?_
 intro j hj
 simp
 have hs2 := sizeB_le hfo j hj
 refine ⟨fun hjl => ⟨hjl, ?_⟩, fun hge => ?_⟩
 ·rw [getD_some hjl]
  obtain ⟨_, _, h32, _⟩ := blockOk_iff.1 (funcOk_block hfo hjl)
  refine ⟨j + 1, by omega, by omega, srcs [], ?_⟩
  simp [SLeK]
  rw [sizeB_take hjl]
  refine ⟨DLe_int (wrap_succ (by omega)), DLe_int ?_⟩
  rw [show ((f.blocks[j].ins.length : Int) + 1) = ((f.blocks[j].ins.length + 1 : Nat) : Int) by omega, wrap_nat (by omega)]
  rw [show ((sizeFs (m.funcs.take k) : Int) + (sizeB (f.blocks.take j) : Int) + ((f.blocks[j].ins.length + 1 : Nat) : Int)) = ((sizeFs (m.funcs.take k) + sizeB (f.blocks.take j) + (f.blocks[j].ins.length + 1) : Nat) : Int) by omega, wrap_nat (by omega)]
  omega
 ·rw [List.take_of_length_le hge]
  refine ⟨k + 1, by omega, by omega, srcs [], ?_⟩
  simp [SLeK]
  rw [sizeFs_take hlt, hf]
  exact ⟨DLe_int (by omega), DLe_int (wrap_succ (by omega))⟩
theorem exM7_passE0 : passE exM7 [] = 0 := by kernel_rfl
theorem exM7_passE9 : passE exM7 [9] = 1 := by kernel_rfl
theorem exM7_whole : wholeE exM7 = 0 := by kernel_rfl
theorem exM7_kok : KOk' exM7 := exM7_k.1
theorem exM7_size : sizeM exM7 = 2 := by kernel_rfl
set_option maxRecDepth 10000 in
theorem shown15_pure : APure Try.prog 5 [] (.bool true) := by
 refine apureG _ _ Try.func5 (by kernel_rfl) t_marlinelaw15_shown u_marlinelaw15_shown rfl rfl (fun _ => ?_)
 simp [c_marlinelaw15_shown, r_marlinelaw15_shown]
 have hc := prun_pure exM7 exM7_args exM7_kok [] (by simp) 0
 have hd := prun_pure exM7 exM7_args exM7_kok [9] (by simp) 0
 have e0 : runRes exM7 [] 0 = .tup [.agg (moduleC exM7), .int 0] := by unfold runRes; rw [if_pos exM7_passE0]; rfl
 have e9 : runRes exM7 [9] 0 = .tup [.agg (moduleC ⟨[], []⟩), .int 1] := by unfold runRes; rw [if_neg (by rw [exM7_passE9]; omega), exM7_passE9]
 rw [e0] at hc
 rw [e9] at hd
 have hblk : ∀ i (hi : i < exF7.blocks.length), DLes (List.take 8 (List.drop (i * 8) [DV.int 0, .sl 6 1 fun i => List.take 6 (List.drop (i * 6) [DV.int 1, DV.int 0, DV.int 0, DV.lit (.int .u64 7), .str ⟨#[]⟩, .lit (.slice none 0 0)]), DV.int 3, DV.int 0, DV.int 0, .lit (.slice none 0 0), DV.int 0, .lit (.slice none 0 0)])) (blockC exF7.blocks[i]) := by
  intro i hi
  obtain rfl := at07 hi
  refine ⟨DLe.refl _, insD_cells rfl fun k hk => ?_, DLe.refl _, DLe.refl _, DLe.refl _, intsD_nil, DLe.refl _, intsD_nil, trivial⟩
  obtain rfl := at07 hk
  exact ⟨DLe.refl _, DLe.refl _, DLe.refl _, DLe.refl _, DLe.refl _, intsD_nil, trivial⟩
 refine call_arg (ds := ?ds2) hc (by simp) (by simp) ?hd2 ?hle2 ?h2
 case hd2 => intro _; simp; rfl
 case hle2 =>
  intro _
  refine ⟨DLe_agg ⟨funcsD_cells rfl fun k hk => ?_, globsD_nil, trivial⟩, intsD_nil, DLe.refl _, trivial⟩
  obtain rfl := at07 hk
  exact ⟨DLe.refl _, DLe.refl _, DLe.refl _, blocksD_cells rfl hblk, trivial⟩
 simp
 refine call_arg (ds := ?ds3) hd (by simp) (by simp) ?hd3 ?hle3 ?h3
 case hd3 => intro _; simp; rfl
 case hle3 =>
  intro _
  refine ⟨DLe_agg ⟨funcsD_cells rfl fun k hk => ?_, globsD_nil, trivial⟩, intsD_le rfl fun k hk => ?_, DLe.refl _, trivial⟩
  ·obtain rfl := at07 hk
   exact ⟨DLe.refl _, DLe.refl _, DLe.refl _, blocksD_cells rfl hblk, trivial⟩
  ·obtain rfl := at07 hk
   rfl
 simp
 refine call_plain (ds := [.agg (moduleC exM7)]) _ (by simp) (by simp) (fun _ => by simp; rfl) (fun _ => psize_pure exM7 (wholeE_zero.1 exM7_whole).1) ?_
 have hfl : exM7.funcs.length = 1 := rfl
 simp [exM7_size, hfl]
theorem runRes_yes {m : Module} {tags : List Int} {budget : Int} (h : passE m tags = 0) : runRes m tags budget = .tup [.agg (moduleC (runP m tags budget)), .int 0] := if_pos h
theorem runRes_no {m : Module} {tags : List Int} {budget : Int} (h : ¬ passE m tags = 0) : runRes m tags budget = .tup [.agg (moduleC ⟨[], []⟩), .int (passE m tags)] := if_neg h
def c_marlinelaw15_PassSmall : ACode :=
 (.seq (.reg [Ro 2 (.box true (Sv 0)), Ro 4 (.mv (.c (.bool false)))])
 (.seq (.reg [Ro 9 (.call true (.f 5) []), Ro 5 (Mv 9)])
 (.seq (.seq (.reg [Ro 10 (Mv 1), Ro 11 (.len false (Sv 10)), Ro 12 (.bin .gtr (Sv 11) (Ci 100))])
 (.cond (Sv 12)
 (.seq (.reg [Ro 13 (Mv 5), Ro 4 (Mv 13)])
 .ret)
 .skip))
 (.seq (.seq (.reg [Ro 6 (.mv (Ci 0))])
 (.block 0
 (.loop (.seq (.seq (.reg [Ro 14 (Mv 6), Ro 15 (Mv 1), Ro 16 (.len false (Sv 15)), Ro 17 (.bin .lss (Sv 14) (Sv 16))])
 (.cond (Sv 17)
 .skip
 (.exit 0)))
 (.seq (.block 1
 (.seq (.reg [Ro 20 (Mv 1), Ro 21 (Mv 6), Ro 22 (.idx true (Sv 20) (Sv 21) 1), Ro 23 (Ld 22), Ro 24 (.bin .eql (Sv 23) (Ci 4))])
 (.cond (Sv 24)
 (.seq (.reg [Ro 25 (Mv 5), Ro 4 (Mv 25)])
 .ret)
 .skip)))
 (.reg [Ro 18 (Mv 6), Ro 19 (.bin .add (Sv 18) (Ci 1)), Ro 6 (Mv 19)]))))))
 (.seq (.seq (.reg [Ro 27 (Lk 2 2), Ro 28 (Mv 1), Ro 29 (.call true (.f 6) [Sv 27, Sv 28, Ci 3]), Ro 26 (Mv 29), Ro 30 (.ext (Sv 26) 0), Ro 31 (.ext (Sv 26) 1), Ro 7 (.new [(.slice none 0 0), (.slice none 0 0)]), Rn (.ini 1 (Sv 7) (Sv 30) 2), Ro 8 (Mv 31)])
 (.frz (sl 7)))
 (.seq (.reg [Rl 32 (Mv 5) 0, Rl 33 (Mv 32) 1, Rh 34 33 true (Mv 8) 2, Rh 35 33 true (.bin .neq (Sv 34) (Ci 0)) 3, Rh 36 33 true (Mv 35) 4, Rh 37 36 false (Lk 7 2) 5, Rh 38 36 false (.call true (.f 7) [Sv 37]) 6, Rh 39 36 false (Lk 2 2) 7, Rh 40 36 false (.call true (.f 7) [Sv 39]) 8, Rh 41 36 false (.bin .leq (Sv 38) (Sv 40)) 9, Rh 42 33 true (.pick (Sv 36) (.c (.bool true)) (Sv 41)) 10, Rl 43 (.pick (Sv 33) (Sv 42) (.c (.bool false))) 11, Rl 4 (Mv 43) 12])
 .ret))))))
def r_marlinelaw15_PassSmall : List ARes := [(.tmp (sl 4))]
theorem t_marlinelaw15_PassSmall : (Try.f3).body.bind (trCode Try.prog 8 (Try.f3).ntmps [] [] (drOk 8)) = some c_marlinelaw15_PassSmall := by kernel_rfl
theorem u_marlinelaw15_PassSmall : trRess Try.prog 8 (Try.f3).results.toList = some r_marlinelaw15_PassSmall := by kernel_rfl
set_option maxRecDepth 10000 in
theorem passSmall_pure (m : Module) (hm : ArgsOk m) (hk : KOk' m) (tags : List Int) : APure Try.prog 3 [.agg (moduleC m), intsD tags] (.bool true) := by
 refine apureG _ _ Try.func3 (by kernel_rfl) t_marlinelaw15_PassSmall u_marlinelaw15_PassSmall rfl rfl (fun _ => ?_)
 simp [c_marlinelaw15_PassSmall, r_marlinelaw15_PassSmall]
 refine call_plain (ds := []) _ (by simp) (by simp) (fun _ => rfl) (fun _ => shown15_pure) ?_
 simp
 intro hl
 refine loop_s (κ := Nat) (fun k => k ≤ tags.length ∧ ∀ i (h : i < tags.length), i < k → ¬ tags[i] = 4) (fun k => tags.length - k) (fun k => [(sl 6, .int k)]) (fun _ => []) 0 0 (srcs []) (by simp) (by simp) ?_
 rintro k ⟨hk1, hb⟩
 simp
 refine ⟨fun hlt => ⟨hlt, ?_⟩, fun hge => ?_⟩
 ·rw [getD_some hlt]
  intro h4
  refine ⟨k + 1, ⟨by omega, fun i hi hik => ?_⟩, by omega, srcs [], ?_⟩
  ·rcases Nat.lt_or_ge i k with h | h
   ·exact hb i hi h
   ·obtain rfl : i = k := by omega
    exact h4
  ·simp [SLeK]
   exact DLe_int (wrap_succ (by omega))
 have hno : ∀ t ∈ tags, ¬ t = 4 := fun t ht => by
  obtain ⟨i, hi, rfl⟩ := List.getElem_of_mem ht
  exact hb i hi (by omega)
 have hrun := prun_pure m hm hk tags (by omega) 3
 by_cases hp : passE m tags = 0
 ·rw [runRes_yes hp] at hrun
  have hw := (passE_zero.1 hp).2
  refine call_plain (ds := [.agg (moduleC m), intsD tags, .int 3]) _ (by simp) (by simp) (fun _ => by simp; rfl) (fun _ => hrun) ?_
  simp
  refine call_plain (ds := [.agg (moduleC (runP m tags 3))]) _ (by simp) (by simp) (fun _ => by simp; rfl) (fun _ => psize_pure _ (runP_ok tags (wholeE_zero.1 hw).1)) ?_
  simp
  refine call_plain (ds := [.agg (moduleC m)]) _ (by simp) (by simp) (fun _ => by simp; rfl) (fun _ => psize_pure m (wholeE_zero.1 hw).1) ?_
  have := runP_size (m := m) (budget := 3) tags hno
  simp
  exact DLe_bool (by simpa using this)
 ·rw [runRes_no hp] at hrun
  refine call_plain (ds := [.agg (moduleC m), intsD tags, .int 3]) _ (by simp) (by simp) (fun _ => by simp; rfl) (fun _ => hrun) ?_
  simp [hp]
  refine call_plain (F := 7) (ds := [.agg (moduleC m)]) (.int 0) (by simp) (by simp) (fun h => by simp at h) (fun h => by simp at h) ?_
  simp
  refine call_plain (F := 7) (ds := [.agg (moduleC m)]) (.int 0) (by simp) (by simp) (fun h => by simp at h) (fun h => by simp at h) ?_
  simp
end Go.Proofs.Ytgadlpdbkohlbaa
/- What an argument's memory reads as, as plain data with bounds on its bulk: numbers, strings, slices, structs. -/
namespace Go.Proofs.Ytgadlpdbkohlbaa
open Go.RowKit
section
variable {H : Type} (enc : TypeId × Value → H) (P : Program) (W : World)
def xNone : Nat → Nat → Prop := fun _ _ => False
def Light (d : DataW H) (t : TypeId) : Prop := ∀ n, n ∈ d.weights P t → n ≤ reachBytes
def RdT {α : Type} (t : TypeId) (n : Nat) (C : α → List DV) (B : α → Prop) (S : α → Nat) : Prop :=
 P.cellsOf t = n ∧ ∀ fuel cs x, DataW.trod enc P W 0 (fun _ => true) true fuel t cs = some x → Light P x.1 t → ∃ a, DReps xNone W cs (C a) ∧ B a ∧ S a ≤ Rows.uptoBulk x.1
variable {enc P W}
theorem DReps.append {X : Nat → Nat → Prop} {w : World} {vs us : List Value} {xs ys : List DV} (h : DReps X w vs xs) (k : DReps X w us ys) : DReps X w (vs ++ us) (xs ++ ys) := by
  induction vs generalizing xs with
  | nil =>
    have : xs = [] := by have := h.1; simpa using this.symm
    subst this; simpa using k
  | cons v vs ih =>
    cases xs with
    | nil => exact absurd h.1 (by simp)
    | cons a l => exact DReps.cons (h.2 0 (by simp) (by simp)) (ih ⟨by simpa using h.1, fun i hi hi' => h.2 (i + 1) (by simpa using hi) (by simpa using hi')⟩)
theorem DReps.one {X : Nat → Nat → Prop} {w : World} {v : Value} {a : DV} (h : DRep X w v a) : DReps X w [v] [a] := DReps.cons h (DReps.nil _ _)
theorem RdT.map {α β : Type} {t : TypeId} {n : Nat} {C : α → List DV} {B : α → Prop} {C' : β → List DV} {B' : β → Prop} {S : α → Nat} {S' : β → Nat} (h : RdT enc P W t n C B S) (g : α → β) (hC : ∀ a, C a = C' (g a)) (hB : ∀ a, B a → B' (g a)) (hS : ∀ a, S' (g a) ≤ S a) : RdT enc P W t n C' B' S' := by
 refine ⟨h.1, fun fuel cs x hx hl => ?_⟩
 obtain ⟨a, h1, h2, h3⟩ := h.2 fuel cs x hx hl
 exact ⟨g a, hC a ▸ h1, hB a h2, Nat.le_trans (hS a) h3⟩
theorem bounds_i64 {n : Int} (h : (Lit.int .i64 n).wf = true) : -9223372036854775808 ≤ n ∧ n ≤ 9223372036854775807 := by
 have h1 : IntKind.i64.min = -9223372036854775808 := by decide
 have h2 : IntKind.i64.max = 9223372036854775807 := by decide
 simp [Lit.wf, h1, h2] at h
 exact h
theorem bounds_u64 {n : Int} (h : (Lit.int .u64 n).wf = true) : 0 ≤ n ∧ n < 18446744073709551616 := by
 have h1 : IntKind.u64.min = 0 := by decide
 have h2 : IntKind.u64.max = 18446744073709551615 := by decide
 simp [Lit.wf, h1, h2] at h
 omega
theorem rd_int {t : TypeId} (hc : P.cellsOf t = 1) (ht : P.underlying t = some (.int .i64)) : RdT enc P W t 1 (fun n : Int => [.int n]) (fun n => -9223372036854775808 ≤ n ∧ n ≤ 9223372036854775807) (fun _ => 1) := by
 refine ⟨hc, fun fuel cs x hx _ => ?_⟩
 obtain ⟨n, rfl, hx1, hw⟩ := DataW.trod_int ht hx
 refine ⟨n, DReps.one (.lit _), ?_, by rw [hx1]; simp [Rows.uptoBulk]⟩
 have := bounds_i64 hw
 omega
theorem rd_u64 {t : TypeId} (hc : P.cellsOf t = 1) (ht : P.underlying t = some (.int .u64)) : RdT enc P W t 1 (fun n : Nat => [.lit (.int .u64 n)]) (fun n => n < 18446744073709551616) (fun _ => 1) := by
 refine ⟨hc, fun fuel cs x hx _ => ?_⟩
 obtain ⟨n, rfl, hx1, hw⟩ := DataW.trod_int ht hx
 have := bounds_u64 hw
 obtain ⟨m, rfl⟩ := Int.eq_ofNat_of_zero_le this.1
 exact ⟨m, DReps.one (.lit _), by omega, by rw [hx1]; simp [Rows.uptoBulk]⟩
theorem rd_bool {t : TypeId} (hc : P.cellsOf t = 1) (ht : P.underlying t = some .bool) : RdT enc P W t 1 (fun b : Bool => [.bool b]) (fun _ => True) (fun _ => 1) := by
 refine ⟨hc, fun fuel cs x hx _ => ?_⟩
 obtain ⟨b, rfl, hx1⟩ := DataW.trod_bool ht hx
 exact ⟨b, DReps.one (.lit _), trivial, by rw [hx1]; simp [Rows.uptoBulk]⟩
theorem rd_string {t : TypeId} (hc : P.cellsOf t = 1) (ht : P.underlying t = some .string) : RdT enc P W t 1 (fun s : ByteArray => [.str s]) (fun s => s.size ≤ reachBytes) (fun s => s.size + 1) := by
 refine ⟨hc, fun fuel cs x hx hl => ?_⟩
 obtain ⟨s, rfl, rfl, _⟩ := DataW.trod_string ht hx
 refine ⟨s, DReps.one (.lit _), ?_, ?_⟩
 ·have := hl s.data.toList.length (by simp [DataW.weights])
  simpa using this
 ·simp only [Rows.uptoBulk]
  rw [Array.length_toList]
  exact Nat.le_refl _
theorem weightsAll_mem {e : TypeId} {d : DataW H} : ∀ {l : List (DataW H)}, d ∈ l → ∀ n, n ∈ d.weights P e → n ∈ DataW.weightsAll P e l
  | x :: l, h, n, hn => by
    simp only [DataW.weightsAll, List.mem_append]
    rcases List.mem_cons.1 h with rfl | h
    · exact .inl hn
    · exact .inr (weightsAll_mem h n hn)
theorem bulk_sum {β : Type} (S : β → Nat) (f : Nat → β) (D : Nat → DataW H) : ∀ l : List Nat, (∀ i ∈ l, S (f i) ≤ Rows.uptoBulk (D i)) → ((l.map f).map S).sum ≤ Rows.uptoBulkAll (l.map D)
  | [], _ => Nat.zero_le _
  | i :: l, h => by
    have h1 := h i (by simp)
    have h2 := bulk_sum S f D l fun j hj => h j (by simp [hj])
    simp only [List.map_cons, List.sum_cons, Rows.uptoBulkAll]
    omega
theorem rd_slice {α : Type} [Inhabited α] {t e : TypeId} {n b : Nat} {C : α → List DV} {B : α → Prop} (hc : P.cellsOf t = 1) (ht : P.underlying t = some (.slice e)) (hn : 0 < n) (hb : P.bytesOf e = b) {S : α → Nat} (hC : ∀ a, (C a).length = n) (h : RdT enc P W e n C B S) :
  RdT enc P W t 1 (fun xs : List α => [.sl n xs.length fun k => C (xs[k]?.getD default)]) (fun xs => (∀ x, x ∈ xs → B x) ∧ xs.length * b ≤ reachBytes) (fun xs => (xs.map S).sum + 1) := by
 refine ⟨hc, fun fuel cs x hx hl => ?_⟩
 obtain ⟨hce, h⟩ := h
 rcases Deep.open_slice ht hx with ⟨rfl, rfl⟩ | ⟨a, len, cap, m, n', D, Pl, rfl, hb0, hlc, hcm, hm, rfl, hel⟩
 ·exact ⟨[], DReps.one (.nil _ _), ⟨fun x hx => by simp at hx, by simp⟩, by simp [Rows.uptoBulk]⟩
 ·simp only [if_true] at hm
  subst hm
  rw [hce] at hel
  have hw : ((List.range len).map D).length + ((List.range (m - len)).map fun j => D (len + j)).length = m := by simp; omega
  have hlw : m * b ≤ reachBytes := by
   refine hl _ ?_
   simp only [DataW.weights, ht]
   rw [hw, hb]
   simp
  have hDl : ∀ i, i < len → Light P (D i) e := by
   intro i hi k hk
   refine hl k ?_
   simp only [DataW.weights, ht]
   refine List.mem_cons_of_mem _ (List.mem_append_left _ (weightsAll_mem (d := D i) ?_ k hk))
   exact List.mem_map.2 ⟨i, List.mem_range.2 hi, rfl⟩
  have hall : ∀ i, i < len → ∃ p : α × List Value, W.cells? 0 (a.add (i * n)) n = some p.2 ∧ DReps xNone W p.2 (C p.1) ∧ B p.1 ∧ S p.1 ≤ Rows.uptoBulk (D i) := by
   intro i hi
   obtain ⟨cs', h1, h2⟩ := hel i (by omega)
   obtain ⟨y, h3, h4⟩ := h _ _ _ h2 (hDl i hi)
   exact ⟨(y, cs'), h1, h3, h4⟩
  haveI : Inhabited (α × List Value) := ⟨(default, [])⟩
  obtain ⟨f, hf⟩ := Deep.choose_lt hall
  have hxs : ((List.range len).map fun i => (f i).1).length = len := by simp
  have hget : ∀ i, i < len → ((List.range len).map fun i => (f i).1)[i]?.getD default = (f i).1 := fun i hi => by simp [hi]
  refine ⟨(List.range len).map fun i => (f i).1, DReps.one ?_, ⟨?_, ?_⟩, ?_⟩
  ·rw [hxs]
   by_cases hz : m = 0
   ·subst hz
    obtain rfl : len = 0 := by omega
    exact .emp _ _ _
   · -- the first cell is there
    obtain ⟨cs0, h0, _⟩ := hel 0 (by omega)
    obtain ⟨_, hl0, hc0⟩ := World.cells?_some h0
    have hc00 := hc0 0 hn
    rw [List.getElem?_eq_getElem (by omega)] at hc00
    have hspot : a.spot = none := by
     simp [Addr.add] at hc00
     unfold World.cell? at hc00
     split at hc00
     ·split at hc00
      ·cases hc00
      ·rename_i hs
       simpa using hs
     ·cases hc00
    have hblk : a.block < W.heap.size := by
     have := World.block_lt_of_cell? W _ hc00
     simpa [Addr.add] using this
    obtain ⟨ab, ao, aq⟩ := a
    simp only at hspot hblk
    subst hspot
    refine .sl ab ao m n len _ (fun i => (f i).2) hlc hcm hblk (fun _ _ _ _ h => h) (fun i hi => ?_) (fun i hi j v hv => ?_) (fun i hi j hj hj' => ?_)
    ·rw [hget i hi]
     exact ⟨hC _, (World.cells?_some (hf i hi).1).2.1⟩
    ·obtain ⟨_, hl1, hc1⟩ := World.cells?_some (hf i hi).1
     have hj : j < n := by have := (List.getElem?_eq_some_iff.1 hv).1; omega
     have := hc1 j hj
     rw [hv] at this
     rw [addr_add, addr_add, Nat.add_assoc] at this
     rw [Nat.add_assoc]
     exact this
    ·have h3 := (hf i hi).2.1
     have e := hget i hi
     simp only [e] at hj' ⊢
     exact h3.2 j hj hj'
  ·intro y hy
   obtain ⟨i, hi, rfl⟩ := List.mem_map.1 hy
   exact (hf i (List.mem_range.1 hi)).2.2.1
  ·rw [hxs]
   exact Nat.le_trans (Nat.mul_le_mul_right _ hlc) hlw
  ·have := bulk_sum S (fun i => (f i).1) D (List.range len) fun i hi => (hf i (List.mem_range.1 hi)).2.2.2
   simp only [Rows.uptoBulk]
   omega
def RdF {α : Type} (enc : TypeId × Value → H) (P : Program) (W : World) (fs : List Field) (o n : Nat) (C : α → List DV) (B : α → Prop) (S : α → Nat) : Prop :=
 ∀ (fuel : Nat) (cs : List Value) (xs : List (DataW H × List MemPlace)), xs.length = fs.length → (∀ (i : Nat) (f : Field), fs[i]? = some f → DataW.trod enc P W 0 (fun _ => true) true fuel f.type ((cs.drop f.offset).take (P.cellsOf f.type)) = xs[i]?) →
  (∀ k, k ∈ DataW.weightsEach P (fs.map (·.type)) (xs.map (·.1)) → k ≤ reachBytes) → ∃ a, DReps xNone W ((cs.drop o).take n) (C a) ∧ B a ∧ S a ≤ Rows.uptoBulkAll (xs.map (·.1))
theorem rd_nil (o : Nat) : RdF enc P W [] o 0 (fun _ : Unit => []) (fun _ => True) (fun _ => 0) := by
 intro fuel cs xs hl _ _
 exact ⟨(), by simpa using DReps.nil _ _, trivial, Nat.zero_le _⟩
theorem rd_cons {α β : Type} {f : Field} {fs : List Field} {o n m : Nat} {C : α → List DV} {B : α → Prop} {C' : β → List DV} {B' : β → Prop} {S : α → Nat} {S' : β → Nat} (ho : f.offset = o) (h : RdT enc P W f.type n C B S) (k : RdF enc P W fs (o + n) m C' B' S') :
    RdF enc P W (f :: fs) o (n + m) (fun p : α × β => C p.1 ++ C' p.2) (fun p => B p.1 ∧ B' p.2) (fun p => S p.1 + S' p.2) := by
  intro fuel cs xs hl hx hw
  cases xs with
  | nil => simp at hl
  | cons x xs =>
    have h0 := hx 0 f rfl
    rw [ho, h.1] at h0
    obtain ⟨a, h1, h2, h5⟩ := h.2 fuel _ x h0 (fun j hj => hw j (by simp [DataW.weightsEach, hj]))
    obtain ⟨b, h3, h4, h6⟩ := k fuel cs xs (by simpa using hl) (fun i f' hf => hx (i + 1) f' hf) (fun j hj => hw j (by simp only [List.map_cons, DataW.weightsEach, List.mem_append]; exact .inr hj))
    refine ⟨(a, b), ?_, ⟨h2, h4⟩, by simp only [List.map_cons, Rows.uptoBulkAll]; omega⟩
    have e : (cs.drop o).take (n + m) = (cs.drop o).take n ++ (cs.drop (o + n)).take m := by
      rw [List.take_add, List.drop_drop]
    rw [e]
    exact h1.append h3
theorem rd_struct {α : Type} {t : TypeId} {fs : Array Field} {l : List Field} {n : Nat} {C : α → List DV} {B : α → Prop} (ht : P.underlying t = some (.struct fs)) (hl : fs.toList = l) {S : α → Nat} (hc : P.cellsOf t = n) (h : RdF enc P W l 0 n C B S) : RdT enc P W t n C B S := by
 refine ⟨hc, fun fuel cs x hx hw => ?_⟩
 obtain ⟨xs, k, rfl, rfl, hlen, hxl, hxs⟩ := DataW.trod_struct ht hx
 subst hl
 obtain ⟨a, h1, h2, h3⟩ := h k cs xs (by simpa using hxl) (fun i f hf => hxs i f (by simpa using hf)) (fun j hj => hw j (by simpa only [DataW.weights, ht] using hj))
 refine ⟨a, ?_, h2, Nat.le_trans h3 (by simp only [Rows.uptoBulk]; omega)⟩
 have : (cs.drop 0).take n = cs := by rw [List.drop_zero, List.take_of_length_le (by omega)]
 rw [this] at h1
 exact h1
end
end Go.Proofs.Ytgadlpdbkohlbaa
/- What arguments of this program's own types read as: instructions, blocks, functions, modules. -/
namespace Go.Proofs.Ytgadlpdbkohlbaa
open Go.RowKit
def szInst (i : Inst) : Nat := i.name.size + i.args.length + 6
def szBlock (b : Block) : Nat := (b.ins.map szInst).sum + b.args.length + b.elses.length + 8
def szFunc (f : Func) : Nat := f.name.size + (f.blocks.map szBlock).sum + 4
def szGlob (g : Glob) : Nat := g.name.size + 4
theorem sum_ones {α : Type} (l : List α) : (l.map fun _ => 1).sum = l.length := by
 induction l with
 | nil => rfl
 | cons x l ih => simp only [List.map_cons, List.sum_cons, List.length_cons, ih]; omega
def bInst (i : Inst) : Prop := i.args.length ≤ 17592186044416 ∧ i.k < 18446744073709551616
def bBlock (b : Block) : Prop := (∀ i ∈ b.ins, bInst i) ∧ b.args.length ≤ 17592186044416 ∧ b.elses.length ≤ 17592186044416 ∧ b.ins.length ≤ 1954687338268
def bFunc (f : Func) : Prop := (∀ b ∈ f.blocks, bBlock b) ∧ f.blocks.length ≤ 2000000000000
section
variable {H : Type} {enc : TypeId × Value → H} {W : World}
theorem rdInt : RdT enc Try.prog W 3 1 (fun n : Int => [.int n]) (fun n => -9223372036854775808 ≤ n ∧ n ≤ 9223372036854775807) (fun _ => 1) := rd_int (by kernel_rfl) Try.underlying3
theorem rdU64 : RdT enc Try.prog W 37 1 (fun n : Nat => [.lit (.int .u64 n)]) (fun n => n < 18446744073709551616) (fun _ => 1) := rd_u64 (by kernel_rfl) Try.underlying37
theorem rdBool : RdT enc Try.prog W 4 1 (fun b : Bool => [.bool b]) (fun _ => True) (fun _ => 1) := rd_bool (by kernel_rfl) Try.underlying4
theorem rdStr : RdT enc Try.prog W 9 1 (fun s : ByteArray => [.str s]) (fun s => s.size ≤ reachBytes) (fun s => s.size + 1) := rd_string (by kernel_rfl) Try.underlying9
theorem rdInts : RdT enc Try.prog W 26 1 (fun xs : List Int => [intsD xs]) (fun xs => xs.length ≤ 17592186044416) (fun xs => xs.length + 1) :=
 (rd_slice (C := intC) (n := 1) (b := 8) (by kernel_rfl) Try.underlying26 (by decide) (by kernel_rfl) (fun _ => rfl) rdInt).map id (fun _ => rfl) (fun xs h => by
  have := h.2
  unfold reachBytes at this
  simp only [id]
  omega) (fun xs => by rw [sum_ones]; exact Nat.le_refl _)
set_option maxRecDepth 100000 in
theorem rdInst : RdT enc Try.prog W 39 6 instC bInst szInst := by
 have h := rd_struct (enc := enc) (W := W) (n := 6) Try.underlying39 rfl (by kernel_rfl) (rd_cons (n := 1) (m := 5) rfl rdInt (rd_cons (n := 1) (m := 4) rfl rdInt (rd_cons (n := 1) (m := 3) rfl rdInt (rd_cons (n := 1) (m := 2) rfl rdU64 (rd_cons (n := 1) (m := 1) rfl rdStr (rd_cons (n := 1) (m := 0) rfl rdInts (rd_nil 6)))))))
 exact h.map (fun p => ⟨p.1, p.2.1, p.2.2.1, p.2.2.2.1, p.2.2.2.2.1, p.2.2.2.2.2.1⟩) (fun _ => rfl) (fun p h => ⟨h.2.2.2.2.2.1, h.2.2.2.1⟩) (fun p => by simp only [szInst]; omega)
theorem rdIns : RdT enc Try.prog W 40 1 (fun xs : List Inst => [insD xs]) (fun xs => (∀ x ∈ xs, bInst x) ∧ xs.length ≤ 1954687338268) (fun xs => (xs.map szInst).sum + 1) :=
 (rd_slice (C := instC) (n := 6) (b := 72) (by kernel_rfl) Try.underlying40 (by decide) (by kernel_rfl) (fun _ => rfl) rdInst).map id (fun _ => rfl) (fun xs h => ⟨h.1, by
  have := h.2
  unfold reachBytes at this
  simp only [id]
  omega⟩) (fun _ => Nat.le_refl _)
set_option maxRecDepth 100000 in
theorem rdTerm : RdT enc Try.prog W 42 6 termC (fun b => b.args.length ≤ 17592186044416 ∧ b.elses.length ≤ 17592186044416) (fun b => b.args.length + b.elses.length + 6) := by
 have h := rd_struct (enc := enc) (W := W) (n := 6) Try.underlying42 rfl (by kernel_rfl) (rd_cons (n := 1) (m := 5) rfl rdInt (rd_cons (n := 1) (m := 4) rfl rdInt (rd_cons (n := 1) (m := 3) rfl rdInt (rd_cons (n := 1) (m := 2) rfl rdInts (rd_cons (n := 1) (m := 1) rfl rdInt (rd_cons (n := 1) (m := 0) rfl rdInts (rd_nil 6)))))))
 exact h.map (fun p => ⟨0, [], p.1, p.2.1, p.2.2.1, p.2.2.2.1, p.2.2.2.2.1, p.2.2.2.2.2.1⟩) (fun _ => rfl) (fun p h => ⟨h.2.2.2.1, h.2.2.2.2.2.1⟩) (fun p => by simp only []; omega)
set_option maxRecDepth 100000 in
theorem rdBlock : RdT enc Try.prog W 44 8 blockC bBlock szBlock := by
 have h := rd_struct (enc := enc) (W := W) (n := 8) Try.underlying44 rfl (by kernel_rfl) (rd_cons (n := 1) (m := 7) rfl rdInt (rd_cons (n := 1) (m := 6) rfl rdIns (rd_cons (n := 6) (m := 0) rfl rdTerm (rd_nil 8))))
 exact h.map (fun p => ⟨p.1, p.2.1, p.2.2.1.kind, p.2.2.1.ta, p.2.2.1.to, p.2.2.1.args, p.2.2.1.els, p.2.2.1.elses⟩) (fun _ => rfl) (fun p h => ⟨h.2.1.1, h.2.2.1.1, h.2.2.1.2, h.2.1.2⟩) (fun p => by simp only [szBlock]; omega)
theorem rdBlocks : RdT enc Try.prog W 45 1 (fun xs : List Block => [blocksD xs]) (fun xs => (∀ x ∈ xs, bBlock x) ∧ xs.length ≤ 2000000000000) (fun xs => (xs.map szBlock).sum + 1) :=
 (rd_slice (C := blockC) (n := 8) (b := 112) (by kernel_rfl) Try.underlying45 (by decide) (by kernel_rfl) (fun _ => rfl) rdBlock).map id (fun _ => rfl) (fun xs h => ⟨h.1, by
  have := h.2
  unfold reachBytes at this
  simp only [id]
  omega⟩) (fun _ => Nat.le_refl _)
set_option maxRecDepth 100000 in
theorem rdFunc : RdT enc Try.prog W 47 4 funcC bFunc szFunc := by
 have h := rd_struct (enc := enc) (W := W) (n := 4) Try.underlying47 rfl (by kernel_rfl) (rd_cons (n := 1) (m := 3) rfl rdStr (rd_cons (n := 1) (m := 2) rfl rdInt (rd_cons (n := 1) (m := 1) rfl rdInt (rd_cons (n := 1) (m := 0) rfl rdBlocks (rd_nil 4)))))
 exact h.map (fun p => ⟨p.1, p.2.1, p.2.2.1, p.2.2.2.1⟩) (fun _ => rfl) (fun p h => h.2.2.2.1) (fun p => by simp only [szFunc]; omega)
end
end Go.Proofs.Ytgadlpdbkohlbaa
/- What arguments of this program's own types read as: globals, modules. -/
namespace Go.Proofs.Ytgadlpdbkohlbaa
open Go.RowKit
def bGlob (g : Glob) : Prop := g.init < 18446744073709551616
def bModule (m : Module) : Prop := (∀ f ∈ m.funcs, bFunc f) ∧ m.funcs.length ≤ 2600000000000 ∧ m.globs.length ≤ 3600000000000 ∧ ∀ g ∈ m.globs, bGlob g
def szModule (m : Module) : Nat := (m.funcs.map szFunc).sum + (m.globs.map szGlob).sum + 2
section
variable {H : Type} {enc : TypeId × Value → H} {W : World}
set_option maxRecDepth 100000 in
theorem rdGlob : RdT enc Try.prog W 53 4 globC bGlob szGlob := by
 have h := rd_struct (enc := enc) (W := W) (n := 4) Try.underlying53 rfl (by kernel_rfl) (rd_cons (n := 1) (m := 3) rfl rdStr (rd_cons (n := 1) (m := 2) rfl rdInt (rd_cons (n := 1) (m := 1) rfl rdBool (rd_cons (n := 1) (m := 0) rfl rdU64 (rd_nil 4)))))
 exact h.map (fun p => ⟨p.1, p.2.1, p.2.2.1, p.2.2.2.1⟩) (fun _ => rfl) (fun p h => h.2.2.2.1) (fun p => by simp only [szGlob]; omega)
theorem rdGlobs : RdT enc Try.prog W 23 1 (fun xs : List Glob => [globsD xs]) (fun xs => (∀ x ∈ xs, bGlob x) ∧ xs.length ≤ 3600000000000) (fun xs => (xs.map szGlob).sum + 1) :=
 (rd_slice (C := globC) (n := 4) (b := 40) (by kernel_rfl) Try.underlying23 (by decide) (by kernel_rfl) (fun _ => rfl) rdGlob).map id (fun _ => rfl) (fun xs h => ⟨h.1, by
  have := h.2
  unfold reachBytes at this
  simp only [id]
  omega⟩) (fun _ => Nat.le_refl _)
theorem rdFuncs : RdT enc Try.prog W 22 1 (fun xs : List Func => [funcsD xs]) (fun xs => (∀ x ∈ xs, bFunc x) ∧ xs.length ≤ 2600000000000) (fun xs => (xs.map szFunc).sum + 1) :=
 (rd_slice (C := funcC) (n := 4) (b := 56) (by kernel_rfl) Try.underlying22 (by decide) (by kernel_rfl) (fun _ => rfl) rdFunc).map id (fun _ => rfl) (fun xs h => ⟨h.1, by
  have := h.2
  unfold reachBytes at this
  simp only [id]
  omega⟩) (fun _ => Nat.le_refl _)
set_option maxRecDepth 100000 in
theorem rdModule : RdT enc Try.prog W 25 2 moduleC bModule szModule := by
 have h := rd_struct (enc := enc) (W := W) (n := 2) Try.underlying25 rfl (by kernel_rfl) (rd_cons (n := 1) (m := 1) rfl rdFuncs (rd_cons (n := 1) (m := 0) rfl rdGlobs (rd_nil 2)))
 exact h.map (fun p => ⟨p.1, p.2.1⟩) (fun _ => rfl) (fun p h => ⟨h.1.1, h.1.2, h.2.1.2, h.2.1.1⟩) (fun p => by simp only [szModule]; omega)
end
end Go.Proofs.Ytgadlpdbkohlbaa
/- From a contract of the evaluator to a claim's own form: what an argument reads as; the call. -/
namespace Go.Proofs.Ytgadlpdbkohlbaa
open Go.RowKit
theorem own : ownKnob Try.prog.godebug = none := by kernel_rfl
theorem laid : laidOutB Try.prog = true := by kernel_rfl
theorem APure.yes {P : Program} {F : FuncId} {ds : List DV} (h : APure P F ds (.bool true)) {W : World} {args : Array Value} (hv : DReps xNone W args.toList ds) : Calls P F args W fun e w' => e = .returned (.bool true) ∧ Ext W w' := by
 refine (h.2 xNone W args (fun _ _ h => h.elim) hv).mono ?_
 rintro e w' ⟨hx, v, rfl, hv⟩
 cases hv
 exact ⟨rfl, hx⟩
section
variable {P : Program} {H : Type} {enc : TypeId × Value → H} {W : World} {α : Type} {t : TypeId} {n : Nat} {C : α → List DV} {B : α → Prop} {S : α → Nat} {v : Value} {d : DataW H} {ps : List MemPlace}
theorem open_aggS {fs : Array Field} (h : RdT enc P W t n C B S) (ht : P.underlying t = some (.struct fs)) (hval : Value.okWide P W .any 0 t v) (hd : DataW.Trod enc P W 0 (fun _ => true) true t v d ps) (hl : Light P d t) :
  ∃ a, DRep xNone W v (.agg (C a)) ∧ B a ∧ S a ≤ Rows.uptoBulk d := by
 obtain ⟨fuel, hd⟩ := hd
 obtain ⟨a, h1, h2⟩ := h.2 fuel _ _ hd hl
 unfold Value.okWide at hval
 rw [ht] at hval
 obtain ⟨cs, rfl, _⟩ := hval
 exact ⟨a, .agg cs.toList (C a) h1.1 h1.2, h2⟩
theorem open_agg {fs : Array Field} (h : RdT enc P W t n C B S) (ht : P.underlying t = some (.struct fs)) (hval : Value.okWide P W .any 0 t v) (hd : DataW.Trod enc P W 0 (fun _ => true) true t v d ps) (hl : Light P d t) :
  ∃ a, DRep xNone W v (.agg (C a)) ∧ B a := by
 obtain ⟨a, h1, h2, _⟩ := open_aggS h ht hval hd hl
 exact ⟨a, h1, h2⟩
theorem open_cellS {c : α → DV} (h : RdT enc P W t 1 (fun a => [c a]) B S) (ht : match P.underlying t with | some (.struct _) | some (.array _ _) => False | _ => True) (hval : Value.okWide P W .any 0 t v) (hd : DataW.Trod enc P W 0 (fun _ => true) true t v d ps) (hl : Light P d t) :
    ∃ a, DRep xNone W v (c a) ∧ B a ∧ S a ≤ Rows.uptoBulk d := by
  obtain ⟨fuel, hd⟩ := hd
  obtain ⟨a, h1, h2⟩ := h.2 fuel _ _ hd hl
  refine ⟨a, ?_, h2⟩
  have hc : v.cells = #[v] := by
    cases v with
    | agg cs =>
      unfold Value.okWide at hval
      split at hval
      · rename_i e; rw [e] at ht; exact ht.elim
      · rename_i e; rw [e] at ht; exact ht.elim
      · unfold Cell.okWide Cell.ok at hval
        generalize P.underlying t = u at hval
        cases u with
        | none => exact hval.elim
        | some u => cases u <;> exact hval.elim
    | _ => rfl
  rw [hc] at h1
  exact h1.2 0 (by simp) (by simp)
theorem open_cell {c : α → DV} (h : RdT enc P W t 1 (fun a => [c a]) B S) (ht : match P.underlying t with | some (.struct _) | some (.array _ _) => False | _ => True) (hval : Value.okWide P W .any 0 t v) (hd : DataW.Trod enc P W 0 (fun _ => true) true t v d ps) (hl : Light P d t) :
  ∃ a, DRep xNone W v (c a) ∧ B a := by
 obtain ⟨a, h1, h2, _⟩ := open_cellS h ht hval hd hl
 exact ⟨a, h1, h2⟩
theorem light_of {ts : List TypeId} {ds : List (DataW H)} (h : (DataW.weightsEach P ts ds).all (· ≤ reachBytes) = true) {j : Nat} (h1 : ts[j]? = some t) (h2 : ds[j]? = some d) : Light P d t := by
 intro n hn
 have := List.all_eq_true.1 h n (DataW.weights_mem_each h1 h2 n hn)
 simpa using this
end
end Go.Proofs.Ytgadlpdbkohlbaa
