/- The bodies of some functions, as the evaluator has them (printed by program), and that they are the program's own. -/
import Derived.Test.YtndpejmebhcaaaaKE
namespace Go.Proofs.Ytndpejmebhcaaaa
open Go.RowKit

/-- marline/inline.Leaf -/
def c_inline_Leaf : ACode :=
  (.seq (.reg [⟨(some (sl 2)), none, (.box true (.s (sl 0))), none⟩, ⟨(some (sl 4)), none, (.mv (.c (.bool false))), none⟩])
  (.seq (.seq (.reg [⟨(some (sl 7)), none, (.fld (.s (sl 2)) 3), none⟩, ⟨(some (sl 8)), none, (.ld true (.s (sl 7)) none), none⟩, ⟨(some (sl 9)), none, (.len false (.s (sl 8))), none⟩, ⟨(some (sl 10)), none, (.bin .neq (.s (sl 9)) (.c (.int .i64 1))), none⟩])
  (.cond (.s (sl 10))
  (.seq (.reg [⟨(some (sl 4)), none, (.mv (.c (.bool false))), none⟩])
  .ret)
  .skip))
  (.seq (.seq (.reg [⟨(some (sl 11)), none, (.fld (.s (sl 2)) 3), none⟩, ⟨(some (sl 12)), none, (.ld true (.s (sl 11)) none), none⟩, ⟨(some (sl 13)), none, (.idx true (.s (sl 12)) (.c (.int .i64 0)) 8), none⟩, ⟨(some (sl 14)), none, (.ld true (.s (sl 13)) (some 8)), none⟩, ⟨(some (sl 5)), none, (.new [(.int .i64 0), (.slice none 0 0), (.int .i64 0), (.int .i64 0), (.int .i64 0), (.slice none 0 0), (.int .i64 0), (.slice none 0 0)]), none⟩, ⟨none, none, (.ini 1 (.s (sl 5)) (.s (sl 14)) 8), none⟩])
  (.frz (sl 5)))
  (.seq (.reg [⟨(some (sl 6)), none, (.mv (.f 46)), none⟩])
  (.seq (.reg [⟨(some (sl 15)), none, (.fld (.s (sl 5)) 2), none⟩, ⟨(some (sl 16)), none, (.fld (.s (sl 15)) 0), none⟩, ⟨(some (sl 17)), none, (.ld true (.s (sl 16)) none), none⟩, ⟨(some (sl 18)), none, (.bin .eql (.s (sl 17)) (.c (.int .i64 3))), none⟩, ⟨(some (sl 19)), none, (.mv (.s (sl 18))), none⟩, ⟨(some (sl 20)), (some ((sl 19), true)), (.fld (.s (sl 5)) 1), none⟩, ⟨(some (sl 21)), (some ((sl 19), true)), (.ld true (.s (sl 20)) none), none⟩, ⟨(some (sl 22)), (some ((sl 19), true)), (.len false (.s (sl 21))), none⟩, ⟨(some (sl 23)), (some ((sl 19), true)), (.mv (.s (sl 1))), none⟩, ⟨(some (sl 24)), (some ((sl 19), true)), (.bin .leq (.s (sl 22)) (.s (sl 23))), none⟩, ⟨(some (sl 25)), none, (.pick (.s (sl 19)) (.s (sl 24)) (.c (.bool false))), none⟩, ⟨(some (sl 26)), none, (.mv (.s (sl 25))), none⟩, ⟨(some (sl 27)), (some ((sl 26), true)), (.fld (.s (sl 5)) 1), none⟩, ⟨(some (sl 28)), (some ((sl 26), true)), (.ld true (.s (sl 27)) none), none⟩, ⟨(some (sl 29)), (some ((sl 26), true)), (.mv (.s (sl 6))), none⟩, ⟨(some (sl 30)), (some ((sl 26), true)), (.call true (.f 47) [(.s (sl 28)), (.s (sl 29))]), none⟩, ⟨(some (sl 31)), (some ((sl 26), true)), (.not (.s (sl 30))), none⟩, ⟨(some (sl 32)), none, (.pick (.s (sl 26)) (.s (sl 31)) (.c (.bool false))), none⟩, ⟨(some (sl 4)), none, (.mv (.s (sl 32))), none⟩])
  .ret)))))
def r_inline_Leaf : List ARes := [(.tmp (sl 4))]
theorem t_inline_Leaf : (Try.f20).body.bind (trCode Try.prog 8 (Try.f20).ntmps [] [] (drOk 8)) = some c_inline_Leaf := by kernel_rfl
theorem u_inline_Leaf : trRess Try.prog 8 (Try.f20).results.toList = some r_inline_Leaf := by kernel_rfl

/-- marline/inline.Leaf$1 -/
def c_inline_Leaf_1 : ACode :=
  (.seq (.reg [⟨(some (sl 1)), none, (.box true (.s (sl 0))), none⟩, ⟨(some (sl 2)), none, (.mv (.c (.bool false))), none⟩])
  (.seq (.reg [⟨(some (sl 3)), none, (.fld (.s (sl 1)) 0), none⟩, ⟨(some (sl 4)), none, (.ld true (.s (sl 3)) none), none⟩, ⟨(some (sl 5)), none, (.bin .eql (.s (sl 4)) (.c (.int .i64 14))), none⟩, ⟨(some (sl 2)), none, (.mv (.s (sl 5))), none⟩])
  .ret))
def r_inline_Leaf_1 : List ARes := [(.tmp (sl 2))]
theorem t_inline_Leaf_1 : (Try.f46).body.bind (trCode Try.prog 8 (Try.f46).ntmps [] [] (drOk 8)) = some c_inline_Leaf_1 := by kernel_rfl
theorem u_inline_Leaf_1 : trRess Try.prog 8 (Try.f46).results.toList = some r_inline_Leaf_1 := by kernel_rfl

/-- slices.ContainsFunc[[]marline/api.Inst,marline/api.Inst] -/
def c_slices_ContainsFunc___api_Inst_api_Inst_ : ACode :=
  (.seq (.reg [⟨(some (sl 4)), none, (.mv (.c (.bool false))), none⟩])
  (.seq (.reg [⟨(some (sl 5)), none, (.mv (.s (sl 0))), none⟩, ⟨(some (sl 6)), none, (.mv (.s (sl 1))), none⟩, ⟨(some (sl 7)), none, (.call true (.f 75) [(.s (sl 5)), (.s (sl 6))]), none⟩, ⟨(some (sl 8)), none, (.bin .geq (.s (sl 7)) (.c (.int .i64 0))), none⟩, ⟨(some (sl 4)), none, (.mv (.s (sl 8))), none⟩])
  .ret))
def r_slices_ContainsFunc___api_Inst_api_Inst_ : List ARes := [(.tmp (sl 4))]
theorem t_slices_ContainsFunc___api_Inst_api_Inst_ : (Try.f47).body.bind (trCode Try.prog 8 (Try.f47).ntmps [] [] (drOk 8)) = some c_slices_ContainsFunc___api_Inst_api_Inst_ := by kernel_rfl
theorem u_slices_ContainsFunc___api_Inst_api_Inst_ : trRess Try.prog 8 (Try.f47).results.toList = some r_slices_ContainsFunc___api_Inst_api_Inst_ := by kernel_rfl

/-- slices.IndexFunc[[]marline/api.Inst,marline/api.Inst] -/
def c_slices_IndexFunc___api_Inst_api_Inst_ : ACode :=
  (.seq (.reg [⟨(some (sl 4)), none, (.mv (.c (.int .i64 0))), none⟩])
  (.seq (.seq (.reg [⟨(some (sl 6)), none, (.mv (.s (sl 0))), none⟩, ⟨(some (sl 7)), none, (.len false (.s (sl 6))), none⟩, ⟨(some (sl 8)), none, (.mv (.c (.int .i64 0))), none⟩])
  (.block 0
  (.loop (.seq (.reg [⟨(some (sl 9)), none, (.bin .lss (.s (sl 8)) (.s (sl 7))), none⟩])
  (.seq (.cond (.s (sl 9))
  .skip
  (.exit 0))
  (.seq (.block 1
  (.seq (.reg [⟨(some (sl 10)), none, (.mv (.s (sl 8))), none⟩, ⟨(some (sl 5)), none, (.mv (.s (sl 10))), none⟩])
  (.seq (.reg [⟨(some (sl 11)), none, (.mv (.s (sl 1))), none⟩, ⟨(some (sl 12)), none, (.mv (.s (sl 0))), none⟩, ⟨(some (sl 13)), none, (.mv (.s (sl 5))), none⟩, ⟨(some (sl 14)), none, (.idx true (.s (sl 12)) (.s (sl 13)) 6), none⟩, ⟨(some (sl 15)), none, (.ld true (.s (sl 14)) (some 6)), none⟩, ⟨(some (sl 16)), none, (.call true (.s (sl 11)) [(.s (sl 15))]), none⟩])
  (.cond (.s (sl 16))
  (.seq (.reg [⟨(some (sl 17)), none, (.mv (.s (sl 5))), none⟩, ⟨(some (sl 4)), none, (.mv (.s (sl 17))), none⟩])
  .ret)
  .skip))))
  (.reg [⟨(some (sl 18)), none, (.bin .add (.s (sl 8)) (.c (.int .i64 1))), none⟩, ⟨(some (sl 8)), none, (.mv (.s (sl 18))), none⟩])))))))
  (.seq (.reg [⟨(some (sl 4)), none, (.mv (.c (.int .i64 (-1)))), none⟩])
  .ret)))
def r_slices_IndexFunc___api_Inst_api_Inst_ : List ARes := [(.tmp (sl 4))]
theorem t_slices_IndexFunc___api_Inst_api_Inst_ : (Try.f75).body.bind (trCode Try.prog 8 (Try.f75).ntmps [] [] (drOk 8)) = some c_slices_IndexFunc___api_Inst_api_Inst_ := by kernel_rfl
theorem u_slices_IndexFunc___api_Inst_api_Inst_ : trRess Try.prog 8 (Try.f75).results.toList = some r_slices_IndexFunc___api_Inst_api_Inst_ := by kernel_rfl

/-- marline/inline.leaf -/
def c_inline_leaf : ACode :=
  (.seq (.reg [⟨(some (sl 3)), none, (.box true (.s (sl 0))), none⟩, ⟨(some (sl 4)), none, (.box true (.s (sl 1))), none⟩, ⟨(some (sl 6)), none, (.new [(.int .i64 0), (.slice none 0 0), (.int .i64 0), (.int .i64 0), (.int .i64 0), (.slice none 0 0), (.int .i64 0), (.slice none 0 0)]), none⟩, ⟨(some (sl 7)), none, (.mv (.c (.bool false))), none⟩])
  (.seq (.reg [⟨(some (sl 9)), none, (.fld (.s (sl 3)) 0), none⟩, ⟨(some (sl 10)), none, (.ld true (.s (sl 9)) none), none⟩, ⟨(some (sl 11)), none, (.mkfn 77 [(.s (sl 4))]), none⟩, ⟨(some (sl 12)), none, (.call true (.f 76) [(.s (sl 10)), (.s (sl 11))]), none⟩, ⟨(some (sl 8)), none, (.mv (.s (sl 12))), none⟩])
  (.seq (.seq (.reg [⟨(some (sl 13)), none, (.mv (.s (sl 8))), none⟩, ⟨(some (sl 14)), none, (.bin .lss (.s (sl 13)) (.c (.int .i64 0))), none⟩, ⟨(some (sl 15)), none, (.mv (.s (sl 14))), none⟩, ⟨(some (sl 16)), (some ((sl 15), false)), (.fld (.s (sl 3)) 0), none⟩, ⟨(some (sl 17)), (some ((sl 15), false)), (.ld true (.s (sl 16)) none), none⟩, ⟨(some (sl 18)), (some ((sl 15), false)), (.mv (.s (sl 8))), none⟩, ⟨(some (sl 19)), (some ((sl 15), false)), (.idx true (.s (sl 17)) (.s (sl 18)) 4), none⟩, ⟨(some (sl 20)), (some ((sl 15), false)), (.ld true (.s (sl 19)) (some 4)), none⟩, ⟨(some (sl 21)), (some ((sl 15), false)), (.mv (.s (sl 2))), none⟩, ⟨(some (sl 22)), (some ((sl 15), false)), (.call true (.f 20) [(.s (sl 20)), (.s (sl 21))]), none⟩, ⟨(some (sl 23)), (some ((sl 15), false)), (.not (.s (sl 22))), none⟩, ⟨(some (sl 24)), none, (.pick (.s (sl 15)) (.c (.bool true)) (.s (sl 23))), none⟩])
  (.cond (.s (sl 24))
  (.seq (.reg [⟨(some (sl 25)), none, (.bld [(.int .i64 0), (.slice none 0 0), (.int .i64 0), (.int .i64 0), (.int .i64 0), (.slice none 0 0), (.int .i64 0), (.slice none 0 0)] []), none⟩, ⟨none, none, (.st (.s (sl 6)) (.s (sl 25)) 8), none⟩, ⟨(some (sl 7)), none, (.mv (.c (.bool false))), none⟩])
  .ret)
  .skip))
  (.seq (.reg [⟨(some (sl 26)), none, (.fld (.s (sl 3)) 0), none⟩, ⟨(some (sl 27)), none, (.ld true (.s (sl 26)) none), none⟩, ⟨(some (sl 28)), none, (.mv (.s (sl 8))), none⟩, ⟨(some (sl 29)), none, (.idx true (.s (sl 27)) (.s (sl 28)) 4), none⟩, ⟨(some (sl 30)), none, (.fld (.s (sl 29)) 3), none⟩, ⟨(some (sl 31)), none, (.ld true (.s (sl 30)) none), none⟩, ⟨(some (sl 32)), none, (.idx true (.s (sl 31)) (.c (.int .i64 0)) 8), none⟩, ⟨(some (sl 33)), none, (.ld true (.s (sl 32)) (some 8)), none⟩, ⟨none, none, (.st (.s (sl 6)) (.s (sl 33)) 8), none⟩, ⟨(some (sl 7)), none, (.mv (.c (.bool true))), none⟩])
  .ret))))
def r_inline_leaf : List ARes := [(.cell (sl 6) (some 8)), (.tmp (sl 7))]
theorem t_inline_leaf : (Try.f50).body.bind (trCode Try.prog 8 (Try.f50).ntmps [6] [] (drOk 8)) = some c_inline_leaf := by kernel_rfl
theorem u_inline_leaf : trRess Try.prog 8 (Try.f50).results.toList = some r_inline_leaf := by kernel_rfl

/-- marline/inline.leaf$1 -/
def c_inline_leaf_1 : ACode :=
  (.seq (.reg [⟨(some (sl 2)), none, (.box true (.s (sl 0))), none⟩, ⟨(some (sl 3)), none, (.mv (.c (.bool false))), none⟩])
  (.seq (.reg [⟨(some (sl 4)), none, (.fld (.s (sl 2)) 0), none⟩, ⟨(some (sl 5)), none, (.ld true (.s (sl 4)) none), none⟩, ⟨(some (sl 6)), none, (.ld true (.s (sl 1)) none), none⟩, ⟨(some (sl 7)), none, (.bin .eql (.s (sl 5)) (.s (sl 6))), none⟩, ⟨(some (sl 3)), none, (.mv (.s (sl 7))), none⟩])
  .ret))
def r_inline_leaf_1 : List ARes := [(.tmp (sl 3))]
theorem t_inline_leaf_1 : (Try.f77).body.bind (trCode Try.prog 8 (Try.f77).ntmps [] [] (drOk 8)) = some c_inline_leaf_1 := by kernel_rfl
theorem u_inline_leaf_1 : trRess Try.prog 8 (Try.f77).results.toList = some r_inline_leaf_1 := by kernel_rfl

/-- marline/inline.Block -/
def c_inline_Block : ACode :=
  (.seq (.reg [⟨(some (sl 3)), none, (.box false (.s (sl 0))), none⟩, ⟨(some (sl 4)), none, (.box true (.s (sl 1))), none⟩, ⟨(some (sl 6)), none, (.new [(.int .i64 0), (.slice none 0 0), (.int .i64 0), (.int .i64 0), (.int .i64 0), (.slice none 0 0), (.int .i64 0), (.slice none 0 0)]), none⟩])
  (.seq (.reg [⟨(some (sl 7)), none, (.mv (.c (.int .i64 0))), none⟩])
  (.seq .skip
  (.seq (.block 0
  (.loop (.seq (.seq (.reg [⟨(some (sl 13)), none, (.mv (.s (sl 7))), none⟩, ⟨(some (sl 14)), none, (.fld (.s (sl 3)) 1), none⟩, ⟨(some (sl 15)), none, (.ld false (.s (sl 14)) none), none⟩, ⟨(some (sl 16)), none, (.len false (.s (sl 15))), none⟩, ⟨(some (sl 17)), none, (.bin .lss (.s (sl 13)) (.s (sl 16))), none⟩])
  (.cond (.s (sl 17))
  .skip
  (.exit 0)))
  (.block 1
  (.seq (.seq (.reg [⟨(some (sl 18)), none, (.fld (.s (sl 3)) 1), none⟩, ⟨(some (sl 19)), none, (.ld false (.s (sl 18)) none), none⟩, ⟨(some (sl 20)), none, (.mv (.s (sl 7))), none⟩, ⟨(some (sl 21)), none, (.idx false (.s (sl 19)) (.s (sl 20)) 6), none⟩, ⟨(some (sl 22)), none, (.ld false (.s (sl 21)) (some 6)), none⟩, ⟨(some (sl 8)), none, (.new [(.int .i64 0), (.int .i64 0), (.int .i64 0), (.int .u64 0), (.string ⟨#[]⟩), (.slice none 0 0)]), none⟩, ⟨none, none, (.ini 1 (.s (sl 8)) (.s (sl 22)) 6), none⟩])
  (.frz (sl 8)))
  (.seq (.seq (.reg [⟨(some (sl 23)), none, (.fld (.s (sl 8)) 0), none⟩, ⟨(some (sl 24)), none, (.ld true (.s (sl 23)) none), none⟩, ⟨(some (sl 25)), none, (.bin .neq (.s (sl 24)) (.c (.int .i64 14))), none⟩])
  (.cond (.s (sl 25))
  (.seq (.reg [⟨(some (sl 26)), none, (.mv (.s (sl 7))), none⟩, ⟨(some (sl 27)), none, (.bin .add (.s (sl 26)) (.c (.int .i64 1))), none⟩, ⟨(some (sl 7)), none, (.mv (.s (sl 27))), none⟩])
  (.exit 1))
  .skip))
  (.seq (.seq (.reg [⟨(some (sl 29)), none, (.ld true (.s (sl 4)) (some 2)), none⟩, ⟨(some (sl 30)), none, (.fld (.s (sl 8)) 4), none⟩, ⟨(some (sl 31)), none, (.ld true (.s (sl 30)) none), none⟩, ⟨(some (sl 32)), none, (.mv (.s (sl 2))), none⟩, ⟨(some (sl 33)), none, (.call true (.f 50) [(.s (sl 29)), (.s (sl 31)), (.s (sl 32))]), none⟩, ⟨(some (sl 28)), none, (.mv (.s (sl 33))), none⟩, ⟨(some (sl 34)), none, (.ext (.s (sl 28)) 0), none⟩, ⟨(some (sl 35)), none, (.ext (.s (sl 28)) 1), none⟩, ⟨(some (sl 9)), none, (.new [(.int .i64 0), (.slice none 0 0), (.int .i64 0), (.int .i64 0), (.int .i64 0), (.slice none 0 0), (.int .i64 0), (.slice none 0 0)]), none⟩, ⟨none, none, (.ini 1 (.s (sl 9)) (.s (sl 34)) 8), none⟩, ⟨(some (sl 10)), none, (.mv (.s (sl 35))), none⟩])
  (.frz (sl 9)))
  (.seq (.seq (.reg [⟨(some (sl 36)), none, (.mv (.s (sl 10))), none⟩, ⟨(some (sl 37)), none, (.not (.s (sl 36))), none⟩])
  (.cond (.s (sl 37))
  (.seq (.reg [⟨(some (sl 38)), none, (.mv (.s (sl 7))), none⟩, ⟨(some (sl 39)), none, (.bin .add (.s (sl 38)) (.c (.int .i64 1))), none⟩, ⟨(some (sl 7)), none, (.mv (.s (sl 39))), none⟩])
  (.exit 1))
  .skip))
  (.seq (.seq (.reg [⟨(some (sl 41)), none, (.ld false (.s (sl 3)) (some 8)), none⟩, ⟨(some (sl 42)), none, (.ld true (.s (sl 9)) (some 8)), none⟩, ⟨(some (sl 43)), none, (.mv (.s (sl 7))), none⟩, ⟨(some (sl 44)), none, (.call false (.f 40) [(.s (sl 41)), (.s (sl 42)), (.s (sl 43))]), none⟩, ⟨(some (sl 40)), none, (.mv (.s (sl 44))), none⟩, ⟨(some (sl 45)), none, (.ext (.s (sl 40)) 0), none⟩, ⟨(some (sl 46)), none, (.ext (.s (sl 40)) 1), none⟩, ⟨(some (sl 11)), none, (.new [(.int .i64 0), (.slice none 0 0), (.int .i64 0), (.int .i64 0), (.int .i64 0), (.slice none 0 0), (.int .i64 0), (.slice none 0 0)]), none⟩, ⟨none, none, (.ini 1 (.s (sl 11)) (.s (sl 45)) 8), none⟩, ⟨(some (sl 12)), none, (.mv (.s (sl 46))), none⟩])
  (.frz (sl 11)))
  (.seq (.seq (.reg [⟨(some (sl 47)), none, (.mv (.s (sl 12))), none⟩, ⟨(some (sl 48)), none, (.not (.s (sl 47))), none⟩])
  (.cond (.s (sl 48))
  (.seq (.reg [⟨(some (sl 49)), none, (.mv (.s (sl 7))), none⟩, ⟨(some (sl 50)), none, (.bin .add (.s (sl 49)) (.c (.int .i64 1))), none⟩, ⟨(some (sl 7)), none, (.mv (.s (sl 50))), none⟩])
  (.exit 1))
  .skip))
  (.seq (.reg [⟨(some (sl 51)), none, (.ld true (.s (sl 11)) (some 8)), none⟩, ⟨none, none, (.st (.s (sl 3)) (.s (sl 51)) 8), none⟩])
  (.reg [⟨(some (sl 52)), none, (.mv (.s (sl 7))), none⟩, ⟨(some (sl 53)), none, (.fld (.s (sl 9)) 1), none⟩, ⟨(some (sl 54)), none, (.ld true (.s (sl 53)) none), none⟩, ⟨(some (sl 55)), none, (.len false (.s (sl 54))), none⟩, ⟨(some (sl 56)), none, (.bin .add (.s (sl 52)) (.s (sl 55))), none⟩, ⟨(some (sl 7)), none, (.mv (.s (sl 56))), none⟩]))))))))))))
  (.seq (.reg [⟨(some (sl 57)), none, (.ld false (.s (sl 3)) (some 8)), none⟩, ⟨none, none, (.st (.s (sl 6)) (.s (sl 57)) 8), none⟩])
  .ret)))))
def r_inline_Block : List ARes := [(.cell (sl 6) (some 8))]
theorem t_inline_Block : (Try.f23).body.bind (trCode Try.prog 8 (Try.f23).ntmps [3, 6, 14, 15, 18, 19, 21, 22, 41, 57] [] (drOk 8)) = some c_inline_Block := by kernel_rfl
theorem u_inline_Block : trRess Try.prog 8 (Try.f23).results.toList = some r_inline_Block := by kernel_rfl

/-- marline/marlineref14.Leaf -/
def c_marlineref14_Leaf : ACode :=
  (.seq (.reg [⟨(some (sl 2)), none, (.box true (.s (sl 0))), none⟩, ⟨(some (sl 4)), none, (.mv (.c (.bool false))), none⟩])
  (.seq (.seq (.reg [⟨(some (sl 6)), none, (.fld (.s (sl 2)) 3), none⟩, ⟨(some (sl 7)), none, (.ld true (.s (sl 6)) none), none⟩, ⟨(some (sl 8)), none, (.len false (.s (sl 7))), none⟩, ⟨(some (sl 9)), none, (.bin .neq (.s (sl 8)) (.c (.int .i64 1))), none⟩, ⟨(some (sl 10)), none, (.mv (.s (sl 9))), none⟩, ⟨(some (sl 11)), (some ((sl 10), false)), (.fld (.s (sl 2)) 3), none⟩, ⟨(some (sl 12)), (some ((sl 10), false)), (.ld true (.s (sl 11)) none), none⟩, ⟨(some (sl 13)), (some ((sl 10), false)), (.idx true (.s (sl 12)) (.c (.int .i64 0)) 8), none⟩, ⟨(some (sl 14)), (some ((sl 10), false)), (.fld (.s (sl 13)) 2), none⟩, ⟨(some (sl 15)), (some ((sl 10), false)), (.fld (.s (sl 14)) 0), none⟩, ⟨(some (sl 16)), (some ((sl 10), false)), (.ld true (.s (sl 15)) none), none⟩, ⟨(some (sl 17)), (some ((sl 10), false)), (.bin .neq (.s (sl 16)) (.c (.int .i64 3))), none⟩, ⟨(some (sl 18)), none, (.pick (.s (sl 10)) (.c (.bool true)) (.s (sl 17))), none⟩, ⟨(some (sl 19)), none, (.mv (.s (sl 18))), none⟩, ⟨(some (sl 20)), (some ((sl 19), false)), (.fld (.s (sl 2)) 3), none⟩, ⟨(some (sl 21)), (some ((sl 19), false)), (.ld true (.s (sl 20)) none), none⟩, ⟨(some (sl 22)), (some ((sl 19), false)), (.idx true (.s (sl 21)) (.c (.int .i64 0)) 8), none⟩, ⟨(some (sl 23)), (some ((sl 19), false)), (.fld (.s (sl 22)) 1), none⟩, ⟨(some (sl 24)), (some ((sl 19), false)), (.ld true (.s (sl 23)) none), none⟩, ⟨(some (sl 25)), (some ((sl 19), false)), (.len false (.s (sl 24))), none⟩, ⟨(some (sl 26)), (some ((sl 19), false)), (.mv (.s (sl 1))), none⟩, ⟨(some (sl 27)), (some ((sl 19), false)), (.bin .gtr (.s (sl 25)) (.s (sl 26))), none⟩, ⟨(some (sl 28)), none, (.pick (.s (sl 19)) (.c (.bool true)) (.s (sl 27))), none⟩])
  (.cond (.s (sl 28))
  (.seq (.reg [⟨(some (sl 4)), none, (.mv (.c (.bool false))), none⟩])
  .ret)
  .skip))
  (.seq (.seq (.reg [⟨(some (sl 5)), none, (.mv (.c (.int .i64 0))), none⟩])
  (.block 0
  (.loop (.seq (.seq (.reg [⟨(some (sl 29)), none, (.mv (.s (sl 5))), none⟩, ⟨(some (sl 30)), none, (.fld (.s (sl 2)) 3), none⟩, ⟨(some (sl 31)), none, (.ld true (.s (sl 30)) none), none⟩, ⟨(some (sl 32)), none, (.idx true (.s (sl 31)) (.c (.int .i64 0)) 8), none⟩, ⟨(some (sl 33)), none, (.fld (.s (sl 32)) 1), none⟩, ⟨(some (sl 34)), none, (.ld true (.s (sl 33)) none), none⟩, ⟨(some (sl 35)), none, (.len false (.s (sl 34))), none⟩, ⟨(some (sl 36)), none, (.bin .lss (.s (sl 29)) (.s (sl 35))), none⟩])
  (.cond (.s (sl 36))
  .skip
  (.exit 0)))
  (.seq (.block 1
  (.seq (.reg [⟨(some (sl 39)), none, (.fld (.s (sl 2)) 3), none⟩, ⟨(some (sl 40)), none, (.ld true (.s (sl 39)) none), none⟩, ⟨(some (sl 41)), none, (.idx true (.s (sl 40)) (.c (.int .i64 0)) 8), none⟩, ⟨(some (sl 42)), none, (.fld (.s (sl 41)) 1), none⟩, ⟨(some (sl 43)), none, (.ld true (.s (sl 42)) none), none⟩, ⟨(some (sl 44)), none, (.mv (.s (sl 5))), none⟩, ⟨(some (sl 45)), none, (.idx true (.s (sl 43)) (.s (sl 44)) 6), none⟩, ⟨(some (sl 46)), none, (.fld (.s (sl 45)) 0), none⟩, ⟨(some (sl 47)), none, (.ld true (.s (sl 46)) none), none⟩, ⟨(some (sl 48)), none, (.bin .eql (.s (sl 47)) (.c (.int .i64 14))), none⟩])
  (.cond (.s (sl 48))
  (.seq (.reg [⟨(some (sl 4)), none, (.mv (.c (.bool false))), none⟩])
  .ret)
  .skip)))
  (.reg [⟨(some (sl 37)), none, (.mv (.s (sl 5))), none⟩, ⟨(some (sl 38)), none, (.bin .add (.s (sl 37)) (.c (.int .i64 1))), none⟩, ⟨(some (sl 5)), none, (.mv (.s (sl 38))), none⟩]))))))
  (.seq (.reg [⟨(some (sl 4)), none, (.mv (.c (.bool true))), none⟩])
  .ret))))
def r_marlineref14_Leaf : List ARes := [(.tmp (sl 4))]
theorem t_marlineref14_Leaf : (Try.f21).body.bind (trCode Try.prog 8 (Try.f21).ntmps [] [] (drOk 8)) = some c_marlineref14_Leaf := by kernel_rfl
theorem u_marlineref14_Leaf : trRess Try.prog 8 (Try.f21).results.toList = some r_marlineref14_Leaf := by kernel_rfl

/-- marline/marlineref14.Block -/
def c_marlineref14_Block : ACode :=
  (.seq (.reg [⟨(some (sl 3)), none, (.box false (.s (sl 0))), none⟩, ⟨(some (sl 4)), none, (.box true (.s (sl 1))), none⟩, ⟨(some (sl 6)), none, (.new [(.int .i64 0), (.slice none 0 0), (.int .i64 0), (.int .i64 0), (.int .i64 0), (.slice none 0 0), (.int .i64 0), (.slice none 0 0)]), none⟩])
  (.seq (.reg [⟨(some (sl 7)), none, (.mv (.c (.int .i64 0))), none⟩])
  (.seq (.block 0
  (.loop (.seq (.seq (.reg [⟨(some (sl 13)), none, (.mv (.s (sl 7))), none⟩, ⟨(some (sl 14)), none, (.fld (.s (sl 3)) 1), none⟩, ⟨(some (sl 15)), none, (.ld false (.s (sl 14)) none), none⟩, ⟨(some (sl 16)), none, (.len false (.s (sl 15))), none⟩, ⟨(some (sl 17)), none, (.bin .lss (.s (sl 13)) (.s (sl 16))), none⟩])
  (.cond (.s (sl 17))
  .skip
  (.exit 0)))
  (.block 1
  (.seq (.reg [⟨(some (sl 18)), none, (.mv (.s (sl 7))), none⟩, ⟨(some (sl 19)), none, (.bin .add (.s (sl 18)) (.c (.int .i64 1))), none⟩, ⟨(some (sl 8)), none, (.mv (.s (sl 19))), none⟩])
  (.seq (.reg [⟨(some (sl 20)), none, (.ld true (.s (sl 4)) (some 2)), (some (0, []))⟩, ⟨(some (sl 21)), none, (.fld (.s (sl 3)) 1), (some (1, []))⟩, ⟨(some (sl 22)), none, (.ld false (.s (sl 21)) none), (some (2, []))⟩, ⟨(some (sl 23)), none, (.mv (.s (sl 7))), (some (3, []))⟩, ⟨(some (sl 24)), none, (.idx false (.s (sl 22)) (.s (sl 23)) 6), (some (4, []))⟩, ⟨(some (sl 25)), none, (.fld (.s (sl 24)) 4), (some (5, []))⟩, ⟨(some (sl 26)), none, (.ld false (.s (sl 25)) none), (some (6, []))⟩, ⟨(some (sl 27)), none, (.call false (.f 44) [(.s (sl 20)), (.s (sl 26))]), (some (7, []))⟩, ⟨(some (sl 9)), none, (.mv (.s (sl 27))), (some (8, []))⟩])
  (.seq (.seq (.reg [⟨(some (sl 28)), none, (.fld (.s (sl 3)) 1), none⟩, ⟨(some (sl 29)), none, (.ld false (.s (sl 28)) none), none⟩, ⟨(some (sl 30)), none, (.mv (.s (sl 7))), none⟩, ⟨(some (sl 31)), none, (.idx false (.s (sl 29)) (.s (sl 30)) 6), none⟩, ⟨(some (sl 32)), none, (.fld (.s (sl 31)) 0), none⟩, ⟨(some (sl 33)), none, (.ld false (.s (sl 32)) none), none⟩, ⟨(some (sl 34)), none, (.bin .eql (.s (sl 33)) (.c (.int .i64 14))), none⟩, ⟨(some (sl 35)), none, (.mv (.s (sl 34))), none⟩, ⟨(some (sl 36)), (some ((sl 35), true)), (.mv (.s (sl 9))), none⟩, ⟨(some (sl 37)), (some ((sl 35), true)), (.bin .geq (.s (sl 36)) (.c (.int .i64 0))), none⟩, ⟨(some (sl 38)), none, (.pick (.s (sl 35)) (.s (sl 37)) (.c (.bool false))), none⟩])
  (.cond (.s (sl 38))
  (.seq (.reg [⟨(some (sl 39)), none, (.fld (.s (sl 4)) 0), none⟩, ⟨(some (sl 40)), none, (.ld true (.s (sl 39)) none), none⟩, ⟨(some (sl 41)), none, (.mv (.s (sl 9))), none⟩, ⟨(some (sl 42)), none, (.idx true (.s (sl 40)) (.s (sl 41)) 4), none⟩, ⟨(some (sl 43)), none, (.ld true (.s (sl 42)) (some 4)), none⟩, ⟨(some (sl 44)), none, (.mv (.s (sl 2))), none⟩, ⟨(some (sl 45)), none, (.call true (.f 21) [(.s (sl 43)), (.s (sl 44))]), none⟩, ⟨(some (sl 10)), none, (.mv (.s (sl 45))), none⟩])
  (.seq (.reg [⟨(some (sl 46)), none, (.mv (.s (sl 10))), none⟩])
  (.cond (.s (sl 46))
  (.seq (.seq (.reg [⟨(some (sl 48)), none, (.ld false (.s (sl 3)) (some 8)), (some (0, []))⟩, ⟨(some (sl 49)), none, (.fld (.s (sl 4)) 0), (some (1, []))⟩, ⟨(some (sl 50)), none, (.ld true (.s (sl 49)) none), (some (2, []))⟩, ⟨(some (sl 51)), none, (.mv (.s (sl 9))), (some (3, []))⟩, ⟨(some (sl 52)), none, (.idx true (.s (sl 50)) (.s (sl 51)) 4), (some (4, []))⟩, ⟨(some (sl 53)), none, (.fld (.s (sl 52)) 3), (some (5, []))⟩, ⟨(some (sl 54)), none, (.ld true (.s (sl 53)) none), (some (6, []))⟩, ⟨(some (sl 55)), none, (.idx true (.s (sl 54)) (.c (.int .i64 0)) 8), (some (7, []))⟩, ⟨(some (sl 56)), none, (.ld true (.s (sl 55)) (some 8)), (some (8, []))⟩, ⟨(some (sl 57)), none, (.mv (.s (sl 7))), (some (9, []))⟩, ⟨(some (sl 58)), none, (.call false (.f 51) [(.s (sl 48)), (.s (sl 56)), (.s (sl 57))]), (some (10, []))⟩, ⟨(some (sl 47)), none, (.mv (.s (sl 58))), (some (11, []))⟩, ⟨(some (sl 59)), none, (.ext (.s (sl 47)) 0), (some (12, []))⟩, ⟨(some (sl 60)), none, (.ext (.s (sl 47)) 1), (some (13, []))⟩, ⟨(some (sl 11)), none, (.new [(.int .i64 0), (.slice none 0 0), (.int .i64 0), (.int .i64 0), (.int .i64 0), (.slice none 0 0), (.int .i64 0), (.slice none 0 0)]), (some (14, []))⟩, ⟨none, none, (.ini 1 (.s (sl 11)) (.s (sl 59)) 8), none⟩, ⟨(some (sl 12)), none, (.mv (.s (sl 60))), (some (16, []))⟩])
  (.frz (sl 11)))
  (.seq (.reg [⟨(some (sl 61)), none, (.mv (.s (sl 12))), none⟩])
  (.cond (.s (sl 61))
  (.seq (.reg [⟨(some (sl 62)), none, (.ld true (.s (sl 11)) (some 8)), none⟩, ⟨none, none, (.st (.s (sl 3)) (.s (sl 62)) 8), none⟩])
  (.reg [⟨(some (sl 63)), none, (.mv (.s (sl 7))), none⟩, ⟨(some (sl 64)), none, (.fld (.s (sl 4)) 0), none⟩, ⟨(some (sl 65)), none, (.ld true (.s (sl 64)) none), none⟩, ⟨(some (sl 66)), none, (.mv (.s (sl 9))), none⟩, ⟨(some (sl 67)), none, (.idx true (.s (sl 65)) (.s (sl 66)) 4), none⟩, ⟨(some (sl 68)), none, (.fld (.s (sl 67)) 3), none⟩, ⟨(some (sl 69)), none, (.ld true (.s (sl 68)) none), none⟩, ⟨(some (sl 70)), none, (.idx true (.s (sl 69)) (.c (.int .i64 0)) 8), none⟩, ⟨(some (sl 71)), none, (.fld (.s (sl 70)) 1), none⟩, ⟨(some (sl 72)), none, (.ld true (.s (sl 71)) none), none⟩, ⟨(some (sl 73)), none, (.len false (.s (sl 72))), none⟩, ⟨(some (sl 74)), none, (.bin .add (.s (sl 63)) (.s (sl 73))), none⟩, ⟨(some (sl 8)), none, (.mv (.s (sl 74))), none⟩]))
  .skip)))
  .skip)))
  .skip))
  (.reg [⟨(some (sl 75)), none, (.mv (.s (sl 8))), none⟩, ⟨(some (sl 7)), none, (.mv (.s (sl 75))), none⟩]))))))))
  (.seq (.reg [⟨(some (sl 76)), none, (.ld false (.s (sl 3)) (some 8)), none⟩, ⟨none, none, (.st (.s (sl 6)) (.s (sl 76)) 8), none⟩])
  .ret))))
def r_marlineref14_Block : List ARes := [(.cell (sl 6) (some 8))]
theorem t_marlineref14_Block : (Try.f24).body.bind (trCode Try.prog 8 (Try.f24).ntmps [3, 6, 14, 15, 21, 22, 24, 25, 26, 28, 29, 31, 32, 33, 48, 76] [] (drOk 8)) = some c_marlineref14_Block := by kernel_rfl
theorem u_marlineref14_Block : trRess Try.prog 8 (Try.f24).results.toList = some r_marlineref14_Block := by kernel_rfl

end Go.Proofs.Ytndpejmebhcaaaa
