/- Some texts of one kind, one behind the other. -/
import Derived.Test.YtifinpijhbkhnaaKE
/- The bodies of some functions, as the evaluator has them (printed by program), and that they are the program's own. -/
namespace Go.Proofs.Ytifinpijhbkhnaa
open Go.RowKit

/-- marline/reach.find -/
def c_reach_find : ACode :=
  (.seq (.reg [⟨(some (sl 2)), none, (.box true (.s (sl 0))), none⟩, ⟨(some (sl 3)), none, (.box true (.s (sl 1))), none⟩, ⟨(some (sl 4)), none, (.new [(.string ⟨#[]⟩), (.int .i64 0), (.int .i64 0), (.slice none 0 0)]), none⟩, ⟨(some (sl 5)), none, (.mv (.c (.bool false))), none⟩])
  (.seq (.reg [⟨(some (sl 7)), none, (.fld (.s (sl 2)) 0), none⟩, ⟨(some (sl 8)), none, (.ld true (.s (sl 7)) none), none⟩, ⟨(some (sl 9)), none, (.mkfn 84 [(.s (sl 3))]), none⟩, ⟨(some (sl 10)), none, (.call true (.f 83) [(.s (sl 8)), (.s (sl 9))]), none⟩, ⟨(some (sl 6)), none, (.mv (.s (sl 10))), none⟩])
  (.seq (.seq (.reg [⟨(some (sl 11)), none, (.mv (.s (sl 6))), none⟩, ⟨(some (sl 12)), none, (.bin .lss (.s (sl 11)) (.c (.int .i64 0))), none⟩])
  (.cond (.s (sl 12))
  (.seq (.reg [⟨(some (sl 13)), none, (.bld [(.string ⟨#[]⟩), (.int .i64 0), (.int .i64 0), (.slice none 0 0)] []), none⟩, ⟨none, none, (.st (.s (sl 4)) (.s (sl 13)) 4), none⟩, ⟨(some (sl 5)), none, (.mv (.c (.bool false))), none⟩])
  .ret)
  .skip))
  (.seq (.reg [⟨(some (sl 14)), none, (.fld (.s (sl 2)) 0), none⟩, ⟨(some (sl 15)), none, (.ld true (.s (sl 14)) none), none⟩, ⟨(some (sl 16)), none, (.mv (.s (sl 6))), none⟩, ⟨(some (sl 17)), none, (.idx true (.s (sl 15)) (.s (sl 16)) 4), none⟩, ⟨(some (sl 18)), none, (.ld true (.s (sl 17)) (some 4)), none⟩, ⟨none, none, (.st (.s (sl 4)) (.s (sl 18)) 4), none⟩, ⟨(some (sl 5)), none, (.mv (.c (.bool true))), none⟩])
  .ret))))
def r_reach_find : List ARes := [(.cell (sl 4) (some 4)), (.tmp (sl 5))]
theorem t_reach_find : (Try.f54).body.bind (trCode Try.prog 8 (Try.f54).ntmps [4] [] (drOk 8)) = some c_reach_find := by kernel_rfl
theorem u_reach_find : trRess Try.prog 8 (Try.f54).results.toList = some r_reach_find := by kernel_rfl

/-- marline/reach.find$1 -/
def c_reach_find_1 : ACode :=
  (.seq (.reg [⟨(some (sl 2)), none, (.box true (.s (sl 0))), none⟩, ⟨(some (sl 3)), none, (.mv (.c (.bool false))), none⟩])
  (.seq (.reg [⟨(some (sl 4)), none, (.fld (.s (sl 2)) 0), none⟩, ⟨(some (sl 5)), none, (.ld true (.s (sl 4)) none), none⟩, ⟨(some (sl 6)), none, (.ld true (.s (sl 1)) none), none⟩, ⟨(some (sl 7)), none, (.bin .eql (.s (sl 5)) (.s (sl 6))), none⟩, ⟨(some (sl 3)), none, (.mv (.s (sl 7))), none⟩])
  .ret))
def r_reach_find_1 : List ARes := [(.tmp (sl 3))]
theorem t_reach_find_1 : (Try.f84).body.bind (trCode Try.prog 8 (Try.f84).ntmps [] [] (drOk 8)) = some c_reach_find_1 := by kernel_rfl
theorem u_reach_find_1 : trRess Try.prog 8 (Try.f84).results.toList = some r_reach_find_1 := by kernel_rfl

/-- slices.IndexFunc[[]marline/api.Func,marline/api.Func] -/
def c_slices_IndexFunc___api_Func_api_Func_ : ACode :=
  (.seq (.reg [⟨(some (sl 4)), none, (.mv (.c (.int .i64 0))), none⟩])
  (.seq (.seq (.reg [⟨(some (sl 6)), none, (.mv (.s (sl 0))), none⟩, ⟨(some (sl 7)), none, (.len false (.s (sl 6))), none⟩, ⟨(some (sl 8)), none, (.mv (.c (.int .i64 0))), none⟩])
  (.block 0
  (.loop (.seq (.reg [⟨(some (sl 9)), none, (.bin .lss (.s (sl 8)) (.s (sl 7))), none⟩])
  (.seq (.cond (.s (sl 9))
  .skip
  (.exit 0))
  (.seq (.block 1
  (.seq (.reg [⟨(some (sl 10)), none, (.mv (.s (sl 8))), none⟩, ⟨(some (sl 5)), none, (.mv (.s (sl 10))), none⟩])
  (.seq (.reg [⟨(some (sl 11)), none, (.mv (.s (sl 1))), none⟩, ⟨(some (sl 12)), none, (.mv (.s (sl 0))), none⟩, ⟨(some (sl 13)), none, (.mv (.s (sl 5))), none⟩, ⟨(some (sl 14)), none, (.idx true (.s (sl 12)) (.s (sl 13)) 4), none⟩, ⟨(some (sl 15)), none, (.ld true (.s (sl 14)) (some 4)), none⟩, ⟨(some (sl 16)), none, (.call true (.s (sl 11)) [(.s (sl 15))]), none⟩])
  (.cond (.s (sl 16))
  (.seq (.reg [⟨(some (sl 17)), none, (.mv (.s (sl 5))), none⟩, ⟨(some (sl 4)), none, (.mv (.s (sl 17))), none⟩])
  .ret)
  .skip))))
  (.reg [⟨(some (sl 18)), none, (.bin .add (.s (sl 8)) (.c (.int .i64 1))), none⟩, ⟨(some (sl 8)), none, (.mv (.s (sl 18))), none⟩])))))))
  (.seq (.reg [⟨(some (sl 4)), none, (.mv (.c (.int .i64 (-1)))), none⟩])
  .ret)))
def r_slices_IndexFunc___api_Func_api_Func_ : List ARes := [(.tmp (sl 4))]
theorem t_slices_IndexFunc___api_Func_api_Func_ : (Try.f83).body.bind (trCode Try.prog 8 (Try.f83).ntmps [] [] (drOk 8)) = some c_slices_IndexFunc___api_Func_api_Func_ := by kernel_rfl
theorem u_slices_IndexFunc___api_Func_api_Func_ : trRess Try.prog 8 (Try.f83).results.toList = some r_slices_IndexFunc___api_Func_api_Func_ := by kernel_rfl

/-- slices.Contains[[]string,string] -/
def c_slices_Contains___string_string_ : ACode :=
  (.seq (.reg [⟨(some (sl 4)), none, (.mv (.c (.bool false))), none⟩])
  (.seq (.reg [⟨(some (sl 5)), none, (.mv (.s (sl 0))), none⟩, ⟨(some (sl 6)), none, (.mv (.s (sl 1))), none⟩, ⟨(some (sl 7)), none, (.call true (.f 77) [(.s (sl 5)), (.s (sl 6))]), none⟩, ⟨(some (sl 8)), none, (.bin .geq (.s (sl 7)) (.c (.int .i64 0))), none⟩, ⟨(some (sl 4)), none, (.mv (.s (sl 8))), none⟩])
  .ret))
def r_slices_Contains___string_string_ : List ARes := [(.tmp (sl 4))]
theorem t_slices_Contains___string_string_ : (Try.f46).body.bind (trCode Try.prog 8 (Try.f46).ntmps [] [] (drOk 8)) = some c_slices_Contains___string_string_ := by kernel_rfl
theorem u_slices_Contains___string_string_ : trRess Try.prog 8 (Try.f46).results.toList = some r_slices_Contains___string_string_ := by kernel_rfl

/-- slices.Index[[]string,string] -/
def c_slices_Index___string_string_ : ACode :=
  (.seq (.reg [⟨(some (sl 4)), none, (.mv (.c (.int .i64 0))), none⟩])
  (.seq (.seq (.reg [⟨(some (sl 6)), none, (.mv (.s (sl 0))), none⟩, ⟨(some (sl 7)), none, (.len false (.s (sl 6))), none⟩, ⟨(some (sl 8)), none, (.mv (.c (.int .i64 0))), none⟩])
  (.block 0
  (.loop (.seq (.reg [⟨(some (sl 9)), none, (.bin .lss (.s (sl 8)) (.s (sl 7))), none⟩])
  (.seq (.cond (.s (sl 9))
  .skip
  (.exit 0))
  (.seq (.block 1
  (.seq (.reg [⟨(some (sl 10)), none, (.mv (.s (sl 8))), none⟩, ⟨(some (sl 5)), none, (.mv (.s (sl 10))), none⟩])
  (.seq (.reg [⟨(some (sl 11)), none, (.mv (.s (sl 1))), none⟩, ⟨(some (sl 12)), none, (.mv (.s (sl 0))), none⟩, ⟨(some (sl 13)), none, (.mv (.s (sl 5))), none⟩, ⟨(some (sl 14)), none, (.idx true (.s (sl 12)) (.s (sl 13)) 1), none⟩, ⟨(some (sl 15)), none, (.ld true (.s (sl 14)) none), none⟩, ⟨(some (sl 16)), none, (.bin .eql (.s (sl 11)) (.s (sl 15))), none⟩])
  (.cond (.s (sl 16))
  (.seq (.reg [⟨(some (sl 17)), none, (.mv (.s (sl 5))), none⟩, ⟨(some (sl 4)), none, (.mv (.s (sl 17))), none⟩])
  .ret)
  .skip))))
  (.reg [⟨(some (sl 18)), none, (.bin .add (.s (sl 8)) (.c (.int .i64 1))), none⟩, ⟨(some (sl 8)), none, (.mv (.s (sl 18))), none⟩])))))))
  (.seq (.reg [⟨(some (sl 4)), none, (.mv (.c (.int .i64 (-1)))), none⟩])
  .ret)))
def r_slices_Index___string_string_ : List ARes := [(.tmp (sl 4))]
theorem t_slices_Index___string_string_ : (Try.f77).body.bind (trCode Try.prog 8 (Try.f77).ntmps [] [] (drOk 8)) = some c_slices_Index___string_string_ := by kernel_rfl
theorem u_slices_Index___string_string_ : trRess Try.prog 8 (Try.f77).results.toList = some r_slices_Index___string_string_ := by kernel_rfl

/-- marline/reach.Roots -/
def c_reach_Roots : ACode :=
  (.seq (.reg [⟨(some (sl 1)), none, (.box true (.s (sl 0))), none⟩, ⟨(some (sl 2)), none, (.mv (.c (.slice none 0 0))), none⟩])
  (.seq (.reg [⟨(some (sl 3)), none, (.mv (.c (.slice none 0 0))), none⟩])
  (.seq (.seq (.reg [⟨(some (sl 8)), none, (.fld (.s (sl 1)) 0), none⟩, ⟨(some (sl 9)), none, (.ld true (.s (sl 8)) none), none⟩, ⟨(some (sl 10)), none, (.len false (.s (sl 9))), none⟩, ⟨(some (sl 11)), none, (.mv (.c (.int .i64 0))), none⟩])
  (.block 0
  (.loop (.seq (.reg [⟨(some (sl 12)), none, (.bin .lss (.s (sl 11)) (.s (sl 10))), none⟩])
  (.seq (.cond (.s (sl 12))
  .skip
  (.exit 0))
  (.seq (.block 1
  (.seq (.seq (.reg [⟨(some (sl 13)), none, (.idx true (.s (sl 9)) (.s (sl 11)) 4), none⟩, ⟨(some (sl 14)), none, (.ld true (.s (sl 13)) (some 4)), none⟩, ⟨(some (sl 5)), none, (.new [(.string ⟨#[]⟩), (.int .i64 0), (.int .i64 0), (.slice none 0 0)]), none⟩, ⟨none, none, (.ini 1 (.s (sl 5)) (.s (sl 14)) 4), none⟩])
  (.frz (sl 5)))
  (.seq (.reg [⟨(some (sl 15)), none, (.fld (.s (sl 5)) 1), none⟩, ⟨(some (sl 16)), none, (.ld true (.s (sl 15)) none), none⟩, ⟨(some (sl 17)), none, (.bin .eql (.s (sl 16)) (.c (.int .i64 2))), none⟩, ⟨(some (sl 18)), none, (.mv (.s (sl 17))), none⟩, ⟨(some (sl 19)), (some ((sl 18), false)), (.fld (.s (sl 5)) 0), none⟩, ⟨(some (sl 20)), (some ((sl 18), false)), (.ld true (.s (sl 19)) none), none⟩, ⟨(some (sl 21)), (some ((sl 18), false)), (.bin .eql (.s (sl 20)) (.c (.string ⟨#[109, 97, 105, 110]⟩))), none⟩, ⟨(some (sl 22)), none, (.pick (.s (sl 18)) (.c (.bool true)) (.s (sl 21))), none⟩])
  (.cond (.s (sl 22))
  (.reg [⟨(some (sl 23)), none, (.mv (.s (sl 3))), none⟩, ⟨(some (sl 24)), none, (.fld (.s (sl 5)) 0), none⟩, ⟨(some (sl 25)), none, (.ld true (.s (sl 24)) none), none⟩, ⟨(some (sl 26)), none, (.mksl 1 1 [(.string ⟨#[]⟩)] [(0, 1, (.s (sl 25)))]), none⟩, ⟨(some (sl 27)), none, (.app 9 1 16 (.s (sl 23)) (.s (sl 26))), none⟩, ⟨(some (sl 3)), none, (.mv (.s (sl 27))), none⟩])
  .skip))))
  (.reg [⟨(some (sl 28)), none, (.bin .add (.s (sl 11)) (.c (.int .i64 1))), none⟩, ⟨(some (sl 11)), none, (.mv (.s (sl 28))), none⟩])))))))
  (.seq (.seq (.reg [⟨(some (sl 29)), none, (.fld (.s (sl 1)) 1), none⟩, ⟨(some (sl 30)), none, (.ld true (.s (sl 29)) none), none⟩, ⟨(some (sl 31)), none, (.len false (.s (sl 30))), none⟩, ⟨(some (sl 32)), none, (.mv (.c (.int .i64 0))), none⟩])
  (.block 2
  (.loop (.seq (.reg [⟨(some (sl 33)), none, (.bin .lss (.s (sl 32)) (.s (sl 31))), none⟩])
  (.seq (.cond (.s (sl 33))
  .skip
  (.exit 2))
  (.seq (.block 3
  (.seq (.seq (.reg [⟨(some (sl 34)), none, (.idx true (.s (sl 30)) (.s (sl 32)) 4), none⟩, ⟨(some (sl 35)), none, (.ld true (.s (sl 34)) (some 4)), none⟩, ⟨(some (sl 7)), none, (.new [(.string ⟨#[]⟩), (.int .i64 0), (.bool false), (.int .u64 0)]), none⟩, ⟨none, none, (.ini 1 (.s (sl 7)) (.s (sl 35)) 4), none⟩])
  (.frz (sl 7)))
  (.seq (.reg [⟨(some (sl 36)), none, (.fld (.s (sl 7)) 1), none⟩, ⟨(some (sl 37)), none, (.ld true (.s (sl 36)) none), none⟩, ⟨(some (sl 38)), none, (.bin .eql (.s (sl 37)) (.c (.int .i64 2))), none⟩])
  (.cond (.s (sl 38))
  (.reg [⟨(some (sl 39)), none, (.mv (.s (sl 3))), none⟩, ⟨(some (sl 40)), none, (.fld (.s (sl 7)) 0), none⟩, ⟨(some (sl 41)), none, (.ld true (.s (sl 40)) none), none⟩, ⟨(some (sl 42)), none, (.mksl 1 1 [(.string ⟨#[]⟩)] [(0, 1, (.s (sl 41)))]), none⟩, ⟨(some (sl 43)), none, (.app 9 1 16 (.s (sl 39)) (.s (sl 42))), none⟩, ⟨(some (sl 3)), none, (.mv (.s (sl 43))), none⟩])
  .skip))))
  (.reg [⟨(some (sl 44)), none, (.bin .add (.s (sl 32)) (.c (.int .i64 1))), none⟩, ⟨(some (sl 32)), none, (.mv (.s (sl 44))), none⟩])))))))
  (.seq (.reg [⟨(some (sl 45)), none, (.mv (.s (sl 3))), none⟩, ⟨(some (sl 2)), none, (.mv (.s (sl 45))), none⟩])
  .ret)))))
def r_reach_Roots : List ARes := [(.tmp (sl 2))]
theorem t_reach_Roots : (Try.f23).body.bind (trCode Try.prog 8 (Try.f23).ntmps [2, 3, 23, 27, 39, 43, 45] [] (drOk 8)) = some c_reach_Roots := by kernel_rfl
theorem u_reach_Roots : trRess Try.prog 8 (Try.f23).results.toList = some r_reach_Roots := by kernel_rfl

/-- marline/marlineref08.Has -/
def c_marlineref08_Has : ACode :=
  (.seq (.reg [⟨(some (sl 4)), none, (.mv (.c (.bool false))), none⟩])
  (.seq (.seq (.reg [⟨(some (sl 5)), none, (.mv (.c (.int .i64 0))), none⟩])
  (.block 0
  (.loop (.seq (.seq (.reg [⟨(some (sl 6)), none, (.mv (.s (sl 5))), none⟩, ⟨(some (sl 7)), none, (.mv (.s (sl 0))), none⟩, ⟨(some (sl 8)), none, (.len false (.s (sl 7))), none⟩, ⟨(some (sl 9)), none, (.bin .lss (.s (sl 6)) (.s (sl 8))), none⟩])
  (.cond (.s (sl 9))
  .skip
  (.exit 0)))
  (.seq (.block 1
  (.seq (.reg [⟨(some (sl 12)), none, (.mv (.s (sl 0))), none⟩, ⟨(some (sl 13)), none, (.mv (.s (sl 5))), none⟩, ⟨(some (sl 14)), none, (.idx true (.s (sl 12)) (.s (sl 13)) 1), none⟩, ⟨(some (sl 15)), none, (.ld true (.s (sl 14)) none), none⟩, ⟨(some (sl 16)), none, (.mv (.s (sl 1))), none⟩, ⟨(some (sl 17)), none, (.bin .eql (.s (sl 15)) (.s (sl 16))), none⟩])
  (.cond (.s (sl 17))
  (.seq (.reg [⟨(some (sl 4)), none, (.mv (.c (.bool true))), none⟩])
  .ret)
  .skip)))
  (.reg [⟨(some (sl 10)), none, (.mv (.s (sl 5))), none⟩, ⟨(some (sl 11)), none, (.bin .add (.s (sl 10)) (.c (.int .i64 1))), none⟩, ⟨(some (sl 5)), none, (.mv (.s (sl 11))), none⟩]))))))
  (.seq (.reg [⟨(some (sl 4)), none, (.mv (.c (.bool false))), none⟩])
  .ret)))
def r_marlineref08_Has : List ARes := [(.tmp (sl 4))]
theorem t_marlineref08_Has : (Try.f26).body.bind (trCode Try.prog 8 (Try.f26).ntmps [] [] (drOk 8)) = some c_marlineref08_Has := by kernel_rfl
theorem u_marlineref08_Has : trRess Try.prog 8 (Try.f26).results.toList = some r_marlineref08_Has := by kernel_rfl

/-- marline/reach.Calls -/
def c_reach_Calls : ACode :=
  (.seq (.reg [⟨(some (sl 2)), none, (.box true (.s (sl 0))), none⟩, ⟨(some (sl 4)), none, (.mv (.c (.slice none 0 0))), none⟩])
  (.seq (.seq (.reg [⟨(some (sl 13)), none, (.ld true (.s (sl 2)) (some 2)), none⟩, ⟨(some (sl 14)), none, (.mv (.s (sl 1))), none⟩, ⟨(some (sl 15)), none, (.call true (.f 54) [(.s (sl 13)), (.s (sl 14))]), none⟩, ⟨(some (sl 12)), none, (.mv (.s (sl 15))), none⟩, ⟨(some (sl 16)), none, (.ext (.s (sl 12)) 0), none⟩, ⟨(some (sl 17)), none, (.ext (.s (sl 12)) 1), none⟩, ⟨(some (sl 5)), none, (.new [(.string ⟨#[]⟩), (.int .i64 0), (.int .i64 0), (.slice none 0 0)]), none⟩, ⟨none, none, (.ini 1 (.s (sl 5)) (.s (sl 16)) 4), none⟩, ⟨(some (sl 6)), none, (.mv (.s (sl 17))), none⟩])
  (.frz (sl 5)))
  (.seq (.reg [⟨(some (sl 7)), none, (.mv (.c (.slice none 0 0))), none⟩])
  (.seq (.seq (.reg [⟨(some (sl 18)), none, (.fld (.s (sl 5)) 3), none⟩, ⟨(some (sl 19)), none, (.ld true (.s (sl 18)) none), none⟩, ⟨(some (sl 20)), none, (.len false (.s (sl 19))), none⟩, ⟨(some (sl 21)), none, (.mv (.c (.int .i64 0))), none⟩])
  (.block 0
  (.loop (.seq (.reg [⟨(some (sl 22)), none, (.bin .lss (.s (sl 21)) (.s (sl 20))), none⟩])
  (.seq (.cond (.s (sl 22))
  .skip
  (.exit 0))
  (.seq (.block 1
  (.seq (.seq (.reg [⟨(some (sl 23)), none, (.idx true (.s (sl 19)) (.s (sl 21)) 8), none⟩, ⟨(some (sl 24)), none, (.ld true (.s (sl 23)) (some 8)), none⟩, ⟨(some (sl 9)), none, (.new [(.int .i64 0), (.slice none 0 0), (.int .i64 0), (.int .i64 0), (.int .i64 0), (.slice none 0 0), (.int .i64 0), (.slice none 0 0)]), none⟩, ⟨none, none, (.ini 1 (.s (sl 9)) (.s (sl 24)) 8), none⟩])
  (.frz (sl 9)))
  (.seq (.reg [⟨(some (sl 25)), none, (.fld (.s (sl 9)) 1), none⟩, ⟨(some (sl 26)), none, (.ld true (.s (sl 25)) none), none⟩, ⟨(some (sl 27)), none, (.len false (.s (sl 26))), none⟩, ⟨(some (sl 28)), none, (.mv (.c (.int .i64 0))), none⟩])
  (.block 2
  (.loop (.seq (.reg [⟨(some (sl 29)), none, (.bin .lss (.s (sl 28)) (.s (sl 27))), none⟩])
  (.seq (.cond (.s (sl 29))
  .skip
  (.exit 2))
  (.seq (.block 3
  (.seq (.seq (.reg [⟨(some (sl 30)), none, (.idx true (.s (sl 26)) (.s (sl 28)) 6), none⟩, ⟨(some (sl 31)), none, (.ld true (.s (sl 30)) (some 6)), none⟩, ⟨(some (sl 11)), none, (.new [(.int .i64 0), (.int .i64 0), (.int .i64 0), (.int .u64 0), (.string ⟨#[]⟩), (.slice none 0 0)]), none⟩, ⟨none, none, (.ini 1 (.s (sl 11)) (.s (sl 31)) 6), none⟩])
  (.frz (sl 11)))
  (.seq (.reg [⟨(some (sl 32)), none, (.fld (.s (sl 11)) 0), none⟩, ⟨(some (sl 33)), none, (.ld true (.s (sl 32)) none), none⟩, ⟨(some (sl 34)), none, (.bin .eql (.s (sl 33)) (.c (.int .i64 14))), none⟩])
  (.cond (.s (sl 34))
  (.reg [⟨(some (sl 35)), none, (.mv (.s (sl 7))), none⟩, ⟨(some (sl 36)), none, (.fld (.s (sl 11)) 4), none⟩, ⟨(some (sl 37)), none, (.ld true (.s (sl 36)) none), none⟩, ⟨(some (sl 38)), none, (.mksl 1 1 [(.string ⟨#[]⟩)] [(0, 1, (.s (sl 37)))]), none⟩, ⟨(some (sl 39)), none, (.app 9 1 16 (.s (sl 35)) (.s (sl 38))), none⟩, ⟨(some (sl 7)), none, (.mv (.s (sl 39))), none⟩])
  .skip))))
  (.reg [⟨(some (sl 40)), none, (.bin .add (.s (sl 28)) (.c (.int .i64 1))), none⟩, ⟨(some (sl 28)), none, (.mv (.s (sl 40))), none⟩])))))))))
  (.reg [⟨(some (sl 41)), none, (.bin .add (.s (sl 21)) (.c (.int .i64 1))), none⟩, ⟨(some (sl 21)), none, (.mv (.s (sl 41))), none⟩])))))))
  (.seq (.reg [⟨(some (sl 42)), none, (.mv (.s (sl 7))), none⟩, ⟨(some (sl 43)), none, (.call false (.f 85) [(.s (sl 42))]), none⟩, ⟨(some (sl 4)), none, (.mv (.s (sl 43))), none⟩])
  .ret)))))
def r_reach_Calls : List ARes := [(.tmp (sl 4))]
theorem t_reach_Calls : (Try.f55).body.bind (trCode Try.prog 8 (Try.f55).ntmps [7, 35, 39, 42] [] (drOk 8)) = some c_reach_Calls := by kernel_rfl
theorem u_reach_Calls : trRess Try.prog 8 (Try.f55).results.toList = some r_reach_Calls := by kernel_rfl

/-- slices.IndexFunc[[]string,string] -/
def c_slices_IndexFunc___string_string_ : ACode :=
  (.seq (.reg [⟨(some (sl 4)), none, (.mv (.c (.int .i64 0))), none⟩])
  (.seq (.seq (.reg [⟨(some (sl 6)), none, (.mv (.s (sl 0))), none⟩, ⟨(some (sl 7)), none, (.len false (.s (sl 6))), none⟩, ⟨(some (sl 8)), none, (.mv (.c (.int .i64 0))), none⟩])
  (.block 0
  (.loop (.seq (.reg [⟨(some (sl 9)), none, (.bin .lss (.s (sl 8)) (.s (sl 7))), none⟩])
  (.seq (.cond (.s (sl 9))
  .skip
  (.exit 0))
  (.seq (.block 1
  (.seq (.reg [⟨(some (sl 10)), none, (.mv (.s (sl 8))), none⟩, ⟨(some (sl 5)), none, (.mv (.s (sl 10))), none⟩])
  (.seq (.reg [⟨(some (sl 11)), none, (.mv (.s (sl 1))), none⟩, ⟨(some (sl 12)), none, (.mv (.s (sl 0))), none⟩, ⟨(some (sl 13)), none, (.mv (.s (sl 5))), none⟩, ⟨(some (sl 14)), none, (.idx true (.s (sl 12)) (.s (sl 13)) 1), none⟩, ⟨(some (sl 15)), none, (.ld true (.s (sl 14)) none), none⟩, ⟨(some (sl 16)), none, (.call true (.s (sl 11)) [(.s (sl 15))]), none⟩])
  (.cond (.s (sl 16))
  (.seq (.reg [⟨(some (sl 17)), none, (.mv (.s (sl 5))), none⟩, ⟨(some (sl 4)), none, (.mv (.s (sl 17))), none⟩])
  .ret)
  .skip))))
  (.reg [⟨(some (sl 18)), none, (.bin .add (.s (sl 8)) (.c (.int .i64 1))), none⟩, ⟨(some (sl 8)), none, (.mv (.s (sl 18))), none⟩])))))))
  (.seq (.reg [⟨(some (sl 4)), none, (.mv (.c (.int .i64 (-1)))), none⟩])
  .ret)))
def r_slices_IndexFunc___string_string_ : List ARes := [(.tmp (sl 4))]
theorem t_slices_IndexFunc___string_string_ : (Try.f88).body.bind (trCode Try.prog 8 (Try.f88).ntmps [] [] (drOk 8)) = some c_slices_IndexFunc___string_string_ := by kernel_rfl
theorem u_slices_IndexFunc___string_string_ : trRess Try.prog 8 (Try.f88).results.toList = some r_slices_IndexFunc___string_string_ := by kernel_rfl

/-- marline/marlineref11.Calls -/
def c_marlineref11_Calls : ACode :=
  (.seq (.reg [⟨(some (sl 2)), none, (.box true (.s (sl 0))), none⟩, ⟨(some (sl 4)), none, (.mv (.c (.slice none 0 0))), none⟩])
  (.seq (.reg [⟨(some (sl 11)), none, (.ld true (.s (sl 2)) (some 2)), none⟩, ⟨(some (sl 12)), none, (.mv (.s (sl 1))), none⟩, ⟨(some (sl 13)), none, (.call true (.f 25) [(.s (sl 11)), (.s (sl 12))]), none⟩, ⟨(some (sl 5)), none, (.mv (.s (sl 13))), none⟩])
  (.seq (.seq (.reg [⟨(some (sl 14)), none, (.mv (.s (sl 5))), none⟩, ⟨(some (sl 15)), none, (.bin .lss (.s (sl 14)) (.c (.int .i64 0))), none⟩])
  (.cond (.s (sl 15))
  (.seq (.reg [⟨(some (sl 4)), none, (.mv (.c (.slice none 0 0))), none⟩])
  .ret)
  .skip))
  (.seq (.reg [⟨(some (sl 6)), none, (.mv (.c (.slice none 0 0))), none⟩])
  (.seq (.seq (.reg [⟨(some (sl 7)), none, (.mv (.c (.int .i64 0))), none⟩])
  (.block 0
  (.loop (.seq (.seq (.reg [⟨(some (sl 16)), none, (.mv (.s (sl 7))), none⟩, ⟨(some (sl 17)), none, (.fld (.s (sl 2)) 0), none⟩, ⟨(some (sl 18)), none, (.ld true (.s (sl 17)) none), none⟩, ⟨(some (sl 19)), none, (.mv (.s (sl 5))), none⟩, ⟨(some (sl 20)), none, (.idx true (.s (sl 18)) (.s (sl 19)) 4), none⟩, ⟨(some (sl 21)), none, (.fld (.s (sl 20)) 3), none⟩, ⟨(some (sl 22)), none, (.ld true (.s (sl 21)) none), none⟩, ⟨(some (sl 23)), none, (.len false (.s (sl 22))), none⟩, ⟨(some (sl 24)), none, (.bin .lss (.s (sl 16)) (.s (sl 23))), none⟩])
  (.cond (.s (sl 24))
  .skip
  (.exit 0)))
  (.seq (.block 1
  (.seq (.seq (.reg [⟨(some (sl 27)), none, (.fld (.s (sl 2)) 0), none⟩, ⟨(some (sl 28)), none, (.ld true (.s (sl 27)) none), none⟩, ⟨(some (sl 29)), none, (.mv (.s (sl 5))), none⟩, ⟨(some (sl 30)), none, (.idx true (.s (sl 28)) (.s (sl 29)) 4), none⟩, ⟨(some (sl 31)), none, (.fld (.s (sl 30)) 3), none⟩, ⟨(some (sl 32)), none, (.ld true (.s (sl 31)) none), none⟩, ⟨(some (sl 33)), none, (.mv (.s (sl 7))), none⟩, ⟨(some (sl 34)), none, (.idx true (.s (sl 32)) (.s (sl 33)) 8), none⟩, ⟨(some (sl 35)), none, (.ld true (.s (sl 34)) (some 8)), none⟩, ⟨(some (sl 8)), none, (.new [(.int .i64 0), (.slice none 0 0), (.int .i64 0), (.int .i64 0), (.int .i64 0), (.slice none 0 0), (.int .i64 0), (.slice none 0 0)]), none⟩, ⟨none, none, (.ini 1 (.s (sl 8)) (.s (sl 35)) 8), none⟩])
  (.frz (sl 8)))
  (.seq (.reg [⟨(some (sl 9)), none, (.mv (.c (.int .i64 0))), none⟩])
  (.block 2
  (.loop (.seq (.seq (.reg [⟨(some (sl 36)), none, (.mv (.s (sl 9))), none⟩, ⟨(some (sl 37)), none, (.fld (.s (sl 8)) 1), none⟩, ⟨(some (sl 38)), none, (.ld true (.s (sl 37)) none), none⟩, ⟨(some (sl 39)), none, (.len false (.s (sl 38))), none⟩, ⟨(some (sl 40)), none, (.bin .lss (.s (sl 36)) (.s (sl 39))), none⟩])
  (.cond (.s (sl 40))
  .skip
  (.exit 2)))
  (.seq (.block 3
  (.seq (.reg [⟨(some (sl 43)), none, (.mv (.s (sl 6))), none⟩, ⟨(some (sl 44)), none, (.fld (.s (sl 8)) 1), none⟩, ⟨(some (sl 45)), none, (.ld true (.s (sl 44)) none), none⟩, ⟨(some (sl 46)), none, (.mv (.s (sl 9))), none⟩, ⟨(some (sl 47)), none, (.idx true (.s (sl 45)) (.s (sl 46)) 6), none⟩, ⟨(some (sl 48)), none, (.fld (.s (sl 47)) 4), none⟩, ⟨(some (sl 49)), none, (.ld true (.s (sl 48)) none), none⟩, ⟨(some (sl 50)), none, (.call false (.f 26) [(.s (sl 43)), (.s (sl 49))]), none⟩, ⟨(some (sl 10)), none, (.mv (.s (sl 50))), none⟩])
  (.seq (.reg [⟨(some (sl 51)), none, (.fld (.s (sl 8)) 1), none⟩, ⟨(some (sl 52)), none, (.ld true (.s (sl 51)) none), none⟩, ⟨(some (sl 53)), none, (.mv (.s (sl 9))), none⟩, ⟨(some (sl 54)), none, (.idx true (.s (sl 52)) (.s (sl 53)) 6), none⟩, ⟨(some (sl 55)), none, (.fld (.s (sl 54)) 0), none⟩, ⟨(some (sl 56)), none, (.ld true (.s (sl 55)) none), none⟩, ⟨(some (sl 57)), none, (.bin .eql (.s (sl 56)) (.c (.int .i64 14))), none⟩, ⟨(some (sl 58)), none, (.mv (.s (sl 57))), none⟩, ⟨(some (sl 59)), (some ((sl 58), true)), (.mv (.s (sl 10))), none⟩, ⟨(some (sl 60)), (some ((sl 58), true)), (.not (.s (sl 59))), none⟩, ⟨(some (sl 61)), none, (.pick (.s (sl 58)) (.s (sl 60)) (.c (.bool false))), none⟩])
  (.cond (.s (sl 61))
  (.reg [⟨(some (sl 62)), none, (.mv (.s (sl 6))), none⟩, ⟨(some (sl 63)), none, (.fld (.s (sl 8)) 1), none⟩, ⟨(some (sl 64)), none, (.ld true (.s (sl 63)) none), none⟩, ⟨(some (sl 65)), none, (.mv (.s (sl 9))), none⟩, ⟨(some (sl 66)), none, (.idx true (.s (sl 64)) (.s (sl 65)) 6), none⟩, ⟨(some (sl 67)), none, (.fld (.s (sl 66)) 4), none⟩, ⟨(some (sl 68)), none, (.ld true (.s (sl 67)) none), none⟩, ⟨(some (sl 69)), none, (.mksl 1 1 [(.string ⟨#[]⟩)] [(0, 1, (.s (sl 68)))]), none⟩, ⟨(some (sl 70)), none, (.app 9 1 16 (.s (sl 62)) (.s (sl 69))), none⟩, ⟨(some (sl 6)), none, (.mv (.s (sl 70))), none⟩])
  .skip))))
  (.reg [⟨(some (sl 41)), none, (.mv (.s (sl 9))), none⟩, ⟨(some (sl 42)), none, (.bin .add (.s (sl 41)) (.c (.int .i64 1))), none⟩, ⟨(some (sl 9)), none, (.mv (.s (sl 42))), none⟩]))))))))
  (.reg [⟨(some (sl 25)), none, (.mv (.s (sl 7))), none⟩, ⟨(some (sl 26)), none, (.bin .add (.s (sl 25)) (.c (.int .i64 1))), none⟩, ⟨(some (sl 7)), none, (.mv (.s (sl 26))), none⟩]))))))
  (.seq (.reg [⟨(some (sl 71)), none, (.mv (.s (sl 6))), none⟩, ⟨(some (sl 4)), none, (.mv (.s (sl 71))), none⟩])
  .ret))))))
def r_marlineref11_Calls : List ARes := [(.tmp (sl 4))]
theorem t_marlineref11_Calls : (Try.f30).body.bind (trCode Try.prog 8 (Try.f30).ntmps [4, 6, 43, 62, 70, 71] [] (drOk 8)) = some c_marlineref11_Calls := by kernel_rfl
theorem u_marlineref11_Calls : trRess Try.prog 8 (Try.f30).results.toList = some r_marlineref11_Calls := by kernel_rfl

/-- marline/marlineref11.From -/
def c_marlineref11_From : ACode :=
  (.seq (.reg [⟨(some (sl 2)), none, (.box true (.s (sl 0))), none⟩, ⟨(some (sl 4)), none, (.mv (.c (.slice none 0 0))), none⟩])
  (.seq (.reg [⟨(some (sl 15)), none, (.nrow 9 1), none⟩, ⟨(some (sl 16)), none, (.mv (.s (sl 1))), none⟩, ⟨(some (sl 17)), none, (.app 9 1 16 (.s (sl 15)) (.s (sl 16))), none⟩, ⟨(some (sl 5)), none, (.mv (.s (sl 17))), none⟩])
  (.seq (.seq (.reg [⟨(some (sl 6)), none, (.mv (.c (.int .i64 0))), none⟩])
  (.block 0
  (.loop (.seq (.seq (.reg [⟨(some (sl 18)), none, (.mv (.s (sl 6))), none⟩, ⟨(some (sl 19)), none, (.mv (.s (sl 5))), none⟩, ⟨(some (sl 20)), none, (.len false (.s (sl 19))), none⟩, ⟨(some (sl 21)), none, (.bin .lss (.s (sl 18)) (.s (sl 20))), none⟩])
  (.cond (.s (sl 21))
  .skip
  (.exit 0)))
  (.seq (.block 1
  (.seq (.reg [⟨(some (sl 24)), none, (.ld true (.s (sl 2)) (some 2)), (some (0, []))⟩, ⟨(some (sl 25)), none, (.mv (.s (sl 5))), (some (1, []))⟩, ⟨(some (sl 26)), none, (.mv (.s (sl 6))), (some (2, []))⟩, ⟨(some (sl 27)), none, (.idx false (.s (sl 25)) (.s (sl 26)) 1), (some (3, []))⟩, ⟨(some (sl 28)), none, (.ld false (.s (sl 27)) none), (some (4, []))⟩, ⟨(some (sl 29)), none, (.call false (.f 56) [(.s (sl 24)), (.s (sl 28))]), (some (5, []))⟩, ⟨(some (sl 7)), none, (.mv (.s (sl 29))), (some (6, []))⟩])
  (.seq (.reg [⟨(some (sl 8)), none, (.mv (.c (.int .i64 0))), none⟩])
  (.block 2
  (.loop (.seq (.seq (.reg [⟨(some (sl 30)), none, (.mv (.s (sl 8))), none⟩, ⟨(some (sl 31)), none, (.mv (.s (sl 7))), none⟩, ⟨(some (sl 32)), none, (.len false (.s (sl 31))), none⟩, ⟨(some (sl 33)), none, (.bin .lss (.s (sl 30)) (.s (sl 32))), none⟩])
  (.cond (.s (sl 33))
  .skip
  (.exit 2)))
  (.seq (.block 3
  (.seq (.reg [⟨(some (sl 36)), none, (.mv (.s (sl 5))), none⟩, ⟨(some (sl 37)), none, (.mv (.s (sl 7))), none⟩, ⟨(some (sl 38)), none, (.mv (.s (sl 8))), none⟩, ⟨(some (sl 39)), none, (.idx true (.s (sl 37)) (.s (sl 38)) 1), none⟩, ⟨(some (sl 40)), none, (.ld true (.s (sl 39)) none), none⟩, ⟨(some (sl 41)), none, (.call false (.f 26) [(.s (sl 36)), (.s (sl 40))]), none⟩, ⟨(some (sl 9)), none, (.mv (.s (sl 41))), none⟩])
  (.seq (.reg [⟨(some (sl 42)), none, (.mv (.s (sl 9))), none⟩, ⟨(some (sl 43)), none, (.not (.s (sl 42))), none⟩])
  (.cond (.s (sl 43))
  (.reg [⟨(some (sl 44)), none, (.mv (.s (sl 5))), none⟩, ⟨(some (sl 45)), none, (.mv (.s (sl 7))), none⟩, ⟨(some (sl 46)), none, (.mv (.s (sl 8))), none⟩, ⟨(some (sl 47)), none, (.idx true (.s (sl 45)) (.s (sl 46)) 1), none⟩, ⟨(some (sl 48)), none, (.ld true (.s (sl 47)) none), none⟩, ⟨(some (sl 49)), none, (.mksl 1 1 [(.string ⟨#[]⟩)] [(0, 1, (.s (sl 48)))]), none⟩, ⟨(some (sl 50)), none, (.app 9 1 16 (.s (sl 44)) (.s (sl 49))), none⟩, ⟨(some (sl 5)), none, (.mv (.s (sl 50))), none⟩])
  .skip))))
  (.reg [⟨(some (sl 34)), none, (.mv (.s (sl 8))), none⟩, ⟨(some (sl 35)), none, (.bin .add (.s (sl 34)) (.c (.int .i64 1))), none⟩, ⟨(some (sl 8)), none, (.mv (.s (sl 35))), none⟩]))))))))
  (.reg [⟨(some (sl 22)), none, (.mv (.s (sl 6))), none⟩, ⟨(some (sl 23)), none, (.bin .add (.s (sl 22)) (.c (.int .i64 1))), none⟩, ⟨(some (sl 6)), none, (.mv (.s (sl 23))), none⟩]))))))
  (.seq (.reg [⟨(some (sl 10)), none, (.mv (.c (.slice none 0 0))), none⟩])
  (.seq (.seq (.reg [⟨(some (sl 11)), none, (.mv (.c (.int .i64 0))), none⟩])
  (.block 4
  (.loop (.seq (.seq (.reg [⟨(some (sl 51)), none, (.mv (.s (sl 11))), none⟩, ⟨(some (sl 52)), none, (.fld (.s (sl 2)) 0), none⟩, ⟨(some (sl 53)), none, (.ld true (.s (sl 52)) none), none⟩, ⟨(some (sl 54)), none, (.len false (.s (sl 53))), none⟩, ⟨(some (sl 55)), none, (.fld (.s (sl 2)) 1), none⟩, ⟨(some (sl 56)), none, (.ld true (.s (sl 55)) none), none⟩, ⟨(some (sl 57)), none, (.len false (.s (sl 56))), none⟩, ⟨(some (sl 58)), none, (.bin .add (.s (sl 54)) (.s (sl 57))), none⟩, ⟨(some (sl 59)), none, (.bin .lss (.s (sl 51)) (.s (sl 58))), none⟩])
  (.cond (.s (sl 59))
  .skip
  (.exit 4)))
  (.seq (.block 5
  (.seq (.reg [⟨(some (sl 12)), none, (.mv (.c (.string ⟨#[]⟩))), none⟩])
  (.seq (.seq (.reg [⟨(some (sl 62)), none, (.mv (.s (sl 11))), none⟩, ⟨(some (sl 63)), none, (.fld (.s (sl 2)) 0), none⟩, ⟨(some (sl 64)), none, (.ld true (.s (sl 63)) none), none⟩, ⟨(some (sl 65)), none, (.len false (.s (sl 64))), none⟩, ⟨(some (sl 66)), none, (.bin .lss (.s (sl 62)) (.s (sl 65))), none⟩])
  (.cond (.s (sl 66))
  (.reg [⟨(some (sl 67)), none, (.fld (.s (sl 2)) 0), none⟩, ⟨(some (sl 68)), none, (.ld true (.s (sl 67)) none), none⟩, ⟨(some (sl 69)), none, (.mv (.s (sl 11))), none⟩, ⟨(some (sl 70)), none, (.idx true (.s (sl 68)) (.s (sl 69)) 4), none⟩, ⟨(some (sl 71)), none, (.fld (.s (sl 70)) 0), none⟩, ⟨(some (sl 72)), none, (.ld true (.s (sl 71)) none), none⟩, ⟨(some (sl 12)), none, (.mv (.s (sl 72))), none⟩])
  (.reg [⟨(some (sl 73)), none, (.fld (.s (sl 2)) 1), none⟩, ⟨(some (sl 74)), none, (.ld true (.s (sl 73)) none), none⟩, ⟨(some (sl 75)), none, (.mv (.s (sl 11))), none⟩, ⟨(some (sl 76)), none, (.fld (.s (sl 2)) 0), none⟩, ⟨(some (sl 77)), none, (.ld true (.s (sl 76)) none), none⟩, ⟨(some (sl 78)), none, (.len false (.s (sl 77))), none⟩, ⟨(some (sl 79)), none, (.bin .sub (.s (sl 75)) (.s (sl 78))), none⟩, ⟨(some (sl 80)), none, (.idx true (.s (sl 74)) (.s (sl 79)) 4), none⟩, ⟨(some (sl 81)), none, (.fld (.s (sl 80)) 0), none⟩, ⟨(some (sl 82)), none, (.ld true (.s (sl 81)) none), none⟩, ⟨(some (sl 12)), none, (.mv (.s (sl 82))), none⟩])))
  (.seq (.reg [⟨(some (sl 83)), none, (.mv (.s (sl 5))), none⟩, ⟨(some (sl 84)), none, (.mv (.s (sl 12))), none⟩, ⟨(some (sl 85)), none, (.call false (.f 26) [(.s (sl 83)), (.s (sl 84))]), none⟩, ⟨(some (sl 13)), none, (.mv (.s (sl 85))), none⟩])
  (.seq (.reg [⟨(some (sl 86)), none, (.mv (.s (sl 10))), none⟩, ⟨(some (sl 87)), none, (.mv (.s (sl 12))), none⟩, ⟨(some (sl 88)), none, (.call false (.f 26) [(.s (sl 86)), (.s (sl 87))]), none⟩, ⟨(some (sl 14)), none, (.mv (.s (sl 88))), none⟩])
  (.seq (.reg [⟨(some (sl 89)), none, (.mv (.s (sl 13))), none⟩, ⟨(some (sl 90)), none, (.mv (.s (sl 89))), none⟩, ⟨(some (sl 91)), (some ((sl 90), true)), (.mv (.s (sl 14))), none⟩, ⟨(some (sl 92)), (some ((sl 90), true)), (.not (.s (sl 91))), none⟩, ⟨(some (sl 93)), none, (.pick (.s (sl 90)) (.s (sl 92)) (.c (.bool false))), none⟩])
  (.cond (.s (sl 93))
  (.reg [⟨(some (sl 94)), none, (.mv (.s (sl 10))), none⟩, ⟨(some (sl 95)), none, (.mv (.s (sl 12))), none⟩, ⟨(some (sl 96)), none, (.mksl 1 1 [(.string ⟨#[]⟩)] [(0, 1, (.s (sl 95)))]), none⟩, ⟨(some (sl 97)), none, (.app 9 1 16 (.s (sl 94)) (.s (sl 96))), none⟩, ⟨(some (sl 10)), none, (.mv (.s (sl 97))), none⟩])
  .skip)))))))
  (.reg [⟨(some (sl 60)), none, (.mv (.s (sl 11))), none⟩, ⟨(some (sl 61)), none, (.bin .add (.s (sl 60)) (.c (.int .i64 1))), none⟩, ⟨(some (sl 11)), none, (.mv (.s (sl 61))), none⟩]))))))
  (.seq (.reg [⟨(some (sl 98)), none, (.mv (.s (sl 10))), none⟩, ⟨(some (sl 4)), none, (.mv (.s (sl 98))), none⟩])
  .ret))))))
def r_marlineref11_From : List ARes := [(.tmp (sl 4))]
theorem t_marlineref11_From : (Try.f31).body.bind (trCode Try.prog 8 (Try.f31).ntmps [4, 5, 10, 17, 19, 25, 27, 28, 36, 44, 50, 83, 86, 94, 97, 98] [] (drOk 8)) = some c_marlineref11_From := by kernel_rfl
theorem u_marlineref11_From : trRess Try.prog 8 (Try.f31).results.toList = some r_marlineref11_From := by kernel_rfl

/-- marline/marlineref11.refs -/
def c_marlineref11_refs : ACode :=
  (.seq (.reg [⟨(some (sl 2)), none, (.box true (.s (sl 0))), none⟩, ⟨(some (sl 4)), none, (.mv (.c (.slice none 0 0))), none⟩])
  (.seq (.reg [⟨(some (sl 6)), none, (.ld true (.s (sl 2)) (some 2)), none⟩, ⟨(some (sl 7)), none, (.mv (.s (sl 1))), none⟩, ⟨(some (sl 8)), none, (.call true (.f 25) [(.s (sl 6)), (.s (sl 7))]), none⟩, ⟨(some (sl 5)), none, (.mv (.s (sl 8))), none⟩])
  (.seq (.seq (.reg [⟨(some (sl 9)), none, (.mv (.s (sl 5))), none⟩, ⟨(some (sl 10)), none, (.bin .lss (.s (sl 9)) (.c (.int .i64 0))), none⟩])
  (.cond (.s (sl 10))
  (.seq (.reg [⟨(some (sl 4)), none, (.mv (.c (.slice none 0 0))), none⟩])
  .ret)
  .skip))
  (.seq (.reg [⟨(some (sl 11)), none, (.fld (.s (sl 2)) 0), none⟩, ⟨(some (sl 12)), none, (.ld true (.s (sl 11)) none), none⟩, ⟨(some (sl 13)), none, (.mv (.s (sl 5))), none⟩, ⟨(some (sl 14)), none, (.idx true (.s (sl 12)) (.s (sl 13)) 4), none⟩, ⟨(some (sl 15)), none, (.ld true (.s (sl 14)) (some 4)), none⟩, ⟨(some (sl 16)), none, (.call true (.f 24) [(.s (sl 15))]), none⟩, ⟨(some (sl 4)), none, (.mv (.s (sl 16))), none⟩])
  .ret))))
def r_marlineref11_refs : List ARes := [(.tmp (sl 4))]
theorem t_marlineref11_refs : (Try.f56).body.bind (trCode Try.prog 8 (Try.f56).ntmps [] [] (drOk 8)) = some c_marlineref11_refs := by kernel_rfl
theorem u_marlineref11_refs : trRess Try.prog 8 (Try.f56).results.toList = some r_marlineref11_refs := by kernel_rfl

/-- marline/marlinelaw11.few -/
def c_marlinelaw11_few : ACode :=
  (.seq (.reg [⟨(some (sl 1)), none, (.box true (.s (sl 0))), none⟩, ⟨(some (sl 2)), none, (.mv (.c (.bool false))), none⟩])
  (.seq (.reg [⟨(some (sl 3)), none, (.fld (.s (sl 1)) 0), none⟩, ⟨(some (sl 4)), none, (.ld true (.s (sl 3)) none), none⟩, ⟨(some (sl 5)), none, (.len false (.s (sl 4))), none⟩, ⟨(some (sl 6)), none, (.fld (.s (sl 1)) 1), none⟩, ⟨(some (sl 7)), none, (.ld true (.s (sl 6)) none), none⟩, ⟨(some (sl 8)), none, (.len false (.s (sl 7))), none⟩, ⟨(some (sl 9)), none, (.bin .add (.s (sl 5)) (.s (sl 8))), none⟩, ⟨(some (sl 10)), none, (.bin .leq (.s (sl 9)) (.c (.int .i64 40))), none⟩, ⟨(some (sl 2)), none, (.mv (.s (sl 10))), none⟩])
  .ret))
def r_marlinelaw11_few : List ARes := [(.tmp (sl 2))]
theorem t_marlinelaw11_few : (Try.f22).body.bind (trCode Try.prog 8 (Try.f22).ntmps [] [] (drOk 8)) = some c_marlinelaw11_few := by kernel_rfl
theorem u_marlinelaw11_few : trRess Try.prog 8 (Try.f22).results.toList = some r_marlinelaw11_few := by kernel_rfl

/-- marline/marlinelaw11.fun -/
def c_marlinelaw11_fun : ACode :=
  (.seq (.reg [⟨(some (sl 6)), none, (.new [(.string ⟨#[]⟩), (.int .i64 0), (.int .i64 0), (.slice none 0 0)]), none⟩])
  (.seq (.seq (.reg [⟨(some (sl 8)), none, (.bld [(.int .i64 0), (.int .i64 0), (.int .i64 0), (.int .u64 0), (.string ⟨#[]⟩), (.slice none 0 0)] [(0, 1, (.c (.int .i64 1)))]), none⟩, ⟨(some (sl 9)), none, (.mksl 6 1 [(.int .i64 0), (.int .i64 0), (.int .i64 0), (.int .u64 0), (.string ⟨#[]⟩), (.slice none 0 0)] [(0, 6, (.s (sl 8)))]), none⟩, ⟨(some (sl 10)), none, (.bld [(.int .i64 0), (.int .i64 0), (.int .i64 0), (.slice none 0 0), (.int .i64 0), (.slice none 0 0)] [(0, 1, (.c (.int .i64 3)))]), none⟩, ⟨(some (sl 11)), none, (.bld [(.int .i64 0), (.slice none 0 0), (.int .i64 0), (.int .i64 0), (.int .i64 0), (.slice none 0 0), (.int .i64 0), (.slice none 0 0)] [(1, 1, (.s (sl 9))), (2, 6, (.s (sl 10)))]), none⟩, ⟨(some (sl 7)), none, (.new [(.int .i64 0), (.slice none 0 0), (.int .i64 0), (.int .i64 0), (.int .i64 0), (.slice none 0 0), (.int .i64 0), (.slice none 0 0)]), none⟩, ⟨none, none, (.ini 1 (.s (sl 7)) (.s (sl 11)) 8), none⟩])
  (.frz (sl 7)))
  (.seq (.seq (.reg [⟨(some (sl 12)), none, (.mv (.s (sl 2))), none⟩, ⟨(some (sl 13)), none, (.bin .neq (.s (sl 12)) (.c (.string ⟨#[]⟩))), none⟩])
  (.cond (.s (sl 13))
  (.reg [⟨(some (sl 14)), none, (.fld (.s (sl 7)) 1), none⟩, ⟨(some (sl 15)), none, (.ld true (.s (sl 14)) none), none⟩, ⟨(some (sl 16)), none, (.mv (.s (sl 2))), none⟩, ⟨(some (sl 17)), none, (.bld [(.int .i64 0), (.int .i64 0), (.int .i64 0), (.int .u64 0), (.string ⟨#[]⟩), (.slice none 0 0)] [(0, 1, (.c (.int .i64 14))), (4, 1, (.s (sl 16)))]), none⟩, ⟨(some (sl 18)), none, (.idx true (.s (sl 15)) (.c (.int .i64 0)) 6), none⟩, ⟨none, none, (.st (.s (sl 18)) (.s (sl 17)) 6), none⟩])
  .skip))
  (.seq (.reg [⟨(some (sl 19)), none, (.mv (.s (sl 0))), none⟩, ⟨(some (sl 20)), none, (.mv (.s (sl 1))), none⟩, ⟨(some (sl 21)), none, (.ld true (.s (sl 7)) (some 8)), none⟩, ⟨(some (sl 22)), none, (.mksl 8 1 [(.int .i64 0), (.slice none 0 0), (.int .i64 0), (.int .i64 0), (.int .i64 0), (.slice none 0 0), (.int .i64 0), (.slice none 0 0)] [(0, 8, (.s (sl 21)))]), none⟩, ⟨(some (sl 23)), none, (.bld [(.string ⟨#[]⟩), (.int .i64 0), (.int .i64 0), (.slice none 0 0)] [(0, 1, (.s (sl 19))), (1, 1, (.s (sl 20))), (3, 1, (.s (sl 22)))]), none⟩, ⟨none, none, (.st (.s (sl 6)) (.s (sl 23)) 4), none⟩])
  .ret))))
def r_marlinelaw11_fun : List ARes := [(.cell (sl 6) (some 4))]
theorem t_marlinelaw11_fun : (Try.f45).body.bind (trCode Try.prog 8 (Try.f45).ntmps [6] [] (drOk 8)) = some c_marlinelaw11_fun := by kernel_rfl
theorem u_marlinelaw11_fun : trRess Try.prog 8 (Try.f45).results.toList = some r_marlinelaw11_fun := by kernel_rfl

end Go.Proofs.Ytifinpijhbkhnaa
/- The bodies of some functions, as the evaluator has them (printed by program), and that they are the program's own. -/
namespace Go.Proofs.Ytifinpijhbkhnaa
open Go.RowKit

/-- marline/reach.once[string] -/
def c_reach_once_string_ : ACode :=
  (.seq (.reg [⟨(some (sl 2)), none, (.mv (.c (.slice none 0 0))), none⟩])
  (.seq (.reg [⟨(some (sl 3)), none, (.mv (.c (.slice none 0 0))), none⟩])
  (.seq (.seq (.reg [⟨(some (sl 6)), none, (.mv (.s (sl 0))), none⟩, ⟨(some (sl 7)), none, (.len false (.s (sl 6))), none⟩, ⟨(some (sl 8)), none, (.mv (.c (.int .i64 0))), none⟩])
  (.block 0
  (.loop (.seq (.reg [⟨(some (sl 9)), none, (.bin .lss (.s (sl 8)) (.s (sl 7))), none⟩])
  (.seq (.cond (.s (sl 9))
  .skip
  (.exit 0))
  (.seq (.block 1
  (.seq (.reg [⟨(some (sl 10)), none, (.idx true (.s (sl 6)) (.s (sl 8)) 1), none⟩, ⟨(some (sl 11)), none, (.ld true (.s (sl 10)) none), none⟩, ⟨(some (sl 5)), none, (.mv (.s (sl 11))), none⟩])
  (.seq (.reg [⟨(some (sl 12)), none, (.mv (.s (sl 3))), none⟩, ⟨(some (sl 13)), none, (.mv (.s (sl 5))), none⟩, ⟨(some (sl 14)), none, (.call false (.f 46) [(.s (sl 12)), (.s (sl 13))]), none⟩, ⟨(some (sl 15)), none, (.not (.s (sl 14))), none⟩])
  (.cond (.s (sl 15))
  (.reg [⟨(some (sl 16)), none, (.mv (.s (sl 3))), none⟩, ⟨(some (sl 17)), none, (.mv (.s (sl 5))), none⟩, ⟨(some (sl 18)), none, (.mksl 1 1 [(.string ⟨#[]⟩)] [(0, 1, (.s (sl 17)))]), none⟩, ⟨(some (sl 19)), none, (.app 9 1 16 (.s (sl 16)) (.s (sl 18))), none⟩, ⟨(some (sl 3)), none, (.mv (.s (sl 19))), none⟩])
  .skip))))
  (.reg [⟨(some (sl 20)), none, (.bin .add (.s (sl 8)) (.c (.int .i64 1))), none⟩, ⟨(some (sl 8)), none, (.mv (.s (sl 20))), none⟩])))))))
  (.seq (.reg [⟨(some (sl 21)), none, (.mv (.s (sl 3))), none⟩, ⟨(some (sl 2)), none, (.mv (.s (sl 21))), none⟩])
  .ret))))
def r_reach_once_string_ : List ARes := [(.tmp (sl 2))]
theorem t_reach_once_string_ : (Try.f85).body.bind (trCode Try.prog 8 (Try.f85).ntmps [2, 3, 12, 16, 19, 21] [(85, 9, 1)] (drOk 8)) = some c_reach_once_string_ := by kernel_rfl
theorem u_reach_once_string_ : trRess Try.prog 8 (Try.f85).results.toList = some r_reach_once_string_ := by kernel_rfl

/-- marline/reach.names -/
def c_reach_names : ACode :=
  (.seq (.reg [⟨(some (sl 1)), none, (.box true (.s (sl 0))), none⟩, ⟨(some (sl 2)), none, (.mv (.c (.slice none 0 0))), none⟩])
  (.seq (.reg [⟨(some (sl 3)), none, (.mv (.c (.slice none 0 0))), none⟩])
  (.seq (.seq (.reg [⟨(some (sl 8)), none, (.fld (.s (sl 1)) 0), none⟩, ⟨(some (sl 9)), none, (.ld true (.s (sl 8)) none), none⟩, ⟨(some (sl 10)), none, (.len false (.s (sl 9))), none⟩, ⟨(some (sl 11)), none, (.mv (.c (.int .i64 0))), none⟩])
  (.block 0
  (.loop (.seq (.reg [⟨(some (sl 12)), none, (.bin .lss (.s (sl 11)) (.s (sl 10))), none⟩])
  (.seq (.cond (.s (sl 12))
  .skip
  (.exit 0))
  (.seq (.block 1
  (.seq (.seq (.reg [⟨(some (sl 13)), none, (.idx true (.s (sl 9)) (.s (sl 11)) 4), none⟩, ⟨(some (sl 14)), none, (.ld true (.s (sl 13)) (some 4)), none⟩, ⟨(some (sl 5)), none, (.new [(.string ⟨#[]⟩), (.int .i64 0), (.int .i64 0), (.slice none 0 0)]), none⟩, ⟨none, none, (.ini 1 (.s (sl 5)) (.s (sl 14)) 4), none⟩])
  (.frz (sl 5)))
  (.reg [⟨(some (sl 15)), none, (.mv (.s (sl 3))), none⟩, ⟨(some (sl 16)), none, (.fld (.s (sl 5)) 0), none⟩, ⟨(some (sl 17)), none, (.ld true (.s (sl 16)) none), none⟩, ⟨(some (sl 18)), none, (.mksl 1 1 [(.string ⟨#[]⟩)] [(0, 1, (.s (sl 17)))]), none⟩, ⟨(some (sl 19)), none, (.app 9 1 16 (.s (sl 15)) (.s (sl 18))), none⟩, ⟨(some (sl 3)), none, (.mv (.s (sl 19))), none⟩])))
  (.reg [⟨(some (sl 20)), none, (.bin .add (.s (sl 11)) (.c (.int .i64 1))), none⟩, ⟨(some (sl 11)), none, (.mv (.s (sl 20))), none⟩])))))))
  (.seq (.seq (.reg [⟨(some (sl 21)), none, (.fld (.s (sl 1)) 1), none⟩, ⟨(some (sl 22)), none, (.ld true (.s (sl 21)) none), none⟩, ⟨(some (sl 23)), none, (.len false (.s (sl 22))), none⟩, ⟨(some (sl 24)), none, (.mv (.c (.int .i64 0))), none⟩])
  (.block 2
  (.loop (.seq (.reg [⟨(some (sl 25)), none, (.bin .lss (.s (sl 24)) (.s (sl 23))), none⟩])
  (.seq (.cond (.s (sl 25))
  .skip
  (.exit 2))
  (.seq (.block 3
  (.seq (.seq (.reg [⟨(some (sl 26)), none, (.idx true (.s (sl 22)) (.s (sl 24)) 4), none⟩, ⟨(some (sl 27)), none, (.ld true (.s (sl 26)) (some 4)), none⟩, ⟨(some (sl 7)), none, (.new [(.string ⟨#[]⟩), (.int .i64 0), (.bool false), (.int .u64 0)]), none⟩, ⟨none, none, (.ini 1 (.s (sl 7)) (.s (sl 27)) 4), none⟩])
  (.frz (sl 7)))
  (.reg [⟨(some (sl 28)), none, (.mv (.s (sl 3))), none⟩, ⟨(some (sl 29)), none, (.fld (.s (sl 7)) 0), none⟩, ⟨(some (sl 30)), none, (.ld true (.s (sl 29)) none), none⟩, ⟨(some (sl 31)), none, (.mksl 1 1 [(.string ⟨#[]⟩)] [(0, 1, (.s (sl 30)))]), none⟩, ⟨(some (sl 32)), none, (.app 9 1 16 (.s (sl 28)) (.s (sl 31))), none⟩, ⟨(some (sl 3)), none, (.mv (.s (sl 32))), none⟩])))
  (.reg [⟨(some (sl 33)), none, (.bin .add (.s (sl 24)) (.c (.int .i64 1))), none⟩, ⟨(some (sl 24)), none, (.mv (.s (sl 33))), none⟩])))))))
  (.seq (.reg [⟨(some (sl 34)), none, (.mv (.s (sl 3))), none⟩, ⟨(some (sl 35)), none, (.callo 9 1 (.f 85) [(.s (sl 34))]), none⟩, ⟨(some (sl 2)), none, (.mv (.s (sl 35))), none⟩])
  .ret)))))
def r_reach_names : List ARes := [(.tmp (sl 2))]
theorem t_reach_names : (Try.f60).body.bind (trCode Try.prog 8 (Try.f60).ntmps [2, 3, 15, 19, 28, 32, 34, 35] [(85, 9, 1)] (drOk 8)) = some c_reach_names := by kernel_rfl
theorem u_reach_names : trRess Try.prog 8 (Try.f60).results.toList = some r_reach_names := by kernel_rfl

end Go.Proofs.Ytifinpijhbkhnaa
/- The bodies of some functions, as the evaluator has them (printed by program), and that they are the program's own. -/
namespace Go.Proofs.Ytifinpijhbkhnaa
open Go.RowKit

/-- marline/reach.From -/
def c_reach_From : ACode :=
  (.seq (.reg [⟨(some (sl 2)), none, (.box true (.s (sl 0))), none⟩, ⟨(some (sl 4)), none, (.mv (.c (.slice none 0 0))), none⟩])
  (.seq (.reg [⟨(some (sl 9)), none, (.mmk .string), none⟩, ⟨(some (sl 5)), none, (.new [(.map none)]), none⟩, ⟨none, none, (.ini 1 (.s (sl 5)) (.s (sl 9)) 1), none⟩])
  (.seq (.reg [⟨(some (sl 6)), none, (.new [.nilFunc]), none⟩])
  (.seq (.reg [⟨(some (sl 10)), none, (.mkfn 57 [(.s (sl 5)), (.s (sl 2)), (.s (sl 6))]), none⟩, ⟨none, none, (.st (.s (sl 6)) (.s (sl 10)) 1), none⟩])
  (.seq (.seq (.reg [⟨(some (sl 11)), none, (.mv (.s (sl 1))), none⟩, ⟨(some (sl 12)), none, (.len false (.s (sl 11))), none⟩, ⟨(some (sl 13)), none, (.mv (.c (.int .i64 0))), none⟩])
  (.block 0
  (.loop (.seq (.reg [⟨(some (sl 14)), none, (.bin .lss (.s (sl 13)) (.s (sl 12))), none⟩])
  (.seq (.cond (.s (sl 14))
  .skip
  (.exit 0))
  (.seq (.block 1
  (.seq (.reg [⟨(some (sl 15)), none, (.idx true (.s (sl 11)) (.s (sl 13)) 1), none⟩, ⟨(some (sl 16)), none, (.ld true (.s (sl 15)) none), none⟩, ⟨(some (sl 8)), none, (.mv (.s (sl 16))), none⟩])
  (.reg [⟨(some (sl 17)), none, (.ld false (.s (sl 6)) none), none⟩, ⟨(some (sl 18)), none, (.mv (.s (sl 8))), none⟩, ⟨(some (sl 19)), none, (.calle (.s (sl 17)) [(.s (sl 18))]), none⟩])))
  (.reg [⟨(some (sl 20)), none, (.bin .add (.s (sl 13)) (.c (.int .i64 1))), none⟩, ⟨(some (sl 13)), none, (.mv (.s (sl 20))), none⟩])))))))
  (.seq (.reg [⟨(some (sl 21)), none, (.ld true (.s (sl 2)) (some 2)), none⟩, ⟨(some (sl 22)), none, (.callv 9 1 (.f 60) [(.s (sl 21))]), none⟩, ⟨(some (sl 23)), none, (.mkfn 61 [(.s (sl 5))]), none⟩, ⟨(some (sl 24)), none, (.calle (.f 59) [(.s (sl 22)), (.s (sl 23))]), none⟩, ⟨(some (sl 4)), none, (.mv (.s (sl 24))), none⟩])
  .ret))))))
def r_reach_From : List ARes := [(.tmp (sl 4))]
theorem t_reach_From : (Try.f32).body.bind (trCode Try.prog 8 (Try.f32).ntmps [4, 5, 6, 10, 17, 22, 23, 24] [(60, 9, 1001), (59, 0, 0), (1000017, 0, 0)] (drOk 8)) = some c_reach_From := by kernel_rfl
theorem u_reach_From : trRess Try.prog 8 (Try.f32).results.toList = some r_reach_From := by kernel_rfl

end Go.Proofs.Ytifinpijhbkhnaa
/- The bodies of some functions, as the evaluator has them (printed by program), and that they are the program's own. -/
namespace Go.Proofs.Ytifinpijhbkhnaa
open Go.RowKit

/-- marline/reach.From$1 -/
def c_reach_From_1 : ACode :=
  (.seq (.seq (.reg [⟨(some (sl 9)), none, (.ld false (.s (sl 1)) none), none⟩, ⟨(some (sl 10)), none, (.mv (.s (sl 0))), none⟩, ⟨(some (sl 11)), none, (.mget (.s (sl 9)) (.s (sl 10)) false .string (.bool false)), none⟩])
  (.cond (.s (sl 11))
  .ret
  .skip))
  (.seq (.reg [⟨(some (sl 12)), none, (.ld false (.s (sl 1)) none), none⟩, ⟨(some (sl 13)), none, (.mv (.s (sl 0))), none⟩, ⟨none, none, (.mset (.s (sl 12)) (.s (sl 13)) (.c (.bool true)) .string), none⟩])
  (.seq (.seq (.reg [⟨(some (sl 15)), none, (.ld true (.s (sl 2)) (some 2)), none⟩, ⟨(some (sl 16)), none, (.mv (.s (sl 0))), none⟩, ⟨(some (sl 17)), none, (.call true (.f 54) [(.s (sl 15)), (.s (sl 16))]), none⟩, ⟨(some (sl 14)), none, (.mv (.s (sl 17))), none⟩, ⟨(some (sl 18)), none, (.ext (.s (sl 14)) 0), none⟩, ⟨(some (sl 19)), none, (.ext (.s (sl 14)) 1), none⟩, ⟨(some (sl 5)), none, (.new [(.string ⟨#[]⟩), (.int .i64 0), (.int .i64 0), (.slice none 0 0)]), none⟩, ⟨none, none, (.ini 1 (.s (sl 5)) (.s (sl 18)) 4), none⟩, ⟨(some (sl 6)), none, (.mv (.s (sl 19))), none⟩])
  (.frz (sl 5)))
  (.seq (.reg [⟨(some (sl 20)), none, (.mv (.s (sl 6))), none⟩])
  (.cond (.s (sl 20))
  (.seq (.reg [⟨(some (sl 21)), none, (.ld true (.s (sl 5)) (some 4)), none⟩, ⟨(some (sl 22)), none, (.call true (.f 58) [(.s (sl 21))]), none⟩, ⟨(some (sl 23)), none, (.len false (.s (sl 22))), none⟩, ⟨(some (sl 24)), none, (.mv (.c (.int .i64 0))), none⟩])
  (.block 0
  (.loop (.seq (.reg [⟨(some (sl 25)), none, (.bin .lss (.s (sl 24)) (.s (sl 23))), none⟩])
  (.seq (.cond (.s (sl 25))
  .skip
  (.exit 0))
  (.seq (.block 1
  (.seq (.reg [⟨(some (sl 26)), none, (.idx true (.s (sl 22)) (.s (sl 24)) 1), none⟩, ⟨(some (sl 27)), none, (.ld true (.s (sl 26)) none), none⟩, ⟨(some (sl 8)), none, (.mv (.s (sl 27))), none⟩])
  (.reg [⟨(some (sl 28)), none, (.ld false (.s (sl 3)) none), none⟩, ⟨(some (sl 29)), none, (.mv (.s (sl 8))), none⟩, ⟨(some (sl 30)), none, (.calle (.s (sl 28)) [(.s (sl 29))]), none⟩])))
  (.reg [⟨(some (sl 31)), none, (.bin .add (.s (sl 24)) (.c (.int .i64 1))), none⟩, ⟨(some (sl 24)), none, (.mv (.s (sl 31))), none⟩])))))))
  .skip)))))
def r_reach_From_1 : List ARes := []
theorem t_reach_From_1 : (Try.f57).body.bind (trCode Try.prog 8 (Try.f57).ntmps [1, 3, 9, 12, 28] [(1000028, 0, 0)] (drOk 8)) = some c_reach_From_1 := by kernel_rfl
theorem u_reach_From_1 : trRess Try.prog 8 (Try.f57).results.toList = some r_reach_From_1 := by kernel_rfl

/-- marline/reach.From$2 -/
def c_reach_From_2 : ACode :=
  (.seq (.reg [⟨(some (sl 3)), none, (.mv (.c (.bool false))), none⟩])
  (.seq (.reg [⟨(some (sl 4)), none, (.ld false (.s (sl 1)) none), none⟩, ⟨(some (sl 5)), none, (.mv (.s (sl 0))), none⟩, ⟨(some (sl 6)), none, (.mget (.s (sl 4)) (.s (sl 5)) false .string (.bool false)), none⟩, ⟨(some (sl 7)), none, (.not (.s (sl 6))), none⟩, ⟨(some (sl 3)), none, (.mv (.s (sl 7))), none⟩])
  .ret))
def r_reach_From_2 : List ARes := [(.tmp (sl 3))]
theorem t_reach_From_2 : (Try.f61).body.bind (trCode Try.prog 8 (Try.f61).ntmps [1, 4] [(1000028, 0, 0)] (drOk 8)) = some c_reach_From_2 := by kernel_rfl
theorem u_reach_From_2 : trRess Try.prog 8 (Try.f61).results.toList = some r_reach_From_2 := by kernel_rfl

end Go.Proofs.Ytifinpijhbkhnaa
/- The bodies of some functions, as the evaluator has them (printed by program), and that they are the program's own. -/
namespace Go.Proofs.Ytifinpijhbkhnaa
open Go.RowKit

/-- marline/reach.Deepest -/
def c_reach_Deepest : ACode :=
  (.seq (.reg [⟨(some (sl 1)), none, (.box true (.s (sl 0))), none⟩, ⟨(some (sl 2)), none, (.mv (.c (.slice none 0 0))), none⟩])
  (.seq (.reg [⟨(some (sl 3)), none, (.new [(.slice none 0 0)]), none⟩])
  (.seq (.reg [⟨(some (sl 8)), none, (.mmk .string), none⟩, ⟨(some (sl 4)), none, (.new [(.map none)]), none⟩, ⟨none, none, (.ini 1 (.s (sl 4)) (.s (sl 8)) 1), none⟩])
  (.seq (.reg [⟨(some (sl 5)), none, (.new [.nilFunc]), none⟩])
  (.seq (.reg [⟨(some (sl 9)), none, (.mkfn 53 [(.s (sl 1)), (.s (sl 4)), (.s (sl 5)), (.s (sl 3))]), none⟩, ⟨none, none, (.st (.s (sl 5)) (.s (sl 9)) 1), none⟩])
  (.seq (.seq (.reg [⟨(some (sl 10)), none, (.fld (.s (sl 1)) 0), none⟩, ⟨(some (sl 11)), none, (.ld true (.s (sl 10)) none), none⟩, ⟨(some (sl 12)), none, (.len false (.s (sl 11))), none⟩, ⟨(some (sl 13)), none, (.mv (.c (.int .i64 0))), none⟩])
  (.block 0
  (.loop (.seq (.reg [⟨(some (sl 14)), none, (.bin .lss (.s (sl 13)) (.s (sl 12))), none⟩])
  (.seq (.cond (.s (sl 14))
  .skip
  (.exit 0))
  (.seq (.block 1
  (.seq (.seq (.reg [⟨(some (sl 15)), none, (.idx true (.s (sl 11)) (.s (sl 13)) 4), none⟩, ⟨(some (sl 16)), none, (.ld true (.s (sl 15)) (some 4)), none⟩, ⟨(some (sl 7)), none, (.new [(.string ⟨#[]⟩), (.int .i64 0), (.int .i64 0), (.slice none 0 0)]), none⟩, ⟨none, none, (.ini 1 (.s (sl 7)) (.s (sl 16)) 4), none⟩])
  (.frz (sl 7)))
  (.reg [⟨(some (sl 17)), none, (.ld false (.s (sl 5)) none), none⟩, ⟨(some (sl 18)), none, (.fld (.s (sl 7)) 0), none⟩, ⟨(some (sl 19)), none, (.ld true (.s (sl 18)) none), none⟩, ⟨(some (sl 20)), none, (.calle (.s (sl 17)) [(.s (sl 19))]), none⟩])))
  (.reg [⟨(some (sl 21)), none, (.bin .add (.s (sl 13)) (.c (.int .i64 1))), none⟩, ⟨(some (sl 13)), none, (.mv (.s (sl 21))), none⟩])))))))
  (.seq (.reg [⟨(some (sl 22)), none, (.ld false (.s (sl 3)) none), none⟩, ⟨(some (sl 2)), none, (.mv (.s (sl 22))), none⟩])
  .ret)))))))
def r_reach_Deepest : List ARes := [(.tmp (sl 2))]
theorem t_reach_Deepest : (Try.f29).body.bind (trCode Try.prog 8 (Try.f29).ntmps [2, 3, 4, 5, 9, 17, 22] [(1000017, 0, 0)] (drOk 8)) = some c_reach_Deepest := by kernel_rfl
theorem u_reach_Deepest : trRess Try.prog 8 (Try.f29).results.toList = some r_reach_Deepest := by kernel_rfl

end Go.Proofs.Ytifinpijhbkhnaa
/- The bodies of some functions, as the evaluator has them (printed by program), and that they are the program's own. -/
namespace Go.Proofs.Ytifinpijhbkhnaa
open Go.RowKit

/-- marline/reach.Deepest$1 -/
def c_reach_Deepest_1 : ACode :=
  (.seq (.seq (.seq (.reg [⟨(some (sl 11)), none, (.ld true (.s (sl 1)) (some 2)), none⟩, ⟨(some (sl 12)), none, (.mv (.s (sl 0))), none⟩, ⟨(some (sl 13)), none, (.call true (.f 54) [(.s (sl 11)), (.s (sl 12))]), none⟩, ⟨(some (sl 10)), none, (.mv (.s (sl 13))), none⟩, ⟨(some (sl 14)), none, (.ext (.s (sl 10)) 0), none⟩, ⟨(some (sl 15)), none, (.ext (.s (sl 10)) 1), none⟩, ⟨(some (sl 6)), none, (.new [(.string ⟨#[]⟩), (.int .i64 0), (.int .i64 0), (.slice none 0 0)]), none⟩, ⟨none, none, (.ini 1 (.s (sl 6)) (.s (sl 14)) 4), none⟩, ⟨(some (sl 7)), none, (.mv (.s (sl 15))), none⟩])
  (.frz (sl 6)))
  (.seq (.reg [⟨(some (sl 16)), none, (.mv (.s (sl 7))), none⟩, ⟨(some (sl 17)), none, (.not (.s (sl 16))), none⟩, ⟨(some (sl 18)), none, (.mv (.s (sl 17))), none⟩, ⟨(some (sl 19)), (some ((sl 18), false)), (.ld false (.s (sl 2)) none), none⟩, ⟨(some (sl 20)), (some ((sl 18), false)), (.mv (.s (sl 0))), none⟩, ⟨(some (sl 21)), (some ((sl 18), false)), (.mget (.s (sl 19)) (.s (sl 20)) false .string (.bool false)), none⟩, ⟨(some (sl 22)), none, (.pick (.s (sl 18)) (.c (.bool true)) (.s (sl 21))), none⟩])
  (.cond (.s (sl 22))
  .ret
  .skip)))
  (.seq (.reg [⟨(some (sl 23)), none, (.ld false (.s (sl 2)) none), none⟩, ⟨(some (sl 24)), none, (.mv (.s (sl 0))), none⟩, ⟨none, none, (.mset (.s (sl 23)) (.s (sl 24)) (.c (.bool true)) .string), none⟩])
  (.seq (.seq (.reg [⟨(some (sl 25)), none, (.ld true (.s (sl 1)) (some 2)), none⟩, ⟨(some (sl 26)), none, (.mv (.s (sl 0))), none⟩, ⟨(some (sl 27)), none, (.call true (.f 55) [(.s (sl 25)), (.s (sl 26))]), none⟩, ⟨(some (sl 28)), none, (.len false (.s (sl 27))), none⟩, ⟨(some (sl 29)), none, (.mv (.c (.int .i64 0))), none⟩])
  (.block 0
  (.loop (.seq (.reg [⟨(some (sl 30)), none, (.bin .lss (.s (sl 29)) (.s (sl 28))), none⟩])
  (.seq (.cond (.s (sl 30))
  .skip
  (.exit 0))
  (.seq (.block 1
  (.seq (.reg [⟨(some (sl 31)), none, (.idx true (.s (sl 27)) (.s (sl 29)) 1), none⟩, ⟨(some (sl 32)), none, (.ld true (.s (sl 31)) none), none⟩, ⟨(some (sl 9)), none, (.mv (.s (sl 32))), none⟩])
  (.reg [⟨(some (sl 33)), none, (.ld false (.s (sl 3)) none), none⟩, ⟨(some (sl 34)), none, (.mv (.s (sl 9))), none⟩, ⟨(some (sl 35)), none, (.calle (.s (sl 33)) [(.s (sl 34))]), none⟩])))
  (.reg [⟨(some (sl 36)), none, (.bin .add (.s (sl 29)) (.c (.int .i64 1))), none⟩, ⟨(some (sl 29)), none, (.mv (.s (sl 36))), none⟩])))))))
  (.reg [⟨(some (sl 37)), none, (.ld false (.s (sl 4)) none), none⟩, ⟨(some (sl 38)), none, (.mv (.s (sl 0))), none⟩, ⟨(some (sl 39)), none, (.mksl 1 1 [(.string ⟨#[]⟩)] [(0, 1, (.s (sl 38)))]), none⟩, ⟨(some (sl 40)), none, (.app 9 1 16 (.s (sl 37)) (.s (sl 39))), none⟩, ⟨none, none, (.st (.s (sl 4)) (.s (sl 40)) 1), none⟩]))))
def r_reach_Deepest_1 : List ARes := []
theorem t_reach_Deepest_1 : (Try.f53).body.bind (trCode Try.prog 8 (Try.f53).ntmps [2, 3, 4, 19, 23, 33, 37, 40] [(1000033, 0, 0)] (drOk 8)) = some c_reach_Deepest_1 := by kernel_rfl
theorem u_reach_Deepest_1 : trRess Try.prog 8 (Try.f53).results.toList = some r_reach_Deepest_1 := by kernel_rfl

end Go.Proofs.Ytifinpijhbkhnaa
/- The bodies of some functions, as the evaluator has them (printed by program), and that they are the program's own. -/
namespace Go.Proofs.Ytifinpijhbkhnaa
open Go.RowKit

/-- marline/reach.Drop -/
def c_reach_Drop : ACode :=
  (.seq (.reg [⟨(some (sl 1)), none, (.box true (.s (sl 0))), none⟩, ⟨(some (sl 2)), none, (.new [(.slice none 0 0), (.slice none 0 0)]), none⟩])
  (.seq (.reg [⟨(some (sl 9)), none, (.ld true (.s (sl 1)) (some 2)), (some (0, []))⟩, ⟨(some (sl 10)), none, (.ld true (.s (sl 1)) (some 2)), (some (1, []))⟩, ⟨(some (sl 11)), none, (.call true (.f 23) [(.s (sl 10))]), (some (2, []))⟩, ⟨(some (sl 12)), none, (.call true (.f 32) [(.s (sl 9)), (.s (sl 11))]), (some (3, []))⟩, ⟨(some (sl 3)), none, (.mv (.s (sl 12))), (some (4, []))⟩])
  (.seq (.reg [⟨(some (sl 4)), none, (.new [(.slice none 0 0), (.slice none 0 0)]), none⟩])
  (.seq (.seq (.reg [⟨(some (sl 13)), none, (.fld (.s (sl 1)) 0), none⟩, ⟨(some (sl 14)), none, (.ld true (.s (sl 13)) none), none⟩, ⟨(some (sl 15)), none, (.len false (.s (sl 14))), none⟩, ⟨(some (sl 16)), none, (.mv (.c (.int .i64 0))), none⟩])
  (.block 0
  (.loop (.seq (.reg [⟨(some (sl 17)), none, (.bin .lss (.s (sl 16)) (.s (sl 15))), none⟩])
  (.seq (.cond (.s (sl 17))
  .skip
  (.exit 0))
  (.seq (.block 1
  (.seq (.seq (.reg [⟨(some (sl 18)), none, (.idx true (.s (sl 14)) (.s (sl 16)) 4), none⟩, ⟨(some (sl 19)), none, (.ld true (.s (sl 18)) (some 4)), none⟩, ⟨(some (sl 6)), none, (.new [(.string ⟨#[]⟩), (.int .i64 0), (.int .i64 0), (.slice none 0 0)]), none⟩, ⟨none, none, (.ini 1 (.s (sl 6)) (.s (sl 19)) 4), none⟩])
  (.frz (sl 6)))
  (.seq (.reg [⟨(some (sl 20)), none, (.mv (.s (sl 3))), none⟩, ⟨(some (sl 21)), none, (.fld (.s (sl 6)) 0), none⟩, ⟨(some (sl 22)), none, (.ld true (.s (sl 21)) none), none⟩, ⟨(some (sl 23)), none, (.call true (.f 46) [(.s (sl 20)), (.s (sl 22))]), none⟩])
  (.cond (.s (sl 23))
  (.reg [⟨(some (sl 24)), none, (.fld (.s (sl 4)) 0), none⟩, ⟨(some (sl 25)), none, (.ld false (.s (sl 24)) none), none⟩, ⟨(some (sl 26)), none, (.ld true (.s (sl 6)) (some 4)), none⟩, ⟨(some (sl 27)), none, (.mksl 4 1 [(.string ⟨#[]⟩), (.int .i64 0), (.int .i64 0), (.slice none 0 0)] [(0, 4, (.s (sl 26)))]), none⟩, ⟨(some (sl 28)), none, (.app 43 4 56 (.s (sl 25)) (.s (sl 27))), none⟩, ⟨(some (sl 29)), none, (.fld (.s (sl 4)) 0), none⟩, ⟨none, none, (.st (.s (sl 29)) (.s (sl 28)) 1), none⟩])
  .skip))))
  (.reg [⟨(some (sl 30)), none, (.bin .add (.s (sl 16)) (.c (.int .i64 1))), none⟩, ⟨(some (sl 16)), none, (.mv (.s (sl 30))), none⟩])))))))
  (.seq (.seq (.reg [⟨(some (sl 31)), none, (.fld (.s (sl 1)) 1), none⟩, ⟨(some (sl 32)), none, (.ld true (.s (sl 31)) none), none⟩, ⟨(some (sl 33)), none, (.len false (.s (sl 32))), none⟩, ⟨(some (sl 34)), none, (.mv (.c (.int .i64 0))), none⟩])
  (.block 2
  (.loop (.seq (.reg [⟨(some (sl 35)), none, (.bin .lss (.s (sl 34)) (.s (sl 33))), none⟩])
  (.seq (.cond (.s (sl 35))
  .skip
  (.exit 2))
  (.seq (.block 3
  (.seq (.seq (.reg [⟨(some (sl 36)), none, (.idx true (.s (sl 32)) (.s (sl 34)) 4), none⟩, ⟨(some (sl 37)), none, (.ld true (.s (sl 36)) (some 4)), none⟩, ⟨(some (sl 8)), none, (.new [(.string ⟨#[]⟩), (.int .i64 0), (.bool false), (.int .u64 0)]), none⟩, ⟨none, none, (.ini 1 (.s (sl 8)) (.s (sl 37)) 4), none⟩])
  (.frz (sl 8)))
  (.seq (.reg [⟨(some (sl 38)), none, (.mv (.s (sl 3))), none⟩, ⟨(some (sl 39)), none, (.fld (.s (sl 8)) 0), none⟩, ⟨(some (sl 40)), none, (.ld true (.s (sl 39)) none), none⟩, ⟨(some (sl 41)), none, (.call true (.f 46) [(.s (sl 38)), (.s (sl 40))]), none⟩])
  (.cond (.s (sl 41))
  (.reg [⟨(some (sl 42)), none, (.fld (.s (sl 4)) 1), none⟩, ⟨(some (sl 43)), none, (.ld false (.s (sl 42)) none), none⟩, ⟨(some (sl 44)), none, (.ld true (.s (sl 8)) (some 4)), none⟩, ⟨(some (sl 45)), none, (.mksl 4 1 [(.string ⟨#[]⟩), (.int .i64 0), (.bool false), (.int .u64 0)] [(0, 4, (.s (sl 44)))]), none⟩, ⟨(some (sl 46)), none, (.app 47 4 40 (.s (sl 43)) (.s (sl 45))), none⟩, ⟨(some (sl 47)), none, (.fld (.s (sl 4)) 1), none⟩, ⟨none, none, (.st (.s (sl 47)) (.s (sl 46)) 1), none⟩])
  .skip))))
  (.reg [⟨(some (sl 48)), none, (.bin .add (.s (sl 34)) (.c (.int .i64 1))), none⟩, ⟨(some (sl 34)), none, (.mv (.s (sl 48))), none⟩])))))))
  (.seq (.reg [⟨(some (sl 49)), none, (.ld false (.s (sl 4)) (some 2)), none⟩, ⟨none, none, (.st (.s (sl 2)) (.s (sl 49)) 2), none⟩])
  .ret))))))
def r_reach_Drop : List ARes := [(.cell (sl 2) (some 2))]
theorem t_reach_Drop : (Try.f18).body.bind (trCode Try.prog 8 (Try.f18).ntmps [2, 4, 24, 25, 28, 29, 42, 43, 46, 47, 49] [] (drOk 8)) = some c_reach_Drop := by kernel_rfl
theorem u_reach_Drop : trRess Try.prog 8 (Try.f18).results.toList = some r_reach_Drop := by kernel_rfl

end Go.Proofs.Ytifinpijhbkhnaa
/- The bodies of some functions, as the evaluator has them (printed by program), and that they are the program's own. -/
namespace Go.Proofs.Ytifinpijhbkhnaa
open Go.RowKit

/-- marline/marlinelaw11.shown -/
def c_marlinelaw11_shown : ACode :=
  (.seq (.reg [⟨(some (sl 0)), none, (.mv (.c (.bool false))), none⟩])
  (.seq (.seq (.reg [⟨(some (sl 4)), none, (.call true (.f 45) [(.c (.string ⟨#[109, 97, 105, 110]⟩)), (.c (.int .i64 2)), (.c (.string ⟨#[102]⟩))]), none⟩, ⟨(some (sl 5)), none, (.call true (.f 45) [(.c (.string ⟨#[102]⟩)), (.c (.int .i64 1)), (.c (.string ⟨#[]⟩))]), none⟩, ⟨(some (sl 6)), none, (.call true (.f 45) [(.c (.string ⟨#[103]⟩)), (.c (.int .i64 1)), (.c (.string ⟨#[]⟩))]), none⟩, ⟨(some (sl 7)), none, (.mksl 4 3 [(.string ⟨#[]⟩), (.int .i64 0), (.int .i64 0), (.slice none 0 0), (.string ⟨#[]⟩), (.int .i64 0), (.int .i64 0), (.slice none 0 0), (.string ⟨#[]⟩), (.int .i64 0), (.int .i64 0), (.slice none 0 0)] [(0, 4, (.s (sl 4))), (4, 4, (.s (sl 5))), (8, 4, (.s (sl 6)))]), none⟩, ⟨(some (sl 8)), none, (.bld [(.slice none 0 0), (.slice none 0 0)] [(0, 1, (.s (sl 7)))]), none⟩, ⟨(some (sl 1)), none, (.new [(.slice none 0 0), (.slice none 0 0)]), none⟩, ⟨none, none, (.ini 1 (.s (sl 1)) (.s (sl 8)) 2), none⟩])
  (.frz (sl 1)))
  (.seq (.seq (.reg [⟨(some (sl 9)), none, (.ld true (.s (sl 1)) (some 2)), none⟩, ⟨(some (sl 10)), none, (.call true (.f 18) [(.s (sl 9))]), none⟩, ⟨(some (sl 2)), none, (.new [(.slice none 0 0), (.slice none 0 0)]), none⟩, ⟨none, none, (.ini 1 (.s (sl 2)) (.s (sl 10)) 2), none⟩])
  (.frz (sl 2)))
  (.seq (.reg [⟨(some (sl 11)), none, (.ld true (.s (sl 1)) (some 2)), none⟩, ⟨(some (sl 12)), none, (.call true (.f 29) [(.s (sl 11))]), none⟩, ⟨(some (sl 3)), none, (.mv (.s (sl 12))), none⟩])
  (.seq (.reg [⟨(some (sl 13)), none, (.fld (.s (sl 2)) 0), none⟩, ⟨(some (sl 14)), none, (.ld true (.s (sl 13)) none), none⟩, ⟨(some (sl 15)), none, (.len false (.s (sl 14))), none⟩, ⟨(some (sl 16)), none, (.bin .eql (.s (sl 15)) (.c (.int .i64 2))), none⟩, ⟨(some (sl 17)), none, (.mv (.s (sl 16))), none⟩, ⟨(some (sl 18)), (some ((sl 17), true)), (.fld (.s (sl 2)) 0), none⟩, ⟨(some (sl 19)), (some ((sl 17), true)), (.ld true (.s (sl 18)) none), none⟩, ⟨(some (sl 20)), (some ((sl 17), true)), (.idx true (.s (sl 19)) (.c (.int .i64 1)) 4), none⟩, ⟨(some (sl 21)), (some ((sl 17), true)), (.fld (.s (sl 20)) 0), none⟩, ⟨(some (sl 22)), (some ((sl 17), true)), (.ld true (.s (sl 21)) none), none⟩, ⟨(some (sl 23)), (some ((sl 17), true)), (.bin .eql (.s (sl 22)) (.c (.string ⟨#[102]⟩))), none⟩, ⟨(some (sl 24)), none, (.pick (.s (sl 17)) (.s (sl 23)) (.c (.bool false))), none⟩, ⟨(some (sl 25)), none, (.mv (.s (sl 24))), none⟩, ⟨(some (sl 26)), (some ((sl 25), true)), (.mv (.s (sl 3))), none⟩, ⟨(some (sl 27)), (some ((sl 25), true)), (.len false (.s (sl 26))), none⟩, ⟨(some (sl 28)), (some ((sl 25), true)), (.bin .eql (.s (sl 27)) (.c (.int .i64 3))), none⟩, ⟨(some (sl 29)), none, (.pick (.s (sl 25)) (.s (sl 28)) (.c (.bool false))), none⟩, ⟨(some (sl 30)), none, (.mv (.s (sl 29))), none⟩, ⟨(some (sl 31)), (some ((sl 30), true)), (.mv (.s (sl 3))), none⟩, ⟨(some (sl 32)), (some ((sl 30), true)), (.idx true (.s (sl 31)) (.c (.int .i64 0)) 1), none⟩, ⟨(some (sl 33)), (some ((sl 30), true)), (.ld true (.s (sl 32)) none), none⟩, ⟨(some (sl 34)), (some ((sl 30), true)), (.bin .eql (.s (sl 33)) (.c (.string ⟨#[102]⟩))), none⟩, ⟨(some (sl 35)), none, (.pick (.s (sl 30)) (.s (sl 34)) (.c (.bool false))), none⟩, ⟨(some (sl 36)), none, (.mv (.s (sl 35))), none⟩, ⟨(some (sl 37)), (some ((sl 36), true)), (.mv (.s (sl 3))), none⟩, ⟨(some (sl 38)), (some ((sl 36), true)), (.idx true (.s (sl 37)) (.c (.int .i64 1)) 1), none⟩, ⟨(some (sl 39)), (some ((sl 36), true)), (.ld true (.s (sl 38)) none), none⟩, ⟨(some (sl 40)), (some ((sl 36), true)), (.bin .eql (.s (sl 39)) (.c (.string ⟨#[109, 97, 105, 110]⟩))), none⟩, ⟨(some (sl 41)), none, (.pick (.s (sl 36)) (.s (sl 40)) (.c (.bool false))), none⟩, ⟨(some (sl 42)), none, (.mv (.s (sl 41))), none⟩, ⟨(some (sl 43)), (some ((sl 42), true)), (.mv (.s (sl 3))), none⟩, ⟨(some (sl 44)), (some ((sl 42), true)), (.idx true (.s (sl 43)) (.c (.int .i64 2)) 1), none⟩, ⟨(some (sl 45)), (some ((sl 42), true)), (.ld true (.s (sl 44)) none), none⟩, ⟨(some (sl 46)), (some ((sl 42), true)), (.bin .eql (.s (sl 45)) (.c (.string ⟨#[103]⟩))), none⟩, ⟨(some (sl 47)), none, (.pick (.s (sl 42)) (.s (sl 46)) (.c (.bool false))), none⟩, ⟨(some (sl 0)), none, (.mv (.s (sl 47))), none⟩])
  .ret)))))
def r_marlinelaw11_shown : List ARes := [(.tmp (sl 0))]
theorem t_marlinelaw11_shown : (Try.f17).body.bind (trCode Try.prog 8 (Try.f17).ntmps [] [] (drOk 8)) = some c_marlinelaw11_shown := by kernel_rfl
theorem u_marlinelaw11_shown : trRess Try.prog 8 (Try.f17).results.toList = some r_marlinelaw11_shown := by kernel_rfl

/-- marline/marlinelaw11.ReachNamed -/
def c_marlinelaw11_ReachNamed : ACode :=
  (.seq (.reg [⟨(some (sl 1)), none, (.box true (.s (sl 0))), none⟩, ⟨(some (sl 2)), none, (.mv (.c (.bool false))), none⟩])
  (.seq (.reg [⟨(some (sl 17)), none, (.call true (.f 17) []), none⟩, ⟨(some (sl 3)), none, (.mv (.s (sl 17))), none⟩])
  (.seq (.reg [⟨(some (sl 18)), none, (.ld true (.s (sl 1)) (some 2)), none⟩, ⟨(some (sl 19)), none, (.call true (.f 22) [(.s (sl 18))]), none⟩, ⟨(some (sl 4)), none, (.mv (.s (sl 19))), none⟩])
  (.seq (.seq (.reg [⟨(some (sl 20)), none, (.ld true (.s (sl 1)) (some 2)), none⟩, ⟨(some (sl 21)), none, (.call true (.f 18) [(.s (sl 20))]), none⟩, ⟨(some (sl 5)), none, (.new [(.slice none 0 0), (.slice none 0 0)]), none⟩, ⟨none, none, (.ini 1 (.s (sl 5)) (.s (sl 21)) 2), none⟩])
  (.frz (sl 5)))
  (.seq (.reg [⟨(some (sl 22)), none, (.ld true (.s (sl 1)) (some 2)), none⟩, ⟨(some (sl 23)), none, (.call true (.f 23) [(.s (sl 22))]), none⟩, ⟨(some (sl 6)), none, (.mv (.s (sl 23))), none⟩])
  (.seq (.seq (.reg [⟨(some (sl 24)), none, (.mv (.s (sl 4))), none⟩, ⟨(some (sl 25)), none, (.not (.s (sl 24))), none⟩, ⟨(some (sl 26)), none, (.mv (.s (sl 25))), none⟩, ⟨(some (sl 27)), (some ((sl 26), false)), (.ld true (.s (sl 1)) (some 2)), none⟩, ⟨(some (sl 28)), (some ((sl 26), false)), (.call true (.f 19) [(.s (sl 27))]), none⟩, ⟨(some (sl 29)), (some ((sl 26), false)), (.bin .neq (.s (sl 28)) (.c (.int .i64 0))), none⟩, ⟨(some (sl 30)), none, (.pick (.s (sl 26)) (.c (.bool true)) (.s (sl 29))), none⟩])
  (.cond (.s (sl 30))
  (.seq (.reg [⟨(some (sl 31)), none, (.mv (.s (sl 3))), none⟩, ⟨(some (sl 2)), none, (.mv (.s (sl 31))), none⟩])
  .ret)
  .skip))
  (.seq (.reg [⟨(some (sl 7)), none, (.mv (.c (.slice none 0 0))), none⟩])
  (.seq (.seq (.reg [⟨(some (sl 8)), none, (.mv (.c (.int .i64 0))), none⟩])
  (.block 0
  (.loop (.seq (.seq (.reg [⟨(some (sl 32)), none, (.mv (.s (sl 8))), none⟩, ⟨(some (sl 33)), none, (.fld (.s (sl 5)) 0), none⟩, ⟨(some (sl 34)), none, (.ld true (.s (sl 33)) none), none⟩, ⟨(some (sl 35)), none, (.len false (.s (sl 34))), none⟩, ⟨(some (sl 36)), none, (.bin .lss (.s (sl 32)) (.s (sl 35))), none⟩])
  (.cond (.s (sl 36))
  .skip
  (.exit 0)))
  (.seq (.block 1
  (.reg [⟨(some (sl 39)), none, (.mv (.s (sl 7))), none⟩, ⟨(some (sl 40)), none, (.fld (.s (sl 5)) 0), none⟩, ⟨(some (sl 41)), none, (.ld true (.s (sl 40)) none), none⟩, ⟨(some (sl 42)), none, (.mv (.s (sl 8))), none⟩, ⟨(some (sl 43)), none, (.idx true (.s (sl 41)) (.s (sl 42)) 4), none⟩, ⟨(some (sl 44)), none, (.ld true (.s (sl 43)) (some 4)), none⟩, ⟨(some (sl 45)), none, (.call true (.f 24) [(.s (sl 44))]), none⟩, ⟨(some (sl 46)), none, (.app 9 1 16 (.s (sl 39)) (.s (sl 45))), none⟩, ⟨(some (sl 7)), none, (.mv (.s (sl 46))), none⟩]))
  (.reg [⟨(some (sl 37)), none, (.mv (.s (sl 8))), none⟩, ⟨(some (sl 38)), none, (.bin .add (.s (sl 37)) (.c (.int .i64 1))), none⟩, ⟨(some (sl 8)), none, (.mv (.s (sl 38))), none⟩]))))))
  (.seq (.seq (.reg [⟨(some (sl 9)), none, (.mv (.c (.int .i64 0))), none⟩])
  (.block 2
  (.loop (.seq (.seq (.reg [⟨(some (sl 47)), none, (.mv (.s (sl 9))), none⟩, ⟨(some (sl 48)), none, (.fld (.s (sl 1)) 0), none⟩, ⟨(some (sl 49)), none, (.ld true (.s (sl 48)) none), none⟩, ⟨(some (sl 50)), none, (.len false (.s (sl 49))), none⟩, ⟨(some (sl 51)), none, (.bin .lss (.s (sl 47)) (.s (sl 50))), none⟩])
  (.cond (.s (sl 51))
  .skip
  (.exit 2)))
  (.seq (.block 3
  (.seq (.reg [⟨(some (sl 54)), none, (.ld true (.s (sl 5)) (some 2)), (some (0, []))⟩, ⟨(some (sl 55)), none, (.fld (.s (sl 1)) 0), (some (1, []))⟩, ⟨(some (sl 56)), none, (.ld true (.s (sl 55)) none), (some (2, []))⟩, ⟨(some (sl 57)), none, (.mv (.s (sl 9))), (some (3, []))⟩, ⟨(some (sl 58)), none, (.idx true (.s (sl 56)) (.s (sl 57)) 4), (some (4, []))⟩, ⟨(some (sl 59)), none, (.fld (.s (sl 58)) 0), (some (5, []))⟩, ⟨(some (sl 60)), none, (.ld true (.s (sl 59)) none), (some (6, []))⟩, ⟨(some (sl 61)), none, (.call true (.f 25) [(.s (sl 54)), (.s (sl 60))]), (some (7, []))⟩, ⟨(some (sl 62)), none, (.bin .geq (.s (sl 61)) (.c (.int .i64 0))), (some (8, []))⟩, ⟨(some (sl 10)), none, (.mv (.s (sl 62))), (some (9, []))⟩])
  (.seq (.reg [⟨(some (sl 63)), none, (.mv (.s (sl 7))), none⟩, ⟨(some (sl 64)), none, (.fld (.s (sl 1)) 0), none⟩, ⟨(some (sl 65)), none, (.ld true (.s (sl 64)) none), none⟩, ⟨(some (sl 66)), none, (.mv (.s (sl 9))), none⟩, ⟨(some (sl 67)), none, (.idx true (.s (sl 65)) (.s (sl 66)) 4), none⟩, ⟨(some (sl 68)), none, (.fld (.s (sl 67)) 0), none⟩, ⟨(some (sl 69)), none, (.ld true (.s (sl 68)) none), none⟩, ⟨(some (sl 70)), none, (.call false (.f 26) [(.s (sl 63)), (.s (sl 69))]), none⟩, ⟨(some (sl 11)), none, (.mv (.s (sl 70))), none⟩])
  (.seq (.reg [⟨(some (sl 71)), none, (.mv (.s (sl 6))), none⟩, ⟨(some (sl 72)), none, (.fld (.s (sl 1)) 0), none⟩, ⟨(some (sl 73)), none, (.ld true (.s (sl 72)) none), none⟩, ⟨(some (sl 74)), none, (.mv (.s (sl 9))), none⟩, ⟨(some (sl 75)), none, (.idx true (.s (sl 73)) (.s (sl 74)) 4), none⟩, ⟨(some (sl 76)), none, (.fld (.s (sl 75)) 0), none⟩, ⟨(some (sl 77)), none, (.ld true (.s (sl 76)) none), none⟩, ⟨(some (sl 78)), none, (.call true (.f 26) [(.s (sl 71)), (.s (sl 77))]), none⟩, ⟨(some (sl 12)), none, (.mv (.s (sl 78))), none⟩])
  (.seq (.reg [⟨(some (sl 79)), none, (.mv (.s (sl 10))), none⟩, ⟨(some (sl 80)), none, (.not (.s (sl 79))), none⟩, ⟨(some (sl 81)), none, (.mv (.s (sl 80))), none⟩, ⟨(some (sl 82)), (some ((sl 81), true)), (.mv (.s (sl 11))), none⟩, ⟨(some (sl 83)), none, (.pick (.s (sl 81)) (.s (sl 82)) (.c (.bool false))), none⟩, ⟨(some (sl 84)), none, (.mv (.s (sl 83))), none⟩, ⟨(some (sl 85)), (some ((sl 84), false)), (.mv (.s (sl 10))), none⟩, ⟨(some (sl 86)), (some ((sl 84), false)), (.mv (.s (sl 85))), none⟩, ⟨(some (sl 87)), (some ((sl 86), true)), (.mv (.s (sl 11))), none⟩, ⟨(some (sl 88)), (some ((sl 86), true)), (.not (.s (sl 87))), none⟩, ⟨(some (sl 89)), (some ((sl 84), false)), (.pick (.s (sl 86)) (.s (sl 88)) (.c (.bool false))), none⟩, ⟨(some (sl 90)), (some ((sl 84), false)), (.mv (.s (sl 89))), none⟩, ⟨(some (sl 91)), (some ((sl 90), true)), (.mv (.s (sl 12))), none⟩, ⟨(some (sl 92)), (some ((sl 90), true)), (.not (.s (sl 91))), none⟩, ⟨(some (sl 93)), (some ((sl 84), false)), (.pick (.s (sl 90)) (.s (sl 92)) (.c (.bool false))), none⟩, ⟨(some (sl 94)), none, (.pick (.s (sl 84)) (.c (.bool true)) (.s (sl 93))), none⟩])
  (.cond (.s (sl 94))
  (.seq (.reg [⟨(some (sl 2)), none, (.mv (.c (.bool false))), none⟩])
  .ret)
  .skip))))))
  (.reg [⟨(some (sl 52)), none, (.mv (.s (sl 9))), none⟩, ⟨(some (sl 53)), none, (.bin .add (.s (sl 52)) (.c (.int .i64 1))), none⟩, ⟨(some (sl 9)), none, (.mv (.s (sl 53))), none⟩]))))))
  (.seq (.seq (.reg [⟨(some (sl 13)), none, (.mv (.c (.int .i64 0))), none⟩])
  (.block 4
  (.loop (.seq (.seq (.reg [⟨(some (sl 95)), none, (.mv (.s (sl 13))), none⟩, ⟨(some (sl 96)), none, (.fld (.s (sl 1)) 1), none⟩, ⟨(some (sl 97)), none, (.ld true (.s (sl 96)) none), none⟩, ⟨(some (sl 98)), none, (.len false (.s (sl 97))), none⟩, ⟨(some (sl 99)), none, (.bin .lss (.s (sl 95)) (.s (sl 98))), none⟩])
  (.cond (.s (sl 99))
  .skip
  (.exit 4)))
  (.seq (.block 5
  (.seq (.reg [⟨(some (sl 102)), none, (.ld true (.s (sl 5)) (some 2)), (some (0, []))⟩, ⟨(some (sl 103)), none, (.fld (.s (sl 1)) 1), (some (1, []))⟩, ⟨(some (sl 104)), none, (.ld true (.s (sl 103)) none), (some (2, []))⟩, ⟨(some (sl 105)), none, (.mv (.s (sl 13))), (some (3, []))⟩, ⟨(some (sl 106)), none, (.idx true (.s (sl 104)) (.s (sl 105)) 4), (some (4, []))⟩, ⟨(some (sl 107)), none, (.fld (.s (sl 106)) 0), (some (5, []))⟩, ⟨(some (sl 108)), none, (.ld true (.s (sl 107)) none), (some (6, []))⟩, ⟨(some (sl 109)), none, (.call true (.f 27) [(.s (sl 102)), (.s (sl 108))]), (some (7, []))⟩, ⟨(some (sl 110)), none, (.bin .geq (.s (sl 109)) (.c (.int .i64 0))), (some (8, []))⟩, ⟨(some (sl 14)), none, (.mv (.s (sl 110))), (some (9, []))⟩])
  (.seq (.reg [⟨(some (sl 111)), none, (.mv (.s (sl 7))), none⟩, ⟨(some (sl 112)), none, (.fld (.s (sl 1)) 1), none⟩, ⟨(some (sl 113)), none, (.ld true (.s (sl 112)) none), none⟩, ⟨(some (sl 114)), none, (.mv (.s (sl 13))), none⟩, ⟨(some (sl 115)), none, (.idx true (.s (sl 113)) (.s (sl 114)) 4), none⟩, ⟨(some (sl 116)), none, (.fld (.s (sl 115)) 0), none⟩, ⟨(some (sl 117)), none, (.ld true (.s (sl 116)) none), none⟩, ⟨(some (sl 118)), none, (.call false (.f 26) [(.s (sl 111)), (.s (sl 117))]), none⟩, ⟨(some (sl 15)), none, (.mv (.s (sl 118))), none⟩])
  (.seq (.reg [⟨(some (sl 119)), none, (.mv (.s (sl 6))), none⟩, ⟨(some (sl 120)), none, (.fld (.s (sl 1)) 1), none⟩, ⟨(some (sl 121)), none, (.ld true (.s (sl 120)) none), none⟩, ⟨(some (sl 122)), none, (.mv (.s (sl 13))), none⟩, ⟨(some (sl 123)), none, (.idx true (.s (sl 121)) (.s (sl 122)) 4), none⟩, ⟨(some (sl 124)), none, (.fld (.s (sl 123)) 0), none⟩, ⟨(some (sl 125)), none, (.ld true (.s (sl 124)) none), none⟩, ⟨(some (sl 126)), none, (.call true (.f 26) [(.s (sl 119)), (.s (sl 125))]), none⟩, ⟨(some (sl 16)), none, (.mv (.s (sl 126))), none⟩])
  (.seq (.reg [⟨(some (sl 127)), none, (.mv (.s (sl 14))), none⟩, ⟨(some (sl 128)), none, (.not (.s (sl 127))), none⟩, ⟨(some (sl 129)), none, (.mv (.s (sl 128))), none⟩, ⟨(some (sl 130)), (some ((sl 129), true)), (.mv (.s (sl 15))), none⟩, ⟨(some (sl 131)), none, (.pick (.s (sl 129)) (.s (sl 130)) (.c (.bool false))), none⟩, ⟨(some (sl 132)), none, (.mv (.s (sl 131))), none⟩, ⟨(some (sl 133)), (some ((sl 132), false)), (.mv (.s (sl 14))), none⟩, ⟨(some (sl 134)), (some ((sl 132), false)), (.mv (.s (sl 133))), none⟩, ⟨(some (sl 135)), (some ((sl 134), true)), (.mv (.s (sl 15))), none⟩, ⟨(some (sl 136)), (some ((sl 134), true)), (.not (.s (sl 135))), none⟩, ⟨(some (sl 137)), (some ((sl 132), false)), (.pick (.s (sl 134)) (.s (sl 136)) (.c (.bool false))), none⟩, ⟨(some (sl 138)), (some ((sl 132), false)), (.mv (.s (sl 137))), none⟩, ⟨(some (sl 139)), (some ((sl 138), true)), (.mv (.s (sl 16))), none⟩, ⟨(some (sl 140)), (some ((sl 138), true)), (.not (.s (sl 139))), none⟩, ⟨(some (sl 141)), (some ((sl 132), false)), (.pick (.s (sl 138)) (.s (sl 140)) (.c (.bool false))), none⟩, ⟨(some (sl 142)), none, (.pick (.s (sl 132)) (.c (.bool true)) (.s (sl 141))), none⟩])
  (.cond (.s (sl 142))
  (.seq (.reg [⟨(some (sl 2)), none, (.mv (.c (.bool false))), none⟩])
  .ret)
  .skip))))))
  (.reg [⟨(some (sl 100)), none, (.mv (.s (sl 13))), none⟩, ⟨(some (sl 101)), none, (.bin .add (.s (sl 100)) (.c (.int .i64 1))), none⟩, ⟨(some (sl 13)), none, (.mv (.s (sl 101))), none⟩]))))))
  (.seq (.reg [⟨(some (sl 143)), none, (.mv (.s (sl 3))), none⟩, ⟨(some (sl 2)), none, (.mv (.s (sl 143))), none⟩])
  .ret)))))))))))
def r_marlinelaw11_ReachNamed : List ARes := [(.tmp (sl 2))]
theorem t_marlinelaw11_ReachNamed : (Try.f5).body.bind (trCode Try.prog 8 (Try.f5).ntmps [7, 39, 46, 63, 111] [] (drOk 8)) = some c_marlinelaw11_ReachNamed := by kernel_rfl
theorem u_marlinelaw11_ReachNamed : trRess Try.prog 8 (Try.f5).results.toList = some r_marlinelaw11_ReachNamed := by kernel_rfl

/-- marline/marlinelaw11.ReachTwice -/
def c_marlinelaw11_ReachTwice : ACode :=
  (.seq (.reg [⟨(some (sl 1)), none, (.box true (.s (sl 0))), none⟩, ⟨(some (sl 2)), none, (.mv (.c (.bool false))), none⟩])
  (.seq (.reg [⟨(some (sl 6)), none, (.call true (.f 17) []), none⟩, ⟨(some (sl 3)), none, (.mv (.s (sl 6))), none⟩])
  (.seq (.reg [⟨(some (sl 7)), none, (.ld true (.s (sl 1)) (some 2)), none⟩, ⟨(some (sl 8)), none, (.call true (.f 22) [(.s (sl 7))]), none⟩, ⟨(some (sl 4)), none, (.mv (.s (sl 8))), none⟩])
  (.seq (.seq (.reg [⟨(some (sl 9)), none, (.mv (.s (sl 4))), none⟩, ⟨(some (sl 10)), none, (.not (.s (sl 9))), none⟩])
  (.cond (.s (sl 10))
  (.seq (.reg [⟨(some (sl 11)), none, (.mv (.s (sl 3))), none⟩, ⟨(some (sl 2)), none, (.mv (.s (sl 11))), none⟩])
  .ret)
  .skip))
  (.seq (.seq (.reg [⟨(some (sl 12)), none, (.ld true (.s (sl 1)) (some 2)), none⟩, ⟨(some (sl 13)), none, (.call true (.f 18) [(.s (sl 12))]), none⟩, ⟨(some (sl 5)), none, (.new [(.slice none 0 0), (.slice none 0 0)]), none⟩, ⟨none, none, (.ini 1 (.s (sl 5)) (.s (sl 13)) 2), none⟩])
  (.frz (sl 5)))
  (.seq (.reg [⟨(some (sl 14)), none, (.mv (.s (sl 3))), (some (0, []))⟩, ⟨(some (sl 15)), none, (.mv (.s (sl 14))), (some (1, []))⟩, ⟨(some (sl 16)), (some ((sl 15), true)), (.ld true (.s (sl 5)) (some 2)), (some (2, []))⟩, ⟨(some (sl 17)), (some ((sl 15), true)), (.call true (.f 18) [(.s (sl 16))]), (some (3, []))⟩, ⟨(some (sl 18)), (some ((sl 15), true)), (.ld true (.s (sl 5)) (some 2)), (some (4, []))⟩, ⟨(some (sl 19)), (some ((sl 15), true)), (.call true (.f 28) [(.s (sl 17)), (.s (sl 18))]), (some (5, []))⟩, ⟨(some (sl 20)), none, (.pick (.s (sl 15)) (.s (sl 19)) (.c (.bool false))), (some (6, []))⟩, ⟨(some (sl 21)), none, (.mv (.s (sl 20))), (some (7, []))⟩, ⟨(some (sl 22)), (some ((sl 21), true)), (.fld (.s (sl 5)) 0), (some (8, []))⟩, ⟨(some (sl 23)), (some ((sl 21), true)), (.ld true (.s (sl 22)) none), (some (9, []))⟩, ⟨(some (sl 24)), (some ((sl 21), true)), (.len false (.s (sl 23))), (some (10, []))⟩, ⟨(some (sl 25)), (some ((sl 21), true)), (.fld (.s (sl 1)) 0), (some (11, []))⟩, ⟨(some (sl 26)), (some ((sl 21), true)), (.ld true (.s (sl 25)) none), (some (12, []))⟩, ⟨(some (sl 27)), (some ((sl 21), true)), (.len false (.s (sl 26))), (some (13, []))⟩, ⟨(some (sl 28)), (some ((sl 21), true)), (.bin .leq (.s (sl 24)) (.s (sl 27))), (some (14, []))⟩, ⟨(some (sl 29)), none, (.pick (.s (sl 21)) (.s (sl 28)) (.c (.bool false))), (some (15, []))⟩, ⟨(some (sl 30)), none, (.mv (.s (sl 29))), (some (16, []))⟩, ⟨(some (sl 31)), (some ((sl 30), true)), (.fld (.s (sl 5)) 1), (some (17, []))⟩, ⟨(some (sl 32)), (some ((sl 30), true)), (.ld true (.s (sl 31)) none), (some (18, []))⟩, ⟨(some (sl 33)), (some ((sl 30), true)), (.len false (.s (sl 32))), (some (19, []))⟩, ⟨(some (sl 34)), (some ((sl 30), true)), (.fld (.s (sl 1)) 1), (some (20, []))⟩, ⟨(some (sl 35)), (some ((sl 30), true)), (.ld true (.s (sl 34)) none), (some (21, []))⟩, ⟨(some (sl 36)), (some ((sl 30), true)), (.len false (.s (sl 35))), (some (22, []))⟩, ⟨(some (sl 37)), (some ((sl 30), true)), (.bin .leq (.s (sl 33)) (.s (sl 36))), (some (23, []))⟩, ⟨(some (sl 38)), none, (.pick (.s (sl 30)) (.s (sl 37)) (.c (.bool false))), (some (24, []))⟩, ⟨(some (sl 2)), none, (.mv (.s (sl 38))), (some (25, []))⟩])
  .ret))))))
def r_marlinelaw11_ReachTwice : List ARes := [(.tmp (sl 2))]
theorem t_marlinelaw11_ReachTwice : (Try.f6).body.bind (trCode Try.prog 8 (Try.f6).ntmps [] [] (drOk 8)) = some c_marlinelaw11_ReachTwice := by kernel_rfl
theorem u_marlinelaw11_ReachTwice : trRess Try.prog 8 (Try.f6).results.toList = some r_marlinelaw11_ReachTwice := by kernel_rfl

/-- marline/marlinelaw11.ReachOrder -/
def c_marlinelaw11_ReachOrder : ACode :=
  (.seq (.reg [⟨(some (sl 1)), none, (.box true (.s (sl 0))), none⟩, ⟨(some (sl 2)), none, (.mv (.c (.bool false))), none⟩])
  (.seq (.reg [⟨(some (sl 11)), none, (.call true (.f 17) []), none⟩, ⟨(some (sl 3)), none, (.mv (.s (sl 11))), none⟩])
  (.seq (.reg [⟨(some (sl 12)), none, (.ld true (.s (sl 1)) (some 2)), none⟩, ⟨(some (sl 13)), none, (.call true (.f 22) [(.s (sl 12))]), none⟩, ⟨(some (sl 4)), none, (.mv (.s (sl 13))), none⟩])
  (.seq (.reg [⟨(some (sl 14)), none, (.ld true (.s (sl 1)) (some 2)), none⟩, ⟨(some (sl 15)), none, (.call true (.f 29) [(.s (sl 14))]), none⟩, ⟨(some (sl 5)), none, (.mv (.s (sl 15))), none⟩])
  (.seq (.seq (.reg [⟨(some (sl 16)), none, (.mv (.s (sl 4))), none⟩, ⟨(some (sl 17)), none, (.not (.s (sl 16))), none⟩, ⟨(some (sl 18)), none, (.mv (.s (sl 17))), none⟩, ⟨(some (sl 19)), (some ((sl 18), false)), (.ld true (.s (sl 1)) (some 2)), none⟩, ⟨(some (sl 20)), (some ((sl 18), false)), (.call true (.f 19) [(.s (sl 19))]), none⟩, ⟨(some (sl 21)), (some ((sl 18), false)), (.bin .neq (.s (sl 20)) (.c (.int .i64 0))), none⟩, ⟨(some (sl 22)), none, (.pick (.s (sl 18)) (.c (.bool true)) (.s (sl 21))), none⟩])
  (.cond (.s (sl 22))
  (.seq (.reg [⟨(some (sl 23)), none, (.mv (.s (sl 3))), none⟩, ⟨(some (sl 2)), none, (.mv (.s (sl 23))), none⟩])
  .ret)
  .skip))
  (.seq (.seq (.reg [⟨(some (sl 24)), none, (.mv (.s (sl 5))), none⟩, ⟨(some (sl 25)), none, (.len false (.s (sl 24))), none⟩, ⟨(some (sl 26)), none, (.fld (.s (sl 1)) 0), none⟩, ⟨(some (sl 27)), none, (.ld true (.s (sl 26)) none), none⟩, ⟨(some (sl 28)), none, (.len false (.s (sl 27))), none⟩, ⟨(some (sl 29)), none, (.bin .neq (.s (sl 25)) (.s (sl 28))), none⟩])
  (.cond (.s (sl 29))
  (.seq (.reg [⟨(some (sl 2)), none, (.mv (.c (.bool false))), none⟩])
  .ret)
  .skip))
  (.seq (.seq (.reg [⟨(some (sl 6)), none, (.mv (.c (.int .i64 0))), none⟩])
  (.block 0
  (.loop (.seq (.seq (.reg [⟨(some (sl 30)), none, (.mv (.s (sl 6))), none⟩, ⟨(some (sl 31)), none, (.mv (.s (sl 5))), none⟩, ⟨(some (sl 32)), none, (.len false (.s (sl 31))), none⟩, ⟨(some (sl 33)), none, (.bin .lss (.s (sl 30)) (.s (sl 32))), none⟩])
  (.cond (.s (sl 33))
  .skip
  (.exit 0)))
  (.seq (.block 1
  (.seq (.reg [⟨(some (sl 36)), none, (.ld true (.s (sl 1)) (some 2)), (some (0, []))⟩, ⟨(some (sl 37)), none, (.mv (.s (sl 5))), (some (1, []))⟩, ⟨(some (sl 38)), none, (.mv (.s (sl 6))), (some (2, []))⟩, ⟨(some (sl 39)), none, (.idx true (.s (sl 37)) (.s (sl 38)) 1), (some (3, []))⟩, ⟨(some (sl 40)), none, (.ld true (.s (sl 39)) none), (some (4, []))⟩, ⟨(some (sl 41)), none, (.call true (.f 30) [(.s (sl 36)), (.s (sl 40))]), (some (5, []))⟩, ⟨(some (sl 7)), none, (.mv (.s (sl 41))), (some (6, []))⟩])
  (.seq (.reg [⟨(some (sl 8)), none, (.mv (.c (.int .i64 0))), none⟩])
  (.block 2
  (.loop (.seq (.seq (.reg [⟨(some (sl 42)), none, (.mv (.s (sl 8))), none⟩, ⟨(some (sl 43)), none, (.mv (.s (sl 5))), none⟩, ⟨(some (sl 44)), none, (.len false (.s (sl 43))), none⟩, ⟨(some (sl 45)), none, (.bin .lss (.s (sl 42)) (.s (sl 44))), none⟩])
  (.cond (.s (sl 45))
  .skip
  (.exit 2)))
  (.seq (.block 3
  (.seq (.seq (.reg [⟨(some (sl 48)), none, (.mv (.s (sl 8))), (some (0, []))⟩, ⟨(some (sl 49)), none, (.mv (.s (sl 6))), (some (1, []))⟩, ⟨(some (sl 50)), none, (.bin .neq (.s (sl 48)) (.s (sl 49))), (some (2, []))⟩, ⟨(some (sl 51)), none, (.mv (.s (sl 50))), (some (3, []))⟩, ⟨(some (sl 52)), (some ((sl 51), true)), (.mv (.s (sl 5))), (some (4, []))⟩, ⟨(some (sl 53)), (some ((sl 51), true)), (.mv (.s (sl 8))), (some (5, []))⟩, ⟨(some (sl 54)), (some ((sl 51), true)), (.idx true (.s (sl 52)) (.s (sl 53)) 1), (some (6, []))⟩, ⟨(some (sl 55)), (some ((sl 51), true)), (.ld true (.s (sl 54)) none), (some (7, []))⟩, ⟨(some (sl 56)), (some ((sl 51), true)), (.mv (.s (sl 5))), (some (8, []))⟩, ⟨(some (sl 57)), (some ((sl 51), true)), (.mv (.s (sl 6))), (some (9, []))⟩, ⟨(some (sl 58)), (some ((sl 51), true)), (.idx true (.s (sl 56)) (.s (sl 57)) 1), (some (10, []))⟩, ⟨(some (sl 59)), (some ((sl 51), true)), (.ld true (.s (sl 58)) none), (some (11, []))⟩, ⟨(some (sl 60)), (some ((sl 51), true)), (.bin .eql (.s (sl 55)) (.s (sl 59))), (some (12, []))⟩, ⟨(some (sl 61)), none, (.pick (.s (sl 51)) (.s (sl 60)) (.c (.bool false))), (some (13, []))⟩])
  (.cond (.s (sl 61))
  (.seq (.reg [⟨(some (sl 2)), none, (.mv (.c (.bool false))), none⟩])
  .ret)
  .skip))
  (.seq (.reg [⟨(some (sl 62)), none, (.mv (.s (sl 7))), none⟩, ⟨(some (sl 63)), none, (.mv (.s (sl 5))), none⟩, ⟨(some (sl 64)), none, (.mv (.s (sl 8))), none⟩, ⟨(some (sl 65)), none, (.idx true (.s (sl 63)) (.s (sl 64)) 1), none⟩, ⟨(some (sl 66)), none, (.ld true (.s (sl 65)) none), none⟩, ⟨(some (sl 67)), none, (.call true (.f 26) [(.s (sl 62)), (.s (sl 66))]), none⟩, ⟨(some (sl 9)), none, (.mv (.s (sl 67))), none⟩])
  (.seq (.reg [⟨(some (sl 68)), none, (.ld true (.s (sl 1)) (some 2)), (some (0, []))⟩, ⟨(some (sl 69)), none, (.mv (.s (sl 5))), (some (1, []))⟩, ⟨(some (sl 70)), none, (.mv (.s (sl 8))), (some (2, []))⟩, ⟨(some (sl 71)), none, (.idx true (.s (sl 69)) (.s (sl 70)) 1), (some (3, []))⟩, ⟨(some (sl 72)), none, (.ld true (.s (sl 71)) none), (some (4, []))⟩, ⟨(some (sl 73)), none, (.mksl 1 1 [(.string ⟨#[]⟩)] [(0, 1, (.s (sl 72)))]), (some (5, []))⟩, ⟨(some (sl 74)), none, (.call true (.f 31) [(.s (sl 68)), (.s (sl 73))]), (some (6, []))⟩, ⟨(some (sl 75)), none, (.mv (.s (sl 5))), (some (7, []))⟩, ⟨(some (sl 76)), none, (.mv (.s (sl 6))), (some (8, []))⟩, ⟨(some (sl 77)), none, (.idx true (.s (sl 75)) (.s (sl 76)) 1), (some (9, []))⟩, ⟨(some (sl 78)), none, (.ld true (.s (sl 77)) none), (some (10, []))⟩, ⟨(some (sl 79)), none, (.call true (.f 26) [(.s (sl 74)), (.s (sl 78))]), (some (11, []))⟩, ⟨(some (sl 10)), none, (.mv (.s (sl 79))), (some (12, []))⟩])
  (.seq (.reg [⟨(some (sl 80)), none, (.mv (.s (sl 9))), none⟩, ⟨(some (sl 81)), none, (.mv (.s (sl 80))), none⟩, ⟨(some (sl 82)), (some ((sl 81), true)), (.mv (.s (sl 10))), none⟩, ⟨(some (sl 83)), (some ((sl 81), true)), (.not (.s (sl 82))), none⟩, ⟨(some (sl 84)), none, (.pick (.s (sl 81)) (.s (sl 83)) (.c (.bool false))), none⟩, ⟨(some (sl 85)), none, (.mv (.s (sl 84))), none⟩, ⟨(some (sl 86)), (some ((sl 85), true)), (.mv (.s (sl 8))), none⟩, ⟨(some (sl 87)), (some ((sl 85), true)), (.mv (.s (sl 6))), none⟩, ⟨(some (sl 88)), (some ((sl 85), true)), (.bin .gtr (.s (sl 86)) (.s (sl 87))), none⟩, ⟨(some (sl 89)), none, (.pick (.s (sl 85)) (.s (sl 88)) (.c (.bool false))), none⟩])
  (.cond (.s (sl 89))
  (.seq (.reg [⟨(some (sl 2)), none, (.mv (.c (.bool false))), none⟩])
  .ret)
  .skip))))))
  (.reg [⟨(some (sl 46)), none, (.mv (.s (sl 8))), none⟩, ⟨(some (sl 47)), none, (.bin .add (.s (sl 46)) (.c (.int .i64 1))), none⟩, ⟨(some (sl 8)), none, (.mv (.s (sl 47))), none⟩]))))))))
  (.reg [⟨(some (sl 34)), none, (.mv (.s (sl 6))), none⟩, ⟨(some (sl 35)), none, (.bin .add (.s (sl 34)) (.c (.int .i64 1))), none⟩, ⟨(some (sl 6)), none, (.mv (.s (sl 35))), none⟩]))))))
  (.seq (.reg [⟨(some (sl 90)), none, (.mv (.s (sl 3))), none⟩, ⟨(some (sl 2)), none, (.mv (.s (sl 90))), none⟩])
  .ret))))))))
def r_marlinelaw11_ReachOrder : List ARes := [(.tmp (sl 2))]
theorem t_marlinelaw11_ReachOrder : (Try.f7).body.bind (trCode Try.prog 8 (Try.f7).ntmps [] [] (drOk 8)) = some c_marlinelaw11_ReachOrder := by kernel_rfl
theorem u_marlinelaw11_ReachOrder : trRess Try.prog 8 (Try.f7).results.toList = some r_marlinelaw11_ReachOrder := by kernel_rfl

/-- marline/marlinelaw11.ReachGrows -/
def c_marlinelaw11_ReachGrows : ACode :=
  (.seq (.reg [⟨(some (sl 3)), none, (.box true (.s (sl 0))), none⟩, ⟨(some (sl 6)), none, (.mv (.c (.bool false))), none⟩])
  (.seq (.reg [⟨(some (sl 14)), none, (.call true (.f 17) []), none⟩, ⟨(some (sl 7)), none, (.mv (.s (sl 14))), none⟩])
  (.seq (.reg [⟨(some (sl 15)), none, (.ld true (.s (sl 3)) (some 2)), none⟩, ⟨(some (sl 16)), none, (.call true (.f 22) [(.s (sl 15))]), none⟩, ⟨(some (sl 8)), none, (.mv (.s (sl 16))), none⟩])
  (.seq (.seq (.reg [⟨(some (sl 17)), none, (.mv (.s (sl 8))), none⟩, ⟨(some (sl 18)), none, (.not (.s (sl 17))), none⟩, ⟨(some (sl 19)), none, (.mv (.s (sl 18))), none⟩, ⟨(some (sl 20)), (some ((sl 19), false)), (.mv (.s (sl 1))), none⟩, ⟨(some (sl 21)), (some ((sl 19), false)), (.len false (.s (sl 20))), none⟩, ⟨(some (sl 22)), (some ((sl 19), false)), (.bin .gtr (.s (sl 21)) (.c (.int .i64 40))), none⟩, ⟨(some (sl 23)), none, (.pick (.s (sl 19)) (.c (.bool true)) (.s (sl 22))), none⟩])
  (.cond (.s (sl 23))
  (.seq (.reg [⟨(some (sl 24)), none, (.mv (.s (sl 7))), none⟩, ⟨(some (sl 6)), none, (.mv (.s (sl 24))), none⟩])
  .ret)
  .skip))
  (.seq (.reg [⟨(some (sl 25)), none, (.ld true (.s (sl 3)) (some 2)), none⟩, ⟨(some (sl 26)), none, (.mv (.s (sl 1))), none⟩, ⟨(some (sl 27)), none, (.call true (.f 32) [(.s (sl 25)), (.s (sl 26))]), none⟩, ⟨(some (sl 9)), none, (.mv (.s (sl 27))), none⟩])
  (.seq (.reg [⟨(some (sl 28)), none, (.ld true (.s (sl 3)) (some 2)), (some (0, []))⟩, ⟨(some (sl 29)), none, (.nrow 9 1), (some (1, []))⟩, ⟨(some (sl 30)), none, (.mv (.s (sl 1))), (some (2, []))⟩, ⟨(some (sl 31)), none, (.app 9 1 16 (.s (sl 29)) (.s (sl 30))), none⟩, ⟨(some (sl 32)), none, (.mv (.s (sl 2))), (some (4, []))⟩, ⟨(some (sl 33)), none, (.mksl 1 1 [(.string ⟨#[]⟩)] [(0, 1, (.s (sl 32)))]), (some (5, []))⟩, ⟨(some (sl 34)), none, (.app 9 1 16 (.s (sl 31)) (.s (sl 33))), none⟩, ⟨(some (sl 35)), none, (.call false (.f 32) [(.s (sl 28)), (.s (sl 34))]), none⟩, ⟨(some (sl 10)), none, (.mv (.s (sl 35))), none⟩])
  (.seq (.seq (.reg [⟨(some (sl 11)), none, (.mv (.c (.int .i64 0))), none⟩])
  (.block 0
  (.loop (.seq (.seq (.reg [⟨(some (sl 36)), none, (.mv (.s (sl 11))), none⟩, ⟨(some (sl 37)), none, (.mv (.s (sl 9))), none⟩, ⟨(some (sl 38)), none, (.len false (.s (sl 37))), none⟩, ⟨(some (sl 39)), none, (.bin .lss (.s (sl 36)) (.s (sl 38))), none⟩])
  (.cond (.s (sl 39))
  .skip
  (.exit 0)))
  (.seq (.block 1
  (.seq (.reg [⟨(some (sl 42)), none, (.mv (.s (sl 10))), none⟩, ⟨(some (sl 43)), none, (.mv (.s (sl 9))), none⟩, ⟨(some (sl 44)), none, (.mv (.s (sl 11))), none⟩, ⟨(some (sl 45)), none, (.idx true (.s (sl 43)) (.s (sl 44)) 1), none⟩, ⟨(some (sl 46)), none, (.ld true (.s (sl 45)) none), none⟩, ⟨(some (sl 47)), none, (.call true (.f 26) [(.s (sl 42)), (.s (sl 46))]), none⟩, ⟨(some (sl 12)), none, (.mv (.s (sl 47))), none⟩])
  (.seq (.reg [⟨(some (sl 48)), none, (.ld true (.s (sl 3)) (some 2)), (some (0, []))⟩, ⟨(some (sl 49)), none, (.mv (.s (sl 9))), (some (1, []))⟩, ⟨(some (sl 50)), none, (.mv (.s (sl 11))), (some (2, []))⟩, ⟨(some (sl 51)), none, (.idx true (.s (sl 49)) (.s (sl 50)) 1), (some (3, []))⟩, ⟨(some (sl 52)), none, (.ld true (.s (sl 51)) none), (some (4, []))⟩, ⟨(some (sl 53)), none, (.mksl 1 1 [(.string ⟨#[]⟩)] [(0, 1, (.s (sl 52)))]), (some (5, []))⟩, ⟨(some (sl 54)), none, (.call true (.f 32) [(.s (sl 48)), (.s (sl 53))]), (some (6, []))⟩, ⟨(some (sl 55)), none, (.mv (.s (sl 9))), (some (7, []))⟩, ⟨(some (sl 56)), none, (.mv (.s (sl 11))), (some (8, []))⟩, ⟨(some (sl 57)), none, (.idx true (.s (sl 55)) (.s (sl 56)) 1), (some (9, []))⟩, ⟨(some (sl 58)), none, (.ld true (.s (sl 57)) none), (some (10, []))⟩, ⟨(some (sl 59)), none, (.call true (.f 26) [(.s (sl 54)), (.s (sl 58))]), (some (11, []))⟩, ⟨(some (sl 13)), none, (.mv (.s (sl 59))), (some (12, []))⟩])
  (.seq (.reg [⟨(some (sl 60)), none, (.mv (.s (sl 12))), none⟩, ⟨(some (sl 61)), none, (.not (.s (sl 60))), none⟩, ⟨(some (sl 62)), none, (.mv (.s (sl 61))), none⟩, ⟨(some (sl 63)), (some ((sl 62), false)), (.mv (.s (sl 13))), none⟩, ⟨(some (sl 64)), (some ((sl 62), false)), (.not (.s (sl 63))), none⟩, ⟨(some (sl 65)), none, (.pick (.s (sl 62)) (.c (.bool true)) (.s (sl 64))), none⟩])
  (.cond (.s (sl 65))
  (.seq (.reg [⟨(some (sl 6)), none, (.mv (.c (.bool false))), none⟩])
  .ret)
  .skip)))))
  (.reg [⟨(some (sl 40)), none, (.mv (.s (sl 11))), none⟩, ⟨(some (sl 41)), none, (.bin .add (.s (sl 40)) (.c (.int .i64 1))), none⟩, ⟨(some (sl 11)), none, (.mv (.s (sl 41))), none⟩]))))))
  (.seq (.reg [⟨(some (sl 66)), none, (.mv (.s (sl 7))), none⟩, ⟨(some (sl 67)), none, (.mv (.s (sl 66))), none⟩, ⟨(some (sl 68)), (some ((sl 67), true)), (.mv (.s (sl 10))), none⟩, ⟨(some (sl 69)), (some ((sl 67), true)), (.len false (.s (sl 68))), none⟩, ⟨(some (sl 70)), (some ((sl 67), true)), (.fld (.s (sl 3)) 0), none⟩, ⟨(some (sl 71)), (some ((sl 67), true)), (.ld true (.s (sl 70)) none), none⟩, ⟨(some (sl 72)), (some ((sl 67), true)), (.len false (.s (sl 71))), none⟩, ⟨(some (sl 73)), (some ((sl 67), true)), (.fld (.s (sl 3)) 1), none⟩, ⟨(some (sl 74)), (some ((sl 67), true)), (.ld true (.s (sl 73)) none), none⟩, ⟨(some (sl 75)), (some ((sl 67), true)), (.len false (.s (sl 74))), none⟩, ⟨(some (sl 76)), (some ((sl 67), true)), (.bin .add (.s (sl 72)) (.s (sl 75))), none⟩, ⟨(some (sl 77)), (some ((sl 67), true)), (.bin .leq (.s (sl 69)) (.s (sl 76))), none⟩, ⟨(some (sl 78)), none, (.pick (.s (sl 67)) (.s (sl 77)) (.c (.bool false))), none⟩, ⟨(some (sl 6)), none, (.mv (.s (sl 78))), none⟩])
  .ret))))))))
def r_marlinelaw11_ReachGrows : List ARes := [(.tmp (sl 6))]
theorem t_marlinelaw11_ReachGrows : (Try.f8).body.bind (trCode Try.prog 8 (Try.f8).ntmps [31, 34] [] (drOk 8)) = some c_marlinelaw11_ReachGrows := by kernel_rfl
theorem u_marlinelaw11_ReachGrows : trRess Try.prog 8 (Try.f8).results.toList = some r_marlinelaw11_ReachGrows := by kernel_rfl

/-- marline/marlinelaw11.ReachChain -/
def c_marlinelaw11_ReachChain : ACode :=
  (.seq (.reg [⟨(some (sl 3)), none, (.box true (.s (sl 0))), none⟩, ⟨(some (sl 6)), none, (.mv (.c (.bool false))), none⟩])
  (.seq (.reg [⟨(some (sl 13)), none, (.call true (.f 17) []), none⟩, ⟨(some (sl 7)), none, (.mv (.s (sl 13))), none⟩])
  (.seq (.reg [⟨(some (sl 14)), none, (.ld true (.s (sl 3)) (some 2)), none⟩, ⟨(some (sl 15)), none, (.call true (.f 22) [(.s (sl 14))]), none⟩, ⟨(some (sl 8)), none, (.mv (.s (sl 15))), none⟩])
  (.seq (.reg [⟨(some (sl 16)), none, (.ld true (.s (sl 3)) (some 2)), none⟩, ⟨(some (sl 17)), none, (.mv (.s (sl 1))), none⟩, ⟨(some (sl 18)), none, (.mksl 1 1 [(.string ⟨#[]⟩)] [(0, 1, (.s (sl 17)))]), none⟩, ⟨(some (sl 19)), none, (.call true (.f 32) [(.s (sl 16)), (.s (sl 18))]), none⟩, ⟨(some (sl 9)), none, (.mv (.s (sl 19))), none⟩])
  (.seq (.seq (.reg [⟨(some (sl 20)), none, (.mv (.s (sl 8))), none⟩, ⟨(some (sl 21)), none, (.not (.s (sl 20))), none⟩, ⟨(some (sl 22)), none, (.mv (.s (sl 21))), none⟩, ⟨(some (sl 23)), (some ((sl 22), false)), (.mv (.s (sl 2))), none⟩, ⟨(some (sl 24)), (some ((sl 22), false)), (.bin .lss (.s (sl 23)) (.c (.int .i64 0))), none⟩, ⟨(some (sl 25)), none, (.pick (.s (sl 22)) (.c (.bool true)) (.s (sl 24))), none⟩, ⟨(some (sl 26)), none, (.mv (.s (sl 25))), none⟩, ⟨(some (sl 27)), (some ((sl 26), false)), (.mv (.s (sl 2))), none⟩, ⟨(some (sl 28)), (some ((sl 26), false)), (.mv (.s (sl 9))), none⟩, ⟨(some (sl 29)), (some ((sl 26), false)), (.len false (.s (sl 28))), none⟩, ⟨(some (sl 30)), (some ((sl 26), false)), (.bin .geq (.s (sl 27)) (.s (sl 29))), none⟩, ⟨(some (sl 31)), none, (.pick (.s (sl 26)) (.c (.bool true)) (.s (sl 30))), none⟩])
  (.cond (.s (sl 31))
  (.seq (.reg [⟨(some (sl 32)), none, (.mv (.s (sl 7))), none⟩, ⟨(some (sl 6)), none, (.mv (.s (sl 32))), none⟩])
  .ret)
  .skip))
  (.seq (.reg [⟨(some (sl 33)), none, (.ld true (.s (sl 3)) (some 2)), (some (0, []))⟩, ⟨(some (sl 34)), none, (.mv (.s (sl 9))), (some (1, []))⟩, ⟨(some (sl 35)), none, (.mv (.s (sl 2))), (some (2, []))⟩, ⟨(some (sl 36)), none, (.idx true (.s (sl 34)) (.s (sl 35)) 1), (some (3, []))⟩, ⟨(some (sl 37)), none, (.ld true (.s (sl 36)) none), (some (4, []))⟩, ⟨(some (sl 38)), none, (.mksl 1 1 [(.string ⟨#[]⟩)] [(0, 1, (.s (sl 37)))]), (some (5, []))⟩, ⟨(some (sl 39)), none, (.call true (.f 32) [(.s (sl 33)), (.s (sl 38))]), (some (6, []))⟩, ⟨(some (sl 10)), none, (.mv (.s (sl 39))), (some (7, []))⟩])
  (.seq (.seq (.reg [⟨(some (sl 11)), none, (.mv (.c (.int .i64 0))), none⟩])
  (.block 0
  (.loop (.seq (.seq (.reg [⟨(some (sl 40)), none, (.mv (.s (sl 11))), none⟩, ⟨(some (sl 41)), none, (.mv (.s (sl 10))), none⟩, ⟨(some (sl 42)), none, (.len false (.s (sl 41))), none⟩, ⟨(some (sl 43)), none, (.bin .lss (.s (sl 40)) (.s (sl 42))), none⟩])
  (.cond (.s (sl 43))
  .skip
  (.exit 0)))
  (.seq (.block 1
  (.seq (.reg [⟨(some (sl 46)), none, (.mv (.s (sl 9))), none⟩, ⟨(some (sl 47)), none, (.mv (.s (sl 10))), none⟩, ⟨(some (sl 48)), none, (.mv (.s (sl 11))), none⟩, ⟨(some (sl 49)), none, (.idx true (.s (sl 47)) (.s (sl 48)) 1), none⟩, ⟨(some (sl 50)), none, (.ld true (.s (sl 49)) none), none⟩, ⟨(some (sl 51)), none, (.call true (.f 26) [(.s (sl 46)), (.s (sl 50))]), none⟩, ⟨(some (sl 12)), none, (.mv (.s (sl 51))), none⟩])
  (.seq (.reg [⟨(some (sl 52)), none, (.mv (.s (sl 12))), none⟩, ⟨(some (sl 53)), none, (.not (.s (sl 52))), none⟩])
  (.cond (.s (sl 53))
  (.seq (.reg [⟨(some (sl 6)), none, (.mv (.c (.bool false))), none⟩])
  .ret)
  .skip))))
  (.reg [⟨(some (sl 44)), none, (.mv (.s (sl 11))), none⟩, ⟨(some (sl 45)), none, (.bin .add (.s (sl 44)) (.c (.int .i64 1))), none⟩, ⟨(some (sl 11)), none, (.mv (.s (sl 45))), none⟩]))))))
  (.seq (.reg [⟨(some (sl 54)), none, (.mv (.s (sl 7))), none⟩, ⟨(some (sl 55)), none, (.mv (.s (sl 54))), none⟩, ⟨(some (sl 56)), (some ((sl 55), true)), (.mv (.s (sl 10))), none⟩, ⟨(some (sl 57)), (some ((sl 55), true)), (.len false (.s (sl 56))), none⟩, ⟨(some (sl 58)), (some ((sl 55), true)), (.bin .geq (.s (sl 57)) (.c (.int .i64 1))), none⟩, ⟨(some (sl 59)), none, (.pick (.s (sl 55)) (.s (sl 58)) (.c (.bool false))), none⟩, ⟨(some (sl 6)), none, (.mv (.s (sl 59))), none⟩])
  .ret))))))))
def r_marlinelaw11_ReachChain : List ARes := [(.tmp (sl 6))]
theorem t_marlinelaw11_ReachChain : (Try.f9).body.bind (trCode Try.prog 8 (Try.f9).ntmps [] [] (drOk 8)) = some c_marlinelaw11_ReachChain := by kernel_rfl
theorem u_marlinelaw11_ReachChain : trRess Try.prog 8 (Try.f9).results.toList = some r_marlinelaw11_ReachChain := by kernel_rfl

/-- marline/marlinelaw11.ReachRight -/
def c_marlinelaw11_ReachRight : ACode :=
  (.seq (.reg [⟨(some (sl 1)), none, (.box true (.s (sl 0))), none⟩, ⟨(some (sl 2)), none, (.mv (.c (.bool false))), none⟩])
  (.seq (.reg [⟨(some (sl 5)), none, (.call true (.f 17) []), none⟩, ⟨(some (sl 3)), none, (.mv (.s (sl 5))), none⟩])
  (.seq (.seq (.reg [⟨(some (sl 6)), none, (.ld true (.s (sl 1)) (some 2)), none⟩, ⟨(some (sl 7)), none, (.call true (.f 18) [(.s (sl 6))]), none⟩, ⟨(some (sl 4)), none, (.new [(.slice none 0 0), (.slice none 0 0)]), none⟩, ⟨none, none, (.ini 1 (.s (sl 4)) (.s (sl 7)) 2), none⟩])
  (.frz (sl 4)))
  (.seq (.seq (.reg [⟨(some (sl 8)), none, (.ld true (.s (sl 1)) (some 2)), none⟩, ⟨(some (sl 9)), none, (.call true (.f 19) [(.s (sl 8))]), none⟩, ⟨(some (sl 10)), none, (.bin .eql (.s (sl 9)) (.c (.int .i64 0))), none⟩, ⟨(some (sl 11)), none, (.mv (.s (sl 10))), none⟩, ⟨(some (sl 12)), (some ((sl 11), true)), (.ld true (.s (sl 4)) (some 2)), none⟩, ⟨(some (sl 13)), (some ((sl 11), true)), (.call true (.f 19) [(.s (sl 12))]), none⟩, ⟨(some (sl 14)), (some ((sl 11), true)), (.bin .neq (.s (sl 13)) (.c (.int .i64 0))), none⟩, ⟨(some (sl 15)), none, (.pick (.s (sl 11)) (.s (sl 14)) (.c (.bool false))), none⟩])
  (.cond (.s (sl 15))
  (.seq (.reg [⟨(some (sl 2)), none, (.mv (.c (.bool false))), none⟩])
  .ret)
  .skip))
  (.seq (.reg [⟨(some (sl 16)), none, (.mv (.s (sl 3))), none⟩, ⟨(some (sl 17)), none, (.mv (.s (sl 16))), none⟩, ⟨(some (sl 18)), (some ((sl 17), true)), (.ld true (.s (sl 1)) (some 2)), none⟩, ⟨(some (sl 19)), (some ((sl 17), true)), (.call true (.f 20) [(.s (sl 18))]), none⟩, ⟨(some (sl 20)), (some ((sl 17), true)), (.bin .neq (.s (sl 19)) (.c (.int .i64 0))), none⟩, ⟨(some (sl 21)), (some ((sl 17), true)), (.mv (.s (sl 20))), none⟩, ⟨(some (sl 22)), (some ((sl 21), false)), (.ld true (.s (sl 4)) (some 2)), none⟩, ⟨(some (sl 23)), (some ((sl 21), false)), (.call true (.f 20) [(.s (sl 22))]), none⟩, ⟨(some (sl 24)), (some ((sl 21), false)), (.bin .eql (.s (sl 23)) (.c (.int .i64 0))), none⟩, ⟨(some (sl 25)), (some ((sl 17), true)), (.pick (.s (sl 21)) (.c (.bool true)) (.s (sl 24))), none⟩, ⟨(some (sl 26)), none, (.pick (.s (sl 17)) (.s (sl 25)) (.c (.bool false))), none⟩, ⟨(some (sl 2)), none, (.mv (.s (sl 26))), none⟩])
  .ret)))))
def r_marlinelaw11_ReachRight : List ARes := [(.tmp (sl 2))]
theorem t_marlinelaw11_ReachRight : (Try.f3).body.bind (trCode Try.prog 8 (Try.f3).ntmps [] [] (drOk 8)) = some c_marlinelaw11_ReachRight := by kernel_rfl
theorem u_marlinelaw11_ReachRight : trRess Try.prog 8 (Try.f3).results.toList = some r_marlinelaw11_ReachRight := by kernel_rfl

end Go.Proofs.Ytifinpijhbkhnaa
