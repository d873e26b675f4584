/- The bodies of some functions, as the evaluator has them (printed by program), and that they are the program's own. -/
import Derived.Test.YtkpjokhiobclbaaKE
namespace Go.Proofs.Ytkpjokhiobclbaa
open Go.RowKit

/-- marline/pick.named[marline/api.Func] -/
def c_pick_named_api_Func_ : ACode :=
  (.seq (.reg [⟨(some (sl 4)), none, (.mv (.c (.slice none 0 0))), none⟩])
  (.seq (.reg [⟨(some (sl 5)), none, (.mv (.c (.slice none 0 0))), none⟩])
  (.seq (.seq (.reg [⟨(some (sl 10)), none, (.mv (.s (sl 0))), none⟩, ⟨(some (sl 11)), none, (.len false (.s (sl 10))), none⟩, ⟨(some (sl 12)), none, (.mv (.c (.int .i64 0))), none⟩])
  (.block 0
  (.loop (.seq (.reg [⟨(some (sl 13)), none, (.bin .lss (.s (sl 12)) (.s (sl 11))), none⟩])
  (.seq (.cond (.s (sl 13))
  .skip
  (.exit 0))
  (.seq (.block 1
  (.seq (.seq (.reg [⟨(some (sl 14)), none, (.idx true (.s (sl 10)) (.s (sl 12)) 4), none⟩, ⟨(some (sl 15)), none, (.ld true (.s (sl 14)) (some 4)), none⟩, ⟨(some (sl 7)), none, (.new [(.string ⟨#[]⟩), (.int .i64 0), (.int .i64 0), (.slice none 0 0)]), none⟩, ⟨none, none, (.ini 1 (.s (sl 7)) (.s (sl 15)) 4), none⟩])
  (.frz (sl 7)))
  (.seq (.reg [⟨(some (sl 17)), none, (.mv (.s (sl 1))), none⟩, ⟨(some (sl 18)), none, (.ld true (.s (sl 7)) (some 4)), none⟩, ⟨(some (sl 19)), none, (.call true (.s (sl 17)) [(.s (sl 18))]), none⟩, ⟨(some (sl 16)), none, (.mv (.s (sl 19))), none⟩, ⟨(some (sl 20)), none, (.ext (.s (sl 16)) 0), none⟩, ⟨(some (sl 21)), none, (.ext (.s (sl 16)) 1), none⟩, ⟨(some (sl 8)), none, (.mv (.s (sl 20))), none⟩, ⟨(some (sl 9)), none, (.mv (.s (sl 21))), none⟩])
  (.seq (.reg [⟨(some (sl 22)), none, (.mv (.s (sl 9))), none⟩])
  (.cond (.s (sl 22))
  (.reg [⟨(some (sl 23)), none, (.mv (.s (sl 5))), none⟩, ⟨(some (sl 24)), none, (.mv (.s (sl 8))), none⟩, ⟨(some (sl 25)), none, (.mksl 1 1 [(.string ⟨#[]⟩)] [(0, 1, (.s (sl 24)))]), none⟩, ⟨(some (sl 26)), none, (.app 9 1 16 (.s (sl 23)) (.s (sl 25))), none⟩, ⟨(some (sl 5)), none, (.mv (.s (sl 26))), none⟩])
  .skip)))))
  (.reg [⟨(some (sl 27)), none, (.bin .add (.s (sl 12)) (.c (.int .i64 1))), none⟩, ⟨(some (sl 12)), none, (.mv (.s (sl 27))), none⟩])))))))
  (.seq (.reg [⟨(some (sl 28)), none, (.mv (.s (sl 5))), none⟩, ⟨(some (sl 4)), none, (.mv (.s (sl 28))), none⟩])
  .ret))))
def r_pick_named_api_Func_ : List ARes := [(.tmp (sl 4))]
theorem t_pick_named_api_Func_ : (Try.f29).body.bind (trCode Try.prog 8 (Try.f29).ntmps [4, 5, 23, 26, 28] [(29, 9, 1)] (drOk 8)) = some c_pick_named_api_Func_ := by kernel_rfl
theorem u_pick_named_api_Func_ : trRess Try.prog 8 (Try.f29).results.toList = some r_pick_named_api_Func_ := by kernel_rfl

/-- marline/pick.named[marline/api.Glob] -/
def c_pick_named_api_Glob_ : ACode :=
  (.seq (.reg [⟨(some (sl 4)), none, (.mv (.c (.slice none 0 0))), none⟩])
  (.seq (.reg [⟨(some (sl 5)), none, (.mv (.c (.slice none 0 0))), none⟩])
  (.seq (.seq (.reg [⟨(some (sl 10)), none, (.mv (.s (sl 0))), none⟩, ⟨(some (sl 11)), none, (.len false (.s (sl 10))), none⟩, ⟨(some (sl 12)), none, (.mv (.c (.int .i64 0))), none⟩])
  (.block 0
  (.loop (.seq (.reg [⟨(some (sl 13)), none, (.bin .lss (.s (sl 12)) (.s (sl 11))), none⟩])
  (.seq (.cond (.s (sl 13))
  .skip
  (.exit 0))
  (.seq (.block 1
  (.seq (.seq (.reg [⟨(some (sl 14)), none, (.idx true (.s (sl 10)) (.s (sl 12)) 4), none⟩, ⟨(some (sl 15)), none, (.ld true (.s (sl 14)) (some 4)), none⟩, ⟨(some (sl 7)), none, (.new [(.string ⟨#[]⟩), (.int .i64 0), (.bool false), (.int .u64 0)]), none⟩, ⟨none, none, (.ini 1 (.s (sl 7)) (.s (sl 15)) 4), none⟩])
  (.frz (sl 7)))
  (.seq (.reg [⟨(some (sl 17)), none, (.mv (.s (sl 1))), none⟩, ⟨(some (sl 18)), none, (.ld true (.s (sl 7)) (some 4)), none⟩, ⟨(some (sl 19)), none, (.call true (.s (sl 17)) [(.s (sl 18))]), none⟩, ⟨(some (sl 16)), none, (.mv (.s (sl 19))), none⟩, ⟨(some (sl 20)), none, (.ext (.s (sl 16)) 0), none⟩, ⟨(some (sl 21)), none, (.ext (.s (sl 16)) 1), none⟩, ⟨(some (sl 8)), none, (.mv (.s (sl 20))), none⟩, ⟨(some (sl 9)), none, (.mv (.s (sl 21))), none⟩])
  (.seq (.reg [⟨(some (sl 22)), none, (.mv (.s (sl 9))), none⟩])
  (.cond (.s (sl 22))
  (.reg [⟨(some (sl 23)), none, (.mv (.s (sl 5))), none⟩, ⟨(some (sl 24)), none, (.mv (.s (sl 8))), none⟩, ⟨(some (sl 25)), none, (.mksl 1 1 [(.string ⟨#[]⟩)] [(0, 1, (.s (sl 24)))]), none⟩, ⟨(some (sl 26)), none, (.app 9 1 16 (.s (sl 23)) (.s (sl 25))), none⟩, ⟨(some (sl 5)), none, (.mv (.s (sl 26))), none⟩])
  .skip)))))
  (.reg [⟨(some (sl 27)), none, (.bin .add (.s (sl 12)) (.c (.int .i64 1))), none⟩, ⟨(some (sl 12)), none, (.mv (.s (sl 27))), none⟩])))))))
  (.seq (.reg [⟨(some (sl 28)), none, (.mv (.s (sl 5))), none⟩, ⟨(some (sl 4)), none, (.mv (.s (sl 28))), none⟩])
  .ret))))
def r_pick_named_api_Glob_ : List ARes := [(.tmp (sl 4))]
theorem t_pick_named_api_Glob_ : (Try.f31).body.bind (trCode Try.prog 8 (Try.f31).ntmps [4, 5, 23, 26, 28] [(29, 9, 1)] (drOk 8)) = some c_pick_named_api_Glob_ := by kernel_rfl
theorem u_pick_named_api_Glob_ : trRess Try.prog 8 (Try.f31).results.toList = some r_pick_named_api_Glob_ := by kernel_rfl

/-- marline/pick.Defines -/
def c_pick_Defines : ACode :=
  (.seq (.reg [⟨(some (sl 1)), none, (.box true (.s (sl 0))), none⟩, ⟨(some (sl 2)), none, (.mv (.c (.slice none 0 0))), none⟩])
  (.seq (.reg [⟨(some (sl 4)), none, (.fld (.s (sl 1)) 0), none⟩, ⟨(some (sl 5)), none, (.ld true (.s (sl 4)) none), none⟩, ⟨(some (sl 6)), none, (.callo 9 1 (.f 29) [(.s (sl 5)), (.f 30)]), none⟩, ⟨(some (sl 3)), none, (.mv (.s (sl 6))), none⟩])
  (.seq (.reg [⟨(some (sl 7)), none, (.mv (.s (sl 3))), none⟩, ⟨(some (sl 8)), none, (.fld (.s (sl 1)) 1), none⟩, ⟨(some (sl 9)), none, (.ld true (.s (sl 8)) none), none⟩, ⟨(some (sl 10)), none, (.call true (.f 31) [(.s (sl 9)), (.f 32)]), none⟩, ⟨(some (sl 11)), none, (.app 9 1 16 (.s (sl 7)) (.s (sl 10))), none⟩, ⟨(some (sl 2)), none, (.mv (.s (sl 11))), none⟩])
  .ret)))
def r_pick_Defines : List ARes := [(.tmp (sl 2))]
theorem t_pick_Defines : (Try.f15).body.bind (trCode Try.prog 8 (Try.f15).ntmps [2, 3, 6, 7, 11] [(29, 9, 1)] (drOk 8)) = some c_pick_Defines := by kernel_rfl
theorem u_pick_Defines : trRess Try.prog 8 (Try.f15).results.toList = some r_pick_Defines := by kernel_rfl

/-- marline/pick.Defines$1 -/
def c_pick_Defines_1 : ACode :=
  (.seq (.reg [⟨(some (sl 1)), none, (.box true (.s (sl 0))), none⟩, ⟨(some (sl 2)), none, (.mv (.c (.string ⟨#[]⟩))), none⟩, ⟨(some (sl 3)), none, (.mv (.c (.bool false))), none⟩])
  (.seq (.reg [⟨(some (sl 4)), none, (.fld (.s (sl 1)) 0), (some (0, []))⟩, ⟨(some (sl 5)), none, (.ld true (.s (sl 4)) none), (some (1, []))⟩, ⟨(some (sl 6)), none, (.fld (.s (sl 1)) 3), (some (2, []))⟩, ⟨(some (sl 7)), none, (.ld true (.s (sl 6)) none), (some (3, []))⟩, ⟨(some (sl 8)), none, (.len false (.s (sl 7))), (some (4, []))⟩, ⟨(some (sl 9)), none, (.bin .gtr (.s (sl 8)) (.c (.int .i64 0))), (some (5, []))⟩, ⟨(some (sl 10)), none, (.mv (.s (sl 9))), (some (6, []))⟩, ⟨(some (sl 11)), (some ((sl 10), true)), (.fld (.s (sl 1)) 1), (some (7, []))⟩, ⟨(some (sl 12)), (some ((sl 10), true)), (.ld true (.s (sl 11)) none), (some (8, []))⟩, ⟨(some (sl 13)), (some ((sl 10), true)), (.bin .neq (.s (sl 12)) (.c (.int .i64 1))), (some (9, []))⟩, ⟨(some (sl 14)), none, (.pick (.s (sl 10)) (.s (sl 13)) (.c (.bool false))), (some (10, []))⟩, ⟨(some (sl 2)), none, (.mv (.s (sl 5))), (some (11, []))⟩, ⟨(some (sl 3)), none, (.mv (.s (sl 14))), (some (12, []))⟩])
  .ret))
def r_pick_Defines_1 : List ARes := [(.tmp (sl 2)), (.tmp (sl 3))]
theorem t_pick_Defines_1 : (Try.f30).body.bind (trCode Try.prog 8 (Try.f30).ntmps [] [(29, 9, 1)] (drOk 8)) = some c_pick_Defines_1 := by kernel_rfl
theorem u_pick_Defines_1 : trRess Try.prog 8 (Try.f30).results.toList = some r_pick_Defines_1 := by kernel_rfl

/-- marline/pick.Defines$2 -/
def c_pick_Defines_2 : ACode :=
  (.seq (.reg [⟨(some (sl 1)), none, (.box true (.s (sl 0))), none⟩, ⟨(some (sl 2)), none, (.mv (.c (.string ⟨#[]⟩))), none⟩, ⟨(some (sl 3)), none, (.mv (.c (.bool false))), none⟩])
  (.seq (.reg [⟨(some (sl 4)), none, (.fld (.s (sl 1)) 0), (some (0, []))⟩, ⟨(some (sl 5)), none, (.ld true (.s (sl 4)) none), (some (1, []))⟩, ⟨(some (sl 6)), none, (.fld (.s (sl 1)) 2), (some (2, []))⟩, ⟨(some (sl 7)), none, (.ld true (.s (sl 6)) none), (some (3, []))⟩, ⟨(some (sl 8)), none, (.mv (.s (sl 7))), (some (4, []))⟩, ⟨(some (sl 9)), (some ((sl 8), true)), (.fld (.s (sl 1)) 1), (some (5, []))⟩, ⟨(some (sl 10)), (some ((sl 8), true)), (.ld true (.s (sl 9)) none), (some (6, []))⟩, ⟨(some (sl 11)), (some ((sl 8), true)), (.bin .neq (.s (sl 10)) (.c (.int .i64 1))), (some (7, []))⟩, ⟨(some (sl 12)), none, (.pick (.s (sl 8)) (.s (sl 11)) (.c (.bool false))), (some (8, []))⟩, ⟨(some (sl 2)), none, (.mv (.s (sl 5))), (some (9, []))⟩, ⟨(some (sl 3)), none, (.mv (.s (sl 12))), (some (10, []))⟩])
  .ret))
def r_pick_Defines_2 : List ARes := [(.tmp (sl 2)), (.tmp (sl 3))]
theorem t_pick_Defines_2 : (Try.f32).body.bind (trCode Try.prog 8 (Try.f32).ntmps [] [(29, 9, 1)] (drOk 8)) = some c_pick_Defines_2 := by kernel_rfl
theorem u_pick_Defines_2 : trRess Try.prog 8 (Try.f32).results.toList = some r_pick_Defines_2 := by kernel_rfl

/-- marline/pick.Wants -/
def c_pick_Wants : ACode :=
  (.seq (.reg [⟨(some (sl 1)), none, (.box true (.s (sl 0))), none⟩, ⟨(some (sl 2)), none, (.mv (.c (.slice none 0 0))), none⟩])
  (.seq (.reg [⟨(some (sl 4)), none, (.fld (.s (sl 1)) 0), none⟩, ⟨(some (sl 5)), none, (.ld true (.s (sl 4)) none), none⟩, ⟨(some (sl 6)), none, (.callo 9 1 (.f 29) [(.s (sl 5)), (.f 33)]), none⟩, ⟨(some (sl 3)), none, (.mv (.s (sl 6))), none⟩])
  (.seq (.reg [⟨(some (sl 7)), none, (.mv (.s (sl 3))), none⟩, ⟨(some (sl 8)), none, (.fld (.s (sl 1)) 1), none⟩, ⟨(some (sl 9)), none, (.ld true (.s (sl 8)) none), none⟩, ⟨(some (sl 10)), none, (.call true (.f 31) [(.s (sl 9)), (.f 34)]), none⟩, ⟨(some (sl 11)), none, (.app 9 1 16 (.s (sl 7)) (.s (sl 10))), none⟩, ⟨(some (sl 2)), none, (.mv (.s (sl 11))), none⟩])
  .ret)))
def r_pick_Wants : List ARes := [(.tmp (sl 2))]
theorem t_pick_Wants : (Try.f17).body.bind (trCode Try.prog 8 (Try.f17).ntmps [2, 3, 6, 7, 11] [(29, 9, 1)] (drOk 8)) = some c_pick_Wants := by kernel_rfl
theorem u_pick_Wants : trRess Try.prog 8 (Try.f17).results.toList = some r_pick_Wants := by kernel_rfl

/-- marline/pick.Wants$1 -/
def c_pick_Wants_1 : ACode :=
  (.seq (.reg [⟨(some (sl 1)), none, (.box true (.s (sl 0))), none⟩, ⟨(some (sl 2)), none, (.mv (.c (.string ⟨#[]⟩))), none⟩, ⟨(some (sl 3)), none, (.mv (.c (.bool false))), none⟩])
  (.seq (.reg [⟨(some (sl 4)), none, (.fld (.s (sl 1)) 0), (some (0, []))⟩, ⟨(some (sl 5)), none, (.ld true (.s (sl 4)) none), (some (1, []))⟩, ⟨(some (sl 6)), none, (.fld (.s (sl 1)) 3), (some (2, []))⟩, ⟨(some (sl 7)), none, (.ld true (.s (sl 6)) none), (some (3, []))⟩, ⟨(some (sl 8)), none, (.len false (.s (sl 7))), (some (4, []))⟩, ⟨(some (sl 9)), none, (.bin .eql (.s (sl 8)) (.c (.int .i64 0))), (some (5, []))⟩, ⟨(some (sl 10)), none, (.mv (.s (sl 9))), (some (6, []))⟩, ⟨(some (sl 11)), (some ((sl 10), true)), (.fld (.s (sl 1)) 1), (some (7, []))⟩, ⟨(some (sl 12)), (some ((sl 10), true)), (.ld true (.s (sl 11)) none), (some (8, []))⟩, ⟨(some (sl 13)), (some ((sl 10), true)), (.bin .eql (.s (sl 12)) (.c (.int .i64 2))), (some (9, []))⟩, ⟨(some (sl 14)), none, (.pick (.s (sl 10)) (.s (sl 13)) (.c (.bool false))), (some (10, []))⟩, ⟨(some (sl 2)), none, (.mv (.s (sl 5))), (some (11, []))⟩, ⟨(some (sl 3)), none, (.mv (.s (sl 14))), (some (12, []))⟩])
  .ret))
def r_pick_Wants_1 : List ARes := [(.tmp (sl 2)), (.tmp (sl 3))]
theorem t_pick_Wants_1 : (Try.f33).body.bind (trCode Try.prog 8 (Try.f33).ntmps [] [(29, 9, 1)] (drOk 8)) = some c_pick_Wants_1 := by kernel_rfl
theorem u_pick_Wants_1 : trRess Try.prog 8 (Try.f33).results.toList = some r_pick_Wants_1 := by kernel_rfl

/-- marline/pick.Wants$2 -/
def c_pick_Wants_2 : ACode :=
  (.seq (.reg [⟨(some (sl 1)), none, (.box true (.s (sl 0))), none⟩, ⟨(some (sl 2)), none, (.mv (.c (.string ⟨#[]⟩))), none⟩, ⟨(some (sl 3)), none, (.mv (.c (.bool false))), none⟩])
  (.seq (.reg [⟨(some (sl 4)), none, (.fld (.s (sl 1)) 0), (some (0, []))⟩, ⟨(some (sl 5)), none, (.ld true (.s (sl 4)) none), (some (1, []))⟩, ⟨(some (sl 6)), none, (.fld (.s (sl 1)) 2), (some (2, []))⟩, ⟨(some (sl 7)), none, (.ld true (.s (sl 6)) none), (some (3, []))⟩, ⟨(some (sl 8)), none, (.not (.s (sl 7))), (some (4, []))⟩, ⟨(some (sl 9)), none, (.mv (.s (sl 8))), (some (5, []))⟩, ⟨(some (sl 10)), (some ((sl 9), true)), (.fld (.s (sl 1)) 1), (some (6, []))⟩, ⟨(some (sl 11)), (some ((sl 9), true)), (.ld true (.s (sl 10)) none), (some (7, []))⟩, ⟨(some (sl 12)), (some ((sl 9), true)), (.bin .eql (.s (sl 11)) (.c (.int .i64 2))), (some (8, []))⟩, ⟨(some (sl 13)), none, (.pick (.s (sl 9)) (.s (sl 12)) (.c (.bool false))), (some (9, []))⟩, ⟨(some (sl 2)), none, (.mv (.s (sl 5))), (some (10, []))⟩, ⟨(some (sl 3)), none, (.mv (.s (sl 13))), (some (11, []))⟩])
  .ret))
def r_pick_Wants_2 : List ARes := [(.tmp (sl 2)), (.tmp (sl 3))]
theorem t_pick_Wants_2 : (Try.f34).body.bind (trCode Try.prog 8 (Try.f34).ntmps [] [(29, 9, 1)] (drOk 8)) = some c_pick_Wants_2 := by kernel_rfl
theorem u_pick_Wants_2 : trRess Try.prog 8 (Try.f34).results.toList = some r_pick_Wants_2 := by kernel_rfl

/-- marline/pick.Check -/
def c_pick_Check : ACode :=
  (.seq (.reg [⟨(some (sl 2)), none, (.mv (.c (.int .i64 0))), none⟩])
  (.seq (.reg [⟨(some (sl 3)), none, (.mv (.c (.int .i64 0))), none⟩])
  (.seq (.seq (.reg [⟨(some (sl 11)), none, (.mv (.s (sl 0))), none⟩, ⟨(some (sl 12)), none, (.len false (.s (sl 11))), none⟩, ⟨(some (sl 13)), none, (.mv (.c (.int .i64 0))), none⟩])
  (.block 0
  (.loop (.seq (.reg [⟨(some (sl 14)), none, (.bin .lss (.s (sl 13)) (.s (sl 12))), none⟩])
  (.seq (.cond (.s (sl 14))
  .skip
  (.exit 0))
  (.seq (.block 1
  (.seq (.seq (.reg [⟨(some (sl 15)), none, (.idx true (.s (sl 11)) (.s (sl 13)) 2), none⟩, ⟨(some (sl 16)), none, (.ld true (.s (sl 15)) (some 2)), none⟩, ⟨(some (sl 5)), none, (.new [(.bool false), (.slice none 0 0)]), none⟩, ⟨none, none, (.ini 1 (.s (sl 5)) (.s (sl 16)) 2), none⟩])
  (.frz (sl 5)))
  (.reg [⟨(some (sl 17)), none, (.mv (.s (sl 3))), none⟩, ⟨(some (sl 18)), none, (.fld (.s (sl 5)) 1), none⟩, ⟨(some (sl 19)), none, (.ld true (.s (sl 18)) none), none⟩, ⟨(some (sl 20)), none, (.len false (.s (sl 19))), none⟩, ⟨(some (sl 21)), none, (.bin .add (.s (sl 17)) (.s (sl 20))), none⟩, ⟨(some (sl 3)), none, (.mv (.s (sl 21))), none⟩])))
  (.reg [⟨(some (sl 22)), none, (.bin .add (.s (sl 13)) (.c (.int .i64 1))), none⟩, ⟨(some (sl 13)), none, (.mv (.s (sl 22))), none⟩])))))))
  (.seq (.block 2
  (.seq (.reg [⟨(some (sl 24)), none, (.mv (.s (sl 0))), none⟩, ⟨(some (sl 25)), none, (.len false (.s (sl 24))), none⟩, ⟨(some (sl 26)), none, (.bin .gtr (.s (sl 25)) (.c (.int .i64 8))), none⟩, ⟨(some (sl 27)), none, (.mv (.s (sl 26))), none⟩, ⟨(some (sl 28)), (some ((sl 27), false)), (.mv (.s (sl 3))), none⟩, ⟨(some (sl 29)), (some ((sl 27), false)), (.bin .gtr (.s (sl 28)) (.c (.int .i64 16))), none⟩, ⟨(some (sl 30)), none, (.pick (.s (sl 27)) (.c (.bool true)) (.s (sl 29))), none⟩, ⟨(some (sl 23)), none, (.mv (.s (sl 30))), none⟩])
  (.cond (.s (sl 23))
  (.seq (.reg [⟨(some (sl 2)), none, (.mv (.c (.int .i64 4))), none⟩])
  .ret)
  (.seq (.reg [⟨(some (sl 32)), none, (.mv (.s (sl 0))), none⟩, ⟨(some (sl 33)), none, (.call true (.f 35) [(.s (sl 32)), (.f 36)]), none⟩, ⟨(some (sl 31)), none, (.mv (.s (sl 33))), none⟩])
  (.cond (.s (sl 31))
  (.seq (.reg [⟨(some (sl 2)), none, (.mv (.c (.int .i64 1))), none⟩])
  .ret)
  .skip)))))
  (.seq (.seq (.reg [⟨(some (sl 34)), none, (.mv (.s (sl 0))), none⟩, ⟨(some (sl 35)), none, (.len false (.s (sl 34))), none⟩, ⟨(some (sl 36)), none, (.mv (.c (.int .i64 0))), none⟩])
  (.block 3
  (.loop (.seq (.reg [⟨(some (sl 37)), none, (.bin .lss (.s (sl 36)) (.s (sl 35))), none⟩])
  (.seq (.cond (.s (sl 37))
  .skip
  (.exit 3))
  (.seq (.block 4
  (.seq (.seq (.reg [⟨(some (sl 38)), none, (.idx true (.s (sl 34)) (.s (sl 36)) 2), none⟩, ⟨(some (sl 39)), none, (.ld true (.s (sl 38)) (some 2)), none⟩, ⟨(some (sl 7)), none, (.new [(.bool false), (.slice none 0 0)]), none⟩, ⟨none, none, (.ini 1 (.s (sl 7)) (.s (sl 39)) 2), none⟩])
  (.frz (sl 7)))
  (.seq (.reg [⟨(some (sl 40)), none, (.fld (.s (sl 7)) 1), none⟩, ⟨(some (sl 41)), none, (.ld true (.s (sl 40)) none), none⟩, ⟨(some (sl 42)), none, (.len false (.s (sl 41))), none⟩, ⟨(some (sl 43)), none, (.mv (.c (.int .i64 0))), none⟩])
  (.block 5
  (.loop (.seq (.reg [⟨(some (sl 44)), none, (.bin .lss (.s (sl 43)) (.s (sl 42))), none⟩])
  (.seq (.cond (.s (sl 44))
  .skip
  (.exit 5))
  (.seq (.block 6
  (.seq (.seq (.reg [⟨(some (sl 45)), none, (.idx true (.s (sl 41)) (.s (sl 43)) 2), none⟩, ⟨(some (sl 46)), none, (.ld true (.s (sl 45)) (some 2)), none⟩, ⟨(some (sl 9)), none, (.new [(.slice none 0 0), (.slice none 0 0)]), none⟩, ⟨none, none, (.ini 1 (.s (sl 9)) (.s (sl 46)) 2), none⟩])
  (.frz (sl 9)))
  (.seq (.reg [⟨(some (sl 47)), none, (.ld true (.s (sl 9)) (some 2)), none⟩, ⟨(some (sl 48)), none, (.call true (.f 37) [(.s (sl 47))]), none⟩, ⟨(some (sl 10)), none, (.mv (.s (sl 48))), none⟩])
  (.seq (.reg [⟨(some (sl 49)), none, (.mv (.s (sl 10))), none⟩, ⟨(some (sl 50)), none, (.bin .neq (.s (sl 49)) (.c (.int .i64 0))), none⟩])
  (.cond (.s (sl 50))
  (.seq (.reg [⟨(some (sl 51)), none, (.mv (.s (sl 10))), none⟩, ⟨(some (sl 2)), none, (.mv (.s (sl 51))), none⟩])
  .ret)
  .skip)))))
  (.reg [⟨(some (sl 52)), none, (.bin .add (.s (sl 43)) (.c (.int .i64 1))), none⟩, ⟨(some (sl 43)), none, (.mv (.s (sl 52))), none⟩])))))))))
  (.reg [⟨(some (sl 53)), none, (.bin .add (.s (sl 36)) (.c (.int .i64 1))), none⟩, ⟨(some (sl 36)), none, (.mv (.s (sl 53))), none⟩])))))))
  (.seq (.reg [⟨(some (sl 2)), none, (.mv (.c (.int .i64 0))), none⟩])
  .ret))))))
def r_pick_Check : List ARes := [(.tmp (sl 2))]
theorem t_pick_Check : (Try.f19).body.bind (trCode Try.prog 8 (Try.f19).ntmps [] [(29, 9, 1)] (drOk 8)) = some c_pick_Check := by kernel_rfl
theorem u_pick_Check : trRess Try.prog 8 (Try.f19).results.toList = some r_pick_Check := by kernel_rfl

/-- marline/pick.Check$1 -/
def c_pick_Check_1 : ACode :=
  (.seq (.reg [⟨(some (sl 1)), none, (.box true (.s (sl 0))), none⟩, ⟨(some (sl 2)), none, (.mv (.c (.bool false))), none⟩])
  (.seq (.reg [⟨(some (sl 3)), none, (.fld (.s (sl 1)) 0), none⟩, ⟨(some (sl 4)), none, (.ld true (.s (sl 3)) none), none⟩, ⟨(some (sl 5)), none, (.not (.s (sl 4))), none⟩, ⟨(some (sl 6)), none, (.mv (.s (sl 5))), none⟩, ⟨(some (sl 7)), (some ((sl 6), true)), (.fld (.s (sl 1)) 1), none⟩, ⟨(some (sl 8)), (some ((sl 6), true)), (.ld true (.s (sl 7)) none), none⟩, ⟨(some (sl 9)), (some ((sl 6), true)), (.len false (.s (sl 8))), none⟩, ⟨(some (sl 10)), (some ((sl 6), true)), (.bin .neq (.s (sl 9)) (.c (.int .i64 1))), none⟩, ⟨(some (sl 11)), none, (.pick (.s (sl 6)) (.s (sl 10)) (.c (.bool false))), none⟩, ⟨(some (sl 2)), none, (.mv (.s (sl 11))), none⟩])
  .ret))
def r_pick_Check_1 : List ARes := [(.tmp (sl 2))]
theorem t_pick_Check_1 : (Try.f36).body.bind (trCode Try.prog 8 (Try.f36).ntmps [] [(29, 9, 1)] (drOk 8)) = some c_pick_Check_1 := by kernel_rfl
theorem u_pick_Check_1 : trRess Try.prog 8 (Try.f36).results.toList = some r_pick_Check_1 := by kernel_rfl

/-- slices.ContainsFunc[[]marline/api.File,marline/api.File] -/
def c_slices_ContainsFunc___api_File_api_File_ : ACode :=
  (.seq (.reg [⟨(some (sl 4)), none, (.mv (.c (.bool false))), none⟩])
  (.seq (.reg [⟨(some (sl 5)), none, (.mv (.s (sl 0))), none⟩, ⟨(some (sl 6)), none, (.mv (.s (sl 1))), none⟩, ⟨(some (sl 7)), none, (.call true (.f 42) [(.s (sl 5)), (.s (sl 6))]), none⟩, ⟨(some (sl 8)), none, (.bin .geq (.s (sl 7)) (.c (.int .i64 0))), none⟩, ⟨(some (sl 4)), none, (.mv (.s (sl 8))), none⟩])
  .ret))
def r_slices_ContainsFunc___api_File_api_File_ : List ARes := [(.tmp (sl 4))]
theorem t_slices_ContainsFunc___api_File_api_File_ : (Try.f35).body.bind (trCode Try.prog 8 (Try.f35).ntmps [] [(29, 9, 1)] (drOk 8)) = some c_slices_ContainsFunc___api_File_api_File_ := by kernel_rfl
theorem u_slices_ContainsFunc___api_File_api_File_ : trRess Try.prog 8 (Try.f35).results.toList = some r_slices_ContainsFunc___api_File_api_File_ := by kernel_rfl

/-- slices.IndexFunc[[]marline/api.File,marline/api.File] -/
def c_slices_IndexFunc___api_File_api_File_ : ACode :=
  (.seq (.reg [⟨(some (sl 4)), none, (.mv (.c (.int .i64 0))), none⟩])
  (.seq (.seq (.reg [⟨(some (sl 6)), none, (.mv (.s (sl 0))), none⟩, ⟨(some (sl 7)), none, (.len false (.s (sl 6))), none⟩, ⟨(some (sl 8)), none, (.mv (.c (.int .i64 0))), none⟩])
  (.block 0
  (.loop (.seq (.reg [⟨(some (sl 9)), none, (.bin .lss (.s (sl 8)) (.s (sl 7))), none⟩])
  (.seq (.cond (.s (sl 9))
  .skip
  (.exit 0))
  (.seq (.block 1
  (.seq (.reg [⟨(some (sl 10)), none, (.mv (.s (sl 8))), none⟩, ⟨(some (sl 5)), none, (.mv (.s (sl 10))), none⟩])
  (.seq (.reg [⟨(some (sl 11)), none, (.mv (.s (sl 1))), none⟩, ⟨(some (sl 12)), none, (.mv (.s (sl 0))), none⟩, ⟨(some (sl 13)), none, (.mv (.s (sl 5))), none⟩, ⟨(some (sl 14)), none, (.idx true (.s (sl 12)) (.s (sl 13)) 2), none⟩, ⟨(some (sl 15)), none, (.ld true (.s (sl 14)) (some 2)), none⟩, ⟨(some (sl 16)), none, (.call true (.s (sl 11)) [(.s (sl 15))]), none⟩])
  (.cond (.s (sl 16))
  (.seq (.reg [⟨(some (sl 17)), none, (.mv (.s (sl 5))), none⟩, ⟨(some (sl 4)), none, (.mv (.s (sl 17))), none⟩])
  .ret)
  .skip))))
  (.reg [⟨(some (sl 18)), none, (.bin .add (.s (sl 8)) (.c (.int .i64 1))), none⟩, ⟨(some (sl 8)), none, (.mv (.s (sl 18))), none⟩])))))))
  (.seq (.reg [⟨(some (sl 4)), none, (.mv (.c (.int .i64 (-1)))), none⟩])
  .ret)))
def r_slices_IndexFunc___api_File_api_File_ : List ARes := [(.tmp (sl 4))]
theorem t_slices_IndexFunc___api_File_api_File_ : (Try.f42).body.bind (trCode Try.prog 8 (Try.f42).ntmps [] [(29, 9, 1)] (drOk 8)) = some c_slices_IndexFunc___api_File_api_File_ := by kernel_rfl
theorem u_slices_IndexFunc___api_File_api_File_ : trRess Try.prog 8 (Try.f42).results.toList = some r_slices_IndexFunc___api_File_api_File_ := by kernel_rfl

/-- marline/marlineref08.Defines -/
def c_marlineref08_Defines : ACode :=
  (.seq (.reg [⟨(some (sl 1)), none, (.box true (.s (sl 0))), none⟩, ⟨(some (sl 2)), none, (.mv (.c (.slice none 0 0))), none⟩])
  (.seq (.reg [⟨(some (sl 3)), none, (.mv (.c (.slice none 0 0))), none⟩])
  (.seq (.seq (.reg [⟨(some (sl 4)), none, (.mv (.c (.int .i64 0))), none⟩])
  (.block 0
  (.loop (.seq (.seq (.reg [⟨(some (sl 6)), none, (.mv (.s (sl 4))), none⟩, ⟨(some (sl 7)), none, (.fld (.s (sl 1)) 0), none⟩, ⟨(some (sl 8)), none, (.ld true (.s (sl 7)) none), none⟩, ⟨(some (sl 9)), none, (.len false (.s (sl 8))), none⟩, ⟨(some (sl 10)), none, (.bin .lss (.s (sl 6)) (.s (sl 9))), none⟩])
  (.cond (.s (sl 10))
  .skip
  (.exit 0)))
  (.seq (.block 1
  (.seq (.reg [⟨(some (sl 13)), none, (.fld (.s (sl 1)) 0), none⟩, ⟨(some (sl 14)), none, (.ld true (.s (sl 13)) none), none⟩, ⟨(some (sl 15)), none, (.mv (.s (sl 4))), none⟩, ⟨(some (sl 16)), none, (.idx true (.s (sl 14)) (.s (sl 15)) 4), none⟩, ⟨(some (sl 17)), none, (.fld (.s (sl 16)) 3), none⟩, ⟨(some (sl 18)), none, (.ld true (.s (sl 17)) none), none⟩, ⟨(some (sl 19)), none, (.len false (.s (sl 18))), none⟩, ⟨(some (sl 20)), none, (.bin .gtr (.s (sl 19)) (.c (.int .i64 0))), none⟩, ⟨(some (sl 21)), none, (.mv (.s (sl 20))), none⟩, ⟨(some (sl 22)), (some ((sl 21), true)), (.fld (.s (sl 1)) 0), none⟩, ⟨(some (sl 23)), (some ((sl 21), true)), (.ld true (.s (sl 22)) none), none⟩, ⟨(some (sl 24)), (some ((sl 21), true)), (.mv (.s (sl 4))), none⟩, ⟨(some (sl 25)), (some ((sl 21), true)), (.idx true (.s (sl 23)) (.s (sl 24)) 4), none⟩, ⟨(some (sl 26)), (some ((sl 21), true)), (.fld (.s (sl 25)) 1), none⟩, ⟨(some (sl 27)), (some ((sl 21), true)), (.ld true (.s (sl 26)) none), none⟩, ⟨(some (sl 28)), (some ((sl 21), true)), (.bin .neq (.s (sl 27)) (.c (.int .i64 1))), none⟩, ⟨(some (sl 29)), none, (.pick (.s (sl 21)) (.s (sl 28)) (.c (.bool false))), none⟩])
  (.cond (.s (sl 29))
  (.reg [⟨(some (sl 30)), none, (.mv (.s (sl 3))), none⟩, ⟨(some (sl 31)), none, (.fld (.s (sl 1)) 0), none⟩, ⟨(some (sl 32)), none, (.ld true (.s (sl 31)) none), none⟩, ⟨(some (sl 33)), none, (.mv (.s (sl 4))), none⟩, ⟨(some (sl 34)), none, (.idx true (.s (sl 32)) (.s (sl 33)) 4), none⟩, ⟨(some (sl 35)), none, (.fld (.s (sl 34)) 0), none⟩, ⟨(some (sl 36)), none, (.ld true (.s (sl 35)) none), none⟩, ⟨(some (sl 37)), none, (.mksl 1 1 [(.string ⟨#[]⟩)] [(0, 1, (.s (sl 36)))]), none⟩, ⟨(some (sl 38)), none, (.app 9 1 16 (.s (sl 30)) (.s (sl 37))), none⟩, ⟨(some (sl 3)), none, (.mv (.s (sl 38))), none⟩])
  .skip)))
  (.reg [⟨(some (sl 11)), none, (.mv (.s (sl 4))), none⟩, ⟨(some (sl 12)), none, (.bin .add (.s (sl 11)) (.c (.int .i64 1))), none⟩, ⟨(some (sl 4)), none, (.mv (.s (sl 12))), none⟩]))))))
  (.seq (.seq (.reg [⟨(some (sl 5)), none, (.mv (.c (.int .i64 0))), none⟩])
  (.block 2
  (.loop (.seq (.seq (.reg [⟨(some (sl 39)), none, (.mv (.s (sl 5))), none⟩, ⟨(some (sl 40)), none, (.fld (.s (sl 1)) 1), none⟩, ⟨(some (sl 41)), none, (.ld true (.s (sl 40)) none), none⟩, ⟨(some (sl 42)), none, (.len false (.s (sl 41))), none⟩, ⟨(some (sl 43)), none, (.bin .lss (.s (sl 39)) (.s (sl 42))), none⟩])
  (.cond (.s (sl 43))
  .skip
  (.exit 2)))
  (.seq (.block 3
  (.seq (.reg [⟨(some (sl 46)), none, (.fld (.s (sl 1)) 1), none⟩, ⟨(some (sl 47)), none, (.ld true (.s (sl 46)) none), none⟩, ⟨(some (sl 48)), none, (.mv (.s (sl 5))), none⟩, ⟨(some (sl 49)), none, (.idx true (.s (sl 47)) (.s (sl 48)) 4), none⟩, ⟨(some (sl 50)), none, (.fld (.s (sl 49)) 2), none⟩, ⟨(some (sl 51)), none, (.ld true (.s (sl 50)) none), none⟩, ⟨(some (sl 52)), none, (.mv (.s (sl 51))), none⟩, ⟨(some (sl 53)), (some ((sl 52), true)), (.fld (.s (sl 1)) 1), none⟩, ⟨(some (sl 54)), (some ((sl 52), true)), (.ld true (.s (sl 53)) none), none⟩, ⟨(some (sl 55)), (some ((sl 52), true)), (.mv (.s (sl 5))), none⟩, ⟨(some (sl 56)), (some ((sl 52), true)), (.idx true (.s (sl 54)) (.s (sl 55)) 4), none⟩, ⟨(some (sl 57)), (some ((sl 52), true)), (.fld (.s (sl 56)) 1), none⟩, ⟨(some (sl 58)), (some ((sl 52), true)), (.ld true (.s (sl 57)) none), none⟩, ⟨(some (sl 59)), (some ((sl 52), true)), (.bin .neq (.s (sl 58)) (.c (.int .i64 1))), none⟩, ⟨(some (sl 60)), none, (.pick (.s (sl 52)) (.s (sl 59)) (.c (.bool false))), none⟩])
  (.cond (.s (sl 60))
  (.reg [⟨(some (sl 61)), none, (.mv (.s (sl 3))), none⟩, ⟨(some (sl 62)), none, (.fld (.s (sl 1)) 1), none⟩, ⟨(some (sl 63)), none, (.ld true (.s (sl 62)) none), none⟩, ⟨(some (sl 64)), none, (.mv (.s (sl 5))), none⟩, ⟨(some (sl 65)), none, (.idx true (.s (sl 63)) (.s (sl 64)) 4), none⟩, ⟨(some (sl 66)), none, (.fld (.s (sl 65)) 0), none⟩, ⟨(some (sl 67)), none, (.ld true (.s (sl 66)) none), none⟩, ⟨(some (sl 68)), none, (.mksl 1 1 [(.string ⟨#[]⟩)] [(0, 1, (.s (sl 67)))]), none⟩, ⟨(some (sl 69)), none, (.app 9 1 16 (.s (sl 61)) (.s (sl 68))), none⟩, ⟨(some (sl 3)), none, (.mv (.s (sl 69))), none⟩])
  .skip)))
  (.reg [⟨(some (sl 44)), none, (.mv (.s (sl 5))), none⟩, ⟨(some (sl 45)), none, (.bin .add (.s (sl 44)) (.c (.int .i64 1))), none⟩, ⟨(some (sl 5)), none, (.mv (.s (sl 45))), none⟩]))))))
  (.seq (.reg [⟨(some (sl 70)), none, (.mv (.s (sl 3))), none⟩, ⟨(some (sl 2)), none, (.mv (.s (sl 70))), none⟩])
  .ret)))))
def r_marlineref08_Defines : List ARes := [(.tmp (sl 2))]
theorem t_marlineref08_Defines : (Try.f16).body.bind (trCode Try.prog 8 (Try.f16).ntmps [2, 3, 30, 38, 61, 69, 70] [(29, 9, 1)] (drOk 8)) = some c_marlineref08_Defines := by kernel_rfl
theorem u_marlineref08_Defines : trRess Try.prog 8 (Try.f16).results.toList = some r_marlineref08_Defines := by kernel_rfl

/-- marline/marlineref08.Wants -/
def c_marlineref08_Wants : ACode :=
  (.seq (.reg [⟨(some (sl 1)), none, (.box true (.s (sl 0))), none⟩, ⟨(some (sl 2)), none, (.mv (.c (.slice none 0 0))), none⟩])
  (.seq (.reg [⟨(some (sl 3)), none, (.mv (.c (.slice none 0 0))), none⟩])
  (.seq (.seq (.reg [⟨(some (sl 4)), none, (.mv (.c (.int .i64 0))), none⟩])
  (.block 0
  (.loop (.seq (.seq (.reg [⟨(some (sl 6)), none, (.mv (.s (sl 4))), none⟩, ⟨(some (sl 7)), none, (.fld (.s (sl 1)) 0), none⟩, ⟨(some (sl 8)), none, (.ld true (.s (sl 7)) none), none⟩, ⟨(some (sl 9)), none, (.len false (.s (sl 8))), none⟩, ⟨(some (sl 10)), none, (.bin .lss (.s (sl 6)) (.s (sl 9))), none⟩])
  (.cond (.s (sl 10))
  .skip
  (.exit 0)))
  (.seq (.block 1
  (.seq (.reg [⟨(some (sl 13)), none, (.fld (.s (sl 1)) 0), none⟩, ⟨(some (sl 14)), none, (.ld true (.s (sl 13)) none), none⟩, ⟨(some (sl 15)), none, (.mv (.s (sl 4))), none⟩, ⟨(some (sl 16)), none, (.idx true (.s (sl 14)) (.s (sl 15)) 4), none⟩, ⟨(some (sl 17)), none, (.fld (.s (sl 16)) 3), none⟩, ⟨(some (sl 18)), none, (.ld true (.s (sl 17)) none), none⟩, ⟨(some (sl 19)), none, (.len false (.s (sl 18))), none⟩, ⟨(some (sl 20)), none, (.bin .eql (.s (sl 19)) (.c (.int .i64 0))), none⟩, ⟨(some (sl 21)), none, (.mv (.s (sl 20))), none⟩, ⟨(some (sl 22)), (some ((sl 21), true)), (.fld (.s (sl 1)) 0), none⟩, ⟨(some (sl 23)), (some ((sl 21), true)), (.ld true (.s (sl 22)) none), none⟩, ⟨(some (sl 24)), (some ((sl 21), true)), (.mv (.s (sl 4))), none⟩, ⟨(some (sl 25)), (some ((sl 21), true)), (.idx true (.s (sl 23)) (.s (sl 24)) 4), none⟩, ⟨(some (sl 26)), (some ((sl 21), true)), (.fld (.s (sl 25)) 1), none⟩, ⟨(some (sl 27)), (some ((sl 21), true)), (.ld true (.s (sl 26)) none), none⟩, ⟨(some (sl 28)), (some ((sl 21), true)), (.bin .eql (.s (sl 27)) (.c (.int .i64 2))), none⟩, ⟨(some (sl 29)), none, (.pick (.s (sl 21)) (.s (sl 28)) (.c (.bool false))), none⟩])
  (.cond (.s (sl 29))
  (.reg [⟨(some (sl 30)), none, (.mv (.s (sl 3))), none⟩, ⟨(some (sl 31)), none, (.fld (.s (sl 1)) 0), none⟩, ⟨(some (sl 32)), none, (.ld true (.s (sl 31)) none), none⟩, ⟨(some (sl 33)), none, (.mv (.s (sl 4))), none⟩, ⟨(some (sl 34)), none, (.idx true (.s (sl 32)) (.s (sl 33)) 4), none⟩, ⟨(some (sl 35)), none, (.fld (.s (sl 34)) 0), none⟩, ⟨(some (sl 36)), none, (.ld true (.s (sl 35)) none), none⟩, ⟨(some (sl 37)), none, (.mksl 1 1 [(.string ⟨#[]⟩)] [(0, 1, (.s (sl 36)))]), none⟩, ⟨(some (sl 38)), none, (.app 9 1 16 (.s (sl 30)) (.s (sl 37))), none⟩, ⟨(some (sl 3)), none, (.mv (.s (sl 38))), none⟩])
  .skip)))
  (.reg [⟨(some (sl 11)), none, (.mv (.s (sl 4))), none⟩, ⟨(some (sl 12)), none, (.bin .add (.s (sl 11)) (.c (.int .i64 1))), none⟩, ⟨(some (sl 4)), none, (.mv (.s (sl 12))), none⟩]))))))
  (.seq (.seq (.reg [⟨(some (sl 5)), none, (.mv (.c (.int .i64 0))), none⟩])
  (.block 2
  (.loop (.seq (.seq (.reg [⟨(some (sl 39)), none, (.mv (.s (sl 5))), none⟩, ⟨(some (sl 40)), none, (.fld (.s (sl 1)) 1), none⟩, ⟨(some (sl 41)), none, (.ld true (.s (sl 40)) none), none⟩, ⟨(some (sl 42)), none, (.len false (.s (sl 41))), none⟩, ⟨(some (sl 43)), none, (.bin .lss (.s (sl 39)) (.s (sl 42))), none⟩])
  (.cond (.s (sl 43))
  .skip
  (.exit 2)))
  (.seq (.block 3
  (.seq (.reg [⟨(some (sl 46)), none, (.fld (.s (sl 1)) 1), none⟩, ⟨(some (sl 47)), none, (.ld true (.s (sl 46)) none), none⟩, ⟨(some (sl 48)), none, (.mv (.s (sl 5))), none⟩, ⟨(some (sl 49)), none, (.idx true (.s (sl 47)) (.s (sl 48)) 4), none⟩, ⟨(some (sl 50)), none, (.fld (.s (sl 49)) 2), none⟩, ⟨(some (sl 51)), none, (.ld true (.s (sl 50)) none), none⟩, ⟨(some (sl 52)), none, (.not (.s (sl 51))), none⟩, ⟨(some (sl 53)), none, (.mv (.s (sl 52))), none⟩, ⟨(some (sl 54)), (some ((sl 53), true)), (.fld (.s (sl 1)) 1), none⟩, ⟨(some (sl 55)), (some ((sl 53), true)), (.ld true (.s (sl 54)) none), none⟩, ⟨(some (sl 56)), (some ((sl 53), true)), (.mv (.s (sl 5))), none⟩, ⟨(some (sl 57)), (some ((sl 53), true)), (.idx true (.s (sl 55)) (.s (sl 56)) 4), none⟩, ⟨(some (sl 58)), (some ((sl 53), true)), (.fld (.s (sl 57)) 1), none⟩, ⟨(some (sl 59)), (some ((sl 53), true)), (.ld true (.s (sl 58)) none), none⟩, ⟨(some (sl 60)), (some ((sl 53), true)), (.bin .eql (.s (sl 59)) (.c (.int .i64 2))), none⟩, ⟨(some (sl 61)), none, (.pick (.s (sl 53)) (.s (sl 60)) (.c (.bool false))), none⟩])
  (.cond (.s (sl 61))
  (.reg [⟨(some (sl 62)), none, (.mv (.s (sl 3))), none⟩, ⟨(some (sl 63)), none, (.fld (.s (sl 1)) 1), none⟩, ⟨(some (sl 64)), none, (.ld true (.s (sl 63)) none), none⟩, ⟨(some (sl 65)), none, (.mv (.s (sl 5))), none⟩, ⟨(some (sl 66)), none, (.idx true (.s (sl 64)) (.s (sl 65)) 4), none⟩, ⟨(some (sl 67)), none, (.fld (.s (sl 66)) 0), none⟩, ⟨(some (sl 68)), none, (.ld true (.s (sl 67)) none), none⟩, ⟨(some (sl 69)), none, (.mksl 1 1 [(.string ⟨#[]⟩)] [(0, 1, (.s (sl 68)))]), none⟩, ⟨(some (sl 70)), none, (.app 9 1 16 (.s (sl 62)) (.s (sl 69))), none⟩, ⟨(some (sl 3)), none, (.mv (.s (sl 70))), none⟩])
  .skip)))
  (.reg [⟨(some (sl 44)), none, (.mv (.s (sl 5))), none⟩, ⟨(some (sl 45)), none, (.bin .add (.s (sl 44)) (.c (.int .i64 1))), none⟩, ⟨(some (sl 5)), none, (.mv (.s (sl 45))), none⟩]))))))
  (.seq (.reg [⟨(some (sl 71)), none, (.mv (.s (sl 3))), none⟩, ⟨(some (sl 2)), none, (.mv (.s (sl 71))), none⟩])
  .ret)))))
def r_marlineref08_Wants : List ARes := [(.tmp (sl 2))]
theorem t_marlineref08_Wants : (Try.f18).body.bind (trCode Try.prog 8 (Try.f18).ntmps [2, 3, 30, 38, 62, 70, 71] [(29, 9, 1)] (drOk 8)) = some c_marlineref08_Wants := by kernel_rfl
theorem u_marlineref08_Wants : trRess Try.prog 8 (Try.f18).results.toList = some r_marlineref08_Wants := by kernel_rfl

/-- marline/marlineref08.Check -/
def c_marlineref08_Check : ACode :=
  (.seq (.reg [⟨(some (sl 2)), none, (.mv (.c (.int .i64 0))), none⟩])
  (.seq (.reg [⟨(some (sl 3)), none, (.mv (.c (.int .i64 0))), none⟩])
  (.seq (.seq (.reg [⟨(some (sl 4)), none, (.mv (.c (.int .i64 0))), none⟩])
  (.block 0
  (.loop (.seq (.seq (.reg [⟨(some (sl 9)), none, (.mv (.s (sl 4))), none⟩, ⟨(some (sl 10)), none, (.mv (.s (sl 0))), none⟩, ⟨(some (sl 11)), none, (.len false (.s (sl 10))), none⟩, ⟨(some (sl 12)), none, (.bin .lss (.s (sl 9)) (.s (sl 11))), none⟩])
  (.cond (.s (sl 12))
  .skip
  (.exit 0)))
  (.seq (.block 1
  (.reg [⟨(some (sl 15)), none, (.mv (.s (sl 3))), none⟩, ⟨(some (sl 16)), none, (.mv (.s (sl 0))), none⟩, ⟨(some (sl 17)), none, (.mv (.s (sl 4))), none⟩, ⟨(some (sl 18)), none, (.idx true (.s (sl 16)) (.s (sl 17)) 2), none⟩, ⟨(some (sl 19)), none, (.fld (.s (sl 18)) 1), none⟩, ⟨(some (sl 20)), none, (.ld true (.s (sl 19)) none), none⟩, ⟨(some (sl 21)), none, (.len false (.s (sl 20))), none⟩, ⟨(some (sl 22)), none, (.bin .add (.s (sl 15)) (.s (sl 21))), none⟩, ⟨(some (sl 3)), none, (.mv (.s (sl 22))), none⟩]))
  (.reg [⟨(some (sl 13)), none, (.mv (.s (sl 4))), none⟩, ⟨(some (sl 14)), none, (.bin .add (.s (sl 13)) (.c (.int .i64 1))), none⟩, ⟨(some (sl 4)), none, (.mv (.s (sl 14))), none⟩]))))))
  (.seq (.seq (.reg [⟨(some (sl 23)), none, (.mv (.s (sl 0))), none⟩, ⟨(some (sl 24)), none, (.len false (.s (sl 23))), none⟩, ⟨(some (sl 25)), none, (.bin .gtr (.s (sl 24)) (.c (.int .i64 8))), none⟩, ⟨(some (sl 26)), none, (.mv (.s (sl 25))), none⟩, ⟨(some (sl 27)), (some ((sl 26), false)), (.mv (.s (sl 3))), none⟩, ⟨(some (sl 28)), (some ((sl 26), false)), (.bin .gtr (.s (sl 27)) (.c (.int .i64 16))), none⟩, ⟨(some (sl 29)), none, (.pick (.s (sl 26)) (.c (.bool true)) (.s (sl 28))), none⟩])
  (.cond (.s (sl 29))
  (.seq (.reg [⟨(some (sl 2)), none, (.mv (.c (.int .i64 4))), none⟩])
  .ret)
  .skip))
  (.seq (.seq (.reg [⟨(some (sl 5)), none, (.mv (.c (.int .i64 0))), none⟩])
  (.block 2
  (.loop (.seq (.seq (.reg [⟨(some (sl 30)), none, (.mv (.s (sl 5))), none⟩, ⟨(some (sl 31)), none, (.mv (.s (sl 0))), none⟩, ⟨(some (sl 32)), none, (.len false (.s (sl 31))), none⟩, ⟨(some (sl 33)), none, (.bin .lss (.s (sl 30)) (.s (sl 32))), none⟩])
  (.cond (.s (sl 33))
  .skip
  (.exit 2)))
  (.seq (.block 3
  (.seq (.reg [⟨(some (sl 36)), none, (.mv (.s (sl 0))), none⟩, ⟨(some (sl 37)), none, (.mv (.s (sl 5))), none⟩, ⟨(some (sl 38)), none, (.idx true (.s (sl 36)) (.s (sl 37)) 2), none⟩, ⟨(some (sl 39)), none, (.fld (.s (sl 38)) 0), none⟩, ⟨(some (sl 40)), none, (.ld true (.s (sl 39)) none), none⟩, ⟨(some (sl 41)), none, (.not (.s (sl 40))), none⟩, ⟨(some (sl 42)), none, (.mv (.s (sl 41))), none⟩, ⟨(some (sl 43)), (some ((sl 42), true)), (.mv (.s (sl 0))), none⟩, ⟨(some (sl 44)), (some ((sl 42), true)), (.mv (.s (sl 5))), none⟩, ⟨(some (sl 45)), (some ((sl 42), true)), (.idx true (.s (sl 43)) (.s (sl 44)) 2), none⟩, ⟨(some (sl 46)), (some ((sl 42), true)), (.fld (.s (sl 45)) 1), none⟩, ⟨(some (sl 47)), (some ((sl 42), true)), (.ld true (.s (sl 46)) none), none⟩, ⟨(some (sl 48)), (some ((sl 42), true)), (.len false (.s (sl 47))), none⟩, ⟨(some (sl 49)), (some ((sl 42), true)), (.bin .neq (.s (sl 48)) (.c (.int .i64 1))), none⟩, ⟨(some (sl 50)), none, (.pick (.s (sl 42)) (.s (sl 49)) (.c (.bool false))), none⟩])
  (.cond (.s (sl 50))
  (.seq (.reg [⟨(some (sl 2)), none, (.mv (.c (.int .i64 1))), none⟩])
  .ret)
  .skip)))
  (.reg [⟨(some (sl 34)), none, (.mv (.s (sl 5))), none⟩, ⟨(some (sl 35)), none, (.bin .add (.s (sl 34)) (.c (.int .i64 1))), none⟩, ⟨(some (sl 5)), none, (.mv (.s (sl 35))), none⟩]))))))
  (.seq (.seq (.reg [⟨(some (sl 6)), none, (.mv (.c (.int .i64 0))), none⟩])
  (.block 4
  (.loop (.seq (.seq (.reg [⟨(some (sl 51)), none, (.mv (.s (sl 6))), none⟩, ⟨(some (sl 52)), none, (.mv (.s (sl 0))), none⟩, ⟨(some (sl 53)), none, (.len false (.s (sl 52))), none⟩, ⟨(some (sl 54)), none, (.bin .lss (.s (sl 51)) (.s (sl 53))), none⟩])
  (.cond (.s (sl 54))
  .skip
  (.exit 4)))
  (.seq (.block 5
  (.seq (.reg [⟨(some (sl 7)), none, (.mv (.c (.int .i64 0))), none⟩])
  (.block 6
  (.loop (.seq (.seq (.reg [⟨(some (sl 57)), none, (.mv (.s (sl 7))), none⟩, ⟨(some (sl 58)), none, (.mv (.s (sl 0))), none⟩, ⟨(some (sl 59)), none, (.mv (.s (sl 6))), none⟩, ⟨(some (sl 60)), none, (.idx true (.s (sl 58)) (.s (sl 59)) 2), none⟩, ⟨(some (sl 61)), none, (.fld (.s (sl 60)) 1), none⟩, ⟨(some (sl 62)), none, (.ld true (.s (sl 61)) none), none⟩, ⟨(some (sl 63)), none, (.len false (.s (sl 62))), none⟩, ⟨(some (sl 64)), none, (.bin .lss (.s (sl 57)) (.s (sl 63))), none⟩])
  (.cond (.s (sl 64))
  .skip
  (.exit 6)))
  (.seq (.block 7
  (.seq (.reg [⟨(some (sl 67)), none, (.mv (.s (sl 0))), none⟩, ⟨(some (sl 68)), none, (.mv (.s (sl 6))), none⟩, ⟨(some (sl 69)), none, (.idx true (.s (sl 67)) (.s (sl 68)) 2), none⟩, ⟨(some (sl 70)), none, (.fld (.s (sl 69)) 1), none⟩, ⟨(some (sl 71)), none, (.ld true (.s (sl 70)) none), none⟩, ⟨(some (sl 72)), none, (.mv (.s (sl 7))), none⟩, ⟨(some (sl 73)), none, (.idx true (.s (sl 71)) (.s (sl 72)) 2), none⟩, ⟨(some (sl 74)), none, (.ld true (.s (sl 73)) (some 2)), none⟩, ⟨(some (sl 75)), none, (.call true (.f 38) [(.s (sl 74))]), none⟩, ⟨(some (sl 8)), none, (.mv (.s (sl 75))), none⟩])
  (.seq (.reg [⟨(some (sl 76)), none, (.mv (.s (sl 8))), none⟩, ⟨(some (sl 77)), none, (.bin .neq (.s (sl 76)) (.c (.int .i64 0))), none⟩])
  (.cond (.s (sl 77))
  (.seq (.reg [⟨(some (sl 78)), none, (.mv (.s (sl 8))), none⟩, ⟨(some (sl 2)), none, (.mv (.s (sl 78))), none⟩])
  .ret)
  .skip))))
  (.reg [⟨(some (sl 65)), none, (.mv (.s (sl 7))), none⟩, ⟨(some (sl 66)), none, (.bin .add (.s (sl 65)) (.c (.int .i64 1))), none⟩, ⟨(some (sl 7)), none, (.mv (.s (sl 66))), none⟩])))))))
  (.reg [⟨(some (sl 55)), none, (.mv (.s (sl 6))), none⟩, ⟨(some (sl 56)), none, (.bin .add (.s (sl 55)) (.c (.int .i64 1))), none⟩, ⟨(some (sl 6)), none, (.mv (.s (sl 56))), none⟩]))))))
  (.seq (.reg [⟨(some (sl 2)), none, (.mv (.c (.int .i64 0))), none⟩])
  .ret)))))))
def r_marlineref08_Check : List ARes := [(.tmp (sl 2))]
theorem t_marlineref08_Check : (Try.f20).body.bind (trCode Try.prog 8 (Try.f20).ntmps [] [(29, 9, 1)] (drOk 8)) = some c_marlineref08_Check := by kernel_rfl
theorem u_marlineref08_Check : trRess Try.prog 8 (Try.f20).results.toList = some r_marlineref08_Check := by kernel_rfl

/-- marline/marlineref08.defined -/
def c_marlineref08_defined : ACode :=
  (.seq (.reg [⟨(some (sl 4)), none, (.mv (.c (.bool false))), none⟩])
  (.seq (.seq (.reg [⟨(some (sl 5)), none, (.mv (.c (.int .i64 0))), none⟩])
  (.block 0
  (.loop (.seq (.seq (.reg [⟨(some (sl 7)), none, (.mv (.s (sl 5))), none⟩, ⟨(some (sl 8)), none, (.mv (.s (sl 0))), none⟩, ⟨(some (sl 9)), none, (.len false (.s (sl 8))), none⟩, ⟨(some (sl 10)), none, (.bin .lss (.s (sl 7)) (.s (sl 9))), none⟩])
  (.cond (.s (sl 10))
  .skip
  (.exit 0)))
  (.seq (.block 1
  (.seq (.reg [⟨(some (sl 13)), none, (.mv (.s (sl 0))), none⟩, ⟨(some (sl 14)), none, (.mv (.s (sl 5))), none⟩, ⟨(some (sl 15)), none, (.idx true (.s (sl 13)) (.s (sl 14)) 2), none⟩, ⟨(some (sl 16)), none, (.ld true (.s (sl 15)) (some 2)), none⟩, ⟨(some (sl 17)), none, (.call true (.f 16) [(.s (sl 16))]), none⟩, ⟨(some (sl 18)), none, (.mv (.s (sl 1))), none⟩, ⟨(some (sl 19)), none, (.call true (.f 23) [(.s (sl 17)), (.s (sl 18))]), none⟩, ⟨(some (sl 6)), none, (.mv (.s (sl 19))), none⟩])
  (.seq (.reg [⟨(some (sl 20)), none, (.mv (.s (sl 6))), none⟩])
  (.cond (.s (sl 20))
  (.seq (.reg [⟨(some (sl 4)), none, (.mv (.c (.bool true))), none⟩])
  .ret)
  .skip))))
  (.reg [⟨(some (sl 11)), none, (.mv (.s (sl 5))), none⟩, ⟨(some (sl 12)), none, (.bin .add (.s (sl 11)) (.c (.int .i64 1))), none⟩, ⟨(some (sl 5)), none, (.mv (.s (sl 12))), none⟩]))))))
  (.seq (.reg [⟨(some (sl 4)), none, (.mv (.c (.bool false))), none⟩])
  .ret)))
def r_marlineref08_defined : List ARes := [(.tmp (sl 4))]
theorem t_marlineref08_defined : (Try.f40).body.bind (trCode Try.prog 8 (Try.f40).ntmps [] [(29, 9, 1)] (drOk 8)) = some c_marlineref08_defined := by kernel_rfl
theorem u_marlineref08_defined : trRess Try.prog 8 (Try.f40).results.toList = some r_marlineref08_defined := by kernel_rfl

/-- marline/marlineref08.Open -/
def c_marlineref08_Open : ACode :=
  (.seq (.reg [⟨(some (sl 3)), none, (.box true (.s (sl 1))), none⟩, ⟨(some (sl 4)), none, (.mv (.c (.bool false))), none⟩])
  (.seq (.reg [⟨(some (sl 10)), none, (.ld true (.s (sl 3)) (some 2)), none⟩, ⟨(some (sl 11)), none, (.call true (.f 16) [(.s (sl 10))]), none⟩, ⟨(some (sl 5)), none, (.mv (.s (sl 11))), none⟩])
  (.seq (.seq (.reg [⟨(some (sl 6)), none, (.mv (.c (.int .i64 0))), none⟩])
  (.block 0
  (.loop (.seq (.seq (.reg [⟨(some (sl 12)), none, (.mv (.s (sl 6))), none⟩, ⟨(some (sl 13)), none, (.mv (.s (sl 5))), none⟩, ⟨(some (sl 14)), none, (.len false (.s (sl 13))), none⟩, ⟨(some (sl 15)), none, (.bin .lss (.s (sl 12)) (.s (sl 14))), none⟩])
  (.cond (.s (sl 15))
  .skip
  (.exit 0)))
  (.seq (.block 1
  (.seq (.reg [⟨(some (sl 18)), none, (.mv (.s (sl 0))), none⟩, ⟨(some (sl 19)), none, (.mv (.s (sl 5))), none⟩, ⟨(some (sl 20)), none, (.mv (.s (sl 6))), none⟩, ⟨(some (sl 21)), none, (.idx true (.s (sl 19)) (.s (sl 20)) 1), none⟩, ⟨(some (sl 22)), none, (.ld true (.s (sl 21)) none), none⟩, ⟨(some (sl 23)), none, (.call true (.f 40) [(.s (sl 18)), (.s (sl 22))]), none⟩, ⟨(some (sl 7)), none, (.mv (.s (sl 23))), none⟩])
  (.seq (.seq (.reg [⟨(some (sl 24)), none, (.mv (.s (sl 7))), none⟩])
  (.cond (.s (sl 24))
  (.exit 1)
  .skip))
  (.seq (.reg [⟨(some (sl 8)), none, (.mv (.c (.int .i64 0))), none⟩])
  (.block 2
  (.loop (.seq (.seq (.reg [⟨(some (sl 25)), none, (.mv (.s (sl 8))), none⟩, ⟨(some (sl 26)), none, (.mv (.s (sl 0))), none⟩, ⟨(some (sl 27)), none, (.len false (.s (sl 26))), none⟩, ⟨(some (sl 28)), none, (.bin .lss (.s (sl 25)) (.s (sl 27))), none⟩])
  (.cond (.s (sl 28))
  .skip
  (.exit 2)))
  (.seq (.block 3
  (.seq (.reg [⟨(some (sl 31)), none, (.mv (.s (sl 0))), (some (0, []))⟩, ⟨(some (sl 32)), none, (.mv (.s (sl 8))), (some (1, []))⟩, ⟨(some (sl 33)), none, (.idx true (.s (sl 31)) (.s (sl 32)) 2), (some (2, []))⟩, ⟨(some (sl 34)), none, (.ld true (.s (sl 33)) (some 2)), (some (3, []))⟩, ⟨(some (sl 35)), none, (.call true (.f 18) [(.s (sl 34))]), (some (4, []))⟩, ⟨(some (sl 36)), none, (.mv (.s (sl 5))), (some (5, []))⟩, ⟨(some (sl 37)), none, (.mv (.s (sl 6))), (some (6, []))⟩, ⟨(some (sl 38)), none, (.idx true (.s (sl 36)) (.s (sl 37)) 1), (some (7, []))⟩, ⟨(some (sl 39)), none, (.ld true (.s (sl 38)) none), (some (8, []))⟩, ⟨(some (sl 40)), none, (.call true (.f 23) [(.s (sl 35)), (.s (sl 39))]), (some (9, []))⟩, ⟨(some (sl 9)), none, (.mv (.s (sl 40))), (some (10, []))⟩])
  (.seq (.reg [⟨(some (sl 41)), none, (.mv (.s (sl 9))), none⟩])
  (.cond (.s (sl 41))
  (.seq (.reg [⟨(some (sl 4)), none, (.mv (.c (.bool true))), none⟩])
  .ret)
  .skip))))
  (.reg [⟨(some (sl 29)), none, (.mv (.s (sl 8))), none⟩, ⟨(some (sl 30)), none, (.bin .add (.s (sl 29)) (.c (.int .i64 1))), none⟩, ⟨(some (sl 8)), none, (.mv (.s (sl 30))), none⟩])))))))))
  (.reg [⟨(some (sl 16)), none, (.mv (.s (sl 6))), none⟩, ⟨(some (sl 17)), none, (.bin .add (.s (sl 16)) (.c (.int .i64 1))), none⟩, ⟨(some (sl 6)), none, (.mv (.s (sl 17))), none⟩]))))))
  (.seq (.reg [⟨(some (sl 4)), none, (.mv (.c (.bool false))), none⟩])
  .ret))))
def r_marlineref08_Open : List ARes := [(.tmp (sl 4))]
theorem t_marlineref08_Open : (Try.f22).body.bind (trCode Try.prog 8 (Try.f22).ntmps [] [(29, 9, 1)] (drOk 8)) = some c_marlineref08_Open := by kernel_rfl
theorem u_marlineref08_Open : trRess Try.prog 8 (Try.f22).results.toList = some r_marlineref08_Open := by kernel_rfl

/-- marline/marlineref08.Mods -/
def c_marlineref08_Mods : ACode :=
  (.seq (.reg [⟨(some (sl 4)), none, (.mv (.c (.bool false))), none⟩])
  (.seq (.seq (.reg [⟨(some (sl 7)), none, (.mv (.s (sl 0))), none⟩, ⟨(some (sl 8)), none, (.len false (.s (sl 7))), none⟩, ⟨(some (sl 9)), none, (.mv (.s (sl 1))), none⟩, ⟨(some (sl 10)), none, (.len false (.s (sl 9))), none⟩, ⟨(some (sl 11)), none, (.bin .neq (.s (sl 8)) (.s (sl 10))), none⟩])
  (.cond (.s (sl 11))
  (.seq (.reg [⟨(some (sl 4)), none, (.mv (.c (.bool false))), none⟩])
  .ret)
  .skip))
  (.seq (.seq (.reg [⟨(some (sl 5)), none, (.mv (.c (.int .i64 0))), none⟩])
  (.block 0
  (.loop (.seq (.seq (.reg [⟨(some (sl 12)), none, (.mv (.s (sl 5))), none⟩, ⟨(some (sl 13)), none, (.mv (.s (sl 0))), none⟩, ⟨(some (sl 14)), none, (.len false (.s (sl 13))), none⟩, ⟨(some (sl 15)), none, (.bin .lss (.s (sl 12)) (.s (sl 14))), none⟩])
  (.cond (.s (sl 15))
  .skip
  (.exit 0)))
  (.seq (.block 1
  (.seq (.reg [⟨(some (sl 18)), none, (.mv (.s (sl 0))), (some (0, []))⟩, ⟨(some (sl 19)), none, (.mv (.s (sl 5))), (some (1, []))⟩, ⟨(some (sl 20)), none, (.idx true (.s (sl 18)) (.s (sl 19)) 2), (some (2, []))⟩, ⟨(some (sl 21)), none, (.ld true (.s (sl 20)) (some 2)), (some (3, []))⟩, ⟨(some (sl 22)), none, (.mv (.s (sl 1))), (some (4, []))⟩, ⟨(some (sl 23)), none, (.mv (.s (sl 5))), (some (5, []))⟩, ⟨(some (sl 24)), none, (.idx true (.s (sl 22)) (.s (sl 23)) 2), (some (6, []))⟩, ⟨(some (sl 25)), none, (.ld true (.s (sl 24)) (some 2)), (some (7, []))⟩, ⟨(some (sl 26)), none, (.call true (.f 21) [(.s (sl 21)), (.s (sl 25))]), (some (8, []))⟩, ⟨(some (sl 6)), none, (.mv (.s (sl 26))), (some (9, []))⟩])
  (.seq (.reg [⟨(some (sl 27)), none, (.mv (.s (sl 6))), none⟩, ⟨(some (sl 28)), none, (.not (.s (sl 27))), none⟩])
  (.cond (.s (sl 28))
  (.seq (.reg [⟨(some (sl 4)), none, (.mv (.c (.bool false))), none⟩])
  .ret)
  .skip))))
  (.reg [⟨(some (sl 16)), none, (.mv (.s (sl 5))), none⟩, ⟨(some (sl 17)), none, (.bin .add (.s (sl 16)) (.c (.int .i64 1))), none⟩, ⟨(some (sl 5)), none, (.mv (.s (sl 17))), none⟩]))))))
  (.seq (.reg [⟨(some (sl 4)), none, (.mv (.c (.bool true))), none⟩])
  .ret))))
def r_marlineref08_Mods : List ARes := [(.tmp (sl 4))]
theorem t_marlineref08_Mods : (Try.f13).body.bind (trCode Try.prog 8 (Try.f13).ntmps [] [(29, 9, 1)] (drOk 8)) = some c_marlineref08_Mods := by kernel_rfl
theorem u_marlineref08_Mods : trRess Try.prog 8 (Try.f13).results.toList = some r_marlineref08_Mods := by kernel_rfl

end Go.Proofs.Ytkpjokhiobclbaa
