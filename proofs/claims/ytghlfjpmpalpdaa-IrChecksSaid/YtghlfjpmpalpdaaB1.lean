/- The bodies of some functions, as the evaluator has them (printed by program), and that they are the program's own. -/
import Derived.Test.YtghlfjpmpalpdaaEv
namespace Go.Proofs.Ytghlfjpmpalpdaa
open Go.RowKit

/-- marline/marlineref05.name -/
def c_marlineref05_name : ACode :=
  (.seq (.reg [⟨(some (sl 2)), none, (.mv (.c (.bool false))), none⟩])
  (.seq (.reg [⟨(some (sl 3)), none, (.mv (.s (sl 0))), none⟩, ⟨(some (sl 4)), none, (.len true (.s (sl 3))), none⟩, ⟨(some (sl 5)), none, (.bin .geq (.s (sl 4)) (.c (.int .i64 1))), none⟩, ⟨(some (sl 6)), none, (.mv (.s (sl 5))), none⟩, ⟨(some (sl 7)), (some ((sl 6), true)), (.mv (.s (sl 0))), none⟩, ⟨(some (sl 8)), (some ((sl 6), true)), (.len true (.s (sl 7))), none⟩, ⟨(some (sl 9)), (some ((sl 6), true)), (.bin .leq (.s (sl 8)) (.c (.int .i64 16))), none⟩, ⟨(some (sl 10)), none, (.pick (.s (sl 6)) (.s (sl 9)) (.c (.bool false))), none⟩, ⟨(some (sl 2)), none, (.mv (.s (sl 10))), none⟩])
  .ret))
def r_marlineref05_name : List ARes := [(.tmp (sl 2))]
theorem t_marlineref05_name : (Try.f42).body.bind (trCode Try.prog 8 (Try.f42).ntmps [] [] (drOk 8)) = some c_marlineref05_name := by kernel_rfl
theorem u_marlineref05_name : trRess Try.prog 8 (Try.f42).results.toList = some r_marlineref05_name := by kernel_rfl

/-- marline/marlineref05.Uses -/
def c_marlineref05_Uses : ACode :=
  (.seq (.reg [⟨(some (sl 1)), none, (.box true (.s (sl 0))), none⟩, ⟨(some (sl 2)), none, (.mv (.c (.slice none 0 0))), none⟩])
  (.seq (.seq (.reg [⟨(some (sl 3)), none, (.fld (.s (sl 1)) 0), none⟩, ⟨(some (sl 4)), none, (.ld true (.s (sl 3)) none), none⟩, ⟨(some (sl 5)), none, (.bin .geq (.s (sl 4)) (.c (.int .i64 2))), none⟩, ⟨(some (sl 6)), none, (.mv (.s (sl 5))), none⟩, ⟨(some (sl 7)), (some ((sl 6), true)), (.fld (.s (sl 1)) 0), none⟩, ⟨(some (sl 8)), (some ((sl 6), true)), (.ld true (.s (sl 7)) none), none⟩, ⟨(some (sl 9)), (some ((sl 6), true)), (.bin .leq (.s (sl 8)) (.c (.int .i64 11))), none⟩, ⟨(some (sl 10)), none, (.pick (.s (sl 6)) (.s (sl 9)) (.c (.bool false))), none⟩])
  (.cond (.s (sl 10))
  (.seq (.reg [⟨(some (sl 11)), none, (.fld (.s (sl 1)) 1), none⟩, ⟨(some (sl 12)), none, (.ld true (.s (sl 11)) none), none⟩, ⟨(some (sl 13)), none, (.fld (.s (sl 1)) 2), none⟩, ⟨(some (sl 14)), none, (.ld true (.s (sl 13)) none), none⟩, ⟨(some (sl 15)), none, (.mksl 1 2 [(.int .i64 0), (.int .i64 0)] [(0, 1, (.s (sl 12))), (1, 1, (.s (sl 14)))]), none⟩, ⟨(some (sl 2)), none, (.mv (.s (sl 15))), none⟩])
  .ret)
  .skip))
  (.seq (.seq (.reg [⟨(some (sl 16)), none, (.fld (.s (sl 1)) 0), none⟩, ⟨(some (sl 17)), none, (.ld true (.s (sl 16)) none), none⟩, ⟨(some (sl 18)), none, (.bin .eql (.s (sl 17)) (.c (.int .i64 13))), none⟩, ⟨(some (sl 19)), none, (.mv (.s (sl 18))), none⟩, ⟨(some (sl 20)), (some ((sl 19), false)), (.fld (.s (sl 1)) 0), none⟩, ⟨(some (sl 21)), (some ((sl 19), false)), (.ld true (.s (sl 20)) none), none⟩, ⟨(some (sl 22)), (some ((sl 19), false)), (.bin .eql (.s (sl 21)) (.c (.int .i64 16))), none⟩, ⟨(some (sl 23)), none, (.pick (.s (sl 19)) (.c (.bool true)) (.s (sl 22))), none⟩])
  (.cond (.s (sl 23))
  (.seq (.reg [⟨(some (sl 24)), none, (.fld (.s (sl 1)) 1), none⟩, ⟨(some (sl 25)), none, (.ld true (.s (sl 24)) none), none⟩, ⟨(some (sl 26)), none, (.mksl 1 1 [(.int .i64 0)] [(0, 1, (.s (sl 25)))]), none⟩, ⟨(some (sl 2)), none, (.mv (.s (sl 26))), none⟩])
  .ret)
  .skip))
  (.seq (.seq (.reg [⟨(some (sl 27)), none, (.fld (.s (sl 1)) 0), none⟩, ⟨(some (sl 28)), none, (.ld true (.s (sl 27)) none), none⟩, ⟨(some (sl 29)), none, (.bin .eql (.s (sl 28)) (.c (.int .i64 14))), none⟩])
  (.cond (.s (sl 29))
  (.seq (.reg [⟨(some (sl 30)), none, (.nrow 3 1), none⟩, ⟨(some (sl 31)), none, (.fld (.s (sl 1)) 5), none⟩, ⟨(some (sl 32)), none, (.ld true (.s (sl 31)) none), none⟩, ⟨(some (sl 33)), none, (.app 3 1 8 (.s (sl 30)) (.s (sl 32))), none⟩, ⟨(some (sl 2)), none, (.mv (.s (sl 33))), none⟩])
  .ret)
  .skip))
  (.seq (.reg [⟨(some (sl 2)), none, (.mv (.c (.slice none 0 0))), none⟩])
  .ret)))))
def r_marlineref05_Uses : List ARes := [(.tmp (sl 2))]
theorem t_marlineref05_Uses : (Try.f17).body.bind (trCode Try.prog 8 (Try.f17).ntmps [2, 33] [] (drOk 8)) = some c_marlineref05_Uses := by kernel_rfl
theorem u_marlineref05_Uses : trRess Try.prog 8 (Try.f17).results.toList = some r_marlineref05_Uses := by kernel_rfl

/-- marline/marlineref05.below -/
def c_marlineref05_below : ACode :=
  (.seq (.reg [⟨(some (sl 4)), none, (.mv (.c (.bool false))), none⟩])
  (.seq (.seq (.reg [⟨(some (sl 5)), none, (.mv (.c (.int .i64 0))), none⟩])
  (.block 0
  (.loop (.seq (.seq (.reg [⟨(some (sl 6)), none, (.mv (.s (sl 5))), none⟩, ⟨(some (sl 7)), none, (.mv (.s (sl 0))), none⟩, ⟨(some (sl 8)), none, (.len false (.s (sl 7))), none⟩, ⟨(some (sl 9)), none, (.bin .lss (.s (sl 6)) (.s (sl 8))), none⟩])
  (.cond (.s (sl 9))
  .skip
  (.exit 0)))
  (.seq (.block 1
  (.seq (.reg [⟨(some (sl 12)), none, (.mv (.s (sl 0))), none⟩, ⟨(some (sl 13)), none, (.mv (.s (sl 5))), none⟩, ⟨(some (sl 14)), none, (.idx true (.s (sl 12)) (.s (sl 13)) 1), none⟩, ⟨(some (sl 15)), none, (.ld true (.s (sl 14)) none), none⟩, ⟨(some (sl 16)), none, (.bin .lss (.s (sl 15)) (.c (.int .i64 0))), none⟩, ⟨(some (sl 17)), none, (.mv (.s (sl 16))), none⟩, ⟨(some (sl 18)), (some ((sl 17), false)), (.mv (.s (sl 0))), none⟩, ⟨(some (sl 19)), (some ((sl 17), false)), (.mv (.s (sl 5))), none⟩, ⟨(some (sl 20)), (some ((sl 17), false)), (.idx true (.s (sl 18)) (.s (sl 19)) 1), none⟩, ⟨(some (sl 21)), (some ((sl 17), false)), (.ld true (.s (sl 20)) none), none⟩, ⟨(some (sl 22)), (some ((sl 17), false)), (.mv (.s (sl 1))), none⟩, ⟨(some (sl 23)), (some ((sl 17), false)), (.bin .geq (.s (sl 21)) (.s (sl 22))), none⟩, ⟨(some (sl 24)), none, (.pick (.s (sl 17)) (.c (.bool true)) (.s (sl 23))), none⟩])
  (.cond (.s (sl 24))
  (.seq (.reg [⟨(some (sl 4)), none, (.mv (.c (.bool false))), none⟩])
  .ret)
  .skip)))
  (.reg [⟨(some (sl 10)), none, (.mv (.s (sl 5))), none⟩, ⟨(some (sl 11)), none, (.bin .add (.s (sl 10)) (.c (.int .i64 1))), none⟩, ⟨(some (sl 5)), none, (.mv (.s (sl 11))), none⟩]))))))
  (.seq (.reg [⟨(some (sl 4)), none, (.mv (.c (.bool true))), none⟩])
  .ret)))
def r_marlineref05_below : List ARes := [(.tmp (sl 4))]
theorem t_marlineref05_below : (Try.f40).body.bind (trCode Try.prog 8 (Try.f40).ntmps [] [] (drOk 8)) = some c_marlineref05_below := by kernel_rfl
theorem u_marlineref05_below : trRess Try.prog 8 (Try.f40).results.toList = some r_marlineref05_below := by kernel_rfl

/-- marline/marlineref05.Named -/
def c_marlineref05_Named : ACode :=
  (.seq (.reg [⟨(some (sl 1)), none, (.box true (.s (sl 0))), none⟩, ⟨(some (sl 2)), none, (.mv (.c (.bool false))), none⟩])
  (.seq (.reg [⟨(some (sl 3)), none, (.fld (.s (sl 1)) 0), none⟩, ⟨(some (sl 4)), none, (.ld true (.s (sl 3)) none), none⟩, ⟨(some (sl 5)), none, (.bin .eql (.s (sl 4)) (.c (.int .i64 12))), none⟩, ⟨(some (sl 6)), none, (.mv (.s (sl 5))), none⟩, ⟨(some (sl 7)), (some ((sl 6), false)), (.fld (.s (sl 1)) 0), none⟩, ⟨(some (sl 8)), (some ((sl 6), false)), (.ld true (.s (sl 7)) none), none⟩, ⟨(some (sl 9)), (some ((sl 6), false)), (.bin .eql (.s (sl 8)) (.c (.int .i64 13))), none⟩, ⟨(some (sl 10)), none, (.pick (.s (sl 6)) (.c (.bool true)) (.s (sl 9))), none⟩, ⟨(some (sl 11)), none, (.mv (.s (sl 10))), none⟩, ⟨(some (sl 12)), (some ((sl 11), false)), (.fld (.s (sl 1)) 0), none⟩, ⟨(some (sl 13)), (some ((sl 11), false)), (.ld true (.s (sl 12)) none), none⟩, ⟨(some (sl 14)), (some ((sl 11), false)), (.bin .eql (.s (sl 13)) (.c (.int .i64 14))), none⟩, ⟨(some (sl 15)), none, (.pick (.s (sl 11)) (.c (.bool true)) (.s (sl 14))), none⟩, ⟨(some (sl 2)), none, (.mv (.s (sl 15))), none⟩])
  .ret))
def r_marlineref05_Named : List ARes := [(.tmp (sl 2))]
theorem t_marlineref05_Named : (Try.f41).body.bind (trCode Try.prog 8 (Try.f41).ntmps [] [] (drOk 8)) = some c_marlineref05_Named := by kernel_rfl
theorem u_marlineref05_Named : trRess Try.prog 8 (Try.f41).results.toList = some r_marlineref05_Named := by kernel_rfl

/-- marline/marlineref05.Inst -/
def c_marlineref05_Inst : ACode :=
  (.seq (.reg [⟨(some (sl 2)), none, (.box true (.s (sl 0))), none⟩, ⟨(some (sl 4)), none, (.mv (.c (.bool false))), none⟩])
  (.seq (.reg [⟨(some (sl 9)), none, (.ld true (.s (sl 2)) (some 6)), none⟩, ⟨(some (sl 10)), none, (.call true (.f 17) [(.s (sl 9))]), none⟩, ⟨(some (sl 11)), none, (.mv (.s (sl 1))), none⟩, ⟨(some (sl 12)), none, (.call true (.f 40) [(.s (sl 10)), (.s (sl 11))]), none⟩, ⟨(some (sl 5)), none, (.mv (.s (sl 12))), none⟩])
  (.seq (.seq (.reg [⟨(some (sl 13)), none, (.fld (.s (sl 2)) 0), none⟩, ⟨(some (sl 14)), none, (.ld true (.s (sl 13)) none), none⟩, ⟨(some (sl 15)), none, (.bin .lss (.s (sl 14)) (.c (.int .i64 1))), none⟩, ⟨(some (sl 16)), none, (.mv (.s (sl 15))), none⟩, ⟨(some (sl 17)), (some ((sl 16), false)), (.fld (.s (sl 2)) 0), none⟩, ⟨(some (sl 18)), (some ((sl 16), false)), (.ld true (.s (sl 17)) none), none⟩, ⟨(some (sl 19)), (some ((sl 16), false)), (.bin .gtr (.s (sl 18)) (.c (.int .i64 16))), none⟩, ⟨(some (sl 20)), none, (.pick (.s (sl 16)) (.c (.bool true)) (.s (sl 19))), none⟩, ⟨(some (sl 21)), none, (.mv (.s (sl 20))), none⟩, ⟨(some (sl 22)), (some ((sl 21), false)), (.mv (.s (sl 5))), none⟩, ⟨(some (sl 23)), (some ((sl 21), false)), (.not (.s (sl 22))), none⟩, ⟨(some (sl 24)), none, (.pick (.s (sl 21)) (.c (.bool true)) (.s (sl 23))), none⟩, ⟨(some (sl 25)), none, (.mv (.s (sl 24))), none⟩, ⟨(some (sl 26)), (some ((sl 25), false)), (.fld (.s (sl 2)) 5), none⟩, ⟨(some (sl 27)), (some ((sl 25), false)), (.ld true (.s (sl 26)) none), none⟩, ⟨(some (sl 28)), (some ((sl 25), false)), (.len false (.s (sl 27))), none⟩, ⟨(some (sl 29)), (some ((sl 25), false)), (.bin .gtr (.s (sl 28)) (.c (.int .i64 6))), none⟩, ⟨(some (sl 30)), none, (.pick (.s (sl 25)) (.c (.bool true)) (.s (sl 29))), none⟩])
  (.cond (.s (sl 30))
  (.seq (.reg [⟨(some (sl 4)), none, (.mv (.c (.bool false))), none⟩])
  .ret)
  .skip))
  (.seq (.reg [⟨(some (sl 31)), none, (.fld (.s (sl 2)) 0), none⟩, ⟨(some (sl 32)), none, (.ld true (.s (sl 31)) none), none⟩, ⟨(some (sl 33)), none, (.bin .geq (.s (sl 32)) (.c (.int .i64 2))), none⟩, ⟨(some (sl 34)), none, (.mv (.s (sl 33))), none⟩, ⟨(some (sl 35)), (some ((sl 34), true)), (.fld (.s (sl 2)) 0), none⟩, ⟨(some (sl 36)), (some ((sl 34), true)), (.ld true (.s (sl 35)) none), none⟩, ⟨(some (sl 37)), (some ((sl 34), true)), (.bin .leq (.s (sl 36)) (.c (.int .i64 11))), none⟩, ⟨(some (sl 38)), none, (.pick (.s (sl 34)) (.s (sl 37)) (.c (.bool false))), none⟩, ⟨(some (sl 39)), none, (.mv (.s (sl 38))), none⟩, ⟨(some (sl 40)), (some ((sl 39), false)), (.fld (.s (sl 2)) 0), none⟩, ⟨(some (sl 41)), (some ((sl 39), false)), (.ld true (.s (sl 40)) none), none⟩, ⟨(some (sl 42)), (some ((sl 39), false)), (.bin .eql (.s (sl 41)) (.c (.int .i64 13))), none⟩, ⟨(some (sl 43)), none, (.pick (.s (sl 39)) (.c (.bool true)) (.s (sl 42))), none⟩, ⟨(some (sl 44)), none, (.mv (.s (sl 43))), none⟩, ⟨(some (sl 45)), (some ((sl 44), false)), (.fld (.s (sl 2)) 0), none⟩, ⟨(some (sl 46)), (some ((sl 44), false)), (.ld true (.s (sl 45)) none), none⟩, ⟨(some (sl 47)), (some ((sl 44), false)), (.bin .eql (.s (sl 46)) (.c (.int .i64 16))), none⟩, ⟨(some (sl 48)), none, (.pick (.s (sl 44)) (.c (.bool true)) (.s (sl 47))), none⟩, ⟨(some (sl 6)), none, (.mv (.s (sl 48))), none⟩])
  (.seq (.reg [⟨(some (sl 49)), none, (.fld (.s (sl 2)) 0), none⟩, ⟨(some (sl 50)), none, (.ld true (.s (sl 49)) none), none⟩, ⟨(some (sl 51)), none, (.bin .geq (.s (sl 50)) (.c (.int .i64 2))), none⟩, ⟨(some (sl 52)), none, (.mv (.s (sl 51))), none⟩, ⟨(some (sl 53)), (some ((sl 52), true)), (.fld (.s (sl 2)) 0), none⟩, ⟨(some (sl 54)), (some ((sl 52), true)), (.ld true (.s (sl 53)) none), none⟩, ⟨(some (sl 55)), (some ((sl 52), true)), (.bin .leq (.s (sl 54)) (.c (.int .i64 11))), none⟩, ⟨(some (sl 56)), none, (.pick (.s (sl 52)) (.s (sl 55)) (.c (.bool false))), none⟩, ⟨(some (sl 7)), none, (.mv (.s (sl 56))), none⟩])
  (.seq (.seq (.reg [⟨(some (sl 57)), none, (.mv (.s (sl 6))), none⟩, ⟨(some (sl 58)), none, (.not (.s (sl 57))), none⟩, ⟨(some (sl 59)), none, (.mv (.s (sl 58))), none⟩, ⟨(some (sl 60)), (some ((sl 59), true)), (.fld (.s (sl 2)) 1), none⟩, ⟨(some (sl 61)), (some ((sl 59), true)), (.ld true (.s (sl 60)) none), none⟩, ⟨(some (sl 62)), (some ((sl 59), true)), (.bin .neq (.s (sl 61)) (.c (.int .i64 0))), none⟩, ⟨(some (sl 63)), none, (.pick (.s (sl 59)) (.s (sl 62)) (.c (.bool false))), none⟩, ⟨(some (sl 64)), none, (.mv (.s (sl 63))), none⟩, ⟨(some (sl 65)), (some ((sl 64), false)), (.mv (.s (sl 7))), none⟩, ⟨(some (sl 66)), (some ((sl 64), false)), (.not (.s (sl 65))), none⟩, ⟨(some (sl 67)), (some ((sl 64), false)), (.mv (.s (sl 66))), none⟩, ⟨(some (sl 68)), (some ((sl 67), true)), (.fld (.s (sl 2)) 2), none⟩, ⟨(some (sl 69)), (some ((sl 67), true)), (.ld true (.s (sl 68)) none), none⟩, ⟨(some (sl 70)), (some ((sl 67), true)), (.bin .neq (.s (sl 69)) (.c (.int .i64 0))), none⟩, ⟨(some (sl 71)), (some ((sl 64), false)), (.pick (.s (sl 67)) (.s (sl 70)) (.c (.bool false))), none⟩, ⟨(some (sl 72)), none, (.pick (.s (sl 64)) (.c (.bool true)) (.s (sl 71))), none⟩, ⟨(some (sl 73)), none, (.mv (.s (sl 72))), none⟩, ⟨(some (sl 74)), (some ((sl 73), false)), (.fld (.s (sl 2)) 0), none⟩, ⟨(some (sl 75)), (some ((sl 73), false)), (.ld true (.s (sl 74)) none), none⟩, ⟨(some (sl 76)), (some ((sl 73), false)), (.bin .neq (.s (sl 75)) (.c (.int .i64 1))), none⟩, ⟨(some (sl 77)), (some ((sl 73), false)), (.mv (.s (sl 76))), none⟩, ⟨(some (sl 78)), (some ((sl 77), true)), (.fld (.s (sl 2)) 3), none⟩, ⟨(some (sl 79)), (some ((sl 77), true)), (.ld true (.s (sl 78)) none), none⟩, ⟨(some (sl 80)), (some ((sl 77), true)), (.bin .neq (.s (sl 79)) (.c (.int .u64 0))), none⟩, ⟨(some (sl 81)), (some ((sl 73), false)), (.pick (.s (sl 77)) (.s (sl 80)) (.c (.bool false))), none⟩, ⟨(some (sl 82)), none, (.pick (.s (sl 73)) (.c (.bool true)) (.s (sl 81))), none⟩, ⟨(some (sl 83)), none, (.mv (.s (sl 82))), none⟩, ⟨(some (sl 84)), (some ((sl 83), false)), (.fld (.s (sl 2)) 0), none⟩, ⟨(some (sl 85)), (some ((sl 83), false)), (.ld true (.s (sl 84)) none), none⟩, ⟨(some (sl 86)), (some ((sl 83), false)), (.bin .neq (.s (sl 85)) (.c (.int .i64 14))), none⟩, ⟨(some (sl 87)), (some ((sl 83), false)), (.mv (.s (sl 86))), none⟩, ⟨(some (sl 88)), (some ((sl 87), true)), (.fld (.s (sl 2)) 5), none⟩, ⟨(some (sl 89)), (some ((sl 87), true)), (.ld true (.s (sl 88)) none), none⟩, ⟨(some (sl 90)), (some ((sl 87), true)), (.len false (.s (sl 89))), none⟩, ⟨(some (sl 91)), (some ((sl 87), true)), (.bin .gtr (.s (sl 90)) (.c (.int .i64 0))), none⟩, ⟨(some (sl 92)), (some ((sl 83), false)), (.pick (.s (sl 87)) (.s (sl 91)) (.c (.bool false))), none⟩, ⟨(some (sl 93)), none, (.pick (.s (sl 83)) (.c (.bool true)) (.s (sl 92))), none⟩])
  (.cond (.s (sl 93))
  (.seq (.reg [⟨(some (sl 4)), none, (.mv (.c (.bool false))), none⟩])
  .ret)
  .skip))
  (.seq (.reg [⟨(some (sl 94)), none, (.ld true (.s (sl 2)) (some 6)), none⟩, ⟨(some (sl 95)), none, (.call true (.f 41) [(.s (sl 94))]), none⟩, ⟨(some (sl 8)), none, (.mv (.s (sl 95))), none⟩])
  (.seq (.seq (.reg [⟨(some (sl 96)), none, (.mv (.s (sl 8))), none⟩])
  (.cond (.s (sl 96))
  (.seq (.reg [⟨(some (sl 97)), none, (.fld (.s (sl 2)) 4), none⟩, ⟨(some (sl 98)), none, (.ld true (.s (sl 97)) none), none⟩, ⟨(some (sl 99)), none, (.call true (.f 42) [(.s (sl 98))]), none⟩, ⟨(some (sl 4)), none, (.mv (.s (sl 99))), none⟩])
  .ret)
  .skip))
  (.seq (.reg [⟨(some (sl 100)), none, (.fld (.s (sl 2)) 4), none⟩, ⟨(some (sl 101)), none, (.ld true (.s (sl 100)) none), none⟩, ⟨(some (sl 102)), none, (.bin .eql (.s (sl 101)) (.c (.string ⟨#[]⟩))), none⟩, ⟨(some (sl 4)), none, (.mv (.s (sl 102))), none⟩])
  .ret)))))))))
def r_marlineref05_Inst : List ARes := [(.tmp (sl 4))]
theorem t_marlineref05_Inst : (Try.f19).body.bind (trCode Try.prog 8 (Try.f19).ntmps [] [] (drOk 8)) = some c_marlineref05_Inst := by kernel_rfl
theorem u_marlineref05_Inst : trRess Try.prog 8 (Try.f19).results.toList = some r_marlineref05_Inst := by kernel_rfl

/-- marline/marlineref05.goes -/
def c_marlineref05_goes : ACode :=
  (.seq (.reg [⟨(some (sl 4)), none, (.box true (.s (sl 0))), none⟩, ⟨(some (sl 8)), none, (.mv (.c (.bool false))), none⟩])
  (.seq (.seq (.reg [⟨(some (sl 9)), none, (.mv (.s (sl 1))), none⟩, ⟨(some (sl 10)), none, (.bin .lss (.s (sl 9)) (.c (.int .i64 0))), none⟩, ⟨(some (sl 11)), none, (.mv (.s (sl 10))), none⟩, ⟨(some (sl 12)), (some ((sl 11), false)), (.mv (.s (sl 1))), none⟩, ⟨(some (sl 13)), (some ((sl 11), false)), (.fld (.s (sl 4)) 3), none⟩, ⟨(some (sl 14)), (some ((sl 11), false)), (.ld true (.s (sl 13)) none), none⟩, ⟨(some (sl 15)), (some ((sl 11), false)), (.len false (.s (sl 14))), none⟩, ⟨(some (sl 16)), (some ((sl 11), false)), (.bin .geq (.s (sl 12)) (.s (sl 15))), none⟩, ⟨(some (sl 17)), none, (.pick (.s (sl 11)) (.c (.bool true)) (.s (sl 16))), none⟩, ⟨(some (sl 18)), none, (.mv (.s (sl 17))), none⟩, ⟨(some (sl 19)), (some ((sl 18), false)), (.mv (.s (sl 2))), none⟩, ⟨(some (sl 20)), (some ((sl 18), false)), (.len false (.s (sl 19))), none⟩, ⟨(some (sl 21)), (some ((sl 18), false)), (.fld (.s (sl 4)) 3), none⟩, ⟨(some (sl 22)), (some ((sl 18), false)), (.ld true (.s (sl 21)) none), none⟩, ⟨(some (sl 23)), (some ((sl 18), false)), (.mv (.s (sl 1))), none⟩, ⟨(some (sl 24)), (some ((sl 18), false)), (.idx true (.s (sl 22)) (.s (sl 23)) 8), none⟩, ⟨(some (sl 25)), (some ((sl 18), false)), (.fld (.s (sl 24)) 0), none⟩, ⟨(some (sl 26)), (some ((sl 18), false)), (.ld true (.s (sl 25)) none), none⟩, ⟨(some (sl 27)), (some ((sl 18), false)), (.bin .neq (.s (sl 20)) (.s (sl 26))), none⟩, ⟨(some (sl 28)), none, (.pick (.s (sl 18)) (.c (.bool true)) (.s (sl 27))), none⟩])
  (.cond (.s (sl 28))
  (.seq (.reg [⟨(some (sl 8)), none, (.mv (.c (.bool false))), none⟩])
  .ret)
  .skip))
  (.seq (.reg [⟨(some (sl 29)), none, (.mv (.s (sl 2))), none⟩, ⟨(some (sl 30)), none, (.mv (.s (sl 3))), none⟩, ⟨(some (sl 31)), none, (.call true (.f 40) [(.s (sl 29)), (.s (sl 30))]), none⟩, ⟨(some (sl 8)), none, (.mv (.s (sl 31))), none⟩])
  .ret)))
def r_marlineref05_goes : List ARes := [(.tmp (sl 8))]
theorem t_marlineref05_goes : (Try.f68).body.bind (trCode Try.prog 8 (Try.f68).ntmps [] [] (drOk 8)) = some c_marlineref05_goes := by kernel_rfl
theorem u_marlineref05_goes : trRess Try.prog 8 (Try.f68).results.toList = some r_marlineref05_goes := by kernel_rfl

/-- marline/marlineref05.block -/
def c_marlineref05_block : ACode :=
  (.seq (.reg [⟨(some (sl 2)), none, (.box true (.s (sl 0))), none⟩, ⟨(some (sl 4)), none, (.mv (.c (.bool false))), none⟩])
  (.seq (.seq (.reg [⟨(some (sl 14)), none, (.fld (.s (sl 2)) 3), none⟩, ⟨(some (sl 15)), none, (.ld true (.s (sl 14)) none), none⟩, ⟨(some (sl 16)), none, (.mv (.s (sl 1))), none⟩, ⟨(some (sl 17)), none, (.idx true (.s (sl 15)) (.s (sl 16)) 8), none⟩, ⟨(some (sl 18)), none, (.ld true (.s (sl 17)) (some 8)), none⟩, ⟨(some (sl 5)), none, (.new [(.int .i64 0), (.slice none 0 0), (.int .i64 0), (.int .i64 0), (.int .i64 0), (.slice none 0 0), (.int .i64 0), (.slice none 0 0)]), none⟩, ⟨none, none, (.ini 1 (.s (sl 5)) (.s (sl 18)) 8), none⟩])
  (.frz (sl 5)))
  (.seq (.seq (.reg [⟨(some (sl 19)), none, (.fld (.s (sl 5)) 0), none⟩, ⟨(some (sl 20)), none, (.ld true (.s (sl 19)) none), none⟩, ⟨(some (sl 21)), none, (.bin .lss (.s (sl 20)) (.c (.int .i64 0))), none⟩, ⟨(some (sl 22)), none, (.mv (.s (sl 21))), none⟩, ⟨(some (sl 23)), (some ((sl 22), false)), (.fld (.s (sl 5)) 0), none⟩, ⟨(some (sl 24)), (some ((sl 22), false)), (.ld true (.s (sl 23)) none), none⟩, ⟨(some (sl 25)), (some ((sl 22), false)), (.bin .gtr (.s (sl 24)) (.c (.int .i64 6))), none⟩, ⟨(some (sl 26)), none, (.pick (.s (sl 22)) (.c (.bool true)) (.s (sl 25))), none⟩, ⟨(some (sl 27)), none, (.mv (.s (sl 26))), none⟩, ⟨(some (sl 28)), (some ((sl 27), false)), (.fld (.s (sl 5)) 1), none⟩, ⟨(some (sl 29)), (some ((sl 27), false)), (.ld true (.s (sl 28)) none), none⟩, ⟨(some (sl 30)), (some ((sl 27), false)), (.len false (.s (sl 29))), none⟩, ⟨(some (sl 31)), (some ((sl 27), false)), (.bin .gtr (.s (sl 30)) (.c (.int .i64 32))), none⟩, ⟨(some (sl 32)), none, (.pick (.s (sl 27)) (.c (.bool true)) (.s (sl 31))), none⟩])
  (.cond (.s (sl 32))
  (.seq (.reg [⟨(some (sl 4)), none, (.mv (.c (.bool false))), none⟩])
  .ret)
  .skip))
  (.seq (.seq (.reg [⟨(some (sl 6)), none, (.mv (.c (.int .i64 0))), none⟩])
  (.block 0
  (.loop (.seq (.seq (.reg [⟨(some (sl 33)), none, (.mv (.s (sl 6))), none⟩, ⟨(some (sl 34)), none, (.fld (.s (sl 5)) 1), none⟩, ⟨(some (sl 35)), none, (.ld true (.s (sl 34)) none), none⟩, ⟨(some (sl 36)), none, (.len false (.s (sl 35))), none⟩, ⟨(some (sl 37)), none, (.bin .lss (.s (sl 33)) (.s (sl 36))), none⟩])
  (.cond (.s (sl 37))
  .skip
  (.exit 0)))
  (.seq (.block 1
  (.seq (.reg [⟨(some (sl 40)), none, (.fld (.s (sl 5)) 1), (some 0)⟩, ⟨(some (sl 41)), none, (.ld true (.s (sl 40)) none), (some 1)⟩, ⟨(some (sl 42)), none, (.mv (.s (sl 6))), (some 2)⟩, ⟨(some (sl 43)), none, (.idx true (.s (sl 41)) (.s (sl 42)) 6), (some 3)⟩, ⟨(some (sl 44)), none, (.ld true (.s (sl 43)) (some 6)), (some 4)⟩, ⟨(some (sl 45)), none, (.fld (.s (sl 5)) 0), (some 5)⟩, ⟨(some (sl 46)), none, (.ld true (.s (sl 45)) none), (some 6)⟩, ⟨(some (sl 47)), none, (.mv (.s (sl 6))), (some 7)⟩, ⟨(some (sl 48)), none, (.bin .add (.s (sl 46)) (.s (sl 47))), (some 8)⟩, ⟨(some (sl 49)), none, (.call true (.f 19) [(.s (sl 44)), (.s (sl 48))]), (some 9)⟩, ⟨(some (sl 7)), none, (.mv (.s (sl 49))), (some 10)⟩])
  (.seq (.reg [⟨(some (sl 50)), none, (.mv (.s (sl 7))), none⟩, ⟨(some (sl 51)), none, (.not (.s (sl 50))), none⟩])
  (.cond (.s (sl 51))
  (.seq (.reg [⟨(some (sl 4)), none, (.mv (.c (.bool false))), none⟩])
  .ret)
  .skip))))
  (.reg [⟨(some (sl 38)), none, (.mv (.s (sl 6))), none⟩, ⟨(some (sl 39)), none, (.bin .add (.s (sl 38)) (.c (.int .i64 1))), none⟩, ⟨(some (sl 6)), none, (.mv (.s (sl 39))), none⟩]))))))
  (.seq (.seq (.reg [⟨(some (sl 52)), none, (.fld (.s (sl 5)) 2), none⟩, ⟨(some (sl 53)), none, (.ld true (.s (sl 52)) (some 6)), none⟩, ⟨(some (sl 8)), none, (.new [(.int .i64 0), (.int .i64 0), (.int .i64 0), (.slice none 0 0), (.int .i64 0), (.slice none 0 0)]), none⟩, ⟨none, none, (.ini 1 (.s (sl 8)) (.s (sl 53)) 6), none⟩])
  (.frz (sl 8)))
  (.seq (.reg [⟨(some (sl 54)), none, (.fld (.s (sl 5)) 0), none⟩, ⟨(some (sl 55)), none, (.ld true (.s (sl 54)) none), none⟩, ⟨(some (sl 56)), none, (.fld (.s (sl 5)) 1), none⟩, ⟨(some (sl 57)), none, (.ld true (.s (sl 56)) none), none⟩, ⟨(some (sl 58)), none, (.len false (.s (sl 57))), none⟩, ⟨(some (sl 59)), none, (.bin .add (.s (sl 55)) (.s (sl 58))), none⟩, ⟨(some (sl 9)), none, (.mv (.s (sl 59))), none⟩])
  (.seq (.seq (.reg [⟨(some (sl 60)), none, (.fld (.s (sl 8)) 0), none⟩, ⟨(some (sl 61)), none, (.ld true (.s (sl 60)) none), none⟩, ⟨(some (sl 62)), none, (.bin .eql (.s (sl 61)) (.c (.int .i64 1))), none⟩])
  (.cond (.s (sl 62))
  (.seq (.reg [⟨(some (sl 63)), none, (.ld true (.s (sl 2)) (some 4)), none⟩, ⟨(some (sl 64)), none, (.fld (.s (sl 8)) 2), none⟩, ⟨(some (sl 65)), none, (.ld true (.s (sl 64)) none), none⟩, ⟨(some (sl 66)), none, (.fld (.s (sl 8)) 3), none⟩, ⟨(some (sl 67)), none, (.ld true (.s (sl 66)) none), none⟩, ⟨(some (sl 68)), none, (.mv (.s (sl 9))), none⟩, ⟨(some (sl 69)), none, (.call true (.f 68) [(.s (sl 63)), (.s (sl 65)), (.s (sl 67)), (.s (sl 68))]), none⟩, ⟨(some (sl 10)), none, (.mv (.s (sl 69))), none⟩])
  (.seq (.reg [⟨(some (sl 70)), none, (.mv (.s (sl 10))), none⟩, ⟨(some (sl 71)), none, (.mv (.s (sl 70))), none⟩, ⟨(some (sl 72)), (some ((sl 71), true)), (.fld (.s (sl 8)) 1), none⟩, ⟨(some (sl 73)), (some ((sl 71), true)), (.ld true (.s (sl 72)) none), none⟩, ⟨(some (sl 74)), (some ((sl 71), true)), (.bin .eql (.s (sl 73)) (.c (.int .i64 0))), none⟩, ⟨(some (sl 75)), none, (.pick (.s (sl 71)) (.s (sl 74)) (.c (.bool false))), none⟩, ⟨(some (sl 76)), none, (.mv (.s (sl 75))), none⟩, ⟨(some (sl 77)), (some ((sl 76), true)), (.fld (.s (sl 8)) 4), none⟩, ⟨(some (sl 78)), (some ((sl 76), true)), (.ld true (.s (sl 77)) none), none⟩, ⟨(some (sl 79)), (some ((sl 76), true)), (.bin .eql (.s (sl 78)) (.c (.int .i64 0))), none⟩, ⟨(some (sl 80)), none, (.pick (.s (sl 76)) (.s (sl 79)) (.c (.bool false))), none⟩, ⟨(some (sl 81)), none, (.mv (.s (sl 80))), none⟩, ⟨(some (sl 82)), (some ((sl 81), true)), (.fld (.s (sl 8)) 5), none⟩, ⟨(some (sl 83)), (some ((sl 81), true)), (.ld true (.s (sl 82)) none), none⟩, ⟨(some (sl 84)), (some ((sl 81), true)), (.len false (.s (sl 83))), none⟩, ⟨(some (sl 85)), (some ((sl 81), true)), (.bin .eql (.s (sl 84)) (.c (.int .i64 0))), none⟩, ⟨(some (sl 86)), none, (.pick (.s (sl 81)) (.s (sl 85)) (.c (.bool false))), none⟩, ⟨(some (sl 4)), none, (.mv (.s (sl 86))), none⟩])
  .ret))
  .skip))
  (.seq (.reg [⟨(some (sl 87)), none, (.fld (.s (sl 8)) 1), none⟩, ⟨(some (sl 88)), none, (.ld true (.s (sl 87)) none), none⟩, ⟨(some (sl 89)), none, (.bin .geq (.s (sl 88)) (.c (.int .i64 0))), none⟩, ⟨(some (sl 90)), none, (.mv (.s (sl 89))), none⟩, ⟨(some (sl 91)), (some ((sl 90), true)), (.fld (.s (sl 8)) 1), none⟩, ⟨(some (sl 92)), (some ((sl 90), true)), (.ld true (.s (sl 91)) none), none⟩, ⟨(some (sl 93)), (some ((sl 90), true)), (.mv (.s (sl 9))), none⟩, ⟨(some (sl 94)), (some ((sl 90), true)), (.bin .lss (.s (sl 92)) (.s (sl 93))), none⟩, ⟨(some (sl 95)), none, (.pick (.s (sl 90)) (.s (sl 94)) (.c (.bool false))), none⟩, ⟨(some (sl 11)), none, (.mv (.s (sl 95))), none⟩])
  (.seq (.seq (.reg [⟨(some (sl 96)), none, (.fld (.s (sl 8)) 0), none⟩, ⟨(some (sl 97)), none, (.ld true (.s (sl 96)) none), none⟩, ⟨(some (sl 98)), none, (.bin .eql (.s (sl 97)) (.c (.int .i64 2))), none⟩])
  (.cond (.s (sl 98))
  (.seq (.reg [⟨(some (sl 99)), none, (.ld true (.s (sl 2)) (some 4)), none⟩, ⟨(some (sl 100)), none, (.fld (.s (sl 8)) 2), none⟩, ⟨(some (sl 101)), none, (.ld true (.s (sl 100)) none), none⟩, ⟨(some (sl 102)), none, (.fld (.s (sl 8)) 3), none⟩, ⟨(some (sl 103)), none, (.ld true (.s (sl 102)) none), none⟩, ⟨(some (sl 104)), none, (.mv (.s (sl 9))), none⟩, ⟨(some (sl 105)), none, (.call true (.f 68) [(.s (sl 99)), (.s (sl 101)), (.s (sl 103)), (.s (sl 104))]), none⟩, ⟨(some (sl 12)), none, (.mv (.s (sl 105))), none⟩])
  (.seq (.reg [⟨(some (sl 106)), none, (.ld true (.s (sl 2)) (some 4)), none⟩, ⟨(some (sl 107)), none, (.fld (.s (sl 8)) 4), none⟩, ⟨(some (sl 108)), none, (.ld true (.s (sl 107)) none), none⟩, ⟨(some (sl 109)), none, (.fld (.s (sl 8)) 5), none⟩, ⟨(some (sl 110)), none, (.ld true (.s (sl 109)) none), none⟩, ⟨(some (sl 111)), none, (.mv (.s (sl 9))), none⟩, ⟨(some (sl 112)), none, (.call true (.f 68) [(.s (sl 106)), (.s (sl 108)), (.s (sl 110)), (.s (sl 111))]), none⟩, ⟨(some (sl 13)), none, (.mv (.s (sl 112))), none⟩])
  (.seq (.reg [⟨(some (sl 113)), none, (.mv (.s (sl 11))), none⟩, ⟨(some (sl 114)), none, (.mv (.s (sl 113))), none⟩, ⟨(some (sl 115)), (some ((sl 114), true)), (.mv (.s (sl 12))), none⟩, ⟨(some (sl 116)), none, (.pick (.s (sl 114)) (.s (sl 115)) (.c (.bool false))), none⟩, ⟨(some (sl 117)), none, (.mv (.s (sl 116))), none⟩, ⟨(some (sl 118)), (some ((sl 117), true)), (.mv (.s (sl 13))), none⟩, ⟨(some (sl 119)), none, (.pick (.s (sl 117)) (.s (sl 118)) (.c (.bool false))), none⟩, ⟨(some (sl 4)), none, (.mv (.s (sl 119))), none⟩])
  .ret)))
  .skip))
  (.seq (.reg [⟨(some (sl 120)), none, (.fld (.s (sl 8)) 0), none⟩, ⟨(some (sl 121)), none, (.ld true (.s (sl 120)) none), none⟩, ⟨(some (sl 122)), none, (.bin .eql (.s (sl 121)) (.c (.int .i64 3))), none⟩, ⟨(some (sl 123)), none, (.mv (.s (sl 122))), none⟩, ⟨(some (sl 124)), (some ((sl 123), true)), (.mv (.s (sl 11))), none⟩, ⟨(some (sl 125)), none, (.pick (.s (sl 123)) (.s (sl 124)) (.c (.bool false))), none⟩, ⟨(some (sl 126)), none, (.mv (.s (sl 125))), none⟩, ⟨(some (sl 127)), (some ((sl 126), true)), (.fld (.s (sl 8)) 2), none⟩, ⟨(some (sl 128)), (some ((sl 126), true)), (.ld true (.s (sl 127)) none), none⟩, ⟨(some (sl 129)), (some ((sl 126), true)), (.bin .eql (.s (sl 128)) (.c (.int .i64 0))), none⟩, ⟨(some (sl 130)), none, (.pick (.s (sl 126)) (.s (sl 129)) (.c (.bool false))), none⟩, ⟨(some (sl 131)), none, (.mv (.s (sl 130))), none⟩, ⟨(some (sl 132)), (some ((sl 131), true)), (.fld (.s (sl 8)) 3), none⟩, ⟨(some (sl 133)), (some ((sl 131), true)), (.ld true (.s (sl 132)) none), none⟩, ⟨(some (sl 134)), (some ((sl 131), true)), (.len false (.s (sl 133))), none⟩, ⟨(some (sl 135)), (some ((sl 131), true)), (.bin .eql (.s (sl 134)) (.c (.int .i64 0))), none⟩, ⟨(some (sl 136)), none, (.pick (.s (sl 131)) (.s (sl 135)) (.c (.bool false))), none⟩, ⟨(some (sl 137)), none, (.mv (.s (sl 136))), none⟩, ⟨(some (sl 138)), (some ((sl 137), true)), (.fld (.s (sl 8)) 4), none⟩, ⟨(some (sl 139)), (some ((sl 137), true)), (.ld true (.s (sl 138)) none), none⟩, ⟨(some (sl 140)), (some ((sl 137), true)), (.bin .eql (.s (sl 139)) (.c (.int .i64 0))), none⟩, ⟨(some (sl 141)), none, (.pick (.s (sl 137)) (.s (sl 140)) (.c (.bool false))), none⟩, ⟨(some (sl 142)), none, (.mv (.s (sl 141))), none⟩, ⟨(some (sl 143)), (some ((sl 142), true)), (.fld (.s (sl 8)) 5), none⟩, ⟨(some (sl 144)), (some ((sl 142), true)), (.ld true (.s (sl 143)) none), none⟩, ⟨(some (sl 145)), (some ((sl 142), true)), (.len false (.s (sl 144))), none⟩, ⟨(some (sl 146)), (some ((sl 142), true)), (.bin .eql (.s (sl 145)) (.c (.int .i64 0))), none⟩, ⟨(some (sl 147)), none, (.pick (.s (sl 142)) (.s (sl 146)) (.c (.bool false))), none⟩, ⟨(some (sl 4)), none, (.mv (.s (sl 147))), none⟩])
  .ret))))))))))
def r_marlineref05_block : List ARes := [(.tmp (sl 4))]
theorem t_marlineref05_block : (Try.f49).body.bind (trCode Try.prog 8 (Try.f49).ntmps [] [] (drOk 8)) = some c_marlineref05_block := by kernel_rfl
theorem u_marlineref05_block : trRess Try.prog 8 (Try.f49).results.toList = some r_marlineref05_block := by kernel_rfl

/-- marline/marlineref05.Func -/
def c_marlineref05_Func : ACode :=
  (.seq (.reg [⟨(some (sl 1)), none, (.box true (.s (sl 0))), none⟩, ⟨(some (sl 2)), none, (.mv (.c (.bool false))), none⟩])
  (.seq (.reg [⟨(some (sl 6)), none, (.fld (.s (sl 1)) 0), none⟩, ⟨(some (sl 7)), none, (.ld true (.s (sl 6)) none), none⟩, ⟨(some (sl 8)), none, (.call true (.f 42) [(.s (sl 7))]), none⟩, ⟨(some (sl 3)), none, (.mv (.s (sl 8))), none⟩])
  (.seq (.seq (.reg [⟨(some (sl 9)), none, (.mv (.s (sl 3))), none⟩, ⟨(some (sl 10)), none, (.not (.s (sl 9))), none⟩, ⟨(some (sl 11)), none, (.mv (.s (sl 10))), none⟩, ⟨(some (sl 12)), (some ((sl 11), false)), (.fld (.s (sl 1)) 1), none⟩, ⟨(some (sl 13)), (some ((sl 11), false)), (.ld true (.s (sl 12)) none), none⟩, ⟨(some (sl 14)), (some ((sl 11), false)), (.bin .lss (.s (sl 13)) (.c (.int .i64 1))), none⟩, ⟨(some (sl 15)), none, (.pick (.s (sl 11)) (.c (.bool true)) (.s (sl 14))), none⟩, ⟨(some (sl 16)), none, (.mv (.s (sl 15))), none⟩, ⟨(some (sl 17)), (some ((sl 16), false)), (.fld (.s (sl 1)) 1), none⟩, ⟨(some (sl 18)), (some ((sl 16), false)), (.ld true (.s (sl 17)) none), none⟩, ⟨(some (sl 19)), (some ((sl 16), false)), (.bin .gtr (.s (sl 18)) (.c (.int .i64 3))), none⟩, ⟨(some (sl 20)), none, (.pick (.s (sl 16)) (.c (.bool true)) (.s (sl 19))), none⟩, ⟨(some (sl 21)), none, (.mv (.s (sl 20))), none⟩, ⟨(some (sl 22)), (some ((sl 21), false)), (.fld (.s (sl 1)) 2), none⟩, ⟨(some (sl 23)), (some ((sl 21), false)), (.ld true (.s (sl 22)) none), none⟩, ⟨(some (sl 24)), (some ((sl 21), false)), (.bin .lss (.s (sl 23)) (.c (.int .i64 0))), none⟩, ⟨(some (sl 25)), none, (.pick (.s (sl 21)) (.c (.bool true)) (.s (sl 24))), none⟩, ⟨(some (sl 26)), none, (.mv (.s (sl 25))), none⟩, ⟨(some (sl 27)), (some ((sl 26), false)), (.fld (.s (sl 1)) 2), none⟩, ⟨(some (sl 28)), (some ((sl 26), false)), (.ld true (.s (sl 27)) none), none⟩, ⟨(some (sl 29)), (some ((sl 26), false)), (.bin .gtr (.s (sl 28)) (.c (.int .i64 6))), none⟩, ⟨(some (sl 30)), none, (.pick (.s (sl 26)) (.c (.bool true)) (.s (sl 29))), none⟩, ⟨(some (sl 31)), none, (.mv (.s (sl 30))), none⟩, ⟨(some (sl 32)), (some ((sl 31), false)), (.fld (.s (sl 1)) 3), none⟩, ⟨(some (sl 33)), (some ((sl 31), false)), (.ld true (.s (sl 32)) none), none⟩, ⟨(some (sl 34)), (some ((sl 31), false)), (.len false (.s (sl 33))), none⟩, ⟨(some (sl 35)), (some ((sl 31), false)), (.bin .gtr (.s (sl 34)) (.c (.int .i64 16))), none⟩, ⟨(some (sl 36)), none, (.pick (.s (sl 31)) (.c (.bool true)) (.s (sl 35))), none⟩])
  (.cond (.s (sl 36))
  (.seq (.reg [⟨(some (sl 2)), none, (.mv (.c (.bool false))), none⟩])
  .ret)
  .skip))
  (.seq (.seq (.reg [⟨(some (sl 37)), none, (.fld (.s (sl 1)) 3), none⟩, ⟨(some (sl 38)), none, (.ld true (.s (sl 37)) none), none⟩, ⟨(some (sl 39)), none, (.len false (.s (sl 38))), none⟩, ⟨(some (sl 40)), none, (.bin .eql (.s (sl 39)) (.c (.int .i64 0))), none⟩])
  (.cond (.s (sl 40))
  (.seq (.reg [⟨(some (sl 41)), none, (.fld (.s (sl 1)) 1), none⟩, ⟨(some (sl 42)), none, (.ld true (.s (sl 41)) none), none⟩, ⟨(some (sl 43)), none, (.bin .neq (.s (sl 42)) (.c (.int .i64 1))), none⟩, ⟨(some (sl 2)), none, (.mv (.s (sl 43))), none⟩])
  .ret)
  .skip))
  (.seq (.seq (.reg [⟨(some (sl 44)), none, (.fld (.s (sl 1)) 3), (some 0)⟩, ⟨(some (sl 45)), none, (.ld true (.s (sl 44)) none), (some 1)⟩, ⟨(some (sl 46)), none, (.idx true (.s (sl 45)) (.c (.int .i64 0)) 8), (some 2)⟩, ⟨(some (sl 47)), none, (.fld (.s (sl 46)) 0), (some 3)⟩, ⟨(some (sl 48)), none, (.ld true (.s (sl 47)) none), (some 4)⟩, ⟨(some (sl 49)), none, (.fld (.s (sl 1)) 2), (some 5)⟩, ⟨(some (sl 50)), none, (.ld true (.s (sl 49)) none), (some 6)⟩, ⟨(some (sl 51)), none, (.bin .neq (.s (sl 48)) (.s (sl 50))), (some 7)⟩])
  (.cond (.s (sl 51))
  (.seq (.reg [⟨(some (sl 2)), none, (.mv (.c (.bool false))), none⟩])
  .ret)
  .skip))
  (.seq (.seq (.reg [⟨(some (sl 4)), none, (.mv (.c (.int .i64 0))), none⟩])
  (.block 0
  (.loop (.seq (.seq (.reg [⟨(some (sl 52)), none, (.mv (.s (sl 4))), none⟩, ⟨(some (sl 53)), none, (.fld (.s (sl 1)) 3), none⟩, ⟨(some (sl 54)), none, (.ld true (.s (sl 53)) none), none⟩, ⟨(some (sl 55)), none, (.len false (.s (sl 54))), none⟩, ⟨(some (sl 56)), none, (.bin .lss (.s (sl 52)) (.s (sl 55))), none⟩])
  (.cond (.s (sl 56))
  .skip
  (.exit 0)))
  (.seq (.block 1
  (.seq (.reg [⟨(some (sl 59)), none, (.ld true (.s (sl 1)) (some 4)), none⟩, ⟨(some (sl 60)), none, (.mv (.s (sl 4))), none⟩, ⟨(some (sl 61)), none, (.call true (.f 49) [(.s (sl 59)), (.s (sl 60))]), none⟩, ⟨(some (sl 5)), none, (.mv (.s (sl 61))), none⟩])
  (.seq (.reg [⟨(some (sl 62)), none, (.mv (.s (sl 5))), none⟩, ⟨(some (sl 63)), none, (.not (.s (sl 62))), none⟩])
  (.cond (.s (sl 63))
  (.seq (.reg [⟨(some (sl 2)), none, (.mv (.c (.bool false))), none⟩])
  .ret)
  .skip))))
  (.reg [⟨(some (sl 57)), none, (.mv (.s (sl 4))), none⟩, ⟨(some (sl 58)), none, (.bin .add (.s (sl 57)) (.c (.int .i64 1))), none⟩, ⟨(some (sl 4)), none, (.mv (.s (sl 58))), none⟩]))))))
  (.seq (.reg [⟨(some (sl 2)), none, (.mv (.c (.bool true))), none⟩])
  .ret)))))))
def r_marlineref05_Func : List ARes := [(.tmp (sl 2))]
theorem t_marlineref05_Func : (Try.f28).body.bind (trCode Try.prog 8 (Try.f28).ntmps [] [] (drOk 8)) = some c_marlineref05_Func := by kernel_rfl
theorem u_marlineref05_Func : trRess Try.prog 8 (Try.f28).results.toList = some r_marlineref05_Func := by kernel_rfl

/-- marline/marlineref05.Ints -/
def c_marlineref05_Ints : ACode :=
  (.seq (.reg [⟨(some (sl 4)), none, (.mv (.c (.bool false))), none⟩])
  (.seq (.seq (.reg [⟨(some (sl 6)), none, (.mv (.s (sl 0))), none⟩, ⟨(some (sl 7)), none, (.len false (.s (sl 6))), none⟩, ⟨(some (sl 8)), none, (.mv (.s (sl 1))), none⟩, ⟨(some (sl 9)), none, (.len false (.s (sl 8))), none⟩, ⟨(some (sl 10)), none, (.bin .neq (.s (sl 7)) (.s (sl 9))), none⟩])
  (.cond (.s (sl 10))
  (.seq (.reg [⟨(some (sl 4)), none, (.mv (.c (.bool false))), none⟩])
  .ret)
  .skip))
  (.seq (.seq (.reg [⟨(some (sl 5)), none, (.mv (.c (.int .i64 0))), none⟩])
  (.block 0
  (.loop (.seq (.seq (.reg [⟨(some (sl 11)), none, (.mv (.s (sl 5))), none⟩, ⟨(some (sl 12)), none, (.mv (.s (sl 0))), none⟩, ⟨(some (sl 13)), none, (.len false (.s (sl 12))), none⟩, ⟨(some (sl 14)), none, (.bin .lss (.s (sl 11)) (.s (sl 13))), none⟩])
  (.cond (.s (sl 14))
  .skip
  (.exit 0)))
  (.seq (.block 1
  (.seq (.reg [⟨(some (sl 17)), none, (.mv (.s (sl 0))), (some 0)⟩, ⟨(some (sl 18)), none, (.mv (.s (sl 5))), (some 1)⟩, ⟨(some (sl 19)), none, (.idx true (.s (sl 17)) (.s (sl 18)) 1), (some 2)⟩, ⟨(some (sl 20)), none, (.ld true (.s (sl 19)) none), (some 3)⟩, ⟨(some (sl 21)), none, (.mv (.s (sl 1))), (some 4)⟩, ⟨(some (sl 22)), none, (.mv (.s (sl 5))), (some 5)⟩, ⟨(some (sl 23)), none, (.idx true (.s (sl 21)) (.s (sl 22)) 1), (some 6)⟩, ⟨(some (sl 24)), none, (.ld true (.s (sl 23)) none), (some 7)⟩, ⟨(some (sl 25)), none, (.bin .neq (.s (sl 20)) (.s (sl 24))), (some 8)⟩])
  (.cond (.s (sl 25))
  (.seq (.reg [⟨(some (sl 4)), none, (.mv (.c (.bool false))), none⟩])
  .ret)
  .skip)))
  (.reg [⟨(some (sl 15)), none, (.mv (.s (sl 5))), none⟩, ⟨(some (sl 16)), none, (.bin .add (.s (sl 15)) (.c (.int .i64 1))), none⟩, ⟨(some (sl 5)), none, (.mv (.s (sl 16))), none⟩]))))))
  (.seq (.reg [⟨(some (sl 4)), none, (.mv (.c (.bool true))), none⟩])
  .ret))))
def r_marlineref05_Ints : List ARes := [(.tmp (sl 4))]
theorem t_marlineref05_Ints : (Try.f15).body.bind (trCode Try.prog 8 (Try.f15).ntmps [] [] (drOk 8)) = some c_marlineref05_Ints := by kernel_rfl
theorem u_marlineref05_Ints : trRess Try.prog 8 (Try.f15).results.toList = some r_marlineref05_Ints := by kernel_rfl

/-- marline/marlineref05.SameInst -/
def c_marlineref05_SameInst : ACode :=
  (.seq (.reg [⟨(some (sl 2)), none, (.box true (.s (sl 0))), none⟩, ⟨(some (sl 3)), none, (.box true (.s (sl 1))), none⟩, ⟨(some (sl 4)), none, (.mv (.c (.bool false))), none⟩])
  (.seq (.reg [⟨(some (sl 6)), none, (.fld (.s (sl 2)) 5), none⟩, ⟨(some (sl 7)), none, (.ld true (.s (sl 6)) none), none⟩, ⟨(some (sl 8)), none, (.fld (.s (sl 3)) 5), none⟩, ⟨(some (sl 9)), none, (.ld true (.s (sl 8)) none), none⟩, ⟨(some (sl 10)), none, (.call true (.f 15) [(.s (sl 7)), (.s (sl 9))]), none⟩, ⟨(some (sl 5)), none, (.mv (.s (sl 10))), none⟩])
  (.seq (.reg [⟨(some (sl 11)), none, (.mv (.s (sl 5))), none⟩, ⟨(some (sl 12)), none, (.mv (.s (sl 11))), none⟩, ⟨(some (sl 13)), (some ((sl 12), true)), (.fld (.s (sl 2)) 0), none⟩, ⟨(some (sl 14)), (some ((sl 12), true)), (.ld true (.s (sl 13)) none), none⟩, ⟨(some (sl 15)), (some ((sl 12), true)), (.fld (.s (sl 3)) 0), none⟩, ⟨(some (sl 16)), (some ((sl 12), true)), (.ld true (.s (sl 15)) none), none⟩, ⟨(some (sl 17)), (some ((sl 12), true)), (.bin .eql (.s (sl 14)) (.s (sl 16))), none⟩, ⟨(some (sl 18)), none, (.pick (.s (sl 12)) (.s (sl 17)) (.c (.bool false))), none⟩, ⟨(some (sl 19)), none, (.mv (.s (sl 18))), none⟩, ⟨(some (sl 20)), (some ((sl 19), true)), (.fld (.s (sl 2)) 1), none⟩, ⟨(some (sl 21)), (some ((sl 19), true)), (.ld true (.s (sl 20)) none), none⟩, ⟨(some (sl 22)), (some ((sl 19), true)), (.fld (.s (sl 3)) 1), none⟩, ⟨(some (sl 23)), (some ((sl 19), true)), (.ld true (.s (sl 22)) none), none⟩, ⟨(some (sl 24)), (some ((sl 19), true)), (.bin .eql (.s (sl 21)) (.s (sl 23))), none⟩, ⟨(some (sl 25)), none, (.pick (.s (sl 19)) (.s (sl 24)) (.c (.bool false))), none⟩, ⟨(some (sl 26)), none, (.mv (.s (sl 25))), none⟩, ⟨(some (sl 27)), (some ((sl 26), true)), (.fld (.s (sl 2)) 2), none⟩, ⟨(some (sl 28)), (some ((sl 26), true)), (.ld true (.s (sl 27)) none), none⟩, ⟨(some (sl 29)), (some ((sl 26), true)), (.fld (.s (sl 3)) 2), none⟩, ⟨(some (sl 30)), (some ((sl 26), true)), (.ld true (.s (sl 29)) none), none⟩, ⟨(some (sl 31)), (some ((sl 26), true)), (.bin .eql (.s (sl 28)) (.s (sl 30))), none⟩, ⟨(some (sl 32)), none, (.pick (.s (sl 26)) (.s (sl 31)) (.c (.bool false))), none⟩, ⟨(some (sl 33)), none, (.mv (.s (sl 32))), none⟩, ⟨(some (sl 34)), (some ((sl 33), true)), (.fld (.s (sl 2)) 3), none⟩, ⟨(some (sl 35)), (some ((sl 33), true)), (.ld true (.s (sl 34)) none), none⟩, ⟨(some (sl 36)), (some ((sl 33), true)), (.fld (.s (sl 3)) 3), none⟩, ⟨(some (sl 37)), (some ((sl 33), true)), (.ld true (.s (sl 36)) none), none⟩, ⟨(some (sl 38)), (some ((sl 33), true)), (.bin .eql (.s (sl 35)) (.s (sl 37))), none⟩, ⟨(some (sl 39)), none, (.pick (.s (sl 33)) (.s (sl 38)) (.c (.bool false))), none⟩, ⟨(some (sl 40)), none, (.mv (.s (sl 39))), none⟩, ⟨(some (sl 41)), (some ((sl 40), true)), (.fld (.s (sl 2)) 4), none⟩, ⟨(some (sl 42)), (some ((sl 40), true)), (.ld true (.s (sl 41)) none), none⟩, ⟨(some (sl 43)), (some ((sl 40), true)), (.fld (.s (sl 3)) 4), none⟩, ⟨(some (sl 44)), (some ((sl 40), true)), (.ld true (.s (sl 43)) none), none⟩, ⟨(some (sl 45)), (some ((sl 40), true)), (.bin .eql (.s (sl 42)) (.s (sl 44))), none⟩, ⟨(some (sl 46)), none, (.pick (.s (sl 40)) (.s (sl 45)) (.c (.bool false))), none⟩, ⟨(some (sl 4)), none, (.mv (.s (sl 46))), none⟩])
  .ret)))
def r_marlineref05_SameInst : List ARes := [(.tmp (sl 4))]
theorem t_marlineref05_SameInst : (Try.f62).body.bind (trCode Try.prog 8 (Try.f62).ntmps [] [] (drOk 8)) = some c_marlineref05_SameInst := by kernel_rfl
theorem u_marlineref05_SameInst : trRess Try.prog 8 (Try.f62).results.toList = some r_marlineref05_SameInst := by kernel_rfl

/-- marline/marlineref05.SameBlock -/
def c_marlineref05_SameBlock : ACode :=
  (.seq (.reg [⟨(some (sl 2)), none, (.box true (.s (sl 0))), none⟩, ⟨(some (sl 3)), none, (.box true (.s (sl 1))), none⟩, ⟨(some (sl 4)), none, (.mv (.c (.bool false))), none⟩])
  (.seq (.reg [⟨(some (sl 8)), none, (.fld (.s (sl 2)) 2), none⟩, ⟨(some (sl 9)), none, (.fld (.s (sl 8)) 3), none⟩, ⟨(some (sl 10)), none, (.ld true (.s (sl 9)) none), none⟩, ⟨(some (sl 11)), none, (.fld (.s (sl 3)) 2), none⟩, ⟨(some (sl 12)), none, (.fld (.s (sl 11)) 3), none⟩, ⟨(some (sl 13)), none, (.ld true (.s (sl 12)) none), none⟩, ⟨(some (sl 14)), none, (.call true (.f 15) [(.s (sl 10)), (.s (sl 13))]), none⟩, ⟨(some (sl 15)), none, (.mv (.s (sl 14))), none⟩, ⟨(some (sl 16)), (some ((sl 15), true)), (.fld (.s (sl 2)) 2), none⟩, ⟨(some (sl 17)), (some ((sl 15), true)), (.fld (.s (sl 16)) 5), none⟩, ⟨(some (sl 18)), (some ((sl 15), true)), (.ld true (.s (sl 17)) none), none⟩, ⟨(some (sl 19)), (some ((sl 15), true)), (.fld (.s (sl 3)) 2), none⟩, ⟨(some (sl 20)), (some ((sl 15), true)), (.fld (.s (sl 19)) 5), none⟩, ⟨(some (sl 21)), (some ((sl 15), true)), (.ld true (.s (sl 20)) none), none⟩, ⟨(some (sl 22)), (some ((sl 15), true)), (.call true (.f 15) [(.s (sl 18)), (.s (sl 21))]), none⟩, ⟨(some (sl 23)), none, (.pick (.s (sl 15)) (.s (sl 22)) (.c (.bool false))), none⟩, ⟨(some (sl 5)), none, (.mv (.s (sl 23))), none⟩])
  (.seq (.seq (.reg [⟨(some (sl 24)), none, (.mv (.s (sl 5))), none⟩, ⟨(some (sl 25)), none, (.not (.s (sl 24))), none⟩, ⟨(some (sl 26)), none, (.mv (.s (sl 25))), none⟩, ⟨(some (sl 27)), (some ((sl 26), false)), (.fld (.s (sl 2)) 0), none⟩, ⟨(some (sl 28)), (some ((sl 26), false)), (.ld true (.s (sl 27)) none), none⟩, ⟨(some (sl 29)), (some ((sl 26), false)), (.fld (.s (sl 3)) 0), none⟩, ⟨(some (sl 30)), (some ((sl 26), false)), (.ld true (.s (sl 29)) none), none⟩, ⟨(some (sl 31)), (some ((sl 26), false)), (.bin .neq (.s (sl 28)) (.s (sl 30))), none⟩, ⟨(some (sl 32)), none, (.pick (.s (sl 26)) (.c (.bool true)) (.s (sl 31))), none⟩, ⟨(some (sl 33)), none, (.mv (.s (sl 32))), none⟩, ⟨(some (sl 34)), (some ((sl 33), false)), (.fld (.s (sl 2)) 1), none⟩, ⟨(some (sl 35)), (some ((sl 33), false)), (.ld true (.s (sl 34)) none), none⟩, ⟨(some (sl 36)), (some ((sl 33), false)), (.len false (.s (sl 35))), none⟩, ⟨(some (sl 37)), (some ((sl 33), false)), (.fld (.s (sl 3)) 1), none⟩, ⟨(some (sl 38)), (some ((sl 33), false)), (.ld true (.s (sl 37)) none), none⟩, ⟨(some (sl 39)), (some ((sl 33), false)), (.len false (.s (sl 38))), none⟩, ⟨(some (sl 40)), (some ((sl 33), false)), (.bin .neq (.s (sl 36)) (.s (sl 39))), none⟩, ⟨(some (sl 41)), none, (.pick (.s (sl 33)) (.c (.bool true)) (.s (sl 40))), none⟩, ⟨(some (sl 42)), none, (.mv (.s (sl 41))), none⟩, ⟨(some (sl 43)), (some ((sl 42), false)), (.fld (.s (sl 2)) 2), none⟩, ⟨(some (sl 44)), (some ((sl 42), false)), (.fld (.s (sl 43)) 0), none⟩, ⟨(some (sl 45)), (some ((sl 42), false)), (.ld true (.s (sl 44)) none), none⟩, ⟨(some (sl 46)), (some ((sl 42), false)), (.fld (.s (sl 3)) 2), none⟩, ⟨(some (sl 47)), (some ((sl 42), false)), (.fld (.s (sl 46)) 0), none⟩, ⟨(some (sl 48)), (some ((sl 42), false)), (.ld true (.s (sl 47)) none), none⟩, ⟨(some (sl 49)), (some ((sl 42), false)), (.bin .neq (.s (sl 45)) (.s (sl 48))), none⟩, ⟨(some (sl 50)), none, (.pick (.s (sl 42)) (.c (.bool true)) (.s (sl 49))), none⟩, ⟨(some (sl 51)), none, (.mv (.s (sl 50))), none⟩, ⟨(some (sl 52)), (some ((sl 51), false)), (.fld (.s (sl 2)) 2), none⟩, ⟨(some (sl 53)), (some ((sl 51), false)), (.fld (.s (sl 52)) 1), none⟩, ⟨(some (sl 54)), (some ((sl 51), false)), (.ld true (.s (sl 53)) none), none⟩, ⟨(some (sl 55)), (some ((sl 51), false)), (.fld (.s (sl 3)) 2), none⟩, ⟨(some (sl 56)), (some ((sl 51), false)), (.fld (.s (sl 55)) 1), none⟩, ⟨(some (sl 57)), (some ((sl 51), false)), (.ld true (.s (sl 56)) none), none⟩, ⟨(some (sl 58)), (some ((sl 51), false)), (.bin .neq (.s (sl 54)) (.s (sl 57))), none⟩, ⟨(some (sl 59)), none, (.pick (.s (sl 51)) (.c (.bool true)) (.s (sl 58))), none⟩, ⟨(some (sl 60)), none, (.mv (.s (sl 59))), none⟩, ⟨(some (sl 61)), (some ((sl 60), false)), (.fld (.s (sl 2)) 2), none⟩, ⟨(some (sl 62)), (some ((sl 60), false)), (.fld (.s (sl 61)) 2), none⟩, ⟨(some (sl 63)), (some ((sl 60), false)), (.ld true (.s (sl 62)) none), none⟩, ⟨(some (sl 64)), (some ((sl 60), false)), (.fld (.s (sl 3)) 2), none⟩, ⟨(some (sl 65)), (some ((sl 60), false)), (.fld (.s (sl 64)) 2), none⟩, ⟨(some (sl 66)), (some ((sl 60), false)), (.ld true (.s (sl 65)) none), none⟩, ⟨(some (sl 67)), (some ((sl 60), false)), (.bin .neq (.s (sl 63)) (.s (sl 66))), none⟩, ⟨(some (sl 68)), none, (.pick (.s (sl 60)) (.c (.bool true)) (.s (sl 67))), none⟩, ⟨(some (sl 69)), none, (.mv (.s (sl 68))), none⟩, ⟨(some (sl 70)), (some ((sl 69), false)), (.fld (.s (sl 2)) 2), none⟩, ⟨(some (sl 71)), (some ((sl 69), false)), (.fld (.s (sl 70)) 4), none⟩, ⟨(some (sl 72)), (some ((sl 69), false)), (.ld true (.s (sl 71)) none), none⟩, ⟨(some (sl 73)), (some ((sl 69), false)), (.fld (.s (sl 3)) 2), none⟩, ⟨(some (sl 74)), (some ((sl 69), false)), (.fld (.s (sl 73)) 4), none⟩, ⟨(some (sl 75)), (some ((sl 69), false)), (.ld true (.s (sl 74)) none), none⟩, ⟨(some (sl 76)), (some ((sl 69), false)), (.bin .neq (.s (sl 72)) (.s (sl 75))), none⟩, ⟨(some (sl 77)), none, (.pick (.s (sl 69)) (.c (.bool true)) (.s (sl 76))), none⟩])
  (.cond (.s (sl 77))
  (.seq (.reg [⟨(some (sl 4)), none, (.mv (.c (.bool false))), none⟩])
  .ret)
  .skip))
  (.seq (.seq (.reg [⟨(some (sl 6)), none, (.mv (.c (.int .i64 0))), none⟩])
  (.block 0
  (.loop (.seq (.seq (.reg [⟨(some (sl 78)), none, (.mv (.s (sl 6))), none⟩, ⟨(some (sl 79)), none, (.fld (.s (sl 2)) 1), none⟩, ⟨(some (sl 80)), none, (.ld true (.s (sl 79)) none), none⟩, ⟨(some (sl 81)), none, (.len false (.s (sl 80))), none⟩, ⟨(some (sl 82)), none, (.bin .lss (.s (sl 78)) (.s (sl 81))), none⟩])
  (.cond (.s (sl 82))
  .skip
  (.exit 0)))
  (.seq (.block 1
  (.seq (.reg [⟨(some (sl 85)), none, (.fld (.s (sl 2)) 1), (some 0)⟩, ⟨(some (sl 86)), none, (.ld true (.s (sl 85)) none), (some 1)⟩, ⟨(some (sl 87)), none, (.mv (.s (sl 6))), (some 2)⟩, ⟨(some (sl 88)), none, (.idx true (.s (sl 86)) (.s (sl 87)) 6), (some 3)⟩, ⟨(some (sl 89)), none, (.ld true (.s (sl 88)) (some 6)), (some 4)⟩, ⟨(some (sl 90)), none, (.fld (.s (sl 3)) 1), (some 5)⟩, ⟨(some (sl 91)), none, (.ld true (.s (sl 90)) none), (some 6)⟩, ⟨(some (sl 92)), none, (.mv (.s (sl 6))), (some 7)⟩, ⟨(some (sl 93)), none, (.idx true (.s (sl 91)) (.s (sl 92)) 6), (some 8)⟩, ⟨(some (sl 94)), none, (.ld true (.s (sl 93)) (some 6)), (some 9)⟩, ⟨(some (sl 95)), none, (.call true (.f 62) [(.s (sl 89)), (.s (sl 94))]), (some 10)⟩, ⟨(some (sl 7)), none, (.mv (.s (sl 95))), (some 11)⟩])
  (.seq (.reg [⟨(some (sl 96)), none, (.mv (.s (sl 7))), none⟩, ⟨(some (sl 97)), none, (.not (.s (sl 96))), none⟩])
  (.cond (.s (sl 97))
  (.seq (.reg [⟨(some (sl 4)), none, (.mv (.c (.bool false))), none⟩])
  .ret)
  .skip))))
  (.reg [⟨(some (sl 83)), none, (.mv (.s (sl 6))), none⟩, ⟨(some (sl 84)), none, (.bin .add (.s (sl 83)) (.c (.int .i64 1))), none⟩, ⟨(some (sl 6)), none, (.mv (.s (sl 84))), none⟩]))))))
  (.seq (.reg [⟨(some (sl 4)), none, (.mv (.c (.bool true))), none⟩])
  .ret)))))
def r_marlineref05_SameBlock : List ARes := [(.tmp (sl 4))]
theorem t_marlineref05_SameBlock : (Try.f35).body.bind (trCode Try.prog 8 (Try.f35).ntmps [] [] (drOk 8)) = some c_marlineref05_SameBlock := by kernel_rfl
theorem u_marlineref05_SameBlock : trRess Try.prog 8 (Try.f35).results.toList = some r_marlineref05_SameBlock := by kernel_rfl

end Go.Proofs.Ytghlfjpmpalpdaa
