/- Some texts of one kind, one behind the other. -/
import Derived.Test.YtpfokkfomgmibaaKE
/- The bodies of some functions, as the evaluator has them (printed by program), and that they are the program's own. -/
namespace Go.Proofs.Ytpfokkfomgmibaa
open Go.RowKit

/-- marline/marlineref05.name -/
def c_marlineref05_name : ACode :=
  (.seq (.reg [⟨(some (sl 2)), none, (.mv (.c (.bool false))), none⟩])
  (.seq (.reg [⟨(some (sl 3)), none, (.mv (.s (sl 0))), none⟩, ⟨(some (sl 4)), none, (.len true (.s (sl 3))), none⟩, ⟨(some (sl 5)), none, (.bin .geq (.s (sl 4)) (.c (.int .i64 1))), none⟩, ⟨(some (sl 6)), none, (.mv (.s (sl 5))), none⟩, ⟨(some (sl 7)), (some ((sl 6), true)), (.mv (.s (sl 0))), none⟩, ⟨(some (sl 8)), (some ((sl 6), true)), (.len true (.s (sl 7))), none⟩, ⟨(some (sl 9)), (some ((sl 6), true)), (.bin .leq (.s (sl 8)) (.c (.int .i64 16))), none⟩, ⟨(some (sl 10)), none, (.pick (.s (sl 6)) (.s (sl 9)) (.c (.bool false))), none⟩, ⟨(some (sl 2)), none, (.mv (.s (sl 10))), none⟩])
  .ret))
def r_marlineref05_name : List ARes := [(.tmp (sl 2))]
theorem t_marlineref05_name : (Try.f49).body.bind (trCode Try.prog 8 (Try.f49).ntmps [] [] (drOk 8)) = some c_marlineref05_name := by kernel_rfl
theorem u_marlineref05_name : trRess Try.prog 8 (Try.f49).results.toList = some r_marlineref05_name := by kernel_rfl

/-- marline/marlineref05.Uses -/
def c_marlineref05_Uses : ACode :=
  (.seq (.reg [⟨(some (sl 1)), none, (.box true (.s (sl 0))), none⟩, ⟨(some (sl 2)), none, (.mv (.c (.slice none 0 0))), none⟩])
  (.seq (.seq (.reg [⟨(some (sl 3)), none, (.fld (.s (sl 1)) 0), none⟩, ⟨(some (sl 4)), none, (.ld true (.s (sl 3)) none), none⟩, ⟨(some (sl 5)), none, (.bin .geq (.s (sl 4)) (.c (.int .i64 2))), none⟩, ⟨(some (sl 6)), none, (.mv (.s (sl 5))), none⟩, ⟨(some (sl 7)), (some ((sl 6), true)), (.fld (.s (sl 1)) 0), none⟩, ⟨(some (sl 8)), (some ((sl 6), true)), (.ld true (.s (sl 7)) none), none⟩, ⟨(some (sl 9)), (some ((sl 6), true)), (.bin .leq (.s (sl 8)) (.c (.int .i64 11))), none⟩, ⟨(some (sl 10)), none, (.pick (.s (sl 6)) (.s (sl 9)) (.c (.bool false))), none⟩])
  (.cond (.s (sl 10))
  (.seq (.reg [⟨(some (sl 11)), none, (.fld (.s (sl 1)) 1), none⟩, ⟨(some (sl 12)), none, (.ld true (.s (sl 11)) none), none⟩, ⟨(some (sl 13)), none, (.fld (.s (sl 1)) 2), none⟩, ⟨(some (sl 14)), none, (.ld true (.s (sl 13)) none), none⟩, ⟨(some (sl 15)), none, (.mksl 1 2 [(.int .i64 0), (.int .i64 0)] [(0, 1, (.s (sl 12))), (1, 1, (.s (sl 14)))]), none⟩, ⟨(some (sl 2)), none, (.mv (.s (sl 15))), none⟩])
  .ret)
  .skip))
  (.seq (.seq (.reg [⟨(some (sl 16)), none, (.fld (.s (sl 1)) 0), none⟩, ⟨(some (sl 17)), none, (.ld true (.s (sl 16)) none), none⟩, ⟨(some (sl 18)), none, (.bin .eql (.s (sl 17)) (.c (.int .i64 13))), none⟩, ⟨(some (sl 19)), none, (.mv (.s (sl 18))), none⟩, ⟨(some (sl 20)), (some ((sl 19), false)), (.fld (.s (sl 1)) 0), none⟩, ⟨(some (sl 21)), (some ((sl 19), false)), (.ld true (.s (sl 20)) none), none⟩, ⟨(some (sl 22)), (some ((sl 19), false)), (.bin .eql (.s (sl 21)) (.c (.int .i64 16))), none⟩, ⟨(some (sl 23)), none, (.pick (.s (sl 19)) (.c (.bool true)) (.s (sl 22))), none⟩])
  (.cond (.s (sl 23))
  (.seq (.reg [⟨(some (sl 24)), none, (.fld (.s (sl 1)) 1), none⟩, ⟨(some (sl 25)), none, (.ld true (.s (sl 24)) none), none⟩, ⟨(some (sl 26)), none, (.mksl 1 1 [(.int .i64 0)] [(0, 1, (.s (sl 25)))]), none⟩, ⟨(some (sl 2)), none, (.mv (.s (sl 26))), none⟩])
  .ret)
  .skip))
  (.seq (.seq (.reg [⟨(some (sl 27)), none, (.fld (.s (sl 1)) 0), none⟩, ⟨(some (sl 28)), none, (.ld true (.s (sl 27)) none), none⟩, ⟨(some (sl 29)), none, (.bin .eql (.s (sl 28)) (.c (.int .i64 14))), none⟩])
  (.cond (.s (sl 29))
  (.seq (.reg [⟨(some (sl 30)), none, (.nrow 3 1), none⟩, ⟨(some (sl 31)), none, (.fld (.s (sl 1)) 5), none⟩, ⟨(some (sl 32)), none, (.ld true (.s (sl 31)) none), none⟩, ⟨(some (sl 33)), none, (.app 3 1 8 (.s (sl 30)) (.s (sl 32))), none⟩, ⟨(some (sl 2)), none, (.mv (.s (sl 33))), none⟩])
  .ret)
  .skip))
  (.seq (.reg [⟨(some (sl 2)), none, (.mv (.c (.slice none 0 0))), none⟩])
  .ret)))))
def r_marlineref05_Uses : List ARes := [(.tmp (sl 2))]
theorem t_marlineref05_Uses : (Try.f68).body.bind (trCode Try.prog 8 (Try.f68).ntmps [2, 33] [] (drOk 8)) = some c_marlineref05_Uses := by kernel_rfl
theorem u_marlineref05_Uses : trRess Try.prog 8 (Try.f68).results.toList = some r_marlineref05_Uses := by kernel_rfl

/-- marline/marlineref05.below -/
def c_marlineref05_below : ACode :=
  (.seq (.reg [⟨(some (sl 4)), none, (.mv (.c (.bool false))), none⟩])
  (.seq (.seq (.reg [⟨(some (sl 5)), none, (.mv (.c (.int .i64 0))), none⟩])
  (.block 0
  (.loop (.seq (.seq (.reg [⟨(some (sl 6)), none, (.mv (.s (sl 5))), none⟩, ⟨(some (sl 7)), none, (.mv (.s (sl 0))), none⟩, ⟨(some (sl 8)), none, (.len false (.s (sl 7))), none⟩, ⟨(some (sl 9)), none, (.bin .lss (.s (sl 6)) (.s (sl 8))), none⟩])
  (.cond (.s (sl 9))
  .skip
  (.exit 0)))
  (.seq (.block 1
  (.seq (.reg [⟨(some (sl 12)), none, (.mv (.s (sl 0))), none⟩, ⟨(some (sl 13)), none, (.mv (.s (sl 5))), none⟩, ⟨(some (sl 14)), none, (.idx true (.s (sl 12)) (.s (sl 13)) 1), none⟩, ⟨(some (sl 15)), none, (.ld true (.s (sl 14)) none), none⟩, ⟨(some (sl 16)), none, (.bin .lss (.s (sl 15)) (.c (.int .i64 0))), none⟩, ⟨(some (sl 17)), none, (.mv (.s (sl 16))), none⟩, ⟨(some (sl 18)), (some ((sl 17), false)), (.mv (.s (sl 0))), none⟩, ⟨(some (sl 19)), (some ((sl 17), false)), (.mv (.s (sl 5))), none⟩, ⟨(some (sl 20)), (some ((sl 17), false)), (.idx true (.s (sl 18)) (.s (sl 19)) 1), none⟩, ⟨(some (sl 21)), (some ((sl 17), false)), (.ld true (.s (sl 20)) none), none⟩, ⟨(some (sl 22)), (some ((sl 17), false)), (.mv (.s (sl 1))), none⟩, ⟨(some (sl 23)), (some ((sl 17), false)), (.bin .geq (.s (sl 21)) (.s (sl 22))), none⟩, ⟨(some (sl 24)), none, (.pick (.s (sl 17)) (.c (.bool true)) (.s (sl 23))), none⟩])
  (.cond (.s (sl 24))
  (.seq (.reg [⟨(some (sl 4)), none, (.mv (.c (.bool false))), none⟩])
  .ret)
  .skip)))
  (.reg [⟨(some (sl 10)), none, (.mv (.s (sl 5))), none⟩, ⟨(some (sl 11)), none, (.bin .add (.s (sl 10)) (.c (.int .i64 1))), none⟩, ⟨(some (sl 5)), none, (.mv (.s (sl 11))), none⟩]))))))
  (.seq (.reg [⟨(some (sl 4)), none, (.mv (.c (.bool true))), none⟩])
  .ret)))
def r_marlineref05_below : List ARes := [(.tmp (sl 4))]
theorem t_marlineref05_below : (Try.f67).body.bind (trCode Try.prog 8 (Try.f67).ntmps [] [] (drOk 8)) = some c_marlineref05_below := by kernel_rfl
theorem u_marlineref05_below : trRess Try.prog 8 (Try.f67).results.toList = some r_marlineref05_below := by kernel_rfl

/-- marline/marlineref05.Named -/
def c_marlineref05_Named : ACode :=
  (.seq (.reg [⟨(some (sl 1)), none, (.box true (.s (sl 0))), none⟩, ⟨(some (sl 2)), none, (.mv (.c (.bool false))), none⟩])
  (.seq (.reg [⟨(some (sl 3)), none, (.fld (.s (sl 1)) 0), none⟩, ⟨(some (sl 4)), none, (.ld true (.s (sl 3)) none), none⟩, ⟨(some (sl 5)), none, (.bin .eql (.s (sl 4)) (.c (.int .i64 12))), none⟩, ⟨(some (sl 6)), none, (.mv (.s (sl 5))), none⟩, ⟨(some (sl 7)), (some ((sl 6), false)), (.fld (.s (sl 1)) 0), none⟩, ⟨(some (sl 8)), (some ((sl 6), false)), (.ld true (.s (sl 7)) none), none⟩, ⟨(some (sl 9)), (some ((sl 6), false)), (.bin .eql (.s (sl 8)) (.c (.int .i64 13))), none⟩, ⟨(some (sl 10)), none, (.pick (.s (sl 6)) (.c (.bool true)) (.s (sl 9))), none⟩, ⟨(some (sl 11)), none, (.mv (.s (sl 10))), none⟩, ⟨(some (sl 12)), (some ((sl 11), false)), (.fld (.s (sl 1)) 0), none⟩, ⟨(some (sl 13)), (some ((sl 11), false)), (.ld true (.s (sl 12)) none), none⟩, ⟨(some (sl 14)), (some ((sl 11), false)), (.bin .eql (.s (sl 13)) (.c (.int .i64 14))), none⟩, ⟨(some (sl 15)), none, (.pick (.s (sl 11)) (.c (.bool true)) (.s (sl 14))), none⟩, ⟨(some (sl 2)), none, (.mv (.s (sl 15))), none⟩])
  .ret))
def r_marlineref05_Named : List ARes := [(.tmp (sl 2))]
theorem t_marlineref05_Named : (Try.f51).body.bind (trCode Try.prog 8 (Try.f51).ntmps [] [] (drOk 8)) = some c_marlineref05_Named := by kernel_rfl
theorem u_marlineref05_Named : trRess Try.prog 8 (Try.f51).results.toList = some r_marlineref05_Named := by kernel_rfl

/-- marline/marlineref05.Inst -/
def c_marlineref05_Inst : ACode :=
  (.seq (.reg [⟨(some (sl 2)), none, (.box true (.s (sl 0))), none⟩, ⟨(some (sl 4)), none, (.mv (.c (.bool false))), none⟩])
  (.seq (.reg [⟨(some (sl 9)), none, (.ld true (.s (sl 2)) (some 6)), none⟩, ⟨(some (sl 10)), none, (.call true (.f 68) [(.s (sl 9))]), none⟩, ⟨(some (sl 11)), none, (.mv (.s (sl 1))), none⟩, ⟨(some (sl 12)), none, (.call true (.f 67) [(.s (sl 10)), (.s (sl 11))]), none⟩, ⟨(some (sl 5)), none, (.mv (.s (sl 12))), none⟩])
  (.seq (.seq (.reg [⟨(some (sl 13)), none, (.fld (.s (sl 2)) 0), none⟩, ⟨(some (sl 14)), none, (.ld true (.s (sl 13)) none), none⟩, ⟨(some (sl 15)), none, (.bin .lss (.s (sl 14)) (.c (.int .i64 1))), none⟩, ⟨(some (sl 16)), none, (.mv (.s (sl 15))), none⟩, ⟨(some (sl 17)), (some ((sl 16), false)), (.fld (.s (sl 2)) 0), none⟩, ⟨(some (sl 18)), (some ((sl 16), false)), (.ld true (.s (sl 17)) none), none⟩, ⟨(some (sl 19)), (some ((sl 16), false)), (.bin .gtr (.s (sl 18)) (.c (.int .i64 16))), none⟩, ⟨(some (sl 20)), none, (.pick (.s (sl 16)) (.c (.bool true)) (.s (sl 19))), none⟩, ⟨(some (sl 21)), none, (.mv (.s (sl 20))), none⟩, ⟨(some (sl 22)), (some ((sl 21), false)), (.mv (.s (sl 5))), none⟩, ⟨(some (sl 23)), (some ((sl 21), false)), (.not (.s (sl 22))), none⟩, ⟨(some (sl 24)), none, (.pick (.s (sl 21)) (.c (.bool true)) (.s (sl 23))), none⟩, ⟨(some (sl 25)), none, (.mv (.s (sl 24))), none⟩, ⟨(some (sl 26)), (some ((sl 25), false)), (.fld (.s (sl 2)) 5), none⟩, ⟨(some (sl 27)), (some ((sl 25), false)), (.ld true (.s (sl 26)) none), none⟩, ⟨(some (sl 28)), (some ((sl 25), false)), (.len false (.s (sl 27))), none⟩, ⟨(some (sl 29)), (some ((sl 25), false)), (.bin .gtr (.s (sl 28)) (.c (.int .i64 6))), none⟩, ⟨(some (sl 30)), none, (.pick (.s (sl 25)) (.c (.bool true)) (.s (sl 29))), none⟩])
  (.cond (.s (sl 30))
  (.seq (.reg [⟨(some (sl 4)), none, (.mv (.c (.bool false))), none⟩])
  .ret)
  .skip))
  (.seq (.reg [⟨(some (sl 31)), none, (.fld (.s (sl 2)) 0), none⟩, ⟨(some (sl 32)), none, (.ld true (.s (sl 31)) none), none⟩, ⟨(some (sl 33)), none, (.bin .geq (.s (sl 32)) (.c (.int .i64 2))), none⟩, ⟨(some (sl 34)), none, (.mv (.s (sl 33))), none⟩, ⟨(some (sl 35)), (some ((sl 34), true)), (.fld (.s (sl 2)) 0), none⟩, ⟨(some (sl 36)), (some ((sl 34), true)), (.ld true (.s (sl 35)) none), none⟩, ⟨(some (sl 37)), (some ((sl 34), true)), (.bin .leq (.s (sl 36)) (.c (.int .i64 11))), none⟩, ⟨(some (sl 38)), none, (.pick (.s (sl 34)) (.s (sl 37)) (.c (.bool false))), none⟩, ⟨(some (sl 39)), none, (.mv (.s (sl 38))), none⟩, ⟨(some (sl 40)), (some ((sl 39), false)), (.fld (.s (sl 2)) 0), none⟩, ⟨(some (sl 41)), (some ((sl 39), false)), (.ld true (.s (sl 40)) none), none⟩, ⟨(some (sl 42)), (some ((sl 39), false)), (.bin .eql (.s (sl 41)) (.c (.int .i64 13))), none⟩, ⟨(some (sl 43)), none, (.pick (.s (sl 39)) (.c (.bool true)) (.s (sl 42))), none⟩, ⟨(some (sl 44)), none, (.mv (.s (sl 43))), none⟩, ⟨(some (sl 45)), (some ((sl 44), false)), (.fld (.s (sl 2)) 0), none⟩, ⟨(some (sl 46)), (some ((sl 44), false)), (.ld true (.s (sl 45)) none), none⟩, ⟨(some (sl 47)), (some ((sl 44), false)), (.bin .eql (.s (sl 46)) (.c (.int .i64 16))), none⟩, ⟨(some (sl 48)), none, (.pick (.s (sl 44)) (.c (.bool true)) (.s (sl 47))), none⟩, ⟨(some (sl 6)), none, (.mv (.s (sl 48))), none⟩])
  (.seq (.reg [⟨(some (sl 49)), none, (.fld (.s (sl 2)) 0), none⟩, ⟨(some (sl 50)), none, (.ld true (.s (sl 49)) none), none⟩, ⟨(some (sl 51)), none, (.bin .geq (.s (sl 50)) (.c (.int .i64 2))), none⟩, ⟨(some (sl 52)), none, (.mv (.s (sl 51))), none⟩, ⟨(some (sl 53)), (some ((sl 52), true)), (.fld (.s (sl 2)) 0), none⟩, ⟨(some (sl 54)), (some ((sl 52), true)), (.ld true (.s (sl 53)) none), none⟩, ⟨(some (sl 55)), (some ((sl 52), true)), (.bin .leq (.s (sl 54)) (.c (.int .i64 11))), none⟩, ⟨(some (sl 56)), none, (.pick (.s (sl 52)) (.s (sl 55)) (.c (.bool false))), none⟩, ⟨(some (sl 7)), none, (.mv (.s (sl 56))), none⟩])
  (.seq (.seq (.reg [⟨(some (sl 57)), none, (.mv (.s (sl 6))), none⟩, ⟨(some (sl 58)), none, (.not (.s (sl 57))), none⟩, ⟨(some (sl 59)), none, (.mv (.s (sl 58))), none⟩, ⟨(some (sl 60)), (some ((sl 59), true)), (.fld (.s (sl 2)) 1), none⟩, ⟨(some (sl 61)), (some ((sl 59), true)), (.ld true (.s (sl 60)) none), none⟩, ⟨(some (sl 62)), (some ((sl 59), true)), (.bin .neq (.s (sl 61)) (.c (.int .i64 0))), none⟩, ⟨(some (sl 63)), none, (.pick (.s (sl 59)) (.s (sl 62)) (.c (.bool false))), none⟩, ⟨(some (sl 64)), none, (.mv (.s (sl 63))), none⟩, ⟨(some (sl 65)), (some ((sl 64), false)), (.mv (.s (sl 7))), none⟩, ⟨(some (sl 66)), (some ((sl 64), false)), (.not (.s (sl 65))), none⟩, ⟨(some (sl 67)), (some ((sl 64), false)), (.mv (.s (sl 66))), none⟩, ⟨(some (sl 68)), (some ((sl 67), true)), (.fld (.s (sl 2)) 2), none⟩, ⟨(some (sl 69)), (some ((sl 67), true)), (.ld true (.s (sl 68)) none), none⟩, ⟨(some (sl 70)), (some ((sl 67), true)), (.bin .neq (.s (sl 69)) (.c (.int .i64 0))), none⟩, ⟨(some (sl 71)), (some ((sl 64), false)), (.pick (.s (sl 67)) (.s (sl 70)) (.c (.bool false))), none⟩, ⟨(some (sl 72)), none, (.pick (.s (sl 64)) (.c (.bool true)) (.s (sl 71))), none⟩, ⟨(some (sl 73)), none, (.mv (.s (sl 72))), none⟩, ⟨(some (sl 74)), (some ((sl 73), false)), (.fld (.s (sl 2)) 0), none⟩, ⟨(some (sl 75)), (some ((sl 73), false)), (.ld true (.s (sl 74)) none), none⟩, ⟨(some (sl 76)), (some ((sl 73), false)), (.bin .neq (.s (sl 75)) (.c (.int .i64 1))), none⟩, ⟨(some (sl 77)), (some ((sl 73), false)), (.mv (.s (sl 76))), none⟩, ⟨(some (sl 78)), (some ((sl 77), true)), (.fld (.s (sl 2)) 3), none⟩, ⟨(some (sl 79)), (some ((sl 77), true)), (.ld true (.s (sl 78)) none), none⟩, ⟨(some (sl 80)), (some ((sl 77), true)), (.bin .neq (.s (sl 79)) (.c (.int .u64 0))), none⟩, ⟨(some (sl 81)), (some ((sl 73), false)), (.pick (.s (sl 77)) (.s (sl 80)) (.c (.bool false))), none⟩, ⟨(some (sl 82)), none, (.pick (.s (sl 73)) (.c (.bool true)) (.s (sl 81))), none⟩, ⟨(some (sl 83)), none, (.mv (.s (sl 82))), none⟩, ⟨(some (sl 84)), (some ((sl 83), false)), (.fld (.s (sl 2)) 0), none⟩, ⟨(some (sl 85)), (some ((sl 83), false)), (.ld true (.s (sl 84)) none), none⟩, ⟨(some (sl 86)), (some ((sl 83), false)), (.bin .neq (.s (sl 85)) (.c (.int .i64 14))), none⟩, ⟨(some (sl 87)), (some ((sl 83), false)), (.mv (.s (sl 86))), none⟩, ⟨(some (sl 88)), (some ((sl 87), true)), (.fld (.s (sl 2)) 5), none⟩, ⟨(some (sl 89)), (some ((sl 87), true)), (.ld true (.s (sl 88)) none), none⟩, ⟨(some (sl 90)), (some ((sl 87), true)), (.len false (.s (sl 89))), none⟩, ⟨(some (sl 91)), (some ((sl 87), true)), (.bin .gtr (.s (sl 90)) (.c (.int .i64 0))), none⟩, ⟨(some (sl 92)), (some ((sl 83), false)), (.pick (.s (sl 87)) (.s (sl 91)) (.c (.bool false))), none⟩, ⟨(some (sl 93)), none, (.pick (.s (sl 83)) (.c (.bool true)) (.s (sl 92))), none⟩])
  (.cond (.s (sl 93))
  (.seq (.reg [⟨(some (sl 4)), none, (.mv (.c (.bool false))), none⟩])
  .ret)
  .skip))
  (.seq (.reg [⟨(some (sl 94)), none, (.ld true (.s (sl 2)) (some 6)), none⟩, ⟨(some (sl 95)), none, (.call true (.f 51) [(.s (sl 94))]), none⟩, ⟨(some (sl 8)), none, (.mv (.s (sl 95))), none⟩])
  (.seq (.seq (.reg [⟨(some (sl 96)), none, (.mv (.s (sl 8))), none⟩])
  (.cond (.s (sl 96))
  (.seq (.reg [⟨(some (sl 97)), none, (.fld (.s (sl 2)) 4), none⟩, ⟨(some (sl 98)), none, (.ld true (.s (sl 97)) none), none⟩, ⟨(some (sl 99)), none, (.call true (.f 49) [(.s (sl 98))]), none⟩, ⟨(some (sl 4)), none, (.mv (.s (sl 99))), none⟩])
  .ret)
  .skip))
  (.seq (.reg [⟨(some (sl 100)), none, (.fld (.s (sl 2)) 4), none⟩, ⟨(some (sl 101)), none, (.ld true (.s (sl 100)) none), none⟩, ⟨(some (sl 102)), none, (.bin .eql (.s (sl 101)) (.c (.string ⟨#[]⟩))), none⟩, ⟨(some (sl 4)), none, (.mv (.s (sl 102))), none⟩])
  .ret)))))))))
def r_marlineref05_Inst : List ARes := [(.tmp (sl 4))]
theorem t_marlineref05_Inst : (Try.f61).body.bind (trCode Try.prog 8 (Try.f61).ntmps [] [] (drOk 8)) = some c_marlineref05_Inst := by kernel_rfl
theorem u_marlineref05_Inst : trRess Try.prog 8 (Try.f61).results.toList = some r_marlineref05_Inst := by kernel_rfl

/-- marline/marlineref05.goes -/
def c_marlineref05_goes : ACode :=
  (.seq (.reg [⟨(some (sl 4)), none, (.box true (.s (sl 0))), none⟩, ⟨(some (sl 8)), none, (.mv (.c (.bool false))), none⟩])
  (.seq (.seq (.reg [⟨(some (sl 9)), none, (.mv (.s (sl 1))), none⟩, ⟨(some (sl 10)), none, (.bin .lss (.s (sl 9)) (.c (.int .i64 0))), none⟩, ⟨(some (sl 11)), none, (.mv (.s (sl 10))), none⟩, ⟨(some (sl 12)), (some ((sl 11), false)), (.mv (.s (sl 1))), none⟩, ⟨(some (sl 13)), (some ((sl 11), false)), (.fld (.s (sl 4)) 3), none⟩, ⟨(some (sl 14)), (some ((sl 11), false)), (.ld true (.s (sl 13)) none), none⟩, ⟨(some (sl 15)), (some ((sl 11), false)), (.len false (.s (sl 14))), none⟩, ⟨(some (sl 16)), (some ((sl 11), false)), (.bin .geq (.s (sl 12)) (.s (sl 15))), none⟩, ⟨(some (sl 17)), none, (.pick (.s (sl 11)) (.c (.bool true)) (.s (sl 16))), none⟩, ⟨(some (sl 18)), none, (.mv (.s (sl 17))), none⟩, ⟨(some (sl 19)), (some ((sl 18), false)), (.mv (.s (sl 2))), none⟩, ⟨(some (sl 20)), (some ((sl 18), false)), (.len false (.s (sl 19))), none⟩, ⟨(some (sl 21)), (some ((sl 18), false)), (.fld (.s (sl 4)) 3), none⟩, ⟨(some (sl 22)), (some ((sl 18), false)), (.ld true (.s (sl 21)) none), none⟩, ⟨(some (sl 23)), (some ((sl 18), false)), (.mv (.s (sl 1))), none⟩, ⟨(some (sl 24)), (some ((sl 18), false)), (.idx true (.s (sl 22)) (.s (sl 23)) 8), none⟩, ⟨(some (sl 25)), (some ((sl 18), false)), (.fld (.s (sl 24)) 0), none⟩, ⟨(some (sl 26)), (some ((sl 18), false)), (.ld true (.s (sl 25)) none), none⟩, ⟨(some (sl 27)), (some ((sl 18), false)), (.bin .neq (.s (sl 20)) (.s (sl 26))), none⟩, ⟨(some (sl 28)), none, (.pick (.s (sl 18)) (.c (.bool true)) (.s (sl 27))), none⟩])
  (.cond (.s (sl 28))
  (.seq (.reg [⟨(some (sl 8)), none, (.mv (.c (.bool false))), none⟩])
  .ret)
  .skip))
  (.seq (.reg [⟨(some (sl 29)), none, (.mv (.s (sl 2))), none⟩, ⟨(some (sl 30)), none, (.mv (.s (sl 3))), none⟩, ⟨(some (sl 31)), none, (.call true (.f 67) [(.s (sl 29)), (.s (sl 30))]), none⟩, ⟨(some (sl 8)), none, (.mv (.s (sl 31))), none⟩])
  .ret)))
def r_marlineref05_goes : List ARes := [(.tmp (sl 8))]
theorem t_marlineref05_goes : (Try.f62).body.bind (trCode Try.prog 8 (Try.f62).ntmps [] [] (drOk 8)) = some c_marlineref05_goes := by kernel_rfl
theorem u_marlineref05_goes : trRess Try.prog 8 (Try.f62).results.toList = some r_marlineref05_goes := by kernel_rfl

/-- marline/marlineref05.block -/
def c_marlineref05_block : ACode :=
  (.seq (.reg [⟨(some (sl 2)), none, (.box true (.s (sl 0))), none⟩, ⟨(some (sl 4)), none, (.mv (.c (.bool false))), none⟩])
  (.seq (.seq (.reg [⟨(some (sl 14)), none, (.fld (.s (sl 2)) 3), none⟩, ⟨(some (sl 15)), none, (.ld true (.s (sl 14)) none), none⟩, ⟨(some (sl 16)), none, (.mv (.s (sl 1))), none⟩, ⟨(some (sl 17)), none, (.idx true (.s (sl 15)) (.s (sl 16)) 8), none⟩, ⟨(some (sl 18)), none, (.ld true (.s (sl 17)) (some 8)), none⟩, ⟨(some (sl 5)), none, (.new [(.int .i64 0), (.slice none 0 0), (.int .i64 0), (.int .i64 0), (.int .i64 0), (.slice none 0 0), (.int .i64 0), (.slice none 0 0)]), none⟩, ⟨none, none, (.ini 1 (.s (sl 5)) (.s (sl 18)) 8), none⟩])
  (.frz (sl 5)))
  (.seq (.seq (.reg [⟨(some (sl 19)), none, (.fld (.s (sl 5)) 0), none⟩, ⟨(some (sl 20)), none, (.ld true (.s (sl 19)) none), none⟩, ⟨(some (sl 21)), none, (.bin .lss (.s (sl 20)) (.c (.int .i64 0))), none⟩, ⟨(some (sl 22)), none, (.mv (.s (sl 21))), none⟩, ⟨(some (sl 23)), (some ((sl 22), false)), (.fld (.s (sl 5)) 0), none⟩, ⟨(some (sl 24)), (some ((sl 22), false)), (.ld true (.s (sl 23)) none), none⟩, ⟨(some (sl 25)), (some ((sl 22), false)), (.bin .gtr (.s (sl 24)) (.c (.int .i64 6))), none⟩, ⟨(some (sl 26)), none, (.pick (.s (sl 22)) (.c (.bool true)) (.s (sl 25))), none⟩, ⟨(some (sl 27)), none, (.mv (.s (sl 26))), none⟩, ⟨(some (sl 28)), (some ((sl 27), false)), (.fld (.s (sl 5)) 1), none⟩, ⟨(some (sl 29)), (some ((sl 27), false)), (.ld true (.s (sl 28)) none), none⟩, ⟨(some (sl 30)), (some ((sl 27), false)), (.len false (.s (sl 29))), none⟩, ⟨(some (sl 31)), (some ((sl 27), false)), (.bin .gtr (.s (sl 30)) (.c (.int .i64 32))), none⟩, ⟨(some (sl 32)), none, (.pick (.s (sl 27)) (.c (.bool true)) (.s (sl 31))), none⟩])
  (.cond (.s (sl 32))
  (.seq (.reg [⟨(some (sl 4)), none, (.mv (.c (.bool false))), none⟩])
  .ret)
  .skip))
  (.seq (.seq (.reg [⟨(some (sl 6)), none, (.mv (.c (.int .i64 0))), none⟩])
  (.block 0
  (.loop (.seq (.seq (.reg [⟨(some (sl 33)), none, (.mv (.s (sl 6))), none⟩, ⟨(some (sl 34)), none, (.fld (.s (sl 5)) 1), none⟩, ⟨(some (sl 35)), none, (.ld true (.s (sl 34)) none), none⟩, ⟨(some (sl 36)), none, (.len false (.s (sl 35))), none⟩, ⟨(some (sl 37)), none, (.bin .lss (.s (sl 33)) (.s (sl 36))), none⟩])
  (.cond (.s (sl 37))
  .skip
  (.exit 0)))
  (.seq (.block 1
  (.seq (.reg [⟨(some (sl 40)), none, (.fld (.s (sl 5)) 1), (some (0, []))⟩, ⟨(some (sl 41)), none, (.ld true (.s (sl 40)) none), (some (1, []))⟩, ⟨(some (sl 42)), none, (.mv (.s (sl 6))), (some (2, []))⟩, ⟨(some (sl 43)), none, (.idx true (.s (sl 41)) (.s (sl 42)) 6), (some (3, []))⟩, ⟨(some (sl 44)), none, (.ld true (.s (sl 43)) (some 6)), (some (4, []))⟩, ⟨(some (sl 45)), none, (.fld (.s (sl 5)) 0), (some (5, []))⟩, ⟨(some (sl 46)), none, (.ld true (.s (sl 45)) none), (some (6, []))⟩, ⟨(some (sl 47)), none, (.mv (.s (sl 6))), (some (7, []))⟩, ⟨(some (sl 48)), none, (.bin .add (.s (sl 46)) (.s (sl 47))), (some (8, []))⟩, ⟨(some (sl 49)), none, (.call true (.f 61) [(.s (sl 44)), (.s (sl 48))]), (some (9, []))⟩, ⟨(some (sl 7)), none, (.mv (.s (sl 49))), (some (10, []))⟩])
  (.seq (.reg [⟨(some (sl 50)), none, (.mv (.s (sl 7))), none⟩, ⟨(some (sl 51)), none, (.not (.s (sl 50))), none⟩])
  (.cond (.s (sl 51))
  (.seq (.reg [⟨(some (sl 4)), none, (.mv (.c (.bool false))), none⟩])
  .ret)
  .skip))))
  (.reg [⟨(some (sl 38)), none, (.mv (.s (sl 6))), none⟩, ⟨(some (sl 39)), none, (.bin .add (.s (sl 38)) (.c (.int .i64 1))), none⟩, ⟨(some (sl 6)), none, (.mv (.s (sl 39))), none⟩]))))))
  (.seq (.seq (.reg [⟨(some (sl 52)), none, (.fld (.s (sl 5)) 2), none⟩, ⟨(some (sl 53)), none, (.ld true (.s (sl 52)) (some 6)), none⟩, ⟨(some (sl 8)), none, (.new [(.int .i64 0), (.int .i64 0), (.int .i64 0), (.slice none 0 0), (.int .i64 0), (.slice none 0 0)]), none⟩, ⟨none, none, (.ini 1 (.s (sl 8)) (.s (sl 53)) 6), none⟩])
  (.frz (sl 8)))
  (.seq (.reg [⟨(some (sl 54)), none, (.fld (.s (sl 5)) 0), none⟩, ⟨(some (sl 55)), none, (.ld true (.s (sl 54)) none), none⟩, ⟨(some (sl 56)), none, (.fld (.s (sl 5)) 1), none⟩, ⟨(some (sl 57)), none, (.ld true (.s (sl 56)) none), none⟩, ⟨(some (sl 58)), none, (.len false (.s (sl 57))), none⟩, ⟨(some (sl 59)), none, (.bin .add (.s (sl 55)) (.s (sl 58))), none⟩, ⟨(some (sl 9)), none, (.mv (.s (sl 59))), none⟩])
  (.seq (.seq (.reg [⟨(some (sl 60)), none, (.fld (.s (sl 8)) 0), none⟩, ⟨(some (sl 61)), none, (.ld true (.s (sl 60)) none), none⟩, ⟨(some (sl 62)), none, (.bin .eql (.s (sl 61)) (.c (.int .i64 1))), none⟩])
  (.cond (.s (sl 62))
  (.seq (.reg [⟨(some (sl 63)), none, (.ld true (.s (sl 2)) (some 4)), none⟩, ⟨(some (sl 64)), none, (.fld (.s (sl 8)) 2), none⟩, ⟨(some (sl 65)), none, (.ld true (.s (sl 64)) none), none⟩, ⟨(some (sl 66)), none, (.fld (.s (sl 8)) 3), none⟩, ⟨(some (sl 67)), none, (.ld true (.s (sl 66)) none), none⟩, ⟨(some (sl 68)), none, (.mv (.s (sl 9))), none⟩, ⟨(some (sl 69)), none, (.call true (.f 62) [(.s (sl 63)), (.s (sl 65)), (.s (sl 67)), (.s (sl 68))]), none⟩, ⟨(some (sl 10)), none, (.mv (.s (sl 69))), none⟩])
  (.seq (.reg [⟨(some (sl 70)), none, (.mv (.s (sl 10))), none⟩, ⟨(some (sl 71)), none, (.mv (.s (sl 70))), none⟩, ⟨(some (sl 72)), (some ((sl 71), true)), (.fld (.s (sl 8)) 1), none⟩, ⟨(some (sl 73)), (some ((sl 71), true)), (.ld true (.s (sl 72)) none), none⟩, ⟨(some (sl 74)), (some ((sl 71), true)), (.bin .eql (.s (sl 73)) (.c (.int .i64 0))), none⟩, ⟨(some (sl 75)), none, (.pick (.s (sl 71)) (.s (sl 74)) (.c (.bool false))), none⟩, ⟨(some (sl 76)), none, (.mv (.s (sl 75))), none⟩, ⟨(some (sl 77)), (some ((sl 76), true)), (.fld (.s (sl 8)) 4), none⟩, ⟨(some (sl 78)), (some ((sl 76), true)), (.ld true (.s (sl 77)) none), none⟩, ⟨(some (sl 79)), (some ((sl 76), true)), (.bin .eql (.s (sl 78)) (.c (.int .i64 0))), none⟩, ⟨(some (sl 80)), none, (.pick (.s (sl 76)) (.s (sl 79)) (.c (.bool false))), none⟩, ⟨(some (sl 81)), none, (.mv (.s (sl 80))), none⟩, ⟨(some (sl 82)), (some ((sl 81), true)), (.fld (.s (sl 8)) 5), none⟩, ⟨(some (sl 83)), (some ((sl 81), true)), (.ld true (.s (sl 82)) none), none⟩, ⟨(some (sl 84)), (some ((sl 81), true)), (.len false (.s (sl 83))), none⟩, ⟨(some (sl 85)), (some ((sl 81), true)), (.bin .eql (.s (sl 84)) (.c (.int .i64 0))), none⟩, ⟨(some (sl 86)), none, (.pick (.s (sl 81)) (.s (sl 85)) (.c (.bool false))), none⟩, ⟨(some (sl 4)), none, (.mv (.s (sl 86))), none⟩])
  .ret))
  .skip))
  (.seq (.reg [⟨(some (sl 87)), none, (.fld (.s (sl 8)) 1), none⟩, ⟨(some (sl 88)), none, (.ld true (.s (sl 87)) none), none⟩, ⟨(some (sl 89)), none, (.bin .geq (.s (sl 88)) (.c (.int .i64 0))), none⟩, ⟨(some (sl 90)), none, (.mv (.s (sl 89))), none⟩, ⟨(some (sl 91)), (some ((sl 90), true)), (.fld (.s (sl 8)) 1), none⟩, ⟨(some (sl 92)), (some ((sl 90), true)), (.ld true (.s (sl 91)) none), none⟩, ⟨(some (sl 93)), (some ((sl 90), true)), (.mv (.s (sl 9))), none⟩, ⟨(some (sl 94)), (some ((sl 90), true)), (.bin .lss (.s (sl 92)) (.s (sl 93))), none⟩, ⟨(some (sl 95)), none, (.pick (.s (sl 90)) (.s (sl 94)) (.c (.bool false))), none⟩, ⟨(some (sl 11)), none, (.mv (.s (sl 95))), none⟩])
  (.seq (.seq (.reg [⟨(some (sl 96)), none, (.fld (.s (sl 8)) 0), none⟩, ⟨(some (sl 97)), none, (.ld true (.s (sl 96)) none), none⟩, ⟨(some (sl 98)), none, (.bin .eql (.s (sl 97)) (.c (.int .i64 2))), none⟩])
  (.cond (.s (sl 98))
  (.seq (.reg [⟨(some (sl 99)), none, (.ld true (.s (sl 2)) (some 4)), none⟩, ⟨(some (sl 100)), none, (.fld (.s (sl 8)) 2), none⟩, ⟨(some (sl 101)), none, (.ld true (.s (sl 100)) none), none⟩, ⟨(some (sl 102)), none, (.fld (.s (sl 8)) 3), none⟩, ⟨(some (sl 103)), none, (.ld true (.s (sl 102)) none), none⟩, ⟨(some (sl 104)), none, (.mv (.s (sl 9))), none⟩, ⟨(some (sl 105)), none, (.call true (.f 62) [(.s (sl 99)), (.s (sl 101)), (.s (sl 103)), (.s (sl 104))]), none⟩, ⟨(some (sl 12)), none, (.mv (.s (sl 105))), none⟩])
  (.seq (.reg [⟨(some (sl 106)), none, (.ld true (.s (sl 2)) (some 4)), none⟩, ⟨(some (sl 107)), none, (.fld (.s (sl 8)) 4), none⟩, ⟨(some (sl 108)), none, (.ld true (.s (sl 107)) none), none⟩, ⟨(some (sl 109)), none, (.fld (.s (sl 8)) 5), none⟩, ⟨(some (sl 110)), none, (.ld true (.s (sl 109)) none), none⟩, ⟨(some (sl 111)), none, (.mv (.s (sl 9))), none⟩, ⟨(some (sl 112)), none, (.call true (.f 62) [(.s (sl 106)), (.s (sl 108)), (.s (sl 110)), (.s (sl 111))]), none⟩, ⟨(some (sl 13)), none, (.mv (.s (sl 112))), none⟩])
  (.seq (.reg [⟨(some (sl 113)), none, (.mv (.s (sl 11))), none⟩, ⟨(some (sl 114)), none, (.mv (.s (sl 113))), none⟩, ⟨(some (sl 115)), (some ((sl 114), true)), (.mv (.s (sl 12))), none⟩, ⟨(some (sl 116)), none, (.pick (.s (sl 114)) (.s (sl 115)) (.c (.bool false))), none⟩, ⟨(some (sl 117)), none, (.mv (.s (sl 116))), none⟩, ⟨(some (sl 118)), (some ((sl 117), true)), (.mv (.s (sl 13))), none⟩, ⟨(some (sl 119)), none, (.pick (.s (sl 117)) (.s (sl 118)) (.c (.bool false))), none⟩, ⟨(some (sl 4)), none, (.mv (.s (sl 119))), none⟩])
  .ret)))
  .skip))
  (.seq (.reg [⟨(some (sl 120)), none, (.fld (.s (sl 8)) 0), none⟩, ⟨(some (sl 121)), none, (.ld true (.s (sl 120)) none), none⟩, ⟨(some (sl 122)), none, (.bin .eql (.s (sl 121)) (.c (.int .i64 3))), none⟩, ⟨(some (sl 123)), none, (.mv (.s (sl 122))), none⟩, ⟨(some (sl 124)), (some ((sl 123), true)), (.mv (.s (sl 11))), none⟩, ⟨(some (sl 125)), none, (.pick (.s (sl 123)) (.s (sl 124)) (.c (.bool false))), none⟩, ⟨(some (sl 126)), none, (.mv (.s (sl 125))), none⟩, ⟨(some (sl 127)), (some ((sl 126), true)), (.fld (.s (sl 8)) 2), none⟩, ⟨(some (sl 128)), (some ((sl 126), true)), (.ld true (.s (sl 127)) none), none⟩, ⟨(some (sl 129)), (some ((sl 126), true)), (.bin .eql (.s (sl 128)) (.c (.int .i64 0))), none⟩, ⟨(some (sl 130)), none, (.pick (.s (sl 126)) (.s (sl 129)) (.c (.bool false))), none⟩, ⟨(some (sl 131)), none, (.mv (.s (sl 130))), none⟩, ⟨(some (sl 132)), (some ((sl 131), true)), (.fld (.s (sl 8)) 3), none⟩, ⟨(some (sl 133)), (some ((sl 131), true)), (.ld true (.s (sl 132)) none), none⟩, ⟨(some (sl 134)), (some ((sl 131), true)), (.len false (.s (sl 133))), none⟩, ⟨(some (sl 135)), (some ((sl 131), true)), (.bin .eql (.s (sl 134)) (.c (.int .i64 0))), none⟩, ⟨(some (sl 136)), none, (.pick (.s (sl 131)) (.s (sl 135)) (.c (.bool false))), none⟩, ⟨(some (sl 137)), none, (.mv (.s (sl 136))), none⟩, ⟨(some (sl 138)), (some ((sl 137), true)), (.fld (.s (sl 8)) 4), none⟩, ⟨(some (sl 139)), (some ((sl 137), true)), (.ld true (.s (sl 138)) none), none⟩, ⟨(some (sl 140)), (some ((sl 137), true)), (.bin .eql (.s (sl 139)) (.c (.int .i64 0))), none⟩, ⟨(some (sl 141)), none, (.pick (.s (sl 137)) (.s (sl 140)) (.c (.bool false))), none⟩, ⟨(some (sl 142)), none, (.mv (.s (sl 141))), none⟩, ⟨(some (sl 143)), (some ((sl 142), true)), (.fld (.s (sl 8)) 5), none⟩, ⟨(some (sl 144)), (some ((sl 142), true)), (.ld true (.s (sl 143)) none), none⟩, ⟨(some (sl 145)), (some ((sl 142), true)), (.len false (.s (sl 144))), none⟩, ⟨(some (sl 146)), (some ((sl 142), true)), (.bin .eql (.s (sl 145)) (.c (.int .i64 0))), none⟩, ⟨(some (sl 147)), none, (.pick (.s (sl 142)) (.s (sl 146)) (.c (.bool false))), none⟩, ⟨(some (sl 4)), none, (.mv (.s (sl 147))), none⟩])
  .ret))))))))))
def r_marlineref05_block : List ARes := [(.tmp (sl 4))]
theorem t_marlineref05_block : (Try.f57).body.bind (trCode Try.prog 8 (Try.f57).ntmps [] [] (drOk 8)) = some c_marlineref05_block := by kernel_rfl
theorem u_marlineref05_block : trRess Try.prog 8 (Try.f57).results.toList = some r_marlineref05_block := by kernel_rfl

/-- marline/marlineref05.Func -/
def c_marlineref05_Func : ACode :=
  (.seq (.reg [⟨(some (sl 1)), none, (.box true (.s (sl 0))), none⟩, ⟨(some (sl 2)), none, (.mv (.c (.bool false))), none⟩])
  (.seq (.reg [⟨(some (sl 6)), none, (.fld (.s (sl 1)) 0), none⟩, ⟨(some (sl 7)), none, (.ld true (.s (sl 6)) none), none⟩, ⟨(some (sl 8)), none, (.call true (.f 49) [(.s (sl 7))]), none⟩, ⟨(some (sl 3)), none, (.mv (.s (sl 8))), none⟩])
  (.seq (.seq (.reg [⟨(some (sl 9)), none, (.mv (.s (sl 3))), none⟩, ⟨(some (sl 10)), none, (.not (.s (sl 9))), none⟩, ⟨(some (sl 11)), none, (.mv (.s (sl 10))), none⟩, ⟨(some (sl 12)), (some ((sl 11), false)), (.fld (.s (sl 1)) 1), none⟩, ⟨(some (sl 13)), (some ((sl 11), false)), (.ld true (.s (sl 12)) none), none⟩, ⟨(some (sl 14)), (some ((sl 11), false)), (.bin .lss (.s (sl 13)) (.c (.int .i64 1))), none⟩, ⟨(some (sl 15)), none, (.pick (.s (sl 11)) (.c (.bool true)) (.s (sl 14))), none⟩, ⟨(some (sl 16)), none, (.mv (.s (sl 15))), none⟩, ⟨(some (sl 17)), (some ((sl 16), false)), (.fld (.s (sl 1)) 1), none⟩, ⟨(some (sl 18)), (some ((sl 16), false)), (.ld true (.s (sl 17)) none), none⟩, ⟨(some (sl 19)), (some ((sl 16), false)), (.bin .gtr (.s (sl 18)) (.c (.int .i64 3))), none⟩, ⟨(some (sl 20)), none, (.pick (.s (sl 16)) (.c (.bool true)) (.s (sl 19))), none⟩, ⟨(some (sl 21)), none, (.mv (.s (sl 20))), none⟩, ⟨(some (sl 22)), (some ((sl 21), false)), (.fld (.s (sl 1)) 2), none⟩, ⟨(some (sl 23)), (some ((sl 21), false)), (.ld true (.s (sl 22)) none), none⟩, ⟨(some (sl 24)), (some ((sl 21), false)), (.bin .lss (.s (sl 23)) (.c (.int .i64 0))), none⟩, ⟨(some (sl 25)), none, (.pick (.s (sl 21)) (.c (.bool true)) (.s (sl 24))), none⟩, ⟨(some (sl 26)), none, (.mv (.s (sl 25))), none⟩, ⟨(some (sl 27)), (some ((sl 26), false)), (.fld (.s (sl 1)) 2), none⟩, ⟨(some (sl 28)), (some ((sl 26), false)), (.ld true (.s (sl 27)) none), none⟩, ⟨(some (sl 29)), (some ((sl 26), false)), (.bin .gtr (.s (sl 28)) (.c (.int .i64 6))), none⟩, ⟨(some (sl 30)), none, (.pick (.s (sl 26)) (.c (.bool true)) (.s (sl 29))), none⟩, ⟨(some (sl 31)), none, (.mv (.s (sl 30))), none⟩, ⟨(some (sl 32)), (some ((sl 31), false)), (.fld (.s (sl 1)) 3), none⟩, ⟨(some (sl 33)), (some ((sl 31), false)), (.ld true (.s (sl 32)) none), none⟩, ⟨(some (sl 34)), (some ((sl 31), false)), (.len false (.s (sl 33))), none⟩, ⟨(some (sl 35)), (some ((sl 31), false)), (.bin .gtr (.s (sl 34)) (.c (.int .i64 16))), none⟩, ⟨(some (sl 36)), none, (.pick (.s (sl 31)) (.c (.bool true)) (.s (sl 35))), none⟩])
  (.cond (.s (sl 36))
  (.seq (.reg [⟨(some (sl 2)), none, (.mv (.c (.bool false))), none⟩])
  .ret)
  .skip))
  (.seq (.seq (.reg [⟨(some (sl 37)), none, (.fld (.s (sl 1)) 3), none⟩, ⟨(some (sl 38)), none, (.ld true (.s (sl 37)) none), none⟩, ⟨(some (sl 39)), none, (.len false (.s (sl 38))), none⟩, ⟨(some (sl 40)), none, (.bin .eql (.s (sl 39)) (.c (.int .i64 0))), none⟩])
  (.cond (.s (sl 40))
  (.seq (.reg [⟨(some (sl 41)), none, (.fld (.s (sl 1)) 1), none⟩, ⟨(some (sl 42)), none, (.ld true (.s (sl 41)) none), none⟩, ⟨(some (sl 43)), none, (.bin .neq (.s (sl 42)) (.c (.int .i64 1))), none⟩, ⟨(some (sl 2)), none, (.mv (.s (sl 43))), none⟩])
  .ret)
  .skip))
  (.seq (.seq (.reg [⟨(some (sl 44)), none, (.fld (.s (sl 1)) 3), (some (0, []))⟩, ⟨(some (sl 45)), none, (.ld true (.s (sl 44)) none), (some (1, []))⟩, ⟨(some (sl 46)), none, (.idx true (.s (sl 45)) (.c (.int .i64 0)) 8), (some (2, []))⟩, ⟨(some (sl 47)), none, (.fld (.s (sl 46)) 0), (some (3, []))⟩, ⟨(some (sl 48)), none, (.ld true (.s (sl 47)) none), (some (4, []))⟩, ⟨(some (sl 49)), none, (.fld (.s (sl 1)) 2), (some (5, []))⟩, ⟨(some (sl 50)), none, (.ld true (.s (sl 49)) none), (some (6, []))⟩, ⟨(some (sl 51)), none, (.bin .neq (.s (sl 48)) (.s (sl 50))), (some (7, []))⟩])
  (.cond (.s (sl 51))
  (.seq (.reg [⟨(some (sl 2)), none, (.mv (.c (.bool false))), none⟩])
  .ret)
  .skip))
  (.seq (.seq (.reg [⟨(some (sl 4)), none, (.mv (.c (.int .i64 0))), none⟩])
  (.block 0
  (.loop (.seq (.seq (.reg [⟨(some (sl 52)), none, (.mv (.s (sl 4))), none⟩, ⟨(some (sl 53)), none, (.fld (.s (sl 1)) 3), none⟩, ⟨(some (sl 54)), none, (.ld true (.s (sl 53)) none), none⟩, ⟨(some (sl 55)), none, (.len false (.s (sl 54))), none⟩, ⟨(some (sl 56)), none, (.bin .lss (.s (sl 52)) (.s (sl 55))), none⟩])
  (.cond (.s (sl 56))
  .skip
  (.exit 0)))
  (.seq (.block 1
  (.seq (.reg [⟨(some (sl 59)), none, (.ld true (.s (sl 1)) (some 4)), none⟩, ⟨(some (sl 60)), none, (.mv (.s (sl 4))), none⟩, ⟨(some (sl 61)), none, (.call true (.f 57) [(.s (sl 59)), (.s (sl 60))]), none⟩, ⟨(some (sl 5)), none, (.mv (.s (sl 61))), none⟩])
  (.seq (.reg [⟨(some (sl 62)), none, (.mv (.s (sl 5))), none⟩, ⟨(some (sl 63)), none, (.not (.s (sl 62))), none⟩])
  (.cond (.s (sl 63))
  (.seq (.reg [⟨(some (sl 2)), none, (.mv (.c (.bool false))), none⟩])
  .ret)
  .skip))))
  (.reg [⟨(some (sl 57)), none, (.mv (.s (sl 4))), none⟩, ⟨(some (sl 58)), none, (.bin .add (.s (sl 57)) (.c (.int .i64 1))), none⟩, ⟨(some (sl 4)), none, (.mv (.s (sl 58))), none⟩]))))))
  (.seq (.reg [⟨(some (sl 2)), none, (.mv (.c (.bool true))), none⟩])
  .ret)))))))
def r_marlineref05_Func : List ARes := [(.tmp (sl 2))]
theorem t_marlineref05_Func : (Try.f48).body.bind (trCode Try.prog 8 (Try.f48).ntmps [] [] (drOk 8)) = some c_marlineref05_Func := by kernel_rfl
theorem u_marlineref05_Func : trRess Try.prog 8 (Try.f48).results.toList = some r_marlineref05_Func := by kernel_rfl

/-- marline/marlineref05.Ints -/
def c_marlineref05_Ints : ACode :=
  (.seq (.reg [⟨(some (sl 4)), none, (.mv (.c (.bool false))), none⟩])
  (.seq (.seq (.reg [⟨(some (sl 6)), none, (.mv (.s (sl 0))), none⟩, ⟨(some (sl 7)), none, (.len false (.s (sl 6))), none⟩, ⟨(some (sl 8)), none, (.mv (.s (sl 1))), none⟩, ⟨(some (sl 9)), none, (.len false (.s (sl 8))), none⟩, ⟨(some (sl 10)), none, (.bin .neq (.s (sl 7)) (.s (sl 9))), none⟩])
  (.cond (.s (sl 10))
  (.seq (.reg [⟨(some (sl 4)), none, (.mv (.c (.bool false))), none⟩])
  .ret)
  .skip))
  (.seq (.seq (.reg [⟨(some (sl 5)), none, (.mv (.c (.int .i64 0))), none⟩])
  (.block 0
  (.loop (.seq (.seq (.reg [⟨(some (sl 11)), none, (.mv (.s (sl 5))), none⟩, ⟨(some (sl 12)), none, (.mv (.s (sl 0))), none⟩, ⟨(some (sl 13)), none, (.len false (.s (sl 12))), none⟩, ⟨(some (sl 14)), none, (.bin .lss (.s (sl 11)) (.s (sl 13))), none⟩])
  (.cond (.s (sl 14))
  .skip
  (.exit 0)))
  (.seq (.block 1
  (.seq (.reg [⟨(some (sl 17)), none, (.mv (.s (sl 0))), (some (0, []))⟩, ⟨(some (sl 18)), none, (.mv (.s (sl 5))), (some (1, []))⟩, ⟨(some (sl 19)), none, (.idx true (.s (sl 17)) (.s (sl 18)) 1), (some (2, []))⟩, ⟨(some (sl 20)), none, (.ld true (.s (sl 19)) none), (some (3, []))⟩, ⟨(some (sl 21)), none, (.mv (.s (sl 1))), (some (4, []))⟩, ⟨(some (sl 22)), none, (.mv (.s (sl 5))), (some (5, []))⟩, ⟨(some (sl 23)), none, (.idx true (.s (sl 21)) (.s (sl 22)) 1), (some (6, []))⟩, ⟨(some (sl 24)), none, (.ld true (.s (sl 23)) none), (some (7, []))⟩, ⟨(some (sl 25)), none, (.bin .neq (.s (sl 20)) (.s (sl 24))), (some (8, []))⟩])
  (.cond (.s (sl 25))
  (.seq (.reg [⟨(some (sl 4)), none, (.mv (.c (.bool false))), none⟩])
  .ret)
  .skip)))
  (.reg [⟨(some (sl 15)), none, (.mv (.s (sl 5))), none⟩, ⟨(some (sl 16)), none, (.bin .add (.s (sl 15)) (.c (.int .i64 1))), none⟩, ⟨(some (sl 5)), none, (.mv (.s (sl 16))), none⟩]))))))
  (.seq (.reg [⟨(some (sl 4)), none, (.mv (.c (.bool true))), none⟩])
  .ret))))
def r_marlineref05_Ints : List ARes := [(.tmp (sl 4))]
def r_marlineref05_SameInst : List ARes := [(.tmp (sl 4))]
def r_marlineref05_SameBlock : List ARes := [(.tmp (sl 4))]
end Go.Proofs.Ytpfokkfomgmibaa
/- The bodies of some functions, as the evaluator has them (printed by program), and that they are the program's own. -/
namespace Go.Proofs.Ytpfokkfomgmibaa
open Go.RowKit

/-- marline/ir.Uses -/
def c_ir_Uses : ACode :=
  (.seq (.reg [⟨(some (sl 1)), none, (.box true (.s (sl 0))), none⟩, ⟨(some (sl 2)), none, (.mv (.c (.slice none 0 0))), none⟩])
  (.seq (.block 0
  (.seq (.block 4
  (.seq (.block 3
  (.block 2
  (.seq (.block 1
  (.seq (.seq (.seq (.reg [⟨(some (sl 4)), none, (.fld (.s (sl 1)) 0), none⟩, ⟨(some (sl 5)), none, (.ld true (.s (sl 4)) none), none⟩, ⟨(some (sl 6)), none, (.bin .geq (.s (sl 5)) (.c (.int .i64 2))), none⟩, ⟨(some (sl 7)), none, (.mv (.s (sl 6))), none⟩, ⟨(some (sl 8)), (some ((sl 7), true)), (.fld (.s (sl 1)) 0), none⟩, ⟨(some (sl 9)), (some ((sl 7), true)), (.ld true (.s (sl 8)) none), none⟩, ⟨(some (sl 10)), (some ((sl 7), true)), (.bin .leq (.s (sl 9)) (.c (.int .i64 11))), none⟩, ⟨(some (sl 11)), none, (.pick (.s (sl 7)) (.s (sl 10)) (.c (.bool false))), none⟩, ⟨(some (sl 3)), none, (.mv (.s (sl 11))), none⟩])
  (.cond (.s (sl 3))
  (.exit 1)
  .skip))
  (.seq (.seq (.reg [⟨(some (sl 13)), none, (.fld (.s (sl 1)) 0), none⟩, ⟨(some (sl 14)), none, (.ld true (.s (sl 13)) none), none⟩, ⟨(some (sl 15)), none, (.bin .eql (.s (sl 14)) (.c (.int .i64 13))), none⟩, ⟨(some (sl 12)), none, (.mv (.s (sl 15))), none⟩])
  (.cond (.s (sl 12))
  (.exit 2)
  .skip))
  (.seq (.seq (.reg [⟨(some (sl 17)), none, (.fld (.s (sl 1)) 0), none⟩, ⟨(some (sl 18)), none, (.ld true (.s (sl 17)) none), none⟩, ⟨(some (sl 19)), none, (.bin .eql (.s (sl 18)) (.c (.int .i64 16))), none⟩, ⟨(some (sl 16)), none, (.mv (.s (sl 19))), none⟩])
  (.cond (.s (sl 16))
  (.exit 3)
  .skip))
  (.seq (.reg [⟨(some (sl 21)), none, (.fld (.s (sl 1)) 0), none⟩, ⟨(some (sl 22)), none, (.ld true (.s (sl 21)) none), none⟩, ⟨(some (sl 23)), none, (.bin .eql (.s (sl 22)) (.c (.int .i64 14))), none⟩, ⟨(some (sl 20)), none, (.mv (.s (sl 23))), none⟩])
  (.cond (.s (sl 20))
  (.exit 4)
  .skip)))))
  (.exit 0)))
  (.seq (.seq (.reg [⟨(some (sl 24)), none, (.fld (.s (sl 1)) 1), none⟩, ⟨(some (sl 25)), none, (.ld true (.s (sl 24)) none), none⟩, ⟨(some (sl 26)), none, (.fld (.s (sl 1)) 2), none⟩, ⟨(some (sl 27)), none, (.ld true (.s (sl 26)) none), none⟩, ⟨(some (sl 28)), none, (.mksl 1 2 [(.int .i64 0), (.int .i64 0)] [(0, 1, (.s (sl 25))), (1, 1, (.s (sl 27)))]), none⟩, ⟨(some (sl 2)), none, (.mv (.s (sl 28))), none⟩])
  .ret)
  (.exit 0)))))
  (.seq (.seq (.reg [⟨(some (sl 29)), none, (.fld (.s (sl 1)) 1), none⟩, ⟨(some (sl 30)), none, (.ld true (.s (sl 29)) none), none⟩, ⟨(some (sl 31)), none, (.mksl 1 1 [(.int .i64 0)] [(0, 1, (.s (sl 30)))]), none⟩, ⟨(some (sl 2)), none, (.mv (.s (sl 31))), none⟩])
  .ret)
  (.exit 0))))
  (.seq (.seq (.reg [⟨(some (sl 32)), none, (.fld (.s (sl 1)) 5), none⟩, ⟨(some (sl 33)), none, (.ld true (.s (sl 32)) none), none⟩, ⟨(some (sl 34)), none, (.call true (.f 71) [(.s (sl 33))]), none⟩, ⟨(some (sl 2)), none, (.mv (.s (sl 34))), none⟩])
  .ret)
  (.exit 0))))
  (.seq (.reg [⟨(some (sl 2)), none, (.mv (.c (.slice none 0 0))), none⟩])
  .ret)))
def r_ir_Uses : List ARes := [(.tmp (sl 2))]
theorem t_ir_Uses : (Try.f64).body.bind (trCode Try.prog 8 (Try.f64).ntmps [] [] (drOk 8)) = some c_ir_Uses := by kernel_rfl
theorem u_ir_Uses : trRess Try.prog 8 (Try.f64).results.toList = some r_ir_Uses := by kernel_rfl

/-- marline/ir.Inst -/
def c_ir_Inst : ACode :=
  (.seq (.reg [⟨(some (sl 2)), none, (.box true (.s (sl 0))), none⟩, ⟨(some (sl 4)), none, (.mv (.c (.bool false))), none⟩])
  (.seq (.seq (.reg [⟨(some (sl 7)), none, (.fld (.s (sl 2)) 0), none⟩, ⟨(some (sl 8)), none, (.ld true (.s (sl 7)) none), none⟩, ⟨(some (sl 9)), none, (.bin .lss (.s (sl 8)) (.c (.int .i64 1))), none⟩, ⟨(some (sl 10)), none, (.mv (.s (sl 9))), none⟩, ⟨(some (sl 11)), (some ((sl 10), false)), (.fld (.s (sl 2)) 0), none⟩, ⟨(some (sl 12)), (some ((sl 10), false)), (.ld true (.s (sl 11)) none), none⟩, ⟨(some (sl 13)), (some ((sl 10), false)), (.bin .gtr (.s (sl 12)) (.c (.int .i64 16))), none⟩, ⟨(some (sl 14)), none, (.pick (.s (sl 10)) (.c (.bool true)) (.s (sl 13))), none⟩, ⟨(some (sl 15)), none, (.mv (.s (sl 14))), none⟩, ⟨(some (sl 16)), (some ((sl 15), false)), (.ld true (.s (sl 2)) (some 6)), none⟩, ⟨(some (sl 17)), (some ((sl 15), false)), (.call true (.f 64) [(.s (sl 16))]), none⟩, ⟨(some (sl 18)), (some ((sl 15), false)), (.mv (.s (sl 1))), none⟩, ⟨(some (sl 19)), (some ((sl 15), false)), (.call true (.f 63) [(.s (sl 17)), (.s (sl 18))]), none⟩, ⟨(some (sl 20)), (some ((sl 15), false)), (.not (.s (sl 19))), none⟩, ⟨(some (sl 21)), none, (.pick (.s (sl 15)) (.c (.bool true)) (.s (sl 20))), none⟩])
  (.cond (.s (sl 21))
  (.seq (.reg [⟨(some (sl 4)), none, (.mv (.c (.bool false))), none⟩])
  .ret)
  .skip))
  (.seq (.reg [⟨(some (sl 22)), none, (.fld (.s (sl 2)) 0), none⟩, ⟨(some (sl 23)), none, (.ld true (.s (sl 22)) none), none⟩, ⟨(some (sl 24)), none, (.bin .geq (.s (sl 23)) (.c (.int .i64 2))), none⟩, ⟨(some (sl 25)), none, (.mv (.s (sl 24))), none⟩, ⟨(some (sl 26)), (some ((sl 25), true)), (.fld (.s (sl 2)) 0), none⟩, ⟨(some (sl 27)), (some ((sl 25), true)), (.ld true (.s (sl 26)) none), none⟩, ⟨(some (sl 28)), (some ((sl 25), true)), (.bin .leq (.s (sl 27)) (.c (.int .i64 11))), none⟩, ⟨(some (sl 29)), none, (.pick (.s (sl 25)) (.s (sl 28)) (.c (.bool false))), none⟩, ⟨(some (sl 5)), none, (.mv (.s (sl 29))), none⟩])
  (.seq (.reg [⟨(some (sl 30)), none, (.mv (.s (sl 5))), none⟩, ⟨(some (sl 31)), none, (.mv (.s (sl 30))), none⟩, ⟨(some (sl 32)), (some ((sl 31), false)), (.fld (.s (sl 2)) 0), none⟩, ⟨(some (sl 33)), (some ((sl 31), false)), (.ld true (.s (sl 32)) none), none⟩, ⟨(some (sl 34)), (some ((sl 31), false)), (.bin .eql (.s (sl 33)) (.c (.int .i64 13))), none⟩, ⟨(some (sl 35)), none, (.pick (.s (sl 31)) (.c (.bool true)) (.s (sl 34))), none⟩, ⟨(some (sl 36)), none, (.mv (.s (sl 35))), none⟩, ⟨(some (sl 37)), (some ((sl 36), false)), (.fld (.s (sl 2)) 0), none⟩, ⟨(some (sl 38)), (some ((sl 36), false)), (.ld true (.s (sl 37)) none), none⟩, ⟨(some (sl 39)), (some ((sl 36), false)), (.bin .eql (.s (sl 38)) (.c (.int .i64 16))), none⟩, ⟨(some (sl 40)), none, (.pick (.s (sl 36)) (.c (.bool true)) (.s (sl 39))), none⟩, ⟨(some (sl 6)), none, (.mv (.s (sl 40))), none⟩])
  (.seq (.block 0
  (.seq (.reg [⟨(some (sl 42)), none, (.mv (.s (sl 6))), none⟩, ⟨(some (sl 43)), none, (.not (.s (sl 42))), none⟩, ⟨(some (sl 44)), none, (.mv (.s (sl 43))), none⟩, ⟨(some (sl 45)), (some ((sl 44), true)), (.fld (.s (sl 2)) 1), none⟩, ⟨(some (sl 46)), (some ((sl 44), true)), (.ld true (.s (sl 45)) none), none⟩, ⟨(some (sl 47)), (some ((sl 44), true)), (.bin .neq (.s (sl 46)) (.c (.int .i64 0))), none⟩, ⟨(some (sl 48)), none, (.pick (.s (sl 44)) (.s (sl 47)) (.c (.bool false))), none⟩, ⟨(some (sl 49)), none, (.mv (.s (sl 48))), none⟩, ⟨(some (sl 50)), (some ((sl 49), false)), (.mv (.s (sl 5))), none⟩, ⟨(some (sl 51)), (some ((sl 49), false)), (.not (.s (sl 50))), none⟩, ⟨(some (sl 52)), (some ((sl 49), false)), (.mv (.s (sl 51))), none⟩, ⟨(some (sl 53)), (some ((sl 52), true)), (.fld (.s (sl 2)) 2), none⟩, ⟨(some (sl 54)), (some ((sl 52), true)), (.ld true (.s (sl 53)) none), none⟩, ⟨(some (sl 55)), (some ((sl 52), true)), (.bin .neq (.s (sl 54)) (.c (.int .i64 0))), none⟩, ⟨(some (sl 56)), (some ((sl 49), false)), (.pick (.s (sl 52)) (.s (sl 55)) (.c (.bool false))), none⟩, ⟨(some (sl 57)), none, (.pick (.s (sl 49)) (.c (.bool true)) (.s (sl 56))), none⟩, ⟨(some (sl 41)), none, (.mv (.s (sl 57))), none⟩])
  (.cond (.s (sl 41))
  (.seq (.reg [⟨(some (sl 4)), none, (.mv (.c (.bool false))), none⟩])
  .ret)
  (.seq (.reg [⟨(some (sl 59)), none, (.fld (.s (sl 2)) 0), none⟩, ⟨(some (sl 60)), none, (.ld true (.s (sl 59)) none), none⟩, ⟨(some (sl 61)), none, (.bin .neq (.s (sl 60)) (.c (.int .i64 1))), none⟩, ⟨(some (sl 62)), none, (.mv (.s (sl 61))), none⟩, ⟨(some (sl 63)), (some ((sl 62), true)), (.fld (.s (sl 2)) 3), none⟩, ⟨(some (sl 64)), (some ((sl 62), true)), (.ld true (.s (sl 63)) none), none⟩, ⟨(some (sl 65)), (some ((sl 62), true)), (.bin .neq (.s (sl 64)) (.c (.int .u64 0))), none⟩, ⟨(some (sl 66)), none, (.pick (.s (sl 62)) (.s (sl 65)) (.c (.bool false))), none⟩, ⟨(some (sl 58)), none, (.mv (.s (sl 66))), none⟩])
  (.cond (.s (sl 58))
  (.seq (.reg [⟨(some (sl 4)), none, (.mv (.c (.bool false))), none⟩])
  .ret)
  (.seq (.reg [⟨(some (sl 68)), none, (.fld (.s (sl 2)) 0), none⟩, ⟨(some (sl 69)), none, (.ld true (.s (sl 68)) none), none⟩, ⟨(some (sl 70)), none, (.bin .neq (.s (sl 69)) (.c (.int .i64 14))), none⟩, ⟨(some (sl 71)), none, (.mv (.s (sl 70))), none⟩, ⟨(some (sl 72)), (some ((sl 71), true)), (.fld (.s (sl 2)) 5), none⟩, ⟨(some (sl 73)), (some ((sl 71), true)), (.ld true (.s (sl 72)) none), none⟩, ⟨(some (sl 74)), (some ((sl 71), true)), (.len false (.s (sl 73))), none⟩, ⟨(some (sl 75)), (some ((sl 71), true)), (.bin .gtr (.s (sl 74)) (.c (.int .i64 0))), none⟩, ⟨(some (sl 76)), none, (.pick (.s (sl 71)) (.s (sl 75)) (.c (.bool false))), none⟩, ⟨(some (sl 77)), none, (.mv (.s (sl 76))), none⟩, ⟨(some (sl 78)), (some ((sl 77), false)), (.fld (.s (sl 2)) 5), none⟩, ⟨(some (sl 79)), (some ((sl 77), false)), (.ld true (.s (sl 78)) none), none⟩, ⟨(some (sl 80)), (some ((sl 77), false)), (.len false (.s (sl 79))), none⟩, ⟨(some (sl 81)), (some ((sl 77), false)), (.bin .gtr (.s (sl 80)) (.c (.int .i64 6))), none⟩, ⟨(some (sl 82)), none, (.pick (.s (sl 77)) (.c (.bool true)) (.s (sl 81))), none⟩, ⟨(some (sl 67)), none, (.mv (.s (sl 82))), none⟩])
  (.cond (.s (sl 67))
  (.seq (.reg [⟨(some (sl 4)), none, (.mv (.c (.bool false))), none⟩])
  .ret)
  .skip)))))))
  (.seq (.seq (.reg [⟨(some (sl 83)), none, (.ld true (.s (sl 2)) (some 6)), none⟩, ⟨(some (sl 84)), none, (.call true (.f 47) [(.s (sl 83))]), none⟩])
  (.cond (.s (sl 84))
  (.seq (.reg [⟨(some (sl 85)), none, (.fld (.s (sl 2)) 4), none⟩, ⟨(some (sl 86)), none, (.ld true (.s (sl 85)) none), none⟩, ⟨(some (sl 87)), none, (.call true (.f 52) [(.s (sl 86))]), none⟩, ⟨(some (sl 4)), none, (.mv (.s (sl 87))), none⟩])
  .ret)
  .skip))
  (.seq (.reg [⟨(some (sl 88)), none, (.fld (.s (sl 2)) 4), none⟩, ⟨(some (sl 89)), none, (.ld true (.s (sl 88)) none), none⟩, ⟨(some (sl 90)), none, (.bin .eql (.s (sl 89)) (.c (.string ⟨#[]⟩))), none⟩, ⟨(some (sl 4)), none, (.mv (.s (sl 90))), none⟩])
  .ret)))))))
def r_ir_Inst : List ARes := [(.tmp (sl 4))]
theorem t_ir_Inst : (Try.f59).body.bind (trCode Try.prog 8 (Try.f59).ntmps [] [] (drOk 8)) = some c_ir_Inst := by kernel_rfl
theorem u_ir_Inst : trRess Try.prog 8 (Try.f59).results.toList = some r_ir_Inst := by kernel_rfl

/-- marline/ir.Values -/
def c_ir_Values : ACode :=
  (.seq (.reg [⟨(some (sl 1)), none, (.box true (.s (sl 0))), none⟩, ⟨(some (sl 2)), none, (.mv (.c (.int .i64 0))), none⟩])
  (.seq (.reg [⟨(some (sl 3)), none, (.fld (.s (sl 1)) 0), none⟩, ⟨(some (sl 4)), none, (.ld true (.s (sl 3)) none), none⟩, ⟨(some (sl 5)), none, (.fld (.s (sl 1)) 1), none⟩, ⟨(some (sl 6)), none, (.ld true (.s (sl 5)) none), none⟩, ⟨(some (sl 7)), none, (.len false (.s (sl 6))), none⟩, ⟨(some (sl 8)), none, (.bin .add (.s (sl 4)) (.s (sl 7))), none⟩, ⟨(some (sl 2)), none, (.mv (.s (sl 8))), none⟩])
  .ret))
def r_ir_Values : List ARes := [(.tmp (sl 2))]
theorem t_ir_Values : (Try.f65).body.bind (trCode Try.prog 8 (Try.f65).ntmps [] [] (drOk 8)) = some c_ir_Values := by kernel_rfl
theorem u_ir_Values : trRess Try.prog 8 (Try.f65).results.toList = some r_ir_Values := by kernel_rfl

/-- marline/ir.Func -/
def c_ir_Func : ACode :=
  (.seq (.reg [⟨(some (sl 1)), none, (.box true (.s (sl 0))), none⟩, ⟨(some (sl 2)), none, (.mv (.c (.bool false))), none⟩])
  (.seq (.seq (.reg [⟨(some (sl 3)), none, (.fld (.s (sl 1)) 0), none⟩, ⟨(some (sl 4)), none, (.ld true (.s (sl 3)) none), none⟩, ⟨(some (sl 5)), none, (.call true (.f 52) [(.s (sl 4))]), none⟩, ⟨(some (sl 6)), none, (.not (.s (sl 5))), none⟩, ⟨(some (sl 7)), none, (.mv (.s (sl 6))), none⟩, ⟨(some (sl 8)), (some ((sl 7), false)), (.fld (.s (sl 1)) 1), none⟩, ⟨(some (sl 9)), (some ((sl 7), false)), (.ld true (.s (sl 8)) none), none⟩, ⟨(some (sl 10)), (some ((sl 7), false)), (.bin .lss (.s (sl 9)) (.c (.int .i64 1))), none⟩, ⟨(some (sl 11)), none, (.pick (.s (sl 7)) (.c (.bool true)) (.s (sl 10))), none⟩, ⟨(some (sl 12)), none, (.mv (.s (sl 11))), none⟩, ⟨(some (sl 13)), (some ((sl 12), false)), (.fld (.s (sl 1)) 1), none⟩, ⟨(some (sl 14)), (some ((sl 12), false)), (.ld true (.s (sl 13)) none), none⟩, ⟨(some (sl 15)), (some ((sl 12), false)), (.bin .gtr (.s (sl 14)) (.c (.int .i64 3))), none⟩, ⟨(some (sl 16)), none, (.pick (.s (sl 12)) (.c (.bool true)) (.s (sl 15))), none⟩, ⟨(some (sl 17)), none, (.mv (.s (sl 16))), none⟩, ⟨(some (sl 18)), (some ((sl 17), false)), (.fld (.s (sl 1)) 2), none⟩, ⟨(some (sl 19)), (some ((sl 17), false)), (.ld true (.s (sl 18)) none), none⟩, ⟨(some (sl 20)), (some ((sl 17), false)), (.bin .lss (.s (sl 19)) (.c (.int .i64 0))), none⟩, ⟨(some (sl 21)), none, (.pick (.s (sl 17)) (.c (.bool true)) (.s (sl 20))), none⟩, ⟨(some (sl 22)), none, (.mv (.s (sl 21))), none⟩, ⟨(some (sl 23)), (some ((sl 22), false)), (.fld (.s (sl 1)) 2), none⟩, ⟨(some (sl 24)), (some ((sl 22), false)), (.ld true (.s (sl 23)) none), none⟩, ⟨(some (sl 25)), (some ((sl 22), false)), (.bin .gtr (.s (sl 24)) (.c (.int .i64 6))), none⟩, ⟨(some (sl 26)), none, (.pick (.s (sl 22)) (.c (.bool true)) (.s (sl 25))), none⟩, ⟨(some (sl 27)), none, (.mv (.s (sl 26))), none⟩, ⟨(some (sl 28)), (some ((sl 27), false)), (.fld (.s (sl 1)) 3), none⟩, ⟨(some (sl 29)), (some ((sl 27), false)), (.ld true (.s (sl 28)) none), none⟩, ⟨(some (sl 30)), (some ((sl 27), false)), (.len false (.s (sl 29))), none⟩, ⟨(some (sl 31)), (some ((sl 27), false)), (.bin .gtr (.s (sl 30)) (.c (.int .i64 16))), none⟩, ⟨(some (sl 32)), none, (.pick (.s (sl 27)) (.c (.bool true)) (.s (sl 31))), none⟩])
  (.cond (.s (sl 32))
  (.seq (.reg [⟨(some (sl 2)), none, (.mv (.c (.bool false))), none⟩])
  .ret)
  .skip))
  (.seq (.seq (.reg [⟨(some (sl 33)), none, (.fld (.s (sl 1)) 3), none⟩, ⟨(some (sl 34)), none, (.ld true (.s (sl 33)) none), none⟩, ⟨(some (sl 35)), none, (.len false (.s (sl 34))), none⟩, ⟨(some (sl 36)), none, (.bin .eql (.s (sl 35)) (.c (.int .i64 0))), none⟩])
  (.cond (.s (sl 36))
  (.seq (.reg [⟨(some (sl 37)), none, (.fld (.s (sl 1)) 1), none⟩, ⟨(some (sl 38)), none, (.ld true (.s (sl 37)) none), none⟩, ⟨(some (sl 39)), none, (.bin .neq (.s (sl 38)) (.c (.int .i64 1))), none⟩, ⟨(some (sl 2)), none, (.mv (.s (sl 39))), none⟩])
  .ret)
  .skip))
  (.seq (.reg [⟨(some (sl 40)), none, (.fld (.s (sl 1)) 3), (some (0, []))⟩, ⟨(some (sl 41)), none, (.ld true (.s (sl 40)) none), (some (1, []))⟩, ⟨(some (sl 42)), none, (.idx true (.s (sl 41)) (.c (.int .i64 0)) 8), (some (2, []))⟩, ⟨(some (sl 43)), none, (.fld (.s (sl 42)) 0), (some (3, []))⟩, ⟨(some (sl 44)), none, (.ld true (.s (sl 43)) none), (some (4, []))⟩, ⟨(some (sl 45)), none, (.fld (.s (sl 1)) 2), (some (5, []))⟩, ⟨(some (sl 46)), none, (.ld true (.s (sl 45)) none), (some (6, []))⟩, ⟨(some (sl 47)), none, (.bin .eql (.s (sl 44)) (.s (sl 46))), (some (7, []))⟩, ⟨(some (sl 48)), none, (.mv (.s (sl 47))), (some (8, []))⟩, ⟨(some (sl 49)), (some ((sl 48), true)), (.fld (.s (sl 1)) 3), (some (9, []))⟩, ⟨(some (sl 50)), (some ((sl 48), true)), (.ld true (.s (sl 49)) none), (some (10, []))⟩, ⟨(some (sl 51)), (some ((sl 48), true)), (.mkfn 54 [(.s (sl 1))]), (some (11, []))⟩, ⟨(some (sl 52)), (some ((sl 48), true)), (.call true (.f 53) [(.s (sl 50)), (.s (sl 51))]), (some (12, []))⟩, ⟨(some (sl 53)), (some ((sl 48), true)), (.not (.s (sl 52))), (some (13, []))⟩, ⟨(some (sl 54)), none, (.pick (.s (sl 48)) (.s (sl 53)) (.c (.bool false))), (some (14, []))⟩, ⟨(some (sl 2)), none, (.mv (.s (sl 54))), (some (15, []))⟩])
  .ret))))
def r_ir_Func : List ARes := [(.tmp (sl 2))]
theorem t_ir_Func : (Try.f40).body.bind (trCode Try.prog 8 (Try.f40).ntmps [] [] (drOk 8)) = some c_ir_Func := by kernel_rfl
theorem u_ir_Func : trRess Try.prog 8 (Try.f40).results.toList = some r_ir_Func := by kernel_rfl

/-- slices.Clone[[]int,int] -/
def c_slices_Clone___int_int_ : ACode :=
  (.seq (.reg [⟨(some (sl 2)), none, (.mv (.c (.slice none 0 0))), none⟩])
  (.seq (.seq (.reg [⟨(some (sl 3)), none, (.mv (.s (sl 0))), none⟩, ⟨(some (sl 4)), none, (.isnil false (.s (sl 3))), none⟩])
  (.cond (.s (sl 4))
  (.seq (.reg [⟨(some (sl 2)), none, (.mv (.c (.slice none 0 0))), none⟩])
  .ret)
  .skip))
  (.seq (.reg [⟨(some (sl 5)), none, (.nrow 3 1), none⟩, ⟨(some (sl 6)), none, (.mv (.s (sl 0))), none⟩, ⟨(some (sl 7)), none, (.app 3 1 8 (.s (sl 5)) (.s (sl 6))), none⟩, ⟨(some (sl 2)), none, (.mv (.s (sl 7))), none⟩])
  .ret)))
def r_slices_Clone___int_int_ : List ARes := [(.tmp (sl 2))]
theorem t_slices_Clone___int_int_ : (Try.f71).body.bind (trCode Try.prog 8 (Try.f71).ntmps [2, 7] [] (drOk 8)) = some c_slices_Clone___int_int_ := by kernel_rfl
theorem u_slices_Clone___int_int_ : trRess Try.prog 8 (Try.f71).results.toList = some r_slices_Clone___int_int_ := by kernel_rfl

/-- marline/ir.all -/
def c_ir_all : ACode :=
  (.seq (.reg [⟨(some (sl 3)), none, (.box true (.s (sl 1))), none⟩, ⟨(some (sl 4)), none, (.mv (.c (.bool false))), none⟩])
  (.seq (.reg [⟨(some (sl 5)), none, (.mv (.s (sl 0))), none⟩, ⟨(some (sl 6)), none, (.mkfn 70 [(.s (sl 3))]), none⟩, ⟨(some (sl 7)), none, (.call true (.f 69) [(.s (sl 5)), (.s (sl 6))]), none⟩, ⟨(some (sl 8)), none, (.not (.s (sl 7))), none⟩, ⟨(some (sl 4)), none, (.mv (.s (sl 8))), none⟩])
  .ret))
def r_ir_all : List ARes := [(.tmp (sl 4))]
theorem t_ir_all : (Try.f63).body.bind (trCode Try.prog 8 (Try.f63).ntmps [] [] (drOk 8)) = some c_ir_all := by kernel_rfl
theorem u_ir_all : trRess Try.prog 8 (Try.f63).results.toList = some r_ir_all := by kernel_rfl

/-- marline/ir.named -/
def c_ir_named : ACode :=
  (.seq (.reg [⟨(some (sl 1)), none, (.box true (.s (sl 0))), none⟩, ⟨(some (sl 2)), none, (.mv (.c (.bool false))), none⟩])
  (.seq (.reg [⟨(some (sl 3)), none, (.fld (.s (sl 1)) 0), none⟩, ⟨(some (sl 4)), none, (.ld true (.s (sl 3)) none), none⟩, ⟨(some (sl 5)), none, (.bin .eql (.s (sl 4)) (.c (.int .i64 12))), none⟩, ⟨(some (sl 6)), none, (.mv (.s (sl 5))), none⟩, ⟨(some (sl 7)), (some ((sl 6), false)), (.fld (.s (sl 1)) 0), none⟩, ⟨(some (sl 8)), (some ((sl 6), false)), (.ld true (.s (sl 7)) none), none⟩, ⟨(some (sl 9)), (some ((sl 6), false)), (.bin .eql (.s (sl 8)) (.c (.int .i64 13))), none⟩, ⟨(some (sl 10)), none, (.pick (.s (sl 6)) (.c (.bool true)) (.s (sl 9))), none⟩, ⟨(some (sl 11)), none, (.mv (.s (sl 10))), none⟩, ⟨(some (sl 12)), (some ((sl 11), false)), (.fld (.s (sl 1)) 0), none⟩, ⟨(some (sl 13)), (some ((sl 11), false)), (.ld true (.s (sl 12)) none), none⟩, ⟨(some (sl 14)), (some ((sl 11), false)), (.bin .eql (.s (sl 13)) (.c (.int .i64 14))), none⟩, ⟨(some (sl 15)), none, (.pick (.s (sl 11)) (.c (.bool true)) (.s (sl 14))), none⟩, ⟨(some (sl 2)), none, (.mv (.s (sl 15))), none⟩])
  .ret))
def r_ir_named : List ARes := [(.tmp (sl 2))]
theorem t_ir_named : (Try.f47).body.bind (trCode Try.prog 8 (Try.f47).ntmps [] [] (drOk 8)) = some c_ir_named := by kernel_rfl
theorem u_ir_named : trRess Try.prog 8 (Try.f47).results.toList = some r_ir_named := by kernel_rfl

/-- marline/ir.name -/
def c_ir_name : ACode :=
  (.seq (.reg [⟨(some (sl 2)), none, (.mv (.c (.bool false))), none⟩])
  (.seq (.reg [⟨(some (sl 3)), none, (.mv (.s (sl 0))), none⟩, ⟨(some (sl 4)), none, (.bin .neq (.s (sl 3)) (.c (.string ⟨#[]⟩))), none⟩, ⟨(some (sl 5)), none, (.mv (.s (sl 4))), none⟩, ⟨(some (sl 6)), (some ((sl 5), true)), (.mv (.s (sl 0))), none⟩, ⟨(some (sl 7)), (some ((sl 5), true)), (.len true (.s (sl 6))), none⟩, ⟨(some (sl 8)), (some ((sl 5), true)), (.bin .leq (.s (sl 7)) (.c (.int .i64 16))), none⟩, ⟨(some (sl 9)), none, (.pick (.s (sl 5)) (.s (sl 8)) (.c (.bool false))), none⟩, ⟨(some (sl 2)), none, (.mv (.s (sl 9))), none⟩])
  .ret))
def r_ir_name : List ARes := [(.tmp (sl 2))]
theorem t_ir_name : (Try.f52).body.bind (trCode Try.prog 8 (Try.f52).ntmps [] [] (drOk 8)) = some c_ir_name := by kernel_rfl
theorem u_ir_name : trRess Try.prog 8 (Try.f52).results.toList = some r_ir_name := by kernel_rfl

/-- marline/ir.block -/
def c_ir_block : ACode :=
  (.seq (.reg [⟨(some (sl 2)), none, (.box true (.s (sl 0))), none⟩, ⟨(some (sl 3)), none, (.box true (.s (sl 1))), none⟩, ⟨(some (sl 4)), none, (.mv (.c (.bool false))), none⟩])
  (.seq (.seq (.reg [⟨(some (sl 7)), none, (.fld (.s (sl 3)) 0), none⟩, ⟨(some (sl 8)), none, (.ld true (.s (sl 7)) none), none⟩, ⟨(some (sl 9)), none, (.bin .lss (.s (sl 8)) (.c (.int .i64 0))), none⟩, ⟨(some (sl 10)), none, (.mv (.s (sl 9))), none⟩, ⟨(some (sl 11)), (some ((sl 10), false)), (.fld (.s (sl 3)) 0), none⟩, ⟨(some (sl 12)), (some ((sl 10), false)), (.ld true (.s (sl 11)) none), none⟩, ⟨(some (sl 13)), (some ((sl 10), false)), (.bin .gtr (.s (sl 12)) (.c (.int .i64 6))), none⟩, ⟨(some (sl 14)), none, (.pick (.s (sl 10)) (.c (.bool true)) (.s (sl 13))), none⟩, ⟨(some (sl 15)), none, (.mv (.s (sl 14))), none⟩, ⟨(some (sl 16)), (some ((sl 15), false)), (.fld (.s (sl 3)) 1), none⟩, ⟨(some (sl 17)), (some ((sl 15), false)), (.ld true (.s (sl 16)) none), none⟩, ⟨(some (sl 18)), (some ((sl 15), false)), (.len false (.s (sl 17))), none⟩, ⟨(some (sl 19)), (some ((sl 15), false)), (.bin .gtr (.s (sl 18)) (.c (.int .i64 32))), none⟩, ⟨(some (sl 20)), none, (.pick (.s (sl 15)) (.c (.bool true)) (.s (sl 19))), none⟩])
  (.cond (.s (sl 20))
  (.seq (.reg [⟨(some (sl 4)), none, (.mv (.c (.bool false))), none⟩])
  .ret)
  .skip))
  (.seq (.seq (.reg [⟨(some (sl 21)), none, (.fld (.s (sl 3)) 1), none⟩, ⟨(some (sl 22)), none, (.ld true (.s (sl 21)) none), none⟩, ⟨(some (sl 23)), none, (.len false (.s (sl 22))), none⟩, ⟨(some (sl 24)), none, (.mv (.c (.int .i64 0))), none⟩])
  (.block 0
  (.loop (.seq (.reg [⟨(some (sl 25)), none, (.bin .lss (.s (sl 24)) (.s (sl 23))), none⟩])
  (.seq (.cond (.s (sl 25))
  .skip
  (.exit 0))
  (.seq (.block 1
  (.seq (.seq (.reg [⟨(some (sl 26)), none, (.mv (.s (sl 24))), none⟩, ⟨(some (sl 27)), none, (.idx true (.s (sl 22)) (.s (sl 24)) 6), none⟩, ⟨(some (sl 28)), none, (.ld true (.s (sl 27)) (some 6)), none⟩, ⟨(some (sl 6)), none, (.new [(.int .i64 0), (.int .i64 0), (.int .i64 0), (.int .u64 0), (.string ⟨#[]⟩), (.slice none 0 0)]), none⟩, ⟨(some (sl 5)), none, (.mv (.s (sl 26))), none⟩, ⟨none, none, (.ini 2 (.s (sl 6)) (.s (sl 28)) 6), none⟩])
  (.frz (sl 6)))
  (.seq (.reg [⟨(some (sl 29)), none, (.ld true (.s (sl 6)) (some 6)), none⟩, ⟨(some (sl 30)), none, (.fld (.s (sl 3)) 0), none⟩, ⟨(some (sl 31)), none, (.ld true (.s (sl 30)) none), none⟩, ⟨(some (sl 32)), none, (.mv (.s (sl 5))), none⟩, ⟨(some (sl 33)), none, (.bin .add (.s (sl 31)) (.s (sl 32))), none⟩, ⟨(some (sl 34)), none, (.call true (.f 59) [(.s (sl 29)), (.s (sl 33))]), none⟩, ⟨(some (sl 35)), none, (.not (.s (sl 34))), none⟩])
  (.cond (.s (sl 35))
  (.seq (.reg [⟨(some (sl 4)), none, (.mv (.c (.bool false))), none⟩])
  .ret)
  .skip))))
  (.reg [⟨(some (sl 36)), none, (.bin .add (.s (sl 24)) (.c (.int .i64 1))), none⟩, ⟨(some (sl 24)), none, (.mv (.s (sl 36))), none⟩])))))))
  (.seq (.reg [⟨(some (sl 37)), none, (.ld true (.s (sl 2)) (some 4)), none⟩, ⟨(some (sl 38)), none, (.ld true (.s (sl 3)) (some 8)), none⟩, ⟨(some (sl 39)), none, (.call true (.f 60) [(.s (sl 37)), (.s (sl 38))]), none⟩, ⟨(some (sl 4)), none, (.mv (.s (sl 39))), none⟩])
  .ret))))
def r_ir_block : List ARes := [(.tmp (sl 4))]
theorem t_ir_block : (Try.f55).body.bind (trCode Try.prog 8 (Try.f55).ntmps [] [] (drOk 8)) = some c_ir_block := by kernel_rfl
theorem u_ir_block : trRess Try.prog 8 (Try.f55).results.toList = some r_ir_block := by kernel_rfl

/-- slices.ContainsFunc[[]int,int] -/
def c_slices_ContainsFunc___int_int_ : ACode :=
  (.seq (.reg [⟨(some (sl 4)), none, (.mv (.c (.bool false))), none⟩])
  (.seq (.reg [⟨(some (sl 5)), none, (.mv (.s (sl 0))), none⟩, ⟨(some (sl 6)), none, (.mv (.s (sl 1))), none⟩, ⟨(some (sl 7)), none, (.call true (.f 72) [(.s (sl 5)), (.s (sl 6))]), none⟩, ⟨(some (sl 8)), none, (.bin .geq (.s (sl 7)) (.c (.int .i64 0))), none⟩, ⟨(some (sl 4)), none, (.mv (.s (sl 8))), none⟩])
  .ret))
def r_slices_ContainsFunc___int_int_ : List ARes := [(.tmp (sl 4))]
theorem t_slices_ContainsFunc___int_int_ : (Try.f69).body.bind (trCode Try.prog 8 (Try.f69).ntmps [] [] (drOk 8)) = some c_slices_ContainsFunc___int_int_ := by kernel_rfl
theorem u_slices_ContainsFunc___int_int_ : trRess Try.prog 8 (Try.f69).results.toList = some r_slices_ContainsFunc___int_int_ := by kernel_rfl

/-- marline/ir.all$1 -/
def c_ir_all_1 : ACode :=
  (.seq (.reg [⟨(some (sl 3)), none, (.mv (.c (.bool false))), none⟩])
  (.seq (.reg [⟨(some (sl 4)), none, (.mv (.s (sl 0))), none⟩, ⟨(some (sl 5)), none, (.bin .lss (.s (sl 4)) (.c (.int .i64 0))), none⟩, ⟨(some (sl 6)), none, (.mv (.s (sl 5))), none⟩, ⟨(some (sl 7)), (some ((sl 6), false)), (.mv (.s (sl 0))), none⟩, ⟨(some (sl 8)), (some ((sl 6), false)), (.ld true (.s (sl 1)) none), none⟩, ⟨(some (sl 9)), (some ((sl 6), false)), (.bin .geq (.s (sl 7)) (.s (sl 8))), none⟩, ⟨(some (sl 10)), none, (.pick (.s (sl 6)) (.c (.bool true)) (.s (sl 9))), none⟩, ⟨(some (sl 3)), none, (.mv (.s (sl 10))), none⟩])
  .ret))
def r_ir_all_1 : List ARes := [(.tmp (sl 3))]
theorem t_ir_all_1 : (Try.f70).body.bind (trCode Try.prog 8 (Try.f70).ntmps [] [] (drOk 8)) = some c_ir_all_1 := by kernel_rfl
theorem u_ir_all_1 : trRess Try.prog 8 (Try.f70).results.toList = some r_ir_all_1 := by kernel_rfl

/-- slices.IndexFunc[[]marline/api.Block,marline/api.Block] -/
def c_slices_IndexFunc___api_Block_api_Block_ : ACode :=
  (.seq (.reg [⟨(some (sl 4)), none, (.mv (.c (.int .i64 0))), none⟩])
  (.seq (.seq (.reg [⟨(some (sl 6)), none, (.mv (.s (sl 0))), none⟩, ⟨(some (sl 7)), none, (.len false (.s (sl 6))), none⟩, ⟨(some (sl 8)), none, (.mv (.c (.int .i64 0))), none⟩])
  (.block 0
  (.loop (.seq (.reg [⟨(some (sl 9)), none, (.bin .lss (.s (sl 8)) (.s (sl 7))), none⟩])
  (.seq (.cond (.s (sl 9))
  .skip
  (.exit 0))
  (.seq (.block 1
  (.seq (.reg [⟨(some (sl 10)), none, (.mv (.s (sl 8))), none⟩, ⟨(some (sl 5)), none, (.mv (.s (sl 10))), none⟩])
  (.seq (.reg [⟨(some (sl 11)), none, (.mv (.s (sl 1))), none⟩, ⟨(some (sl 12)), none, (.mv (.s (sl 0))), none⟩, ⟨(some (sl 13)), none, (.mv (.s (sl 5))), none⟩, ⟨(some (sl 14)), none, (.idx true (.s (sl 12)) (.s (sl 13)) 8), none⟩, ⟨(some (sl 15)), none, (.ld true (.s (sl 14)) (some 8)), none⟩, ⟨(some (sl 16)), none, (.call true (.s (sl 11)) [(.s (sl 15))]), none⟩])
  (.cond (.s (sl 16))
  (.seq (.reg [⟨(some (sl 17)), none, (.mv (.s (sl 5))), none⟩, ⟨(some (sl 4)), none, (.mv (.s (sl 17))), none⟩])
  .ret)
  .skip))))
  (.reg [⟨(some (sl 18)), none, (.bin .add (.s (sl 8)) (.c (.int .i64 1))), none⟩, ⟨(some (sl 8)), none, (.mv (.s (sl 18))), none⟩])))))))
  (.seq (.reg [⟨(some (sl 4)), none, (.mv (.c (.int .i64 (-1)))), none⟩])
  .ret)))
def r_slices_IndexFunc___api_Block_api_Block_ : List ARes := [(.tmp (sl 4))]
theorem t_slices_IndexFunc___api_Block_api_Block_ : (Try.f58).body.bind (trCode Try.prog 8 (Try.f58).ntmps [] [] (drOk 8)) = some c_slices_IndexFunc___api_Block_api_Block_ := by kernel_rfl
theorem u_slices_IndexFunc___api_Block_api_Block_ : trRess Try.prog 8 (Try.f58).results.toList = some r_slices_IndexFunc___api_Block_api_Block_ := by kernel_rfl

/-- marline/ir.end -/
def c_ir_end : ACode :=
  (.seq (.reg [⟨(some (sl 2)), none, (.box true (.s (sl 0))), none⟩, ⟨(some (sl 3)), none, (.box true (.s (sl 1))), none⟩, ⟨(some (sl 4)), none, (.mv (.c (.bool false))), none⟩])
  (.seq (.seq (.reg [⟨(some (sl 9)), none, (.ld true (.s (sl 3)) (some 8)), none⟩, ⟨(some (sl 10)), none, (.call true (.f 65) [(.s (sl 9))]), none⟩, ⟨(some (sl 5)), none, (.new [(.int .i64 0)]), none⟩, ⟨none, none, (.ini 1 (.s (sl 5)) (.s (sl 10)) 1), none⟩])
  (.frz (sl 5)))
  (.seq (.reg [⟨(some (sl 11)), none, (.mkfn 66 [(.s (sl 2)), (.s (sl 5))]), none⟩, ⟨(some (sl 6)), none, (.mv (.s (sl 11))), none⟩])
  (.seq (.seq (.reg [⟨(some (sl 12)), none, (.fld (.s (sl 3)) 2), none⟩, ⟨(some (sl 13)), none, (.ld true (.s (sl 12)) (some 6)), none⟩, ⟨(some (sl 7)), none, (.new [(.int .i64 0), (.int .i64 0), (.int .i64 0), (.slice none 0 0), (.int .i64 0), (.slice none 0 0)]), none⟩, ⟨none, none, (.ini 1 (.s (sl 7)) (.s (sl 13)) 6), none⟩])
  (.frz (sl 7)))
  (.seq (.reg [⟨(some (sl 14)), none, (.fld (.s (sl 7)) 4), none⟩, ⟨(some (sl 15)), none, (.ld true (.s (sl 14)) none), none⟩, ⟨(some (sl 16)), none, (.bin .eql (.s (sl 15)) (.c (.int .i64 0))), none⟩, ⟨(some (sl 17)), none, (.mv (.s (sl 16))), none⟩, ⟨(some (sl 18)), (some ((sl 17), true)), (.fld (.s (sl 7)) 5), none⟩, ⟨(some (sl 19)), (some ((sl 17), true)), (.ld true (.s (sl 18)) none), none⟩, ⟨(some (sl 20)), (some ((sl 17), true)), (.len false (.s (sl 19))), none⟩, ⟨(some (sl 21)), (some ((sl 17), true)), (.bin .eql (.s (sl 20)) (.c (.int .i64 0))), none⟩, ⟨(some (sl 22)), none, (.pick (.s (sl 17)) (.s (sl 21)) (.c (.bool false))), none⟩, ⟨(some (sl 8)), none, (.mv (.s (sl 22))), none⟩])
  (.seq (.seq (.reg [⟨(some (sl 23)), none, (.fld (.s (sl 7)) 0), none⟩, ⟨(some (sl 24)), none, (.ld true (.s (sl 23)) none), none⟩])
  (.block 0
  (.seq (.reg [⟨(some (sl 26)), none, (.bin .eql (.s (sl 24)) (.c (.int .i64 1))), none⟩, ⟨(some (sl 25)), none, (.mv (.s (sl 26))), none⟩])
  (.cond (.s (sl 25))
  (.seq (.reg [⟨(some (sl 27)), none, (.fld (.s (sl 7)) 1), none⟩, ⟨(some (sl 28)), none, (.ld true (.s (sl 27)) none), none⟩, ⟨(some (sl 29)), none, (.bin .eql (.s (sl 28)) (.c (.int .i64 0))), none⟩, ⟨(some (sl 30)), none, (.mv (.s (sl 29))), none⟩, ⟨(some (sl 31)), (some ((sl 30), true)), (.mv (.s (sl 8))), none⟩, ⟨(some (sl 32)), none, (.pick (.s (sl 30)) (.s (sl 31)) (.c (.bool false))), none⟩, ⟨(some (sl 33)), none, (.mv (.s (sl 32))), none⟩, ⟨(some (sl 34)), (some ((sl 33), true)), (.mv (.s (sl 6))), none⟩, ⟨(some (sl 35)), (some ((sl 33), true)), (.fld (.s (sl 7)) 2), none⟩, ⟨(some (sl 36)), (some ((sl 33), true)), (.ld true (.s (sl 35)) none), none⟩, ⟨(some (sl 37)), (some ((sl 33), true)), (.fld (.s (sl 7)) 3), none⟩, ⟨(some (sl 38)), (some ((sl 33), true)), (.ld true (.s (sl 37)) none), none⟩, ⟨(some (sl 39)), (some ((sl 33), true)), (.call true (.s (sl 34)) [(.s (sl 36)), (.s (sl 38))]), none⟩, ⟨(some (sl 40)), none, (.pick (.s (sl 33)) (.s (sl 39)) (.c (.bool false))), none⟩, ⟨(some (sl 4)), none, (.mv (.s (sl 40))), none⟩])
  .ret)
  (.seq (.reg [⟨(some (sl 42)), none, (.bin .eql (.s (sl 24)) (.c (.int .i64 2))), none⟩, ⟨(some (sl 41)), none, (.mv (.s (sl 42))), none⟩])
  (.cond (.s (sl 41))
  (.seq (.reg [⟨(some (sl 43)), none, (.fld (.s (sl 7)) 1), none⟩, ⟨(some (sl 44)), none, (.ld true (.s (sl 43)) none), none⟩, ⟨(some (sl 45)), none, (.mksl 1 1 [(.int .i64 0)] [(0, 1, (.s (sl 44)))]), none⟩, ⟨(some (sl 46)), none, (.ld true (.s (sl 5)) none), none⟩, ⟨(some (sl 47)), none, (.call true (.f 63) [(.s (sl 45)), (.s (sl 46))]), none⟩, ⟨(some (sl 48)), none, (.mv (.s (sl 47))), none⟩, ⟨(some (sl 49)), (some ((sl 48), true)), (.mv (.s (sl 6))), none⟩, ⟨(some (sl 50)), (some ((sl 48), true)), (.fld (.s (sl 7)) 2), none⟩, ⟨(some (sl 51)), (some ((sl 48), true)), (.ld true (.s (sl 50)) none), none⟩, ⟨(some (sl 52)), (some ((sl 48), true)), (.fld (.s (sl 7)) 3), none⟩, ⟨(some (sl 53)), (some ((sl 48), true)), (.ld true (.s (sl 52)) none), none⟩, ⟨(some (sl 54)), (some ((sl 48), true)), (.call true (.s (sl 49)) [(.s (sl 51)), (.s (sl 53))]), none⟩, ⟨(some (sl 55)), none, (.pick (.s (sl 48)) (.s (sl 54)) (.c (.bool false))), none⟩, ⟨(some (sl 56)), none, (.mv (.s (sl 55))), none⟩, ⟨(some (sl 57)), (some ((sl 56), true)), (.mv (.s (sl 6))), none⟩, ⟨(some (sl 58)), (some ((sl 56), true)), (.fld (.s (sl 7)) 4), none⟩, ⟨(some (sl 59)), (some ((sl 56), true)), (.ld true (.s (sl 58)) none), none⟩, ⟨(some (sl 60)), (some ((sl 56), true)), (.fld (.s (sl 7)) 5), none⟩, ⟨(some (sl 61)), (some ((sl 56), true)), (.ld true (.s (sl 60)) none), none⟩, ⟨(some (sl 62)), (some ((sl 56), true)), (.call true (.s (sl 57)) [(.s (sl 59)), (.s (sl 61))]), none⟩, ⟨(some (sl 63)), none, (.pick (.s (sl 56)) (.s (sl 62)) (.c (.bool false))), none⟩, ⟨(some (sl 4)), none, (.mv (.s (sl 63))), none⟩])
  .ret)
  (.seq (.reg [⟨(some (sl 65)), none, (.bin .eql (.s (sl 24)) (.c (.int .i64 3))), none⟩, ⟨(some (sl 64)), none, (.mv (.s (sl 65))), none⟩])
  (.cond (.s (sl 64))
  (.seq (.reg [⟨(some (sl 66)), none, (.fld (.s (sl 7)) 1), none⟩, ⟨(some (sl 67)), none, (.ld true (.s (sl 66)) none), none⟩, ⟨(some (sl 68)), none, (.mksl 1 1 [(.int .i64 0)] [(0, 1, (.s (sl 67)))]), none⟩, ⟨(some (sl 69)), none, (.ld true (.s (sl 5)) none), none⟩, ⟨(some (sl 70)), none, (.call true (.f 63) [(.s (sl 68)), (.s (sl 69))]), none⟩, ⟨(some (sl 71)), none, (.mv (.s (sl 70))), none⟩, ⟨(some (sl 72)), (some ((sl 71), true)), (.mv (.s (sl 8))), none⟩, ⟨(some (sl 73)), none, (.pick (.s (sl 71)) (.s (sl 72)) (.c (.bool false))), none⟩, ⟨(some (sl 74)), none, (.mv (.s (sl 73))), none⟩, ⟨(some (sl 75)), (some ((sl 74), true)), (.fld (.s (sl 7)) 2), none⟩, ⟨(some (sl 76)), (some ((sl 74), true)), (.ld true (.s (sl 75)) none), none⟩, ⟨(some (sl 77)), (some ((sl 74), true)), (.bin .eql (.s (sl 76)) (.c (.int .i64 0))), none⟩, ⟨(some (sl 78)), none, (.pick (.s (sl 74)) (.s (sl 77)) (.c (.bool false))), none⟩, ⟨(some (sl 79)), none, (.mv (.s (sl 78))), none⟩, ⟨(some (sl 80)), (some ((sl 79), true)), (.fld (.s (sl 7)) 3), none⟩, ⟨(some (sl 81)), (some ((sl 79), true)), (.ld true (.s (sl 80)) none), none⟩, ⟨(some (sl 82)), (some ((sl 79), true)), (.len false (.s (sl 81))), none⟩, ⟨(some (sl 83)), (some ((sl 79), true)), (.bin .eql (.s (sl 82)) (.c (.int .i64 0))), none⟩, ⟨(some (sl 84)), none, (.pick (.s (sl 79)) (.s (sl 83)) (.c (.bool false))), none⟩, ⟨(some (sl 4)), none, (.mv (.s (sl 84))), none⟩])
  .ret)
  .skip))))))))
  (.seq (.reg [⟨(some (sl 4)), none, (.mv (.c (.bool false))), none⟩])
  .ret)))))))
def r_ir_end : List ARes := [(.tmp (sl 4))]
theorem t_ir_end : (Try.f60).body.bind (trCode Try.prog 8 (Try.f60).ntmps [] [] (drOk 8)) = some c_ir_end := by kernel_rfl
theorem u_ir_end : trRess Try.prog 8 (Try.f60).results.toList = some r_ir_end := by kernel_rfl

/-- slices.IndexFunc[[]int,int] -/
def c_slices_IndexFunc___int_int_ : ACode :=
  (.seq (.reg [⟨(some (sl 4)), none, (.mv (.c (.int .i64 0))), none⟩])
  (.seq (.seq (.reg [⟨(some (sl 6)), none, (.mv (.s (sl 0))), none⟩, ⟨(some (sl 7)), none, (.len false (.s (sl 6))), none⟩, ⟨(some (sl 8)), none, (.mv (.c (.int .i64 0))), none⟩])
  (.block 0
  (.loop (.seq (.reg [⟨(some (sl 9)), none, (.bin .lss (.s (sl 8)) (.s (sl 7))), none⟩])
  (.seq (.cond (.s (sl 9))
  .skip
  (.exit 0))
  (.seq (.block 1
  (.seq (.reg [⟨(some (sl 10)), none, (.mv (.s (sl 8))), none⟩, ⟨(some (sl 5)), none, (.mv (.s (sl 10))), none⟩])
  (.seq (.reg [⟨(some (sl 11)), none, (.mv (.s (sl 1))), none⟩, ⟨(some (sl 12)), none, (.mv (.s (sl 0))), none⟩, ⟨(some (sl 13)), none, (.mv (.s (sl 5))), none⟩, ⟨(some (sl 14)), none, (.idx true (.s (sl 12)) (.s (sl 13)) 1), none⟩, ⟨(some (sl 15)), none, (.ld true (.s (sl 14)) none), none⟩, ⟨(some (sl 16)), none, (.call true (.s (sl 11)) [(.s (sl 15))]), none⟩])
  (.cond (.s (sl 16))
  (.seq (.reg [⟨(some (sl 17)), none, (.mv (.s (sl 5))), none⟩, ⟨(some (sl 4)), none, (.mv (.s (sl 17))), none⟩])
  .ret)
  .skip))))
  (.reg [⟨(some (sl 18)), none, (.bin .add (.s (sl 8)) (.c (.int .i64 1))), none⟩, ⟨(some (sl 8)), none, (.mv (.s (sl 18))), none⟩])))))))
  (.seq (.reg [⟨(some (sl 4)), none, (.mv (.c (.int .i64 (-1)))), none⟩])
  .ret)))
def r_slices_IndexFunc___int_int_ : List ARes := [(.tmp (sl 4))]
theorem t_slices_IndexFunc___int_int_ : (Try.f72).body.bind (trCode Try.prog 8 (Try.f72).ntmps [] [] (drOk 8)) = some c_slices_IndexFunc___int_int_ := by kernel_rfl
theorem u_slices_IndexFunc___int_int_ : trRess Try.prog 8 (Try.f72).results.toList = some r_slices_IndexFunc___int_int_ := by kernel_rfl

/-- marline/ir.end$1 -/
def c_ir_end_1 : ACode :=
  (.seq (.reg [⟨(some (sl 6)), none, (.mv (.c (.bool false))), none⟩])
  (.seq (.reg [⟨(some (sl 7)), none, (.mv (.s (sl 0))), none⟩, ⟨(some (sl 8)), none, (.bin .geq (.s (sl 7)) (.c (.int .i64 0))), none⟩, ⟨(some (sl 9)), none, (.mv (.s (sl 8))), none⟩, ⟨(some (sl 10)), (some ((sl 9), true)), (.mv (.s (sl 0))), none⟩, ⟨(some (sl 11)), (some ((sl 9), true)), (.fld (.s (sl 2)) 3), none⟩, ⟨(some (sl 12)), (some ((sl 9), true)), (.ld true (.s (sl 11)) none), none⟩, ⟨(some (sl 13)), (some ((sl 9), true)), (.len false (.s (sl 12))), none⟩, ⟨(some (sl 14)), (some ((sl 9), true)), (.bin .lss (.s (sl 10)) (.s (sl 13))), none⟩, ⟨(some (sl 15)), none, (.pick (.s (sl 9)) (.s (sl 14)) (.c (.bool false))), none⟩, ⟨(some (sl 16)), none, (.mv (.s (sl 15))), none⟩, ⟨(some (sl 17)), (some ((sl 16), true)), (.mv (.s (sl 1))), none⟩, ⟨(some (sl 18)), (some ((sl 16), true)), (.len false (.s (sl 17))), none⟩, ⟨(some (sl 19)), (some ((sl 16), true)), (.fld (.s (sl 2)) 3), none⟩, ⟨(some (sl 20)), (some ((sl 16), true)), (.ld true (.s (sl 19)) none), none⟩, ⟨(some (sl 21)), (some ((sl 16), true)), (.mv (.s (sl 0))), none⟩, ⟨(some (sl 22)), (some ((sl 16), true)), (.idx true (.s (sl 20)) (.s (sl 21)) 8), none⟩, ⟨(some (sl 23)), (some ((sl 16), true)), (.fld (.s (sl 22)) 0), none⟩, ⟨(some (sl 24)), (some ((sl 16), true)), (.ld true (.s (sl 23)) none), none⟩, ⟨(some (sl 25)), (some ((sl 16), true)), (.bin .eql (.s (sl 18)) (.s (sl 24))), none⟩, ⟨(some (sl 26)), none, (.pick (.s (sl 16)) (.s (sl 25)) (.c (.bool false))), none⟩, ⟨(some (sl 27)), none, (.mv (.s (sl 26))), none⟩, ⟨(some (sl 28)), (some ((sl 27), true)), (.mv (.s (sl 1))), none⟩, ⟨(some (sl 29)), (some ((sl 27), true)), (.ld true (.s (sl 3)) none), none⟩, ⟨(some (sl 30)), (some ((sl 27), true)), (.call true (.f 63) [(.s (sl 28)), (.s (sl 29))]), none⟩, ⟨(some (sl 31)), none, (.pick (.s (sl 27)) (.s (sl 30)) (.c (.bool false))), none⟩, ⟨(some (sl 6)), none, (.mv (.s (sl 31))), none⟩])
  .ret))
def r_ir_end_1 : List ARes := [(.tmp (sl 6))]
theorem t_ir_end_1 : (Try.f66).body.bind (trCode Try.prog 8 (Try.f66).ntmps [] [] (drOk 8)) = some c_ir_end_1 := by kernel_rfl
theorem u_ir_end_1 : trRess Try.prog 8 (Try.f66).results.toList = some r_ir_end_1 := by kernel_rfl

/-- slices.ContainsFunc[[]marline/api.Block,marline/api.Block] -/
def c_slices_ContainsFunc___api_Block_api_Block_ : ACode :=
  (.seq (.reg [⟨(some (sl 4)), none, (.mv (.c (.bool false))), none⟩])
  (.seq (.reg [⟨(some (sl 5)), none, (.mv (.s (sl 0))), none⟩, ⟨(some (sl 6)), none, (.mv (.s (sl 1))), none⟩, ⟨(some (sl 7)), none, (.call true (.f 58) [(.s (sl 5)), (.s (sl 6))]), none⟩, ⟨(some (sl 8)), none, (.bin .geq (.s (sl 7)) (.c (.int .i64 0))), none⟩, ⟨(some (sl 4)), none, (.mv (.s (sl 8))), none⟩])
  .ret))
def r_slices_ContainsFunc___api_Block_api_Block_ : List ARes := [(.tmp (sl 4))]
theorem t_slices_ContainsFunc___api_Block_api_Block_ : (Try.f53).body.bind (trCode Try.prog 8 (Try.f53).ntmps [] [] (drOk 8)) = some c_slices_ContainsFunc___api_Block_api_Block_ := by kernel_rfl
theorem u_slices_ContainsFunc___api_Block_api_Block_ : trRess Try.prog 8 (Try.f53).results.toList = some r_slices_ContainsFunc___api_Block_api_Block_ := by kernel_rfl

/-- marline/ir.Func$1 -/
def c_ir_Func_1 : ACode :=
  (.seq (.reg [⟨(some (sl 2)), none, (.box true (.s (sl 0))), none⟩, ⟨(some (sl 3)), none, (.mv (.c (.bool false))), none⟩])
  (.seq (.reg [⟨(some (sl 4)), none, (.ld true (.s (sl 1)) (some 4)), none⟩, ⟨(some (sl 5)), none, (.ld true (.s (sl 2)) (some 8)), none⟩, ⟨(some (sl 6)), none, (.call true (.f 55) [(.s (sl 4)), (.s (sl 5))]), none⟩, ⟨(some (sl 7)), none, (.not (.s (sl 6))), none⟩, ⟨(some (sl 3)), none, (.mv (.s (sl 7))), none⟩])
  .ret))
def r_ir_Func_1 : List ARes := [(.tmp (sl 3))]
theorem t_ir_Func_1 : (Try.f54).body.bind (trCode Try.prog 8 (Try.f54).ntmps [] [] (drOk 8)) = some c_ir_Func_1 := by kernel_rfl
theorem u_ir_Func_1 : trRess Try.prog 8 (Try.f54).results.toList = some r_ir_Func_1 := by kernel_rfl

/-- marline/ir.glob -/
def c_ir_glob : ACode :=
  (.seq (.reg [⟨(some (sl 1)), none, (.box true (.s (sl 0))), none⟩, ⟨(some (sl 2)), none, (.mv (.c (.bool false))), none⟩])
  (.seq (.reg [⟨(some (sl 3)), none, (.fld (.s (sl 1)) 0), none⟩, ⟨(some (sl 4)), none, (.ld true (.s (sl 3)) none), none⟩, ⟨(some (sl 5)), none, (.call true (.f 52) [(.s (sl 4))]), none⟩, ⟨(some (sl 6)), none, (.mv (.s (sl 5))), none⟩, ⟨(some (sl 7)), (some ((sl 6), true)), (.fld (.s (sl 1)) 1), none⟩, ⟨(some (sl 8)), (some ((sl 6), true)), (.ld true (.s (sl 7)) none), none⟩, ⟨(some (sl 9)), (some ((sl 6), true)), (.bin .geq (.s (sl 8)) (.c (.int .i64 1))), none⟩, ⟨(some (sl 10)), none, (.pick (.s (sl 6)) (.s (sl 9)) (.c (.bool false))), none⟩, ⟨(some (sl 11)), none, (.mv (.s (sl 10))), none⟩, ⟨(some (sl 12)), (some ((sl 11), true)), (.fld (.s (sl 1)) 1), none⟩, ⟨(some (sl 13)), (some ((sl 11), true)), (.ld true (.s (sl 12)) none), none⟩, ⟨(some (sl 14)), (some ((sl 11), true)), (.bin .leq (.s (sl 13)) (.c (.int .i64 3))), none⟩, ⟨(some (sl 15)), none, (.pick (.s (sl 11)) (.s (sl 14)) (.c (.bool false))), none⟩, ⟨(some (sl 16)), none, (.mv (.s (sl 15))), none⟩, ⟨(some (sl 17)), (some ((sl 16), true)), (.fld (.s (sl 1)) 2), none⟩, ⟨(some (sl 18)), (some ((sl 16), true)), (.ld true (.s (sl 17)) none), none⟩, ⟨(some (sl 19)), (some ((sl 16), true)), (.mv (.s (sl 18))), none⟩, ⟨(some (sl 20)), (some ((sl 19), false)), (.fld (.s (sl 1)) 3), none⟩, ⟨(some (sl 21)), (some ((sl 19), false)), (.ld true (.s (sl 20)) none), none⟩, ⟨(some (sl 22)), (some ((sl 19), false)), (.bin .eql (.s (sl 21)) (.c (.int .u64 0))), none⟩, ⟨(some (sl 23)), (some ((sl 19), false)), (.mv (.s (sl 22))), none⟩, ⟨(some (sl 24)), (some ((sl 23), true)), (.fld (.s (sl 1)) 1), none⟩, ⟨(some (sl 25)), (some ((sl 23), true)), (.ld true (.s (sl 24)) none), none⟩, ⟨(some (sl 26)), (some ((sl 23), true)), (.bin .neq (.s (sl 25)) (.c (.int .i64 1))), none⟩, ⟨(some (sl 27)), (some ((sl 19), false)), (.pick (.s (sl 23)) (.s (sl 26)) (.c (.bool false))), none⟩, ⟨(some (sl 28)), (some ((sl 16), true)), (.pick (.s (sl 19)) (.c (.bool true)) (.s (sl 27))), none⟩, ⟨(some (sl 29)), none, (.pick (.s (sl 16)) (.s (sl 28)) (.c (.bool false))), none⟩, ⟨(some (sl 2)), none, (.mv (.s (sl 29))), none⟩])
  .ret))
def r_ir_glob : List ARes := [(.tmp (sl 2))]
theorem t_ir_glob : (Try.f41).body.bind (trCode Try.prog 8 (Try.f41).ntmps [] [] (drOk 8)) = some c_ir_glob := by kernel_rfl
theorem u_ir_glob : trRess Try.prog 8 (Try.f41).results.toList = some r_ir_glob := by kernel_rfl

/-- marline/ir.insts -/
def c_ir_insts : ACode :=
  (.seq (.reg [⟨(some (sl 1)), none, (.box true (.s (sl 0))), none⟩, ⟨(some (sl 2)), none, (.mv (.c .nilFunc)), none⟩])
  (.seq (.reg [⟨(some (sl 3)), none, (.mkfn 56 [(.s (sl 1))]), none⟩, ⟨(some (sl 2)), none, (.mv (.s (sl 3))), none⟩])
  .ret))
def r_ir_insts : List ARes := [(.tmp (sl 2))]
theorem t_ir_insts : (Try.f46).body.bind (trCode Try.prog 8 (Try.f46).ntmps [] [] (drOk 8)) = some c_ir_insts := by kernel_rfl
theorem u_ir_insts : trRess Try.prog 8 (Try.f46).results.toList = some r_ir_insts := by kernel_rfl

end Go.Proofs.Ytpfokkfomgmibaa
/- The bodies of some functions, as the evaluator has them (printed by program), and that they are the program's own. -/
namespace Go.Proofs.Ytpfokkfomgmibaa
open Go.RowKit

/-- marline/ir.Check -/
def c_ir_Check : ACode :=
  (.seq (.reg [⟨(some (sl 1)), none, (.box true (.s (sl 0))), none⟩, ⟨(some (sl 2)), none, (.mv (.c (.int .i64 0))), none⟩])
  (.seq (.seq (.reg [⟨(some (sl 8)), none, (.fld (.s (sl 1)) 0), none⟩, ⟨(some (sl 9)), none, (.ld true (.s (sl 8)) none), none⟩, ⟨(some (sl 10)), none, (.len false (.s (sl 9))), none⟩, ⟨(some (sl 11)), none, (.bin .gtr (.s (sl 10)) (.c (.int .i64 16))), none⟩, ⟨(some (sl 12)), none, (.mv (.s (sl 11))), none⟩, ⟨(some (sl 13)), (some ((sl 12), false)), (.fld (.s (sl 1)) 1), none⟩, ⟨(some (sl 14)), (some ((sl 12), false)), (.ld true (.s (sl 13)) none), none⟩, ⟨(some (sl 15)), (some ((sl 12), false)), (.len false (.s (sl 14))), none⟩, ⟨(some (sl 16)), (some ((sl 12), false)), (.bin .gtr (.s (sl 15)) (.c (.int .i64 16))), none⟩, ⟨(some (sl 17)), none, (.pick (.s (sl 12)) (.c (.bool true)) (.s (sl 16))), none⟩])
  (.cond (.s (sl 17))
  (.seq (.reg [⟨(some (sl 2)), none, (.mv (.c (.int .i64 4))), none⟩])
  .ret)
  .skip))
  (.seq (.reg [⟨(some (sl 18)), none, (.mmk .string), none⟩, ⟨(some (sl 3)), none, (.mv (.s (sl 18))), none⟩])
  (.seq (.seq (.reg [⟨(some (sl 19)), none, (.fld (.s (sl 1)) 0), none⟩, ⟨(some (sl 20)), none, (.ld true (.s (sl 19)) none), none⟩, ⟨(some (sl 21)), none, (.len false (.s (sl 20))), none⟩, ⟨(some (sl 22)), none, (.mv (.c (.int .i64 0))), none⟩])
  (.block 0
  (.loop (.seq (.reg [⟨(some (sl 23)), none, (.bin .lss (.s (sl 22)) (.s (sl 21))), none⟩])
  (.seq (.cond (.s (sl 23))
  .skip
  (.exit 0))
  (.seq (.block 1
  (.seq (.seq (.reg [⟨(some (sl 24)), none, (.idx true (.s (sl 20)) (.s (sl 22)) 4), none⟩, ⟨(some (sl 25)), none, (.ld true (.s (sl 24)) (some 4)), none⟩, ⟨(some (sl 5)), none, (.new [(.string ⟨#[]⟩), (.int .i64 0), (.int .i64 0), (.slice none 0 0)]), none⟩, ⟨none, none, (.ini 1 (.s (sl 5)) (.s (sl 25)) 4), none⟩])
  (.frz (sl 5)))
  (.seq (.seq (.reg [⟨(some (sl 26)), none, (.ld true (.s (sl 5)) (some 4)), none⟩, ⟨(some (sl 27)), none, (.call true (.f 40) [(.s (sl 26))]), none⟩, ⟨(some (sl 28)), none, (.not (.s (sl 27))), none⟩])
  (.cond (.s (sl 28))
  (.seq (.reg [⟨(some (sl 2)), none, (.mv (.c (.int .i64 10))), none⟩])
  .ret)
  .skip))
  (.reg [⟨(some (sl 29)), none, (.mv (.s (sl 3))), none⟩, ⟨(some (sl 30)), none, (.fld (.s (sl 5)) 0), none⟩, ⟨(some (sl 31)), none, (.ld true (.s (sl 30)) none), none⟩, ⟨none, none, (.mset false (.s (sl 29)) (.s (sl 31)) (.c (.bool true)) .string), none⟩]))))
  (.reg [⟨(some (sl 32)), none, (.bin .add (.s (sl 22)) (.c (.int .i64 1))), none⟩, ⟨(some (sl 22)), none, (.mv (.s (sl 32))), none⟩])))))))
  (.seq (.seq (.reg [⟨(some (sl 33)), none, (.fld (.s (sl 1)) 1), none⟩, ⟨(some (sl 34)), none, (.ld true (.s (sl 33)) none), none⟩, ⟨(some (sl 35)), none, (.len false (.s (sl 34))), none⟩, ⟨(some (sl 36)), none, (.mv (.c (.int .i64 0))), none⟩])
  (.block 2
  (.loop (.seq (.reg [⟨(some (sl 37)), none, (.bin .lss (.s (sl 36)) (.s (sl 35))), none⟩])
  (.seq (.cond (.s (sl 37))
  .skip
  (.exit 2))
  (.seq (.block 3
  (.seq (.seq (.reg [⟨(some (sl 38)), none, (.idx true (.s (sl 34)) (.s (sl 36)) 4), none⟩, ⟨(some (sl 39)), none, (.ld true (.s (sl 38)) (some 4)), none⟩, ⟨(some (sl 7)), none, (.new [(.string ⟨#[]⟩), (.int .i64 0), (.bool false), (.int .u64 0)]), none⟩, ⟨none, none, (.ini 1 (.s (sl 7)) (.s (sl 39)) 4), none⟩])
  (.frz (sl 7)))
  (.seq (.seq (.reg [⟨(some (sl 40)), none, (.ld true (.s (sl 7)) (some 4)), none⟩, ⟨(some (sl 41)), none, (.call true (.f 41) [(.s (sl 40))]), none⟩, ⟨(some (sl 42)), none, (.not (.s (sl 41))), none⟩])
  (.cond (.s (sl 42))
  (.seq (.reg [⟨(some (sl 2)), none, (.mv (.c (.int .i64 10))), none⟩])
  .ret)
  .skip))
  (.reg [⟨(some (sl 43)), none, (.mv (.s (sl 3))), none⟩, ⟨(some (sl 44)), none, (.fld (.s (sl 7)) 0), none⟩, ⟨(some (sl 45)), none, (.ld true (.s (sl 44)) none), none⟩, ⟨none, none, (.mset false (.s (sl 43)) (.s (sl 45)) (.c (.bool true)) .string), none⟩]))))
  (.reg [⟨(some (sl 46)), none, (.bin .add (.s (sl 36)) (.c (.int .i64 1))), none⟩, ⟨(some (sl 36)), none, (.mv (.s (sl 46))), none⟩])))))))
  (.seq (.seq (.reg [⟨(some (sl 47)), none, (.mv (.s (sl 3))), none⟩, ⟨(some (sl 48)), none, (.mlen (.s (sl 47))), none⟩, ⟨(some (sl 49)), none, (.fld (.s (sl 1)) 0), none⟩, ⟨(some (sl 50)), none, (.ld true (.s (sl 49)) none), none⟩, ⟨(some (sl 51)), none, (.len false (.s (sl 50))), none⟩, ⟨(some (sl 52)), none, (.fld (.s (sl 1)) 1), none⟩, ⟨(some (sl 53)), none, (.ld true (.s (sl 52)) none), none⟩, ⟨(some (sl 54)), none, (.len false (.s (sl 53))), none⟩, ⟨(some (sl 55)), none, (.bin .add (.s (sl 51)) (.s (sl 54))), none⟩, ⟨(some (sl 56)), none, (.bin .lss (.s (sl 48)) (.s (sl 55))), none⟩])
  (.cond (.s (sl 56))
  (.seq (.reg [⟨(some (sl 2)), none, (.mv (.c (.int .i64 9))), none⟩])
  .ret)
  .skip))
  (.seq (.reg [⟨(some (sl 57)), none, (.ld true (.s (sl 1)) (some 2)), none⟩, ⟨(some (sl 58)), none, (.call true (.f 42) [(.s (sl 57))]), none⟩, ⟨(some (sl 2)), none, (.mv (.s (sl 58))), none⟩])
  .ret)))))))
def r_ir_Check : List ARes := [(.tmp (sl 2))]
theorem t_ir_Check : (Try.f26).body.bind (trCode Try.prog 8 (Try.f26).ntmps [] [] (drOk 8)) = some c_ir_Check := by kernel_rfl
theorem u_ir_Check : trRess Try.prog 8 (Try.f26).results.toList = some r_ir_Check := by kernel_rfl

/-- marline/ir.Refs -/
def c_ir_Refs : ACode :=
  (.seq (.reg [⟨(some (sl 1)), none, (.box true (.s (sl 0))), none⟩, ⟨(some (sl 2)), none, (.mv (.c (.slice none 0 0))), none⟩])
  (.seq (.reg [⟨(some (sl 3)), none, (.new [(.slice none 0 0)]), none⟩])
  (.seq (.seq (.reg [⟨(some (sl 5)), none, (.ld true (.s (sl 1)) (some 4)), none⟩, ⟨(some (sl 6)), none, (.call true (.f 46) [(.s (sl 5))]), none⟩])
  (.block 0
  (.rng (.s (sl 6))
  [(sl 7)]
  (.seq (.reg [⟨(some (sl 4)), none, (.new [(.int .i64 0), (.int .i64 0), (.int .i64 0), (.int .u64 0), (.string ⟨#[]⟩), (.slice none 0 0)]), none⟩, ⟨none, none, (.ini 1 (.s (sl 4)) (.s (sl 7)) 6), none⟩])
  (.frz (sl 4)))
  (.block 1
  (.seq (.reg [⟨(some (sl 8)), none, (.ld true (.s (sl 4)) (some 6)), none⟩, ⟨(some (sl 9)), none, (.call true (.f 47) [(.s (sl 8))]), none⟩])
  (.cond (.s (sl 9))
  (.reg [⟨(some (sl 10)), none, (.ld false (.s (sl 3)) none), none⟩, ⟨(some (sl 11)), none, (.fld (.s (sl 4)) 4), none⟩, ⟨(some (sl 12)), none, (.ld true (.s (sl 11)) none), none⟩, ⟨(some (sl 13)), none, (.mksl 1 1 [(.string ⟨#[]⟩)] [(0, 1, (.s (sl 12)))]), none⟩, ⟨(some (sl 14)), none, (.app 9 1 16 (.s (sl 10)) (.s (sl 13))), none⟩, ⟨none, none, (.st (.s (sl 3)) (.s (sl 14)) 1), none⟩])
  .skip))))))
  (.seq (.reg [⟨(some (sl 15)), none, (.ld false (.s (sl 3)) none), none⟩, ⟨(some (sl 2)), none, (.mv (.s (sl 15))), none⟩])
  .ret))))
def r_ir_Refs : List ARes := [(.tmp (sl 2))]
theorem t_ir_Refs : (Try.f29).body.bind (trCode Try.prog 8 (Try.f29).ntmps [2, 3, 10, 14, 15] [] (drOk 8)) = some c_ir_Refs := by kernel_rfl
theorem u_ir_Refs : trRess Try.prog 8 (Try.f29).results.toList = some r_ir_Refs := by kernel_rfl

/-- marline/ir.refs -/
def c_ir_refs : ACode :=
  (.seq (.reg [⟨(some (sl 1)), none, (.box true (.s (sl 0))), none⟩, ⟨(some (sl 2)), none, (.new [(.int .i64 0)]), none⟩])
  (.seq (.reg [⟨(some (sl 15)), none, (.mmk .string), none⟩, ⟨(some (sl 16)), none, (.mmk .string), none⟩, ⟨(some (sl 3)), none, (.new [(.map none)]), none⟩, ⟨(some (sl 4)), none, (.new [(.map none)]), none⟩, ⟨none, none, (.ini 2 (.s (sl 3)) (.s (sl 15)) 1), none⟩, ⟨none, none, (.ini 2 (.s (sl 4)) (.s (sl 16)) 1), none⟩])
  (.seq (.seq (.reg [⟨(some (sl 17)), none, (.fld (.s (sl 1)) 0), none⟩, ⟨(some (sl 18)), none, (.ld true (.s (sl 17)) none), none⟩, ⟨(some (sl 19)), none, (.len false (.s (sl 18))), none⟩, ⟨(some (sl 20)), none, (.mv (.c (.int .i64 0))), none⟩])
  (.block 0
  (.loop (.seq (.reg [⟨(some (sl 21)), none, (.bin .lss (.s (sl 20)) (.s (sl 19))), none⟩])
  (.seq (.cond (.s (sl 21))
  .skip
  (.exit 0))
  (.seq (.block 1
  (.seq (.seq (.reg [⟨(some (sl 22)), none, (.idx true (.s (sl 18)) (.s (sl 20)) 4), none⟩, ⟨(some (sl 23)), none, (.ld true (.s (sl 22)) (some 4)), none⟩, ⟨(some (sl 6)), none, (.new [(.string ⟨#[]⟩), (.int .i64 0), (.int .i64 0), (.slice none 0 0)]), none⟩, ⟨none, none, (.ini 1 (.s (sl 6)) (.s (sl 23)) 4), none⟩])
  (.frz (sl 6)))
  (.reg [⟨(some (sl 24)), none, (.ld false (.s (sl 3)) none), none⟩, ⟨(some (sl 25)), none, (.fld (.s (sl 6)) 0), none⟩, ⟨(some (sl 26)), none, (.ld true (.s (sl 25)) none), none⟩, ⟨(some (sl 27)), none, (.fld (.s (sl 6)) 2), none⟩, ⟨(some (sl 28)), none, (.ld true (.s (sl 27)) none), none⟩, ⟨none, none, (.mset false (.s (sl 24)) (.s (sl 26)) (.s (sl 28)) .string), none⟩])))
  (.reg [⟨(some (sl 29)), none, (.bin .add (.s (sl 20)) (.c (.int .i64 1))), none⟩, ⟨(some (sl 20)), none, (.mv (.s (sl 29))), none⟩])))))))
  (.seq (.seq (.reg [⟨(some (sl 30)), none, (.fld (.s (sl 1)) 1), none⟩, ⟨(some (sl 31)), none, (.ld true (.s (sl 30)) none), none⟩, ⟨(some (sl 32)), none, (.len false (.s (sl 31))), none⟩, ⟨(some (sl 33)), none, (.mv (.c (.int .i64 0))), none⟩])
  (.block 2
  (.loop (.seq (.reg [⟨(some (sl 34)), none, (.bin .lss (.s (sl 33)) (.s (sl 32))), none⟩])
  (.seq (.cond (.s (sl 34))
  .skip
  (.exit 2))
  (.seq (.block 3
  (.seq (.seq (.reg [⟨(some (sl 35)), none, (.idx true (.s (sl 31)) (.s (sl 33)) 4), none⟩, ⟨(some (sl 36)), none, (.ld true (.s (sl 35)) (some 4)), none⟩, ⟨(some (sl 8)), none, (.new [(.string ⟨#[]⟩), (.int .i64 0), (.bool false), (.int .u64 0)]), none⟩, ⟨none, none, (.ini 1 (.s (sl 8)) (.s (sl 36)) 4), none⟩])
  (.frz (sl 8)))
  (.reg [⟨(some (sl 37)), none, (.ld false (.s (sl 4)) none), none⟩, ⟨(some (sl 38)), none, (.fld (.s (sl 8)) 0), none⟩, ⟨(some (sl 39)), none, (.ld true (.s (sl 38)) none), none⟩, ⟨none, none, (.mset false (.s (sl 37)) (.s (sl 39)) (.c (.bool true)) .string), none⟩])))
  (.reg [⟨(some (sl 40)), none, (.bin .add (.s (sl 33)) (.c (.int .i64 1))), none⟩, ⟨(some (sl 33)), none, (.mv (.s (sl 40))), none⟩])))))))
  (.seq (.reg [⟨(some (sl 9)), none, (.new [(.bool false)]), none⟩, ⟨none, none, (.ini 1 (.s (sl 9)) (.c (.bool false)) 1), none⟩])
  (.seq (.seq (.reg [⟨(some (sl 41)), none, (.fld (.s (sl 1)) 0), none⟩, ⟨(some (sl 42)), none, (.ld true (.s (sl 41)) none), none⟩, ⟨(some (sl 43)), none, (.len false (.s (sl 42))), none⟩, ⟨(some (sl 44)), none, (.mv (.c (.int .i64 0))), none⟩])
  (.block 4
  (.loop (.seq (.reg [⟨(some (sl 45)), none, (.bin .lss (.s (sl 44)) (.s (sl 43))), none⟩])
  (.seq (.cond (.s (sl 45))
  .skip
  (.exit 4))
  (.seq (.block 5
  (.seq (.seq (.reg [⟨(some (sl 46)), none, (.idx true (.s (sl 42)) (.s (sl 44)) 4), none⟩, ⟨(some (sl 47)), none, (.ld true (.s (sl 46)) (some 4)), none⟩, ⟨(some (sl 11)), none, (.new [(.string ⟨#[]⟩), (.int .i64 0), (.int .i64 0), (.slice none 0 0)]), none⟩, ⟨none, none, (.ini 1 (.s (sl 11)) (.s (sl 47)) 4), none⟩])
  (.frz (sl 11)))
  (.seq (.reg [⟨(some (sl 48)), none, (.ld true (.s (sl 11)) (some 4)), none⟩, ⟨(some (sl 49)), none, (.call true (.f 46) [(.s (sl 48))]), none⟩])
  (.block 6
  (.rng (.s (sl 49))
  [(sl 50)]
  (.seq (.reg [⟨(some (sl 12)), none, (.new [(.int .i64 0), (.int .i64 0), (.int .i64 0), (.int .u64 0), (.string ⟨#[]⟩), (.slice none 0 0)]), none⟩, ⟨none, none, (.ini 1 (.s (sl 12)) (.s (sl 50)) 6), none⟩])
  (.frz (sl 12)))
  (.block 7
  (.seq (.reg [⟨(some (sl 52)), none, (.ld false (.s (sl 3)) none), none⟩, ⟨(some (sl 53)), none, (.fld (.s (sl 12)) 4), none⟩, ⟨(some (sl 54)), none, (.ld true (.s (sl 53)) none), none⟩, ⟨(some (sl 55)), none, (.mget (.s (sl 52)) (.s (sl 54)) true .string (.int .i64 0)), none⟩, ⟨(some (sl 51)), none, (.mv (.s (sl 55))), none⟩, ⟨(some (sl 56)), none, (.ext (.s (sl 51)) 0), none⟩, ⟨(some (sl 57)), none, (.ext (.s (sl 51)) 1), none⟩, ⟨(some (sl 13)), none, (.mv (.s (sl 56))), none⟩, ⟨(some (sl 14)), none, (.mv (.s (sl 57))), none⟩])
  (.seq (.seq (.reg [⟨(some (sl 58)), none, (.fld (.s (sl 12)) 0), none⟩, ⟨(some (sl 59)), none, (.ld true (.s (sl 58)) none), none⟩, ⟨(some (sl 60)), none, (.bin .eql (.s (sl 59)) (.c (.int .i64 14))), none⟩, ⟨(some (sl 61)), none, (.mv (.s (sl 60))), none⟩, ⟨(some (sl 62)), (some ((sl 61), true)), (.mv (.s (sl 14))), none⟩, ⟨(some (sl 63)), (some ((sl 61), true)), (.not (.s (sl 62))), none⟩, ⟨(some (sl 64)), none, (.pick (.s (sl 61)) (.s (sl 63)) (.c (.bool false))), none⟩, ⟨(some (sl 65)), none, (.mv (.s (sl 64))), none⟩, ⟨(some (sl 66)), (some ((sl 65), false)), (.fld (.s (sl 12)) 0), none⟩, ⟨(some (sl 67)), (some ((sl 65), false)), (.ld true (.s (sl 66)) none), none⟩, ⟨(some (sl 68)), (some ((sl 65), false)), (.bin .eql (.s (sl 67)) (.c (.int .i64 12))), none⟩, ⟨(some (sl 69)), (some ((sl 65), false)), (.mv (.s (sl 68))), none⟩, ⟨(some (sl 70)), (some ((sl 69), false)), (.fld (.s (sl 12)) 0), none⟩, ⟨(some (sl 71)), (some ((sl 69), false)), (.ld true (.s (sl 70)) none), none⟩, ⟨(some (sl 72)), (some ((sl 69), false)), (.bin .eql (.s (sl 71)) (.c (.int .i64 13))), none⟩, ⟨(some (sl 73)), (some ((sl 65), false)), (.pick (.s (sl 69)) (.c (.bool true)) (.s (sl 72))), none⟩, ⟨(some (sl 74)), (some ((sl 65), false)), (.mv (.s (sl 73))), none⟩, ⟨(some (sl 75)), (some ((sl 74), true)), (.ld false (.s (sl 4)) none), none⟩, ⟨(some (sl 76)), (some ((sl 74), true)), (.fld (.s (sl 12)) 4), none⟩, ⟨(some (sl 77)), (some ((sl 74), true)), (.ld true (.s (sl 76)) none), none⟩, ⟨(some (sl 78)), (some ((sl 74), true)), (.mget (.s (sl 75)) (.s (sl 77)) false .string (.bool false)), none⟩, ⟨(some (sl 79)), (some ((sl 74), true)), (.not (.s (sl 78))), none⟩, ⟨(some (sl 80)), (some ((sl 65), false)), (.pick (.s (sl 74)) (.s (sl 79)) (.c (.bool false))), none⟩, ⟨(some (sl 81)), none, (.pick (.s (sl 65)) (.c (.bool true)) (.s (sl 80))), none⟩])
  (.cond (.s (sl 81))
  (.seq (.reg [⟨none, none, (.st (.s (sl 2)) (.c (.int .i64 8)) 1), none⟩])
  .ret)
  .skip))
  (.reg [⟨(some (sl 82)), none, (.ld false (.s (sl 9)) none), none⟩, ⟨(some (sl 83)), none, (.mv (.s (sl 82))), none⟩, ⟨(some (sl 84)), (some ((sl 83), false)), (.fld (.s (sl 12)) 0), none⟩, ⟨(some (sl 85)), (some ((sl 83), false)), (.ld true (.s (sl 84)) none), none⟩, ⟨(some (sl 86)), (some ((sl 83), false)), (.bin .eql (.s (sl 85)) (.c (.int .i64 14))), none⟩, ⟨(some (sl 87)), (some ((sl 83), false)), (.mv (.s (sl 86))), none⟩, ⟨(some (sl 88)), (some ((sl 87), true)), (.mv (.s (sl 13))), none⟩, ⟨(some (sl 89)), (some ((sl 87), true)), (.fld (.s (sl 12)) 5), none⟩, ⟨(some (sl 90)), (some ((sl 87), true)), (.ld true (.s (sl 89)) none), none⟩, ⟨(some (sl 91)), (some ((sl 87), true)), (.len false (.s (sl 90))), none⟩, ⟨(some (sl 92)), (some ((sl 87), true)), (.bin .neq (.s (sl 88)) (.s (sl 91))), none⟩, ⟨(some (sl 93)), (some ((sl 83), false)), (.pick (.s (sl 87)) (.s (sl 92)) (.c (.bool false))), none⟩, ⟨(some (sl 94)), none, (.pick (.s (sl 83)) (.c (.bool true)) (.s (sl 93))), none⟩, ⟨none, none, (.st (.s (sl 9)) (.s (sl 94)) 1), none⟩])))))))))
  (.reg [⟨(some (sl 95)), none, (.bin .add (.s (sl 44)) (.c (.int .i64 1))), none⟩, ⟨(some (sl 44)), none, (.mv (.s (sl 95))), none⟩])))))))
  (.seq (.seq (.reg [⟨(some (sl 96)), none, (.ld false (.s (sl 9)) none), none⟩])
  (.cond (.s (sl 96))
  (.seq (.reg [⟨none, none, (.st (.s (sl 2)) (.c (.int .i64 1)) 1), none⟩])
  .ret)
  .skip))
  (.seq (.reg [⟨none, none, (.st (.s (sl 2)) (.c (.int .i64 0)) 1), none⟩])
  .ret))))))))
def r_ir_refs : List ARes := [(.cell (sl 2) none)]
theorem t_ir_refs : (Try.f42).body.bind (trCode Try.prog 8 (Try.f42).ntmps [2, 3, 4, 9, 24, 37, 52, 75, 82, 83, 94, 96] [] (drOk 8)) = some c_ir_refs := by kernel_rfl
theorem u_ir_refs : trRess Try.prog 8 (Try.f42).results.toList = some r_ir_refs := by kernel_rfl

end Go.Proofs.Ytpfokkfomgmibaa
/- The bodies of some functions, as the evaluator has them (printed by program), and that they are the program's own. -/
namespace Go.Proofs.Ytpfokkfomgmibaa
open Go.RowKit

/-- marline/marlineref05.FindFunc -/
def c_marlineref05_FindFunc : ACode :=
  (.seq (.reg [⟨(some (sl 2)), none, (.box true (.s (sl 0))), none⟩, ⟨(some (sl 4)), none, (.mv (.c (.int .i64 0))), none⟩])
  (.seq (.seq (.reg [⟨(some (sl 5)), none, (.mv (.c (.int .i64 0))), none⟩])
  (.block 0
  (.loop (.seq (.seq (.reg [⟨(some (sl 6)), none, (.mv (.s (sl 5))), none⟩, ⟨(some (sl 7)), none, (.fld (.s (sl 2)) 0), none⟩, ⟨(some (sl 8)), none, (.ld true (.s (sl 7)) none), none⟩, ⟨(some (sl 9)), none, (.len false (.s (sl 8))), none⟩, ⟨(some (sl 10)), none, (.bin .lss (.s (sl 6)) (.s (sl 9))), none⟩])
  (.cond (.s (sl 10))
  .skip
  (.exit 0)))
  (.seq (.block 1
  (.seq (.reg [⟨(some (sl 13)), none, (.fld (.s (sl 2)) 0), none⟩, ⟨(some (sl 14)), none, (.ld true (.s (sl 13)) none), none⟩, ⟨(some (sl 15)), none, (.mv (.s (sl 5))), none⟩, ⟨(some (sl 16)), none, (.idx true (.s (sl 14)) (.s (sl 15)) 4), none⟩, ⟨(some (sl 17)), none, (.fld (.s (sl 16)) 0), none⟩, ⟨(some (sl 18)), none, (.ld true (.s (sl 17)) none), none⟩, ⟨(some (sl 19)), none, (.mv (.s (sl 1))), none⟩, ⟨(some (sl 20)), none, (.bin .eql (.s (sl 18)) (.s (sl 19))), none⟩])
  (.cond (.s (sl 20))
  (.seq (.reg [⟨(some (sl 21)), none, (.mv (.s (sl 5))), none⟩, ⟨(some (sl 4)), none, (.mv (.s (sl 21))), none⟩])
  .ret)
  .skip)))
  (.reg [⟨(some (sl 11)), none, (.mv (.s (sl 5))), none⟩, ⟨(some (sl 12)), none, (.bin .add (.s (sl 11)) (.c (.int .i64 1))), none⟩, ⟨(some (sl 5)), none, (.mv (.s (sl 12))), none⟩]))))))
  (.seq (.reg [⟨(some (sl 4)), none, (.mv (.c (.int .i64 (-1)))), none⟩])
  .ret)))
def r_marlineref05_FindFunc : List ARes := [(.tmp (sl 4))]
theorem t_marlineref05_FindFunc : (Try.f32).body.bind (trCode Try.prog 8 (Try.f32).ntmps [] [] (drOk 8)) = some c_marlineref05_FindFunc := by kernel_rfl
theorem u_marlineref05_FindFunc : trRess Try.prog 8 (Try.f32).results.toList = some r_marlineref05_FindFunc := by kernel_rfl

/-- marline/marlineref05.FindGlob -/
def c_marlineref05_FindGlob : ACode :=
  (.seq (.reg [⟨(some (sl 2)), none, (.box true (.s (sl 0))), none⟩, ⟨(some (sl 4)), none, (.mv (.c (.int .i64 0))), none⟩])
  (.seq (.seq (.reg [⟨(some (sl 5)), none, (.mv (.c (.int .i64 0))), none⟩])
  (.block 0
  (.loop (.seq (.seq (.reg [⟨(some (sl 6)), none, (.mv (.s (sl 5))), none⟩, ⟨(some (sl 7)), none, (.fld (.s (sl 2)) 1), none⟩, ⟨(some (sl 8)), none, (.ld true (.s (sl 7)) none), none⟩, ⟨(some (sl 9)), none, (.len false (.s (sl 8))), none⟩, ⟨(some (sl 10)), none, (.bin .lss (.s (sl 6)) (.s (sl 9))), none⟩])
  (.cond (.s (sl 10))
  .skip
  (.exit 0)))
  (.seq (.block 1
  (.seq (.reg [⟨(some (sl 13)), none, (.fld (.s (sl 2)) 1), none⟩, ⟨(some (sl 14)), none, (.ld true (.s (sl 13)) none), none⟩, ⟨(some (sl 15)), none, (.mv (.s (sl 5))), none⟩, ⟨(some (sl 16)), none, (.idx true (.s (sl 14)) (.s (sl 15)) 4), none⟩, ⟨(some (sl 17)), none, (.fld (.s (sl 16)) 0), none⟩, ⟨(some (sl 18)), none, (.ld true (.s (sl 17)) none), none⟩, ⟨(some (sl 19)), none, (.mv (.s (sl 1))), none⟩, ⟨(some (sl 20)), none, (.bin .eql (.s (sl 18)) (.s (sl 19))), none⟩])
  (.cond (.s (sl 20))
  (.seq (.reg [⟨(some (sl 21)), none, (.mv (.s (sl 5))), none⟩, ⟨(some (sl 4)), none, (.mv (.s (sl 21))), none⟩])
  .ret)
  .skip)))
  (.reg [⟨(some (sl 11)), none, (.mv (.s (sl 5))), none⟩, ⟨(some (sl 12)), none, (.bin .add (.s (sl 11)) (.c (.int .i64 1))), none⟩, ⟨(some (sl 5)), none, (.mv (.s (sl 12))), none⟩]))))))
  (.seq (.reg [⟨(some (sl 4)), none, (.mv (.c (.int .i64 (-1)))), none⟩])
  .ret)))
def r_marlineref05_FindGlob : List ARes := [(.tmp (sl 4))]
theorem t_marlineref05_FindGlob : (Try.f34).body.bind (trCode Try.prog 8 (Try.f34).ntmps [] [] (drOk 8)) = some c_marlineref05_FindGlob := by kernel_rfl
theorem u_marlineref05_FindGlob : trRess Try.prog 8 (Try.f34).results.toList = some r_marlineref05_FindGlob := by kernel_rfl

/-- marline/marlineref05.Strings -/
def c_marlineref05_Strings : ACode :=
  (.seq (.reg [⟨(some (sl 4)), none, (.mv (.c (.bool false))), none⟩])
  (.seq (.seq (.reg [⟨(some (sl 6)), none, (.mv (.s (sl 0))), none⟩, ⟨(some (sl 7)), none, (.len false (.s (sl 6))), none⟩, ⟨(some (sl 8)), none, (.mv (.s (sl 1))), none⟩, ⟨(some (sl 9)), none, (.len false (.s (sl 8))), none⟩, ⟨(some (sl 10)), none, (.bin .neq (.s (sl 7)) (.s (sl 9))), none⟩])
  (.cond (.s (sl 10))
  (.seq (.reg [⟨(some (sl 4)), none, (.mv (.c (.bool false))), none⟩])
  .ret)
  .skip))
  (.seq (.seq (.reg [⟨(some (sl 5)), none, (.mv (.c (.int .i64 0))), none⟩])
  (.block 0
  (.loop (.seq (.seq (.reg [⟨(some (sl 11)), none, (.mv (.s (sl 5))), none⟩, ⟨(some (sl 12)), none, (.mv (.s (sl 0))), none⟩, ⟨(some (sl 13)), none, (.len false (.s (sl 12))), none⟩, ⟨(some (sl 14)), none, (.bin .lss (.s (sl 11)) (.s (sl 13))), none⟩])
  (.cond (.s (sl 14))
  .skip
  (.exit 0)))
  (.seq (.block 1
  (.seq (.reg [⟨(some (sl 17)), none, (.mv (.s (sl 0))), (some (0, []))⟩, ⟨(some (sl 18)), none, (.mv (.s (sl 5))), (some (1, []))⟩, ⟨(some (sl 19)), none, (.idx true (.s (sl 17)) (.s (sl 18)) 1), (some (2, []))⟩, ⟨(some (sl 20)), none, (.ld true (.s (sl 19)) none), (some (3, []))⟩, ⟨(some (sl 21)), none, (.mv (.s (sl 1))), (some (4, []))⟩, ⟨(some (sl 22)), none, (.mv (.s (sl 5))), (some (5, []))⟩, ⟨(some (sl 23)), none, (.idx true (.s (sl 21)) (.s (sl 22)) 1), (some (6, []))⟩, ⟨(some (sl 24)), none, (.ld true (.s (sl 23)) none), (some (7, []))⟩, ⟨(some (sl 25)), none, (.bin .neq (.s (sl 20)) (.s (sl 24))), (some (8, []))⟩])
  (.cond (.s (sl 25))
  (.seq (.reg [⟨(some (sl 4)), none, (.mv (.c (.bool false))), none⟩])
  .ret)
  .skip)))
  (.reg [⟨(some (sl 15)), none, (.mv (.s (sl 5))), none⟩, ⟨(some (sl 16)), none, (.bin .add (.s (sl 15)) (.c (.int .i64 1))), none⟩, ⟨(some (sl 5)), none, (.mv (.s (sl 16))), none⟩]))))))
  (.seq (.reg [⟨(some (sl 4)), none, (.mv (.c (.bool true))), none⟩])
  .ret))))
def r_marlineref05_Strings : List ARes := [(.tmp (sl 4))]
/-- marline/marlineref05.Refs -/
def c_marlineref05_Refs : ACode :=
  (.seq (.reg [⟨(some (sl 1)), none, (.box true (.s (sl 0))), none⟩, ⟨(some (sl 2)), none, (.mv (.c (.slice none 0 0))), none⟩])
  (.seq (.reg [⟨(some (sl 3)), none, (.mv (.c (.slice none 0 0))), none⟩])
  (.seq (.seq (.reg [⟨(some (sl 4)), none, (.mv (.c (.int .i64 0))), none⟩])
  (.block 0
  (.loop (.seq (.seq (.reg [⟨(some (sl 7)), none, (.mv (.s (sl 4))), none⟩, ⟨(some (sl 8)), none, (.fld (.s (sl 1)) 3), none⟩, ⟨(some (sl 9)), none, (.ld true (.s (sl 8)) none), none⟩, ⟨(some (sl 10)), none, (.len false (.s (sl 9))), none⟩, ⟨(some (sl 11)), none, (.bin .lss (.s (sl 7)) (.s (sl 10))), none⟩])
  (.cond (.s (sl 11))
  .skip
  (.exit 0)))
  (.seq (.block 1
  (.seq (.reg [⟨(some (sl 5)), none, (.mv (.c (.int .i64 0))), none⟩])
  (.block 2
  (.loop (.seq (.seq (.reg [⟨(some (sl 14)), none, (.mv (.s (sl 5))), none⟩, ⟨(some (sl 15)), none, (.fld (.s (sl 1)) 3), none⟩, ⟨(some (sl 16)), none, (.ld true (.s (sl 15)) none), none⟩, ⟨(some (sl 17)), none, (.mv (.s (sl 4))), none⟩, ⟨(some (sl 18)), none, (.idx true (.s (sl 16)) (.s (sl 17)) 8), none⟩, ⟨(some (sl 19)), none, (.fld (.s (sl 18)) 1), none⟩, ⟨(some (sl 20)), none, (.ld true (.s (sl 19)) none), none⟩, ⟨(some (sl 21)), none, (.len false (.s (sl 20))), none⟩, ⟨(some (sl 22)), none, (.bin .lss (.s (sl 14)) (.s (sl 21))), none⟩])
  (.cond (.s (sl 22))
  .skip
  (.exit 2)))
  (.seq (.block 3
  (.seq (.reg [⟨(some (sl 25)), none, (.fld (.s (sl 1)) 3), none⟩, ⟨(some (sl 26)), none, (.ld true (.s (sl 25)) none), none⟩, ⟨(some (sl 27)), none, (.mv (.s (sl 4))), none⟩, ⟨(some (sl 28)), none, (.idx true (.s (sl 26)) (.s (sl 27)) 8), none⟩, ⟨(some (sl 29)), none, (.fld (.s (sl 28)) 1), none⟩, ⟨(some (sl 30)), none, (.ld true (.s (sl 29)) none), none⟩, ⟨(some (sl 31)), none, (.mv (.s (sl 5))), none⟩, ⟨(some (sl 32)), none, (.idx true (.s (sl 30)) (.s (sl 31)) 6), none⟩, ⟨(some (sl 33)), none, (.ld true (.s (sl 32)) (some 6)), none⟩, ⟨(some (sl 34)), none, (.call true (.f 51) [(.s (sl 33))]), none⟩, ⟨(some (sl 6)), none, (.mv (.s (sl 34))), none⟩])
  (.seq (.reg [⟨(some (sl 35)), none, (.mv (.s (sl 6))), none⟩])
  (.cond (.s (sl 35))
  (.reg [⟨(some (sl 36)), none, (.mv (.s (sl 3))), none⟩, ⟨(some (sl 37)), none, (.fld (.s (sl 1)) 3), none⟩, ⟨(some (sl 38)), none, (.ld true (.s (sl 37)) none), none⟩, ⟨(some (sl 39)), none, (.mv (.s (sl 4))), none⟩, ⟨(some (sl 40)), none, (.idx true (.s (sl 38)) (.s (sl 39)) 8), none⟩, ⟨(some (sl 41)), none, (.fld (.s (sl 40)) 1), none⟩, ⟨(some (sl 42)), none, (.ld true (.s (sl 41)) none), none⟩, ⟨(some (sl 43)), none, (.mv (.s (sl 5))), none⟩, ⟨(some (sl 44)), none, (.idx true (.s (sl 42)) (.s (sl 43)) 6), none⟩, ⟨(some (sl 45)), none, (.fld (.s (sl 44)) 4), none⟩, ⟨(some (sl 46)), none, (.ld true (.s (sl 45)) none), none⟩, ⟨(some (sl 47)), none, (.mksl 1 1 [(.string ⟨#[]⟩)] [(0, 1, (.s (sl 46)))]), none⟩, ⟨(some (sl 48)), none, (.app 9 1 16 (.s (sl 36)) (.s (sl 47))), none⟩, ⟨(some (sl 3)), none, (.mv (.s (sl 48))), none⟩])
  .skip))))
  (.reg [⟨(some (sl 23)), none, (.mv (.s (sl 5))), none⟩, ⟨(some (sl 24)), none, (.bin .add (.s (sl 23)) (.c (.int .i64 1))), none⟩, ⟨(some (sl 5)), none, (.mv (.s (sl 24))), none⟩])))))))
  (.reg [⟨(some (sl 12)), none, (.mv (.s (sl 4))), none⟩, ⟨(some (sl 13)), none, (.bin .add (.s (sl 12)) (.c (.int .i64 1))), none⟩, ⟨(some (sl 4)), none, (.mv (.s (sl 13))), none⟩]))))))
  (.seq (.reg [⟨(some (sl 49)), none, (.mv (.s (sl 3))), none⟩, ⟨(some (sl 2)), none, (.mv (.s (sl 49))), none⟩])
  .ret))))
def r_marlineref05_Refs : List ARes := [(.tmp (sl 2))]
theorem t_marlineref05_Refs : (Try.f33).body.bind (trCode Try.prog 8 (Try.f33).ntmps [2, 3, 36, 48, 49] [] (drOk 8)) = some c_marlineref05_Refs := by kernel_rfl
theorem u_marlineref05_Refs : trRess Try.prog 8 (Try.f33).results.toList = some r_marlineref05_Refs := by kernel_rfl

/-- marline/marlineref05.Check -/
def c_marlineref05_Check : ACode :=
  (.seq (.reg [⟨(some (sl 1)), none, (.box true (.s (sl 0))), none⟩, ⟨(some (sl 2)), none, (.mv (.c (.int .i64 0))), none⟩])
  (.seq (.seq (.reg [⟨(some (sl 17)), none, (.fld (.s (sl 1)) 0), none⟩, ⟨(some (sl 18)), none, (.ld true (.s (sl 17)) none), none⟩, ⟨(some (sl 19)), none, (.len false (.s (sl 18))), none⟩, ⟨(some (sl 20)), none, (.bin .gtr (.s (sl 19)) (.c (.int .i64 16))), none⟩, ⟨(some (sl 21)), none, (.mv (.s (sl 20))), none⟩, ⟨(some (sl 22)), (some ((sl 21), false)), (.fld (.s (sl 1)) 1), none⟩, ⟨(some (sl 23)), (some ((sl 21), false)), (.ld true (.s (sl 22)) none), none⟩, ⟨(some (sl 24)), (some ((sl 21), false)), (.len false (.s (sl 23))), none⟩, ⟨(some (sl 25)), (some ((sl 21), false)), (.bin .gtr (.s (sl 24)) (.c (.int .i64 16))), none⟩, ⟨(some (sl 26)), none, (.pick (.s (sl 21)) (.c (.bool true)) (.s (sl 25))), none⟩])
  (.cond (.s (sl 26))
  (.seq (.reg [⟨(some (sl 2)), none, (.mv (.c (.int .i64 4))), none⟩])
  .ret)
  .skip))
  (.seq (.seq (.reg [⟨(some (sl 3)), none, (.mv (.c (.int .i64 0))), none⟩])
  (.block 0
  (.loop (.seq (.seq (.reg [⟨(some (sl 27)), none, (.mv (.s (sl 3))), none⟩, ⟨(some (sl 28)), none, (.fld (.s (sl 1)) 0), none⟩, ⟨(some (sl 29)), none, (.ld true (.s (sl 28)) none), none⟩, ⟨(some (sl 30)), none, (.len false (.s (sl 29))), none⟩, ⟨(some (sl 31)), none, (.bin .lss (.s (sl 27)) (.s (sl 30))), none⟩])
  (.cond (.s (sl 31))
  .skip
  (.exit 0)))
  (.seq (.block 1
  (.seq (.reg [⟨(some (sl 34)), none, (.fld (.s (sl 1)) 0), none⟩, ⟨(some (sl 35)), none, (.ld true (.s (sl 34)) none), none⟩, ⟨(some (sl 36)), none, (.mv (.s (sl 3))), none⟩, ⟨(some (sl 37)), none, (.idx true (.s (sl 35)) (.s (sl 36)) 4), none⟩, ⟨(some (sl 38)), none, (.ld true (.s (sl 37)) (some 4)), none⟩, ⟨(some (sl 39)), none, (.call true (.f 48) [(.s (sl 38))]), none⟩, ⟨(some (sl 4)), none, (.mv (.s (sl 39))), none⟩])
  (.seq (.reg [⟨(some (sl 40)), none, (.mv (.s (sl 4))), none⟩, ⟨(some (sl 41)), none, (.not (.s (sl 40))), none⟩])
  (.cond (.s (sl 41))
  (.seq (.reg [⟨(some (sl 2)), none, (.mv (.c (.int .i64 10))), none⟩])
  .ret)
  .skip))))
  (.reg [⟨(some (sl 32)), none, (.mv (.s (sl 3))), none⟩, ⟨(some (sl 33)), none, (.bin .add (.s (sl 32)) (.c (.int .i64 1))), none⟩, ⟨(some (sl 3)), none, (.mv (.s (sl 33))), none⟩]))))))
  (.seq (.seq (.reg [⟨(some (sl 5)), none, (.mv (.c (.int .i64 0))), none⟩])
  (.block 2
  (.loop (.seq (.seq (.reg [⟨(some (sl 42)), none, (.mv (.s (sl 5))), none⟩, ⟨(some (sl 43)), none, (.fld (.s (sl 1)) 1), none⟩, ⟨(some (sl 44)), none, (.ld true (.s (sl 43)) none), none⟩, ⟨(some (sl 45)), none, (.len false (.s (sl 44))), none⟩, ⟨(some (sl 46)), none, (.bin .lss (.s (sl 42)) (.s (sl 45))), none⟩])
  (.cond (.s (sl 46))
  .skip
  (.exit 2)))
  (.seq (.block 3
  (.seq (.seq (.reg [⟨(some (sl 49)), none, (.fld (.s (sl 1)) 1), none⟩, ⟨(some (sl 50)), none, (.ld true (.s (sl 49)) none), none⟩, ⟨(some (sl 51)), none, (.mv (.s (sl 5))), none⟩, ⟨(some (sl 52)), none, (.idx true (.s (sl 50)) (.s (sl 51)) 4), none⟩, ⟨(some (sl 53)), none, (.ld true (.s (sl 52)) (some 4)), none⟩, ⟨(some (sl 6)), none, (.new [(.string ⟨#[]⟩), (.int .i64 0), (.bool false), (.int .u64 0)]), none⟩, ⟨none, none, (.ini 1 (.s (sl 6)) (.s (sl 53)) 4), none⟩])
  (.frz (sl 6)))
  (.seq (.reg [⟨(some (sl 54)), none, (.fld (.s (sl 6)) 0), none⟩, ⟨(some (sl 55)), none, (.ld true (.s (sl 54)) none), none⟩, ⟨(some (sl 56)), none, (.call true (.f 49) [(.s (sl 55))]), none⟩, ⟨(some (sl 7)), none, (.mv (.s (sl 56))), none⟩])
  (.seq (.reg [⟨(some (sl 57)), none, (.mv (.s (sl 7))), none⟩, ⟨(some (sl 58)), none, (.not (.s (sl 57))), none⟩, ⟨(some (sl 59)), none, (.mv (.s (sl 58))), none⟩, ⟨(some (sl 60)), (some ((sl 59), false)), (.fld (.s (sl 6)) 1), none⟩, ⟨(some (sl 61)), (some ((sl 59), false)), (.ld true (.s (sl 60)) none), none⟩, ⟨(some (sl 62)), (some ((sl 59), false)), (.bin .lss (.s (sl 61)) (.c (.int .i64 1))), none⟩, ⟨(some (sl 63)), none, (.pick (.s (sl 59)) (.c (.bool true)) (.s (sl 62))), none⟩, ⟨(some (sl 64)), none, (.mv (.s (sl 63))), none⟩, ⟨(some (sl 65)), (some ((sl 64), false)), (.fld (.s (sl 6)) 1), none⟩, ⟨(some (sl 66)), (some ((sl 64), false)), (.ld true (.s (sl 65)) none), none⟩, ⟨(some (sl 67)), (some ((sl 64), false)), (.bin .gtr (.s (sl 66)) (.c (.int .i64 3))), none⟩, ⟨(some (sl 68)), none, (.pick (.s (sl 64)) (.c (.bool true)) (.s (sl 67))), none⟩, ⟨(some (sl 69)), none, (.mv (.s (sl 68))), none⟩, ⟨(some (sl 70)), (some ((sl 69), false)), (.fld (.s (sl 6)) 2), none⟩, ⟨(some (sl 71)), (some ((sl 69), false)), (.ld true (.s (sl 70)) none), none⟩, ⟨(some (sl 72)), (some ((sl 69), false)), (.not (.s (sl 71))), none⟩, ⟨(some (sl 73)), (some ((sl 69), false)), (.mv (.s (sl 72))), none⟩, ⟨(some (sl 74)), (some ((sl 73), true)), (.fld (.s (sl 6)) 3), none⟩, ⟨(some (sl 75)), (some ((sl 73), true)), (.ld true (.s (sl 74)) none), none⟩, ⟨(some (sl 76)), (some ((sl 73), true)), (.bin .neq (.s (sl 75)) (.c (.int .u64 0))), none⟩, ⟨(some (sl 77)), (some ((sl 73), true)), (.mv (.s (sl 76))), none⟩, ⟨(some (sl 78)), (some ((sl 77), false)), (.fld (.s (sl 6)) 1), none⟩, ⟨(some (sl 79)), (some ((sl 77), false)), (.ld true (.s (sl 78)) none), none⟩, ⟨(some (sl 80)), (some ((sl 77), false)), (.bin .eql (.s (sl 79)) (.c (.int .i64 1))), none⟩, ⟨(some (sl 81)), (some ((sl 73), true)), (.pick (.s (sl 77)) (.c (.bool true)) (.s (sl 80))), none⟩, ⟨(some (sl 82)), (some ((sl 69), false)), (.pick (.s (sl 73)) (.s (sl 81)) (.c (.bool false))), none⟩, ⟨(some (sl 83)), none, (.pick (.s (sl 69)) (.c (.bool true)) (.s (sl 82))), none⟩])
  (.cond (.s (sl 83))
  (.seq (.reg [⟨(some (sl 2)), none, (.mv (.c (.int .i64 10))), none⟩])
  .ret)
  .skip)))))
  (.reg [⟨(some (sl 47)), none, (.mv (.s (sl 5))), none⟩, ⟨(some (sl 48)), none, (.bin .add (.s (sl 47)) (.c (.int .i64 1))), none⟩, ⟨(some (sl 5)), none, (.mv (.s (sl 48))), none⟩]))))))
  (.seq (.reg [⟨(some (sl 84)), none, (.ld true (.s (sl 1)) (some 2)), none⟩, ⟨(some (sl 85)), none, (.call true (.f 50) [(.s (sl 84))]), none⟩, ⟨(some (sl 8)), none, (.mv (.s (sl 85))), none⟩])
  (.seq (.seq (.reg [⟨(some (sl 9)), none, (.mv (.c (.int .i64 0))), none⟩])
  (.block 4
  (.loop (.seq (.seq (.reg [⟨(some (sl 86)), none, (.mv (.s (sl 9))), none⟩, ⟨(some (sl 87)), none, (.mv (.s (sl 8))), none⟩, ⟨(some (sl 88)), none, (.len false (.s (sl 87))), none⟩, ⟨(some (sl 89)), none, (.bin .lss (.s (sl 86)) (.s (sl 88))), none⟩])
  (.cond (.s (sl 89))
  .skip
  (.exit 4)))
  (.seq (.block 5
  (.seq (.reg [⟨(some (sl 10)), none, (.mv (.c (.int .i64 0))), none⟩])
  (.block 6
  (.loop (.seq (.seq (.reg [⟨(some (sl 92)), none, (.mv (.s (sl 10))), none⟩, ⟨(some (sl 93)), none, (.mv (.s (sl 9))), none⟩, ⟨(some (sl 94)), none, (.bin .lss (.s (sl 92)) (.s (sl 93))), none⟩])
  (.cond (.s (sl 94))
  .skip
  (.exit 6)))
  (.seq (.block 7
  (.seq (.reg [⟨(some (sl 97)), none, (.mv (.s (sl 8))), (some (0, []))⟩, ⟨(some (sl 98)), none, (.mv (.s (sl 9))), (some (1, []))⟩, ⟨(some (sl 99)), none, (.idx true (.s (sl 97)) (.s (sl 98)) 1), (some (2, []))⟩, ⟨(some (sl 100)), none, (.ld true (.s (sl 99)) none), (some (3, []))⟩, ⟨(some (sl 101)), none, (.mv (.s (sl 8))), (some (4, []))⟩, ⟨(some (sl 102)), none, (.mv (.s (sl 10))), (some (5, []))⟩, ⟨(some (sl 103)), none, (.idx true (.s (sl 101)) (.s (sl 102)) 1), (some (6, []))⟩, ⟨(some (sl 104)), none, (.ld true (.s (sl 103)) none), (some (7, []))⟩, ⟨(some (sl 105)), none, (.bin .eql (.s (sl 100)) (.s (sl 104))), (some (8, []))⟩])
  (.cond (.s (sl 105))
  (.seq (.reg [⟨(some (sl 2)), none, (.mv (.c (.int .i64 9))), none⟩])
  .ret)
  .skip)))
  (.reg [⟨(some (sl 95)), none, (.mv (.s (sl 10))), none⟩, ⟨(some (sl 96)), none, (.bin .add (.s (sl 95)) (.c (.int .i64 1))), none⟩, ⟨(some (sl 10)), none, (.mv (.s (sl 96))), none⟩])))))))
  (.reg [⟨(some (sl 90)), none, (.mv (.s (sl 9))), none⟩, ⟨(some (sl 91)), none, (.bin .add (.s (sl 90)) (.c (.int .i64 1))), none⟩, ⟨(some (sl 9)), none, (.mv (.s (sl 91))), none⟩]))))))
  (.seq (.reg [⟨(some (sl 11)), none, (.mv (.c (.bool false))), none⟩])
  (.seq (.seq (.reg [⟨(some (sl 12)), none, (.mv (.c (.int .i64 0))), none⟩])
  (.block 8
  (.loop (.seq (.seq (.reg [⟨(some (sl 106)), none, (.mv (.s (sl 12))), none⟩, ⟨(some (sl 107)), none, (.fld (.s (sl 1)) 0), none⟩, ⟨(some (sl 108)), none, (.ld true (.s (sl 107)) none), none⟩, ⟨(some (sl 109)), none, (.len false (.s (sl 108))), none⟩, ⟨(some (sl 110)), none, (.bin .lss (.s (sl 106)) (.s (sl 109))), none⟩])
  (.cond (.s (sl 110))
  .skip
  (.exit 8)))
  (.seq (.block 9
  (.seq (.reg [⟨(some (sl 13)), none, (.mv (.c (.int .i64 0))), none⟩])
  (.block 10
  (.loop (.seq (.seq (.reg [⟨(some (sl 113)), none, (.mv (.s (sl 13))), none⟩, ⟨(some (sl 114)), none, (.fld (.s (sl 1)) 0), none⟩, ⟨(some (sl 115)), none, (.ld true (.s (sl 114)) none), none⟩, ⟨(some (sl 116)), none, (.mv (.s (sl 12))), none⟩, ⟨(some (sl 117)), none, (.idx true (.s (sl 115)) (.s (sl 116)) 4), none⟩, ⟨(some (sl 118)), none, (.fld (.s (sl 117)) 3), none⟩, ⟨(some (sl 119)), none, (.ld true (.s (sl 118)) none), none⟩, ⟨(some (sl 120)), none, (.len false (.s (sl 119))), none⟩, ⟨(some (sl 121)), none, (.bin .lss (.s (sl 113)) (.s (sl 120))), none⟩])
  (.cond (.s (sl 121))
  .skip
  (.exit 10)))
  (.seq (.block 11
  (.seq (.reg [⟨(some (sl 14)), none, (.mv (.c (.int .i64 0))), none⟩])
  (.block 12
  (.loop (.seq (.seq (.reg [⟨(some (sl 124)), none, (.mv (.s (sl 14))), none⟩, ⟨(some (sl 125)), none, (.fld (.s (sl 1)) 0), none⟩, ⟨(some (sl 126)), none, (.ld true (.s (sl 125)) none), none⟩, ⟨(some (sl 127)), none, (.mv (.s (sl 12))), none⟩, ⟨(some (sl 128)), none, (.idx true (.s (sl 126)) (.s (sl 127)) 4), none⟩, ⟨(some (sl 129)), none, (.fld (.s (sl 128)) 3), none⟩, ⟨(some (sl 130)), none, (.ld true (.s (sl 129)) none), none⟩, ⟨(some (sl 131)), none, (.mv (.s (sl 13))), none⟩, ⟨(some (sl 132)), none, (.idx true (.s (sl 130)) (.s (sl 131)) 8), none⟩, ⟨(some (sl 133)), none, (.fld (.s (sl 132)) 1), none⟩, ⟨(some (sl 134)), none, (.ld true (.s (sl 133)) none), none⟩, ⟨(some (sl 135)), none, (.len false (.s (sl 134))), none⟩, ⟨(some (sl 136)), none, (.bin .lss (.s (sl 124)) (.s (sl 135))), none⟩])
  (.cond (.s (sl 136))
  .skip
  (.exit 12)))
  (.seq (.block 13
  (.seq (.seq (.reg [⟨(some (sl 139)), none, (.fld (.s (sl 1)) 0), none⟩, ⟨(some (sl 140)), none, (.ld true (.s (sl 139)) none), none⟩, ⟨(some (sl 141)), none, (.mv (.s (sl 12))), none⟩, ⟨(some (sl 142)), none, (.idx true (.s (sl 140)) (.s (sl 141)) 4), none⟩, ⟨(some (sl 143)), none, (.fld (.s (sl 142)) 3), none⟩, ⟨(some (sl 144)), none, (.ld true (.s (sl 143)) none), none⟩, ⟨(some (sl 145)), none, (.mv (.s (sl 13))), none⟩, ⟨(some (sl 146)), none, (.idx true (.s (sl 144)) (.s (sl 145)) 8), none⟩, ⟨(some (sl 147)), none, (.fld (.s (sl 146)) 1), none⟩, ⟨(some (sl 148)), none, (.ld true (.s (sl 147)) none), none⟩, ⟨(some (sl 149)), none, (.mv (.s (sl 14))), none⟩, ⟨(some (sl 150)), none, (.idx true (.s (sl 148)) (.s (sl 149)) 6), none⟩, ⟨(some (sl 151)), none, (.ld true (.s (sl 150)) (some 6)), none⟩, ⟨(some (sl 15)), none, (.new [(.int .i64 0), (.int .i64 0), (.int .i64 0), (.int .u64 0), (.string ⟨#[]⟩), (.slice none 0 0)]), none⟩, ⟨none, none, (.ini 1 (.s (sl 15)) (.s (sl 151)) 6), none⟩])
  (.frz (sl 15)))
  (.seq (.seq (.reg [⟨(some (sl 152)), none, (.fld (.s (sl 15)) 0), none⟩, ⟨(some (sl 153)), none, (.ld true (.s (sl 152)) none), none⟩, ⟨(some (sl 154)), none, (.bin .eql (.s (sl 153)) (.c (.int .i64 14))), none⟩])
  (.cond (.s (sl 154))
  (.seq (.reg [⟨(some (sl 155)), none, (.ld true (.s (sl 1)) (some 2)), none⟩, ⟨(some (sl 156)), none, (.fld (.s (sl 15)) 4), none⟩, ⟨(some (sl 157)), none, (.ld true (.s (sl 156)) none), none⟩, ⟨(some (sl 158)), none, (.call true (.f 32) [(.s (sl 155)), (.s (sl 157))]), none⟩, ⟨(some (sl 16)), none, (.mv (.s (sl 158))), none⟩])
  (.seq (.seq (.reg [⟨(some (sl 159)), none, (.mv (.s (sl 16))), none⟩, ⟨(some (sl 160)), none, (.bin .lss (.s (sl 159)) (.c (.int .i64 0))), none⟩])
  (.cond (.s (sl 160))
  (.seq (.reg [⟨(some (sl 2)), none, (.mv (.c (.int .i64 8))), none⟩])
  .ret)
  .skip))
  (.reg [⟨(some (sl 161)), none, (.mv (.s (sl 11))), (some (0, []))⟩, ⟨(some (sl 162)), none, (.mv (.s (sl 161))), (some (1, []))⟩, ⟨(some (sl 163)), (some ((sl 162), false)), (.fld (.s (sl 1)) 0), (some (2, []))⟩, ⟨(some (sl 164)), (some ((sl 162), false)), (.ld true (.s (sl 163)) none), (some (3, []))⟩, ⟨(some (sl 165)), (some ((sl 162), false)), (.mv (.s (sl 16))), (some (4, []))⟩, ⟨(some (sl 166)), (some ((sl 162), false)), (.idx true (.s (sl 164)) (.s (sl 165)) 4), (some (5, []))⟩, ⟨(some (sl 167)), (some ((sl 162), false)), (.fld (.s (sl 166)) 2), (some (6, []))⟩, ⟨(some (sl 168)), (some ((sl 162), false)), (.ld true (.s (sl 167)) none), (some (7, []))⟩, ⟨(some (sl 169)), (some ((sl 162), false)), (.fld (.s (sl 15)) 5), (some (8, []))⟩, ⟨(some (sl 170)), (some ((sl 162), false)), (.ld true (.s (sl 169)) none), (some (9, []))⟩, ⟨(some (sl 171)), (some ((sl 162), false)), (.len false (.s (sl 170))), (some (10, []))⟩, ⟨(some (sl 172)), (some ((sl 162), false)), (.bin .neq (.s (sl 168)) (.s (sl 171))), (some (11, []))⟩, ⟨(some (sl 173)), none, (.pick (.s (sl 162)) (.c (.bool true)) (.s (sl 172))), (some (12, []))⟩, ⟨(some (sl 11)), none, (.mv (.s (sl 173))), (some (13, []))⟩])))
  .skip))
  (.seq (.reg [⟨(some (sl 174)), none, (.fld (.s (sl 15)) 0), none⟩, ⟨(some (sl 175)), none, (.ld true (.s (sl 174)) none), none⟩, ⟨(some (sl 176)), none, (.bin .eql (.s (sl 175)) (.c (.int .i64 12))), none⟩, ⟨(some (sl 177)), none, (.mv (.s (sl 176))), none⟩, ⟨(some (sl 178)), (some ((sl 177), false)), (.fld (.s (sl 15)) 0), none⟩, ⟨(some (sl 179)), (some ((sl 177), false)), (.ld true (.s (sl 178)) none), none⟩, ⟨(some (sl 180)), (some ((sl 177), false)), (.bin .eql (.s (sl 179)) (.c (.int .i64 13))), none⟩, ⟨(some (sl 181)), none, (.pick (.s (sl 177)) (.c (.bool true)) (.s (sl 180))), none⟩, ⟨(some (sl 182)), none, (.mv (.s (sl 181))), none⟩, ⟨(some (sl 183)), (some ((sl 182), true)), (.ld true (.s (sl 1)) (some 2)), none⟩, ⟨(some (sl 184)), (some ((sl 182), true)), (.fld (.s (sl 15)) 4), none⟩, ⟨(some (sl 185)), (some ((sl 182), true)), (.ld true (.s (sl 184)) none), none⟩, ⟨(some (sl 186)), (some ((sl 182), true)), (.call true (.f 34) [(.s (sl 183)), (.s (sl 185))]), none⟩, ⟨(some (sl 187)), (some ((sl 182), true)), (.bin .lss (.s (sl 186)) (.c (.int .i64 0))), none⟩, ⟨(some (sl 188)), none, (.pick (.s (sl 182)) (.s (sl 187)) (.c (.bool false))), none⟩])
  (.cond (.s (sl 188))
  (.seq (.reg [⟨(some (sl 2)), none, (.mv (.c (.int .i64 8))), none⟩])
  .ret)
  .skip)))))
  (.reg [⟨(some (sl 137)), none, (.mv (.s (sl 14))), none⟩, ⟨(some (sl 138)), none, (.bin .add (.s (sl 137)) (.c (.int .i64 1))), none⟩, ⟨(some (sl 14)), none, (.mv (.s (sl 138))), none⟩])))))))
  (.reg [⟨(some (sl 122)), none, (.mv (.s (sl 13))), none⟩, ⟨(some (sl 123)), none, (.bin .add (.s (sl 122)) (.c (.int .i64 1))), none⟩, ⟨(some (sl 13)), none, (.mv (.s (sl 123))), none⟩])))))))
  (.reg [⟨(some (sl 111)), none, (.mv (.s (sl 12))), none⟩, ⟨(some (sl 112)), none, (.bin .add (.s (sl 111)) (.c (.int .i64 1))), none⟩, ⟨(some (sl 12)), none, (.mv (.s (sl 112))), none⟩]))))))
  (.seq (.seq (.reg [⟨(some (sl 189)), none, (.mv (.s (sl 11))), none⟩])
  (.cond (.s (sl 189))
  (.seq (.reg [⟨(some (sl 2)), none, (.mv (.c (.int .i64 1))), none⟩])
  .ret)
  .skip))
  (.seq (.reg [⟨(some (sl 2)), none, (.mv (.c (.int .i64 0))), none⟩])
  .ret))))))))))
def r_marlineref05_Check : List ARes := [(.tmp (sl 2))]
theorem t_marlineref05_Check : (Try.f31).body.bind (trCode Try.prog 8 (Try.f31).ntmps [] [] (drOk 8)) = some c_marlineref05_Check := by kernel_rfl
theorem u_marlineref05_Check : trRess Try.prog 8 (Try.f31).results.toList = some r_marlineref05_Check := by kernel_rfl

def r_marlineref05_Same : List ARes := [(.tmp (sl 4))]
/-- marline/marlineref05.names -/
def c_marlineref05_names : ACode :=
  (.seq (.reg [⟨(some (sl 1)), none, (.box true (.s (sl 0))), none⟩, ⟨(some (sl 2)), none, (.mv (.c (.slice none 0 0))), none⟩])
  (.seq (.reg [⟨(some (sl 3)), none, (.mv (.c (.slice none 0 0))), none⟩])
  (.seq (.seq (.reg [⟨(some (sl 4)), none, (.mv (.c (.int .i64 0))), none⟩])
  (.block 0
  (.loop (.seq (.seq (.reg [⟨(some (sl 6)), none, (.mv (.s (sl 4))), none⟩, ⟨(some (sl 7)), none, (.fld (.s (sl 1)) 0), none⟩, ⟨(some (sl 8)), none, (.ld true (.s (sl 7)) none), none⟩, ⟨(some (sl 9)), none, (.len false (.s (sl 8))), none⟩, ⟨(some (sl 10)), none, (.bin .lss (.s (sl 6)) (.s (sl 9))), none⟩])
  (.cond (.s (sl 10))
  .skip
  (.exit 0)))
  (.seq (.block 1
  (.reg [⟨(some (sl 13)), none, (.mv (.s (sl 3))), none⟩, ⟨(some (sl 14)), none, (.fld (.s (sl 1)) 0), none⟩, ⟨(some (sl 15)), none, (.ld true (.s (sl 14)) none), none⟩, ⟨(some (sl 16)), none, (.mv (.s (sl 4))), none⟩, ⟨(some (sl 17)), none, (.idx true (.s (sl 15)) (.s (sl 16)) 4), none⟩, ⟨(some (sl 18)), none, (.fld (.s (sl 17)) 0), none⟩, ⟨(some (sl 19)), none, (.ld true (.s (sl 18)) none), none⟩, ⟨(some (sl 20)), none, (.mksl 1 1 [(.string ⟨#[]⟩)] [(0, 1, (.s (sl 19)))]), none⟩, ⟨(some (sl 21)), none, (.app 9 1 16 (.s (sl 13)) (.s (sl 20))), none⟩, ⟨(some (sl 3)), none, (.mv (.s (sl 21))), none⟩]))
  (.reg [⟨(some (sl 11)), none, (.mv (.s (sl 4))), none⟩, ⟨(some (sl 12)), none, (.bin .add (.s (sl 11)) (.c (.int .i64 1))), none⟩, ⟨(some (sl 4)), none, (.mv (.s (sl 12))), none⟩]))))))
  (.seq (.seq (.reg [⟨(some (sl 5)), none, (.mv (.c (.int .i64 0))), none⟩])
  (.block 2
  (.loop (.seq (.seq (.reg [⟨(some (sl 22)), none, (.mv (.s (sl 5))), none⟩, ⟨(some (sl 23)), none, (.fld (.s (sl 1)) 1), none⟩, ⟨(some (sl 24)), none, (.ld true (.s (sl 23)) none), none⟩, ⟨(some (sl 25)), none, (.len false (.s (sl 24))), none⟩, ⟨(some (sl 26)), none, (.bin .lss (.s (sl 22)) (.s (sl 25))), none⟩])
  (.cond (.s (sl 26))
  .skip
  (.exit 2)))
  (.seq (.block 3
  (.reg [⟨(some (sl 29)), none, (.mv (.s (sl 3))), none⟩, ⟨(some (sl 30)), none, (.fld (.s (sl 1)) 1), none⟩, ⟨(some (sl 31)), none, (.ld true (.s (sl 30)) none), none⟩, ⟨(some (sl 32)), none, (.mv (.s (sl 5))), none⟩, ⟨(some (sl 33)), none, (.idx true (.s (sl 31)) (.s (sl 32)) 4), none⟩, ⟨(some (sl 34)), none, (.fld (.s (sl 33)) 0), none⟩, ⟨(some (sl 35)), none, (.ld true (.s (sl 34)) none), none⟩, ⟨(some (sl 36)), none, (.mksl 1 1 [(.string ⟨#[]⟩)] [(0, 1, (.s (sl 35)))]), none⟩, ⟨(some (sl 37)), none, (.app 9 1 16 (.s (sl 29)) (.s (sl 36))), none⟩, ⟨(some (sl 3)), none, (.mv (.s (sl 37))), none⟩]))
  (.reg [⟨(some (sl 27)), none, (.mv (.s (sl 5))), none⟩, ⟨(some (sl 28)), none, (.bin .add (.s (sl 27)) (.c (.int .i64 1))), none⟩, ⟨(some (sl 5)), none, (.mv (.s (sl 28))), none⟩]))))))
  (.seq (.reg [⟨(some (sl 38)), none, (.mv (.s (sl 3))), none⟩, ⟨(some (sl 2)), none, (.mv (.s (sl 38))), none⟩])
  .ret)))))
def r_marlineref05_names : List ARes := [(.tmp (sl 2))]
theorem t_marlineref05_names : (Try.f50).body.bind (trCode Try.prog 8 (Try.f50).ntmps [2, 3, 13, 21, 29, 37, 38] [] (drOk 8)) = some c_marlineref05_names := by kernel_rfl
theorem u_marlineref05_names : trRess Try.prog 8 (Try.f50).results.toList = some r_marlineref05_names := by kernel_rfl

def r_marlineref05_SameFunc : List ARes := [(.tmp (sl 4))]
end Go.Proofs.Ytpfokkfomgmibaa
