/- The bodies of some functions, as the evaluator has them (printed by program), and that they are the program's own. -/
import Derived.Test.YtghlfjpmpalpdaaEv
namespace Go.Proofs.Ytghlfjpmpalpdaa
open Go.RowKit

/-- marline/ir.Uses -/
def c_ir_Uses : ACode :=
  (.seq (.reg [⟨(some (sl 1)), none, (.box true (.s (sl 0))), none⟩, ⟨(some (sl 2)), none, (.mv (.c (.slice none 0 0))), none⟩])
  (.seq (.block 0
  (.seq (.block 4
  (.seq (.block 3
  (.block 2
  (.seq (.block 1
  (.seq (.seq (.seq (.reg [⟨(some (sl 4)), none, (.fld (.s (sl 1)) 0), none⟩, ⟨(some (sl 5)), none, (.ld true (.s (sl 4)) none), none⟩, ⟨(some (sl 6)), none, (.bin .geq (.s (sl 5)) (.c (.int .i64 2))), none⟩, ⟨(some (sl 7)), none, (.mv (.s (sl 6))), none⟩, ⟨(some (sl 8)), (some ((sl 7), true)), (.fld (.s (sl 1)) 0), none⟩, ⟨(some (sl 9)), (some ((sl 7), true)), (.ld true (.s (sl 8)) none), none⟩, ⟨(some (sl 10)), (some ((sl 7), true)), (.bin .leq (.s (sl 9)) (.c (.int .i64 11))), none⟩, ⟨(some (sl 11)), none, (.pick (.s (sl 7)) (.s (sl 10)) (.c (.bool false))), none⟩, ⟨(some (sl 3)), none, (.mv (.s (sl 11))), none⟩])
  (.cond (.s (sl 3))
  (.exit 1)
  .skip))
  (.seq (.seq (.reg [⟨(some (sl 13)), none, (.fld (.s (sl 1)) 0), none⟩, ⟨(some (sl 14)), none, (.ld true (.s (sl 13)) none), none⟩, ⟨(some (sl 15)), none, (.bin .eql (.s (sl 14)) (.c (.int .i64 13))), none⟩, ⟨(some (sl 12)), none, (.mv (.s (sl 15))), none⟩])
  (.cond (.s (sl 12))
  (.exit 2)
  .skip))
  (.seq (.seq (.reg [⟨(some (sl 17)), none, (.fld (.s (sl 1)) 0), none⟩, ⟨(some (sl 18)), none, (.ld true (.s (sl 17)) none), none⟩, ⟨(some (sl 19)), none, (.bin .eql (.s (sl 18)) (.c (.int .i64 16))), none⟩, ⟨(some (sl 16)), none, (.mv (.s (sl 19))), none⟩])
  (.cond (.s (sl 16))
  (.exit 3)
  .skip))
  (.seq (.reg [⟨(some (sl 21)), none, (.fld (.s (sl 1)) 0), none⟩, ⟨(some (sl 22)), none, (.ld true (.s (sl 21)) none), none⟩, ⟨(some (sl 23)), none, (.bin .eql (.s (sl 22)) (.c (.int .i64 14))), none⟩, ⟨(some (sl 20)), none, (.mv (.s (sl 23))), none⟩])
  (.cond (.s (sl 20))
  (.exit 4)
  .skip)))))
  (.exit 0)))
  (.seq (.seq (.reg [⟨(some (sl 24)), none, (.fld (.s (sl 1)) 1), none⟩, ⟨(some (sl 25)), none, (.ld true (.s (sl 24)) none), none⟩, ⟨(some (sl 26)), none, (.fld (.s (sl 1)) 2), none⟩, ⟨(some (sl 27)), none, (.ld true (.s (sl 26)) none), none⟩, ⟨(some (sl 28)), none, (.mksl 1 2 [(.int .i64 0), (.int .i64 0)] [(0, 1, (.s (sl 25))), (1, 1, (.s (sl 27)))]), none⟩, ⟨(some (sl 2)), none, (.mv (.s (sl 28))), none⟩])
  .ret)
  (.exit 0)))))
  (.seq (.seq (.reg [⟨(some (sl 29)), none, (.fld (.s (sl 1)) 1), none⟩, ⟨(some (sl 30)), none, (.ld true (.s (sl 29)) none), none⟩, ⟨(some (sl 31)), none, (.mksl 1 1 [(.int .i64 0)] [(0, 1, (.s (sl 30)))]), none⟩, ⟨(some (sl 2)), none, (.mv (.s (sl 31))), none⟩])
  .ret)
  (.exit 0))))
  (.seq (.seq (.reg [⟨(some (sl 32)), none, (.fld (.s (sl 1)) 5), none⟩, ⟨(some (sl 33)), none, (.ld true (.s (sl 32)) none), none⟩, ⟨(some (sl 34)), none, (.call true (.f 36) [(.s (sl 33))]), none⟩, ⟨(some (sl 2)), none, (.mv (.s (sl 34))), none⟩])
  .ret)
  (.exit 0))))
  (.seq (.reg [⟨(some (sl 2)), none, (.mv (.c (.slice none 0 0))), none⟩])
  .ret)))
def r_ir_Uses : List ARes := [(.tmp (sl 2))]
theorem t_ir_Uses : (Try.f16).body.bind (trCode Try.prog 8 (Try.f16).ntmps [] [(61, 3, 1), (79, 25, 6)] (drOk 8)) = some c_ir_Uses := by kernel_rfl
theorem u_ir_Uses : trRess Try.prog 8 (Try.f16).results.toList = some r_ir_Uses := by kernel_rfl

/-- marline/ir.Inst -/
def c_ir_Inst : ACode :=
  (.seq (.reg [⟨(some (sl 2)), none, (.box true (.s (sl 0))), none⟩, ⟨(some (sl 4)), none, (.mv (.c (.bool false))), none⟩])
  (.seq (.seq (.reg [⟨(some (sl 7)), none, (.fld (.s (sl 2)) 0), none⟩, ⟨(some (sl 8)), none, (.ld true (.s (sl 7)) none), none⟩, ⟨(some (sl 9)), none, (.bin .lss (.s (sl 8)) (.c (.int .i64 1))), none⟩, ⟨(some (sl 10)), none, (.mv (.s (sl 9))), none⟩, ⟨(some (sl 11)), (some ((sl 10), false)), (.fld (.s (sl 2)) 0), none⟩, ⟨(some (sl 12)), (some ((sl 10), false)), (.ld true (.s (sl 11)) none), none⟩, ⟨(some (sl 13)), (some ((sl 10), false)), (.bin .gtr (.s (sl 12)) (.c (.int .i64 16))), none⟩, ⟨(some (sl 14)), none, (.pick (.s (sl 10)) (.c (.bool true)) (.s (sl 13))), none⟩, ⟨(some (sl 15)), none, (.mv (.s (sl 14))), none⟩, ⟨(some (sl 16)), (some ((sl 15), false)), (.ld true (.s (sl 2)) (some 6)), none⟩, ⟨(some (sl 17)), (some ((sl 15), false)), (.call true (.f 16) [(.s (sl 16))]), none⟩, ⟨(some (sl 18)), (some ((sl 15), false)), (.mv (.s (sl 1))), none⟩, ⟨(some (sl 19)), (some ((sl 15), false)), (.call true (.f 37) [(.s (sl 17)), (.s (sl 18))]), none⟩, ⟨(some (sl 20)), (some ((sl 15), false)), (.not (.s (sl 19))), none⟩, ⟨(some (sl 21)), none, (.pick (.s (sl 15)) (.c (.bool true)) (.s (sl 20))), none⟩])
  (.cond (.s (sl 21))
  (.seq (.reg [⟨(some (sl 4)), none, (.mv (.c (.bool false))), none⟩])
  .ret)
  .skip))
  (.seq (.reg [⟨(some (sl 22)), none, (.fld (.s (sl 2)) 0), none⟩, ⟨(some (sl 23)), none, (.ld true (.s (sl 22)) none), none⟩, ⟨(some (sl 24)), none, (.bin .geq (.s (sl 23)) (.c (.int .i64 2))), none⟩, ⟨(some (sl 25)), none, (.mv (.s (sl 24))), none⟩, ⟨(some (sl 26)), (some ((sl 25), true)), (.fld (.s (sl 2)) 0), none⟩, ⟨(some (sl 27)), (some ((sl 25), true)), (.ld true (.s (sl 26)) none), none⟩, ⟨(some (sl 28)), (some ((sl 25), true)), (.bin .leq (.s (sl 27)) (.c (.int .i64 11))), none⟩, ⟨(some (sl 29)), none, (.pick (.s (sl 25)) (.s (sl 28)) (.c (.bool false))), none⟩, ⟨(some (sl 5)), none, (.mv (.s (sl 29))), none⟩])
  (.seq (.reg [⟨(some (sl 30)), none, (.mv (.s (sl 5))), none⟩, ⟨(some (sl 31)), none, (.mv (.s (sl 30))), none⟩, ⟨(some (sl 32)), (some ((sl 31), false)), (.fld (.s (sl 2)) 0), none⟩, ⟨(some (sl 33)), (some ((sl 31), false)), (.ld true (.s (sl 32)) none), none⟩, ⟨(some (sl 34)), (some ((sl 31), false)), (.bin .eql (.s (sl 33)) (.c (.int .i64 13))), none⟩, ⟨(some (sl 35)), none, (.pick (.s (sl 31)) (.c (.bool true)) (.s (sl 34))), none⟩, ⟨(some (sl 36)), none, (.mv (.s (sl 35))), none⟩, ⟨(some (sl 37)), (some ((sl 36), false)), (.fld (.s (sl 2)) 0), none⟩, ⟨(some (sl 38)), (some ((sl 36), false)), (.ld true (.s (sl 37)) none), none⟩, ⟨(some (sl 39)), (some ((sl 36), false)), (.bin .eql (.s (sl 38)) (.c (.int .i64 16))), none⟩, ⟨(some (sl 40)), none, (.pick (.s (sl 36)) (.c (.bool true)) (.s (sl 39))), none⟩, ⟨(some (sl 6)), none, (.mv (.s (sl 40))), none⟩])
  (.seq (.block 0
  (.seq (.reg [⟨(some (sl 42)), none, (.mv (.s (sl 6))), none⟩, ⟨(some (sl 43)), none, (.not (.s (sl 42))), none⟩, ⟨(some (sl 44)), none, (.mv (.s (sl 43))), none⟩, ⟨(some (sl 45)), (some ((sl 44), true)), (.fld (.s (sl 2)) 1), none⟩, ⟨(some (sl 46)), (some ((sl 44), true)), (.ld true (.s (sl 45)) none), none⟩, ⟨(some (sl 47)), (some ((sl 44), true)), (.bin .neq (.s (sl 46)) (.c (.int .i64 0))), none⟩, ⟨(some (sl 48)), none, (.pick (.s (sl 44)) (.s (sl 47)) (.c (.bool false))), none⟩, ⟨(some (sl 49)), none, (.mv (.s (sl 48))), none⟩, ⟨(some (sl 50)), (some ((sl 49), false)), (.mv (.s (sl 5))), none⟩, ⟨(some (sl 51)), (some ((sl 49), false)), (.not (.s (sl 50))), none⟩, ⟨(some (sl 52)), (some ((sl 49), false)), (.mv (.s (sl 51))), none⟩, ⟨(some (sl 53)), (some ((sl 52), true)), (.fld (.s (sl 2)) 2), none⟩, ⟨(some (sl 54)), (some ((sl 52), true)), (.ld true (.s (sl 53)) none), none⟩, ⟨(some (sl 55)), (some ((sl 52), true)), (.bin .neq (.s (sl 54)) (.c (.int .i64 0))), none⟩, ⟨(some (sl 56)), (some ((sl 49), false)), (.pick (.s (sl 52)) (.s (sl 55)) (.c (.bool false))), none⟩, ⟨(some (sl 57)), none, (.pick (.s (sl 49)) (.c (.bool true)) (.s (sl 56))), none⟩, ⟨(some (sl 41)), none, (.mv (.s (sl 57))), none⟩])
  (.cond (.s (sl 41))
  (.seq (.reg [⟨(some (sl 4)), none, (.mv (.c (.bool false))), none⟩])
  .ret)
  (.seq (.reg [⟨(some (sl 59)), none, (.fld (.s (sl 2)) 0), none⟩, ⟨(some (sl 60)), none, (.ld true (.s (sl 59)) none), none⟩, ⟨(some (sl 61)), none, (.bin .neq (.s (sl 60)) (.c (.int .i64 1))), none⟩, ⟨(some (sl 62)), none, (.mv (.s (sl 61))), none⟩, ⟨(some (sl 63)), (some ((sl 62), true)), (.fld (.s (sl 2)) 3), none⟩, ⟨(some (sl 64)), (some ((sl 62), true)), (.ld true (.s (sl 63)) none), none⟩, ⟨(some (sl 65)), (some ((sl 62), true)), (.bin .neq (.s (sl 64)) (.c (.int .u64 0))), none⟩, ⟨(some (sl 66)), none, (.pick (.s (sl 62)) (.s (sl 65)) (.c (.bool false))), none⟩, ⟨(some (sl 58)), none, (.mv (.s (sl 66))), none⟩])
  (.cond (.s (sl 58))
  (.seq (.reg [⟨(some (sl 4)), none, (.mv (.c (.bool false))), none⟩])
  .ret)
  (.seq (.reg [⟨(some (sl 68)), none, (.fld (.s (sl 2)) 0), none⟩, ⟨(some (sl 69)), none, (.ld true (.s (sl 68)) none), none⟩, ⟨(some (sl 70)), none, (.bin .neq (.s (sl 69)) (.c (.int .i64 14))), none⟩, ⟨(some (sl 71)), none, (.mv (.s (sl 70))), none⟩, ⟨(some (sl 72)), (some ((sl 71), true)), (.fld (.s (sl 2)) 5), none⟩, ⟨(some (sl 73)), (some ((sl 71), true)), (.ld true (.s (sl 72)) none), none⟩, ⟨(some (sl 74)), (some ((sl 71), true)), (.len false (.s (sl 73))), none⟩, ⟨(some (sl 75)), (some ((sl 71), true)), (.bin .gtr (.s (sl 74)) (.c (.int .i64 0))), none⟩, ⟨(some (sl 76)), none, (.pick (.s (sl 71)) (.s (sl 75)) (.c (.bool false))), none⟩, ⟨(some (sl 77)), none, (.mv (.s (sl 76))), none⟩, ⟨(some (sl 78)), (some ((sl 77), false)), (.fld (.s (sl 2)) 5), none⟩, ⟨(some (sl 79)), (some ((sl 77), false)), (.ld true (.s (sl 78)) none), none⟩, ⟨(some (sl 80)), (some ((sl 77), false)), (.len false (.s (sl 79))), none⟩, ⟨(some (sl 81)), (some ((sl 77), false)), (.bin .gtr (.s (sl 80)) (.c (.int .i64 6))), none⟩, ⟨(some (sl 82)), none, (.pick (.s (sl 77)) (.c (.bool true)) (.s (sl 81))), none⟩, ⟨(some (sl 67)), none, (.mv (.s (sl 82))), none⟩])
  (.cond (.s (sl 67))
  (.seq (.reg [⟨(some (sl 4)), none, (.mv (.c (.bool false))), none⟩])
  .ret)
  .skip)))))))
  (.seq (.seq (.reg [⟨(some (sl 83)), none, (.ld true (.s (sl 2)) (some 6)), none⟩, ⟨(some (sl 84)), none, (.call true (.f 38) [(.s (sl 83))]), none⟩])
  (.cond (.s (sl 84))
  (.seq (.reg [⟨(some (sl 85)), none, (.fld (.s (sl 2)) 4), none⟩, ⟨(some (sl 86)), none, (.ld true (.s (sl 85)) none), none⟩, ⟨(some (sl 87)), none, (.call true (.f 39) [(.s (sl 86))]), none⟩, ⟨(some (sl 4)), none, (.mv (.s (sl 87))), none⟩])
  .ret)
  .skip))
  (.seq (.reg [⟨(some (sl 88)), none, (.fld (.s (sl 2)) 4), none⟩, ⟨(some (sl 89)), none, (.ld true (.s (sl 88)) none), none⟩, ⟨(some (sl 90)), none, (.bin .eql (.s (sl 89)) (.c (.string ⟨#[]⟩))), none⟩, ⟨(some (sl 4)), none, (.mv (.s (sl 90))), none⟩])
  .ret)))))))
def r_ir_Inst : List ARes := [(.tmp (sl 4))]
theorem t_ir_Inst : (Try.f18).body.bind (trCode Try.prog 8 (Try.f18).ntmps [] [(61, 3, 1), (79, 25, 6)] (drOk 8)) = some c_ir_Inst := by kernel_rfl
theorem u_ir_Inst : trRess Try.prog 8 (Try.f18).results.toList = some r_ir_Inst := by kernel_rfl

/-- marline/ir.Values -/
def c_ir_Values : ACode :=
  (.seq (.reg [⟨(some (sl 1)), none, (.box true (.s (sl 0))), none⟩, ⟨(some (sl 2)), none, (.mv (.c (.int .i64 0))), none⟩])
  (.seq (.reg [⟨(some (sl 3)), none, (.fld (.s (sl 1)) 0), none⟩, ⟨(some (sl 4)), none, (.ld true (.s (sl 3)) none), none⟩, ⟨(some (sl 5)), none, (.fld (.s (sl 1)) 1), none⟩, ⟨(some (sl 6)), none, (.ld true (.s (sl 5)) none), none⟩, ⟨(some (sl 7)), none, (.len false (.s (sl 6))), none⟩, ⟨(some (sl 8)), none, (.bin .add (.s (sl 4)) (.s (sl 7))), none⟩, ⟨(some (sl 2)), none, (.mv (.s (sl 8))), none⟩])
  .ret))
def r_ir_Values : List ARes := [(.tmp (sl 2))]
theorem t_ir_Values : (Try.f20).body.bind (trCode Try.prog 8 (Try.f20).ntmps [] [(61, 3, 1), (79, 25, 6)] (drOk 8)) = some c_ir_Values := by kernel_rfl
theorem u_ir_Values : trRess Try.prog 8 (Try.f20).results.toList = some r_ir_Values := by kernel_rfl

/-- marline/ir.Func -/
def c_ir_Func : ACode :=
  (.seq (.reg [⟨(some (sl 1)), none, (.box true (.s (sl 0))), none⟩, ⟨(some (sl 2)), none, (.mv (.c (.bool false))), none⟩])
  (.seq (.seq (.reg [⟨(some (sl 3)), none, (.fld (.s (sl 1)) 0), none⟩, ⟨(some (sl 4)), none, (.ld true (.s (sl 3)) none), none⟩, ⟨(some (sl 5)), none, (.call true (.f 39) [(.s (sl 4))]), none⟩, ⟨(some (sl 6)), none, (.not (.s (sl 5))), none⟩, ⟨(some (sl 7)), none, (.mv (.s (sl 6))), none⟩, ⟨(some (sl 8)), (some ((sl 7), false)), (.fld (.s (sl 1)) 1), none⟩, ⟨(some (sl 9)), (some ((sl 7), false)), (.ld true (.s (sl 8)) none), none⟩, ⟨(some (sl 10)), (some ((sl 7), false)), (.bin .lss (.s (sl 9)) (.c (.int .i64 1))), none⟩, ⟨(some (sl 11)), none, (.pick (.s (sl 7)) (.c (.bool true)) (.s (sl 10))), none⟩, ⟨(some (sl 12)), none, (.mv (.s (sl 11))), none⟩, ⟨(some (sl 13)), (some ((sl 12), false)), (.fld (.s (sl 1)) 1), none⟩, ⟨(some (sl 14)), (some ((sl 12), false)), (.ld true (.s (sl 13)) none), none⟩, ⟨(some (sl 15)), (some ((sl 12), false)), (.bin .gtr (.s (sl 14)) (.c (.int .i64 3))), none⟩, ⟨(some (sl 16)), none, (.pick (.s (sl 12)) (.c (.bool true)) (.s (sl 15))), none⟩, ⟨(some (sl 17)), none, (.mv (.s (sl 16))), none⟩, ⟨(some (sl 18)), (some ((sl 17), false)), (.fld (.s (sl 1)) 2), none⟩, ⟨(some (sl 19)), (some ((sl 17), false)), (.ld true (.s (sl 18)) none), none⟩, ⟨(some (sl 20)), (some ((sl 17), false)), (.bin .lss (.s (sl 19)) (.c (.int .i64 0))), none⟩, ⟨(some (sl 21)), none, (.pick (.s (sl 17)) (.c (.bool true)) (.s (sl 20))), none⟩, ⟨(some (sl 22)), none, (.mv (.s (sl 21))), none⟩, ⟨(some (sl 23)), (some ((sl 22), false)), (.fld (.s (sl 1)) 2), none⟩, ⟨(some (sl 24)), (some ((sl 22), false)), (.ld true (.s (sl 23)) none), none⟩, ⟨(some (sl 25)), (some ((sl 22), false)), (.bin .gtr (.s (sl 24)) (.c (.int .i64 6))), none⟩, ⟨(some (sl 26)), none, (.pick (.s (sl 22)) (.c (.bool true)) (.s (sl 25))), none⟩, ⟨(some (sl 27)), none, (.mv (.s (sl 26))), none⟩, ⟨(some (sl 28)), (some ((sl 27), false)), (.fld (.s (sl 1)) 3), none⟩, ⟨(some (sl 29)), (some ((sl 27), false)), (.ld true (.s (sl 28)) none), none⟩, ⟨(some (sl 30)), (some ((sl 27), false)), (.len false (.s (sl 29))), none⟩, ⟨(some (sl 31)), (some ((sl 27), false)), (.bin .gtr (.s (sl 30)) (.c (.int .i64 16))), none⟩, ⟨(some (sl 32)), none, (.pick (.s (sl 27)) (.c (.bool true)) (.s (sl 31))), none⟩])
  (.cond (.s (sl 32))
  (.seq (.reg [⟨(some (sl 2)), none, (.mv (.c (.bool false))), none⟩])
  .ret)
  .skip))
  (.seq (.seq (.reg [⟨(some (sl 33)), none, (.fld (.s (sl 1)) 3), none⟩, ⟨(some (sl 34)), none, (.ld true (.s (sl 33)) none), none⟩, ⟨(some (sl 35)), none, (.len false (.s (sl 34))), none⟩, ⟨(some (sl 36)), none, (.bin .eql (.s (sl 35)) (.c (.int .i64 0))), none⟩])
  (.cond (.s (sl 36))
  (.seq (.reg [⟨(some (sl 37)), none, (.fld (.s (sl 1)) 1), none⟩, ⟨(some (sl 38)), none, (.ld true (.s (sl 37)) none), none⟩, ⟨(some (sl 39)), none, (.bin .neq (.s (sl 38)) (.c (.int .i64 1))), none⟩, ⟨(some (sl 2)), none, (.mv (.s (sl 39))), none⟩])
  .ret)
  .skip))
  (.seq (.reg [⟨(some (sl 40)), none, (.fld (.s (sl 1)) 3), (some 0)⟩, ⟨(some (sl 41)), none, (.ld true (.s (sl 40)) none), (some 1)⟩, ⟨(some (sl 42)), none, (.idx true (.s (sl 41)) (.c (.int .i64 0)) 8), (some 2)⟩, ⟨(some (sl 43)), none, (.fld (.s (sl 42)) 0), (some 3)⟩, ⟨(some (sl 44)), none, (.ld true (.s (sl 43)) none), (some 4)⟩, ⟨(some (sl 45)), none, (.fld (.s (sl 1)) 2), (some 5)⟩, ⟨(some (sl 46)), none, (.ld true (.s (sl 45)) none), (some 6)⟩, ⟨(some (sl 47)), none, (.bin .eql (.s (sl 44)) (.s (sl 46))), (some 7)⟩, ⟨(some (sl 48)), none, (.mv (.s (sl 47))), (some 8)⟩, ⟨(some (sl 49)), (some ((sl 48), true)), (.fld (.s (sl 1)) 3), (some 9)⟩, ⟨(some (sl 50)), (some ((sl 48), true)), (.ld true (.s (sl 49)) none), (some 10)⟩, ⟨(some (sl 51)), (some ((sl 48), true)), (.mkfn 44 [(.s (sl 1))]), (some 11)⟩, ⟨(some (sl 52)), (some ((sl 48), true)), (.call true (.f 43) [(.s (sl 50)), (.s (sl 51))]), (some 12)⟩, ⟨(some (sl 53)), (some ((sl 48), true)), (.not (.s (sl 52))), (some 13)⟩, ⟨(some (sl 54)), none, (.pick (.s (sl 48)) (.s (sl 53)) (.c (.bool false))), (some 14)⟩, ⟨(some (sl 2)), none, (.mv (.s (sl 54))), (some 15)⟩])
  .ret))))
def r_ir_Func : List ARes := [(.tmp (sl 2))]
theorem t_ir_Func : (Try.f21).body.bind (trCode Try.prog 8 (Try.f21).ntmps [] [(61, 3, 1), (79, 25, 6)] (drOk 8)) = some c_ir_Func := by kernel_rfl
theorem u_ir_Func : trRess Try.prog 8 (Try.f21).results.toList = some r_ir_Func := by kernel_rfl

/-- slices.Clone[[]int,int] -/
def c_slices_Clone___int_int_ : ACode :=
  (.seq (.reg [⟨(some (sl 2)), none, (.mv (.c (.slice none 0 0))), none⟩])
  (.seq (.seq (.reg [⟨(some (sl 3)), none, (.mv (.s (sl 0))), none⟩, ⟨(some (sl 4)), none, (.isnil false (.s (sl 3))), none⟩])
  (.cond (.s (sl 4))
  (.seq (.reg [⟨(some (sl 2)), none, (.mv (.c (.slice none 0 0))), none⟩])
  .ret)
  .skip))
  (.seq (.reg [⟨(some (sl 5)), none, (.nrow 3 1), none⟩, ⟨(some (sl 6)), none, (.mv (.s (sl 0))), none⟩, ⟨(some (sl 7)), none, (.app 3 1 8 (.s (sl 5)) (.s (sl 6))), none⟩, ⟨(some (sl 2)), none, (.mv (.s (sl 7))), none⟩])
  .ret)))
def r_slices_Clone___int_int_ : List ARes := [(.tmp (sl 2))]
theorem t_slices_Clone___int_int_ : (Try.f36).body.bind (trCode Try.prog 8 (Try.f36).ntmps [2, 7] [(61, 3, 1), (79, 25, 6)] (drOk 8)) = some c_slices_Clone___int_int_ := by kernel_rfl
theorem u_slices_Clone___int_int_ : trRess Try.prog 8 (Try.f36).results.toList = some r_slices_Clone___int_int_ := by kernel_rfl

/-- marline/ir.all -/
def c_ir_all : ACode :=
  (.seq (.reg [⟨(some (sl 3)), none, (.box true (.s (sl 1))), none⟩, ⟨(some (sl 4)), none, (.mv (.c (.bool false))), none⟩])
  (.seq (.reg [⟨(some (sl 5)), none, (.mv (.s (sl 0))), none⟩, ⟨(some (sl 6)), none, (.mkfn 64 [(.s (sl 3))]), none⟩, ⟨(some (sl 7)), none, (.call true (.f 63) [(.s (sl 5)), (.s (sl 6))]), none⟩, ⟨(some (sl 8)), none, (.not (.s (sl 7))), none⟩, ⟨(some (sl 4)), none, (.mv (.s (sl 8))), none⟩])
  .ret))
def r_ir_all : List ARes := [(.tmp (sl 4))]
theorem t_ir_all : (Try.f37).body.bind (trCode Try.prog 8 (Try.f37).ntmps [] [(61, 3, 1), (79, 25, 6)] (drOk 8)) = some c_ir_all := by kernel_rfl
theorem u_ir_all : trRess Try.prog 8 (Try.f37).results.toList = some r_ir_all := by kernel_rfl

/-- marline/ir.named -/
def c_ir_named : ACode :=
  (.seq (.reg [⟨(some (sl 1)), none, (.box true (.s (sl 0))), none⟩, ⟨(some (sl 2)), none, (.mv (.c (.bool false))), none⟩])
  (.seq (.reg [⟨(some (sl 3)), none, (.fld (.s (sl 1)) 0), none⟩, ⟨(some (sl 4)), none, (.ld true (.s (sl 3)) none), none⟩, ⟨(some (sl 5)), none, (.bin .eql (.s (sl 4)) (.c (.int .i64 12))), none⟩, ⟨(some (sl 6)), none, (.mv (.s (sl 5))), none⟩, ⟨(some (sl 7)), (some ((sl 6), false)), (.fld (.s (sl 1)) 0), none⟩, ⟨(some (sl 8)), (some ((sl 6), false)), (.ld true (.s (sl 7)) none), none⟩, ⟨(some (sl 9)), (some ((sl 6), false)), (.bin .eql (.s (sl 8)) (.c (.int .i64 13))), none⟩, ⟨(some (sl 10)), none, (.pick (.s (sl 6)) (.c (.bool true)) (.s (sl 9))), none⟩, ⟨(some (sl 11)), none, (.mv (.s (sl 10))), none⟩, ⟨(some (sl 12)), (some ((sl 11), false)), (.fld (.s (sl 1)) 0), none⟩, ⟨(some (sl 13)), (some ((sl 11), false)), (.ld true (.s (sl 12)) none), none⟩, ⟨(some (sl 14)), (some ((sl 11), false)), (.bin .eql (.s (sl 13)) (.c (.int .i64 14))), none⟩, ⟨(some (sl 15)), none, (.pick (.s (sl 11)) (.c (.bool true)) (.s (sl 14))), none⟩, ⟨(some (sl 2)), none, (.mv (.s (sl 15))), none⟩])
  .ret))
def r_ir_named : List ARes := [(.tmp (sl 2))]
theorem t_ir_named : (Try.f38).body.bind (trCode Try.prog 8 (Try.f38).ntmps [] [(61, 3, 1), (79, 25, 6)] (drOk 8)) = some c_ir_named := by kernel_rfl
theorem u_ir_named : trRess Try.prog 8 (Try.f38).results.toList = some r_ir_named := by kernel_rfl

/-- marline/ir.name -/
def c_ir_name : ACode :=
  (.seq (.reg [⟨(some (sl 2)), none, (.mv (.c (.bool false))), none⟩])
  (.seq (.reg [⟨(some (sl 3)), none, (.mv (.s (sl 0))), none⟩, ⟨(some (sl 4)), none, (.bin .neq (.s (sl 3)) (.c (.string ⟨#[]⟩))), none⟩, ⟨(some (sl 5)), none, (.mv (.s (sl 4))), none⟩, ⟨(some (sl 6)), (some ((sl 5), true)), (.mv (.s (sl 0))), none⟩, ⟨(some (sl 7)), (some ((sl 5), true)), (.len true (.s (sl 6))), none⟩, ⟨(some (sl 8)), (some ((sl 5), true)), (.bin .leq (.s (sl 7)) (.c (.int .i64 16))), none⟩, ⟨(some (sl 9)), none, (.pick (.s (sl 5)) (.s (sl 8)) (.c (.bool false))), none⟩, ⟨(some (sl 2)), none, (.mv (.s (sl 9))), none⟩])
  .ret))
def r_ir_name : List ARes := [(.tmp (sl 2))]
theorem t_ir_name : (Try.f39).body.bind (trCode Try.prog 8 (Try.f39).ntmps [] [(61, 3, 1), (79, 25, 6)] (drOk 8)) = some c_ir_name := by kernel_rfl
theorem u_ir_name : trRess Try.prog 8 (Try.f39).results.toList = some r_ir_name := by kernel_rfl

/-- marline/ir.block -/
def c_ir_block : ACode :=
  (.seq (.reg [⟨(some (sl 2)), none, (.box true (.s (sl 0))), none⟩, ⟨(some (sl 3)), none, (.box true (.s (sl 1))), none⟩, ⟨(some (sl 4)), none, (.mv (.c (.bool false))), none⟩])
  (.seq (.seq (.reg [⟨(some (sl 7)), none, (.fld (.s (sl 3)) 0), none⟩, ⟨(some (sl 8)), none, (.ld true (.s (sl 7)) none), none⟩, ⟨(some (sl 9)), none, (.bin .lss (.s (sl 8)) (.c (.int .i64 0))), none⟩, ⟨(some (sl 10)), none, (.mv (.s (sl 9))), none⟩, ⟨(some (sl 11)), (some ((sl 10), false)), (.fld (.s (sl 3)) 0), none⟩, ⟨(some (sl 12)), (some ((sl 10), false)), (.ld true (.s (sl 11)) none), none⟩, ⟨(some (sl 13)), (some ((sl 10), false)), (.bin .gtr (.s (sl 12)) (.c (.int .i64 6))), none⟩, ⟨(some (sl 14)), none, (.pick (.s (sl 10)) (.c (.bool true)) (.s (sl 13))), none⟩, ⟨(some (sl 15)), none, (.mv (.s (sl 14))), none⟩, ⟨(some (sl 16)), (some ((sl 15), false)), (.fld (.s (sl 3)) 1), none⟩, ⟨(some (sl 17)), (some ((sl 15), false)), (.ld true (.s (sl 16)) none), none⟩, ⟨(some (sl 18)), (some ((sl 15), false)), (.len false (.s (sl 17))), none⟩, ⟨(some (sl 19)), (some ((sl 15), false)), (.bin .gtr (.s (sl 18)) (.c (.int .i64 32))), none⟩, ⟨(some (sl 20)), none, (.pick (.s (sl 15)) (.c (.bool true)) (.s (sl 19))), none⟩])
  (.cond (.s (sl 20))
  (.seq (.reg [⟨(some (sl 4)), none, (.mv (.c (.bool false))), none⟩])
  .ret)
  .skip))
  (.seq (.seq (.reg [⟨(some (sl 21)), none, (.fld (.s (sl 3)) 1), none⟩, ⟨(some (sl 22)), none, (.ld true (.s (sl 21)) none), none⟩, ⟨(some (sl 23)), none, (.len false (.s (sl 22))), none⟩, ⟨(some (sl 24)), none, (.mv (.c (.int .i64 0))), none⟩])
  (.block 0
  (.loop (.seq (.reg [⟨(some (sl 25)), none, (.bin .lss (.s (sl 24)) (.s (sl 23))), none⟩])
  (.seq (.cond (.s (sl 25))
  .skip
  (.exit 0))
  (.seq (.block 1
  (.seq (.seq (.reg [⟨(some (sl 26)), none, (.mv (.s (sl 24))), none⟩, ⟨(some (sl 27)), none, (.idx true (.s (sl 22)) (.s (sl 24)) 6), none⟩, ⟨(some (sl 28)), none, (.ld true (.s (sl 27)) (some 6)), none⟩, ⟨(some (sl 6)), none, (.new [(.int .i64 0), (.int .i64 0), (.int .i64 0), (.int .u64 0), (.string ⟨#[]⟩), (.slice none 0 0)]), none⟩, ⟨(some (sl 5)), none, (.mv (.s (sl 26))), none⟩, ⟨none, none, (.ini 2 (.s (sl 6)) (.s (sl 28)) 6), none⟩])
  (.frz (sl 6)))
  (.seq (.reg [⟨(some (sl 29)), none, (.ld true (.s (sl 6)) (some 6)), none⟩, ⟨(some (sl 30)), none, (.fld (.s (sl 3)) 0), none⟩, ⟨(some (sl 31)), none, (.ld true (.s (sl 30)) none), none⟩, ⟨(some (sl 32)), none, (.mv (.s (sl 5))), none⟩, ⟨(some (sl 33)), none, (.bin .add (.s (sl 31)) (.s (sl 32))), none⟩, ⟨(some (sl 34)), none, (.call true (.f 18) [(.s (sl 29)), (.s (sl 33))]), none⟩, ⟨(some (sl 35)), none, (.not (.s (sl 34))), none⟩])
  (.cond (.s (sl 35))
  (.seq (.reg [⟨(some (sl 4)), none, (.mv (.c (.bool false))), none⟩])
  .ret)
  .skip))))
  (.reg [⟨(some (sl 36)), none, (.bin .add (.s (sl 24)) (.c (.int .i64 1))), none⟩, ⟨(some (sl 24)), none, (.mv (.s (sl 36))), none⟩])))))))
  (.seq (.reg [⟨(some (sl 37)), none, (.ld true (.s (sl 2)) (some 4)), none⟩, ⟨(some (sl 38)), none, (.ld true (.s (sl 3)) (some 8)), none⟩, ⟨(some (sl 39)), none, (.call true (.f 66) [(.s (sl 37)), (.s (sl 38))]), none⟩, ⟨(some (sl 4)), none, (.mv (.s (sl 39))), none⟩])
  .ret))))
def r_ir_block : List ARes := [(.tmp (sl 4))]
theorem t_ir_block : (Try.f45).body.bind (trCode Try.prog 8 (Try.f45).ntmps [] [(61, 3, 1), (79, 25, 6)] (drOk 8)) = some c_ir_block := by kernel_rfl
theorem u_ir_block : trRess Try.prog 8 (Try.f45).results.toList = some r_ir_block := by kernel_rfl

/-- slices.ContainsFunc[[]int,int] -/
def c_slices_ContainsFunc___int_int_ : ACode :=
  (.seq (.reg [⟨(some (sl 4)), none, (.mv (.c (.bool false))), none⟩])
  (.seq (.reg [⟨(some (sl 5)), none, (.mv (.s (sl 0))), none⟩, ⟨(some (sl 6)), none, (.mv (.s (sl 1))), none⟩, ⟨(some (sl 7)), none, (.call true (.f 74) [(.s (sl 5)), (.s (sl 6))]), none⟩, ⟨(some (sl 8)), none, (.bin .geq (.s (sl 7)) (.c (.int .i64 0))), none⟩, ⟨(some (sl 4)), none, (.mv (.s (sl 8))), none⟩])
  .ret))
def r_slices_ContainsFunc___int_int_ : List ARes := [(.tmp (sl 4))]
theorem t_slices_ContainsFunc___int_int_ : (Try.f63).body.bind (trCode Try.prog 8 (Try.f63).ntmps [] [(61, 3, 1), (79, 25, 6)] (drOk 8)) = some c_slices_ContainsFunc___int_int_ := by kernel_rfl
theorem u_slices_ContainsFunc___int_int_ : trRess Try.prog 8 (Try.f63).results.toList = some r_slices_ContainsFunc___int_int_ := by kernel_rfl

/-- marline/ir.all$1 -/
def c_ir_all_1 : ACode :=
  (.seq (.reg [⟨(some (sl 3)), none, (.mv (.c (.bool false))), none⟩])
  (.seq (.reg [⟨(some (sl 4)), none, (.mv (.s (sl 0))), none⟩, ⟨(some (sl 5)), none, (.bin .lss (.s (sl 4)) (.c (.int .i64 0))), none⟩, ⟨(some (sl 6)), none, (.mv (.s (sl 5))), none⟩, ⟨(some (sl 7)), (some ((sl 6), false)), (.mv (.s (sl 0))), none⟩, ⟨(some (sl 8)), (some ((sl 6), false)), (.ld true (.s (sl 1)) none), none⟩, ⟨(some (sl 9)), (some ((sl 6), false)), (.bin .geq (.s (sl 7)) (.s (sl 8))), none⟩, ⟨(some (sl 10)), none, (.pick (.s (sl 6)) (.c (.bool true)) (.s (sl 9))), none⟩, ⟨(some (sl 3)), none, (.mv (.s (sl 10))), none⟩])
  .ret))
def r_ir_all_1 : List ARes := [(.tmp (sl 3))]
theorem t_ir_all_1 : (Try.f64).body.bind (trCode Try.prog 8 (Try.f64).ntmps [] [(61, 3, 1), (79, 25, 6)] (drOk 8)) = some c_ir_all_1 := by kernel_rfl
theorem u_ir_all_1 : trRess Try.prog 8 (Try.f64).results.toList = some r_ir_all_1 := by kernel_rfl

/-- slices.IndexFunc[[]marline/api.Block,marline/api.Block] -/
def c_slices_IndexFunc___api_Block_api_Block_ : ACode :=
  (.seq (.reg [⟨(some (sl 4)), none, (.mv (.c (.int .i64 0))), none⟩])
  (.seq (.seq (.reg [⟨(some (sl 6)), none, (.mv (.s (sl 0))), none⟩, ⟨(some (sl 7)), none, (.len false (.s (sl 6))), none⟩, ⟨(some (sl 8)), none, (.mv (.c (.int .i64 0))), none⟩])
  (.block 0
  (.loop (.seq (.reg [⟨(some (sl 9)), none, (.bin .lss (.s (sl 8)) (.s (sl 7))), none⟩])
  (.seq (.cond (.s (sl 9))
  .skip
  (.exit 0))
  (.seq (.block 1
  (.seq (.reg [⟨(some (sl 10)), none, (.mv (.s (sl 8))), none⟩, ⟨(some (sl 5)), none, (.mv (.s (sl 10))), none⟩])
  (.seq (.reg [⟨(some (sl 11)), none, (.mv (.s (sl 1))), none⟩, ⟨(some (sl 12)), none, (.mv (.s (sl 0))), none⟩, ⟨(some (sl 13)), none, (.mv (.s (sl 5))), none⟩, ⟨(some (sl 14)), none, (.idx true (.s (sl 12)) (.s (sl 13)) 8), none⟩, ⟨(some (sl 15)), none, (.ld true (.s (sl 14)) (some 8)), none⟩, ⟨(some (sl 16)), none, (.call true (.s (sl 11)) [(.s (sl 15))]), none⟩])
  (.cond (.s (sl 16))
  (.seq (.reg [⟨(some (sl 17)), none, (.mv (.s (sl 5))), none⟩, ⟨(some (sl 4)), none, (.mv (.s (sl 17))), none⟩])
  .ret)
  .skip))))
  (.reg [⟨(some (sl 18)), none, (.bin .add (.s (sl 8)) (.c (.int .i64 1))), none⟩, ⟨(some (sl 8)), none, (.mv (.s (sl 18))), none⟩])))))))
  (.seq (.reg [⟨(some (sl 4)), none, (.mv (.c (.int .i64 (-1)))), none⟩])
  .ret)))
def r_slices_IndexFunc___api_Block_api_Block_ : List ARes := [(.tmp (sl 4))]
theorem t_slices_IndexFunc___api_Block_api_Block_ : (Try.f65).body.bind (trCode Try.prog 8 (Try.f65).ntmps [] [(61, 3, 1), (79, 25, 6)] (drOk 8)) = some c_slices_IndexFunc___api_Block_api_Block_ := by kernel_rfl
theorem u_slices_IndexFunc___api_Block_api_Block_ : trRess Try.prog 8 (Try.f65).results.toList = some r_slices_IndexFunc___api_Block_api_Block_ := by kernel_rfl

/-- marline/ir.end -/
def c_ir_end : ACode :=
  (.seq (.reg [⟨(some (sl 2)), none, (.box true (.s (sl 0))), none⟩, ⟨(some (sl 3)), none, (.box true (.s (sl 1))), none⟩, ⟨(some (sl 4)), none, (.mv (.c (.bool false))), none⟩])
  (.seq (.seq (.reg [⟨(some (sl 9)), none, (.ld true (.s (sl 3)) (some 8)), none⟩, ⟨(some (sl 10)), none, (.call true (.f 20) [(.s (sl 9))]), none⟩, ⟨(some (sl 5)), none, (.new [(.int .i64 0)]), none⟩, ⟨none, none, (.ini 1 (.s (sl 5)) (.s (sl 10)) 1), none⟩])
  (.frz (sl 5)))
  (.seq (.reg [⟨(some (sl 11)), none, (.mkfn 75 [(.s (sl 2)), (.s (sl 5))]), none⟩, ⟨(some (sl 6)), none, (.mv (.s (sl 11))), none⟩])
  (.seq (.seq (.reg [⟨(some (sl 12)), none, (.fld (.s (sl 3)) 2), none⟩, ⟨(some (sl 13)), none, (.ld true (.s (sl 12)) (some 6)), none⟩, ⟨(some (sl 7)), none, (.new [(.int .i64 0), (.int .i64 0), (.int .i64 0), (.slice none 0 0), (.int .i64 0), (.slice none 0 0)]), none⟩, ⟨none, none, (.ini 1 (.s (sl 7)) (.s (sl 13)) 6), none⟩])
  (.frz (sl 7)))
  (.seq (.reg [⟨(some (sl 14)), none, (.fld (.s (sl 7)) 4), none⟩, ⟨(some (sl 15)), none, (.ld true (.s (sl 14)) none), none⟩, ⟨(some (sl 16)), none, (.bin .eql (.s (sl 15)) (.c (.int .i64 0))), none⟩, ⟨(some (sl 17)), none, (.mv (.s (sl 16))), none⟩, ⟨(some (sl 18)), (some ((sl 17), true)), (.fld (.s (sl 7)) 5), none⟩, ⟨(some (sl 19)), (some ((sl 17), true)), (.ld true (.s (sl 18)) none), none⟩, ⟨(some (sl 20)), (some ((sl 17), true)), (.len false (.s (sl 19))), none⟩, ⟨(some (sl 21)), (some ((sl 17), true)), (.bin .eql (.s (sl 20)) (.c (.int .i64 0))), none⟩, ⟨(some (sl 22)), none, (.pick (.s (sl 17)) (.s (sl 21)) (.c (.bool false))), none⟩, ⟨(some (sl 8)), none, (.mv (.s (sl 22))), none⟩])
  (.seq (.seq (.reg [⟨(some (sl 23)), none, (.fld (.s (sl 7)) 0), none⟩, ⟨(some (sl 24)), none, (.ld true (.s (sl 23)) none), none⟩])
  (.block 0
  (.seq (.reg [⟨(some (sl 26)), none, (.bin .eql (.s (sl 24)) (.c (.int .i64 1))), none⟩, ⟨(some (sl 25)), none, (.mv (.s (sl 26))), none⟩])
  (.cond (.s (sl 25))
  (.seq (.reg [⟨(some (sl 27)), none, (.fld (.s (sl 7)) 1), none⟩, ⟨(some (sl 28)), none, (.ld true (.s (sl 27)) none), none⟩, ⟨(some (sl 29)), none, (.bin .eql (.s (sl 28)) (.c (.int .i64 0))), none⟩, ⟨(some (sl 30)), none, (.mv (.s (sl 29))), none⟩, ⟨(some (sl 31)), (some ((sl 30), true)), (.mv (.s (sl 8))), none⟩, ⟨(some (sl 32)), none, (.pick (.s (sl 30)) (.s (sl 31)) (.c (.bool false))), none⟩, ⟨(some (sl 33)), none, (.mv (.s (sl 32))), none⟩, ⟨(some (sl 34)), (some ((sl 33), true)), (.mv (.s (sl 6))), none⟩, ⟨(some (sl 35)), (some ((sl 33), true)), (.fld (.s (sl 7)) 2), none⟩, ⟨(some (sl 36)), (some ((sl 33), true)), (.ld true (.s (sl 35)) none), none⟩, ⟨(some (sl 37)), (some ((sl 33), true)), (.fld (.s (sl 7)) 3), none⟩, ⟨(some (sl 38)), (some ((sl 33), true)), (.ld true (.s (sl 37)) none), none⟩, ⟨(some (sl 39)), (some ((sl 33), true)), (.call true (.s (sl 34)) [(.s (sl 36)), (.s (sl 38))]), none⟩, ⟨(some (sl 40)), none, (.pick (.s (sl 33)) (.s (sl 39)) (.c (.bool false))), none⟩, ⟨(some (sl 4)), none, (.mv (.s (sl 40))), none⟩])
  .ret)
  (.seq (.reg [⟨(some (sl 42)), none, (.bin .eql (.s (sl 24)) (.c (.int .i64 2))), none⟩, ⟨(some (sl 41)), none, (.mv (.s (sl 42))), none⟩])
  (.cond (.s (sl 41))
  (.seq (.reg [⟨(some (sl 43)), none, (.fld (.s (sl 7)) 1), none⟩, ⟨(some (sl 44)), none, (.ld true (.s (sl 43)) none), none⟩, ⟨(some (sl 45)), none, (.mksl 1 1 [(.int .i64 0)] [(0, 1, (.s (sl 44)))]), none⟩, ⟨(some (sl 46)), none, (.ld true (.s (sl 5)) none), none⟩, ⟨(some (sl 47)), none, (.call true (.f 37) [(.s (sl 45)), (.s (sl 46))]), none⟩, ⟨(some (sl 48)), none, (.mv (.s (sl 47))), none⟩, ⟨(some (sl 49)), (some ((sl 48), true)), (.mv (.s (sl 6))), none⟩, ⟨(some (sl 50)), (some ((sl 48), true)), (.fld (.s (sl 7)) 2), none⟩, ⟨(some (sl 51)), (some ((sl 48), true)), (.ld true (.s (sl 50)) none), none⟩, ⟨(some (sl 52)), (some ((sl 48), true)), (.fld (.s (sl 7)) 3), none⟩, ⟨(some (sl 53)), (some ((sl 48), true)), (.ld true (.s (sl 52)) none), none⟩, ⟨(some (sl 54)), (some ((sl 48), true)), (.call true (.s (sl 49)) [(.s (sl 51)), (.s (sl 53))]), none⟩, ⟨(some (sl 55)), none, (.pick (.s (sl 48)) (.s (sl 54)) (.c (.bool false))), none⟩, ⟨(some (sl 56)), none, (.mv (.s (sl 55))), none⟩, ⟨(some (sl 57)), (some ((sl 56), true)), (.mv (.s (sl 6))), none⟩, ⟨(some (sl 58)), (some ((sl 56), true)), (.fld (.s (sl 7)) 4), none⟩, ⟨(some (sl 59)), (some ((sl 56), true)), (.ld true (.s (sl 58)) none), none⟩, ⟨(some (sl 60)), (some ((sl 56), true)), (.fld (.s (sl 7)) 5), none⟩, ⟨(some (sl 61)), (some ((sl 56), true)), (.ld true (.s (sl 60)) none), none⟩, ⟨(some (sl 62)), (some ((sl 56), true)), (.call true (.s (sl 57)) [(.s (sl 59)), (.s (sl 61))]), none⟩, ⟨(some (sl 63)), none, (.pick (.s (sl 56)) (.s (sl 62)) (.c (.bool false))), none⟩, ⟨(some (sl 4)), none, (.mv (.s (sl 63))), none⟩])
  .ret)
  (.seq (.reg [⟨(some (sl 65)), none, (.bin .eql (.s (sl 24)) (.c (.int .i64 3))), none⟩, ⟨(some (sl 64)), none, (.mv (.s (sl 65))), none⟩])
  (.cond (.s (sl 64))
  (.seq (.reg [⟨(some (sl 66)), none, (.fld (.s (sl 7)) 1), none⟩, ⟨(some (sl 67)), none, (.ld true (.s (sl 66)) none), none⟩, ⟨(some (sl 68)), none, (.mksl 1 1 [(.int .i64 0)] [(0, 1, (.s (sl 67)))]), none⟩, ⟨(some (sl 69)), none, (.ld true (.s (sl 5)) none), none⟩, ⟨(some (sl 70)), none, (.call true (.f 37) [(.s (sl 68)), (.s (sl 69))]), none⟩, ⟨(some (sl 71)), none, (.mv (.s (sl 70))), none⟩, ⟨(some (sl 72)), (some ((sl 71), true)), (.mv (.s (sl 8))), none⟩, ⟨(some (sl 73)), none, (.pick (.s (sl 71)) (.s (sl 72)) (.c (.bool false))), none⟩, ⟨(some (sl 74)), none, (.mv (.s (sl 73))), none⟩, ⟨(some (sl 75)), (some ((sl 74), true)), (.fld (.s (sl 7)) 2), none⟩, ⟨(some (sl 76)), (some ((sl 74), true)), (.ld true (.s (sl 75)) none), none⟩, ⟨(some (sl 77)), (some ((sl 74), true)), (.bin .eql (.s (sl 76)) (.c (.int .i64 0))), none⟩, ⟨(some (sl 78)), none, (.pick (.s (sl 74)) (.s (sl 77)) (.c (.bool false))), none⟩, ⟨(some (sl 79)), none, (.mv (.s (sl 78))), none⟩, ⟨(some (sl 80)), (some ((sl 79), true)), (.fld (.s (sl 7)) 3), none⟩, ⟨(some (sl 81)), (some ((sl 79), true)), (.ld true (.s (sl 80)) none), none⟩, ⟨(some (sl 82)), (some ((sl 79), true)), (.len false (.s (sl 81))), none⟩, ⟨(some (sl 83)), (some ((sl 79), true)), (.bin .eql (.s (sl 82)) (.c (.int .i64 0))), none⟩, ⟨(some (sl 84)), none, (.pick (.s (sl 79)) (.s (sl 83)) (.c (.bool false))), none⟩, ⟨(some (sl 4)), none, (.mv (.s (sl 84))), none⟩])
  .ret)
  .skip))))))))
  (.seq (.reg [⟨(some (sl 4)), none, (.mv (.c (.bool false))), none⟩])
  .ret)))))))
def r_ir_end : List ARes := [(.tmp (sl 4))]
theorem t_ir_end : (Try.f66).body.bind (trCode Try.prog 8 (Try.f66).ntmps [] [(61, 3, 1), (79, 25, 6)] (drOk 8)) = some c_ir_end := by kernel_rfl
theorem u_ir_end : trRess Try.prog 8 (Try.f66).results.toList = some r_ir_end := by kernel_rfl

/-- slices.IndexFunc[[]int,int] -/
def c_slices_IndexFunc___int_int_ : ACode :=
  (.seq (.reg [⟨(some (sl 4)), none, (.mv (.c (.int .i64 0))), none⟩])
  (.seq (.seq (.reg [⟨(some (sl 6)), none, (.mv (.s (sl 0))), none⟩, ⟨(some (sl 7)), none, (.len false (.s (sl 6))), none⟩, ⟨(some (sl 8)), none, (.mv (.c (.int .i64 0))), none⟩])
  (.block 0
  (.loop (.seq (.reg [⟨(some (sl 9)), none, (.bin .lss (.s (sl 8)) (.s (sl 7))), none⟩])
  (.seq (.cond (.s (sl 9))
  .skip
  (.exit 0))
  (.seq (.block 1
  (.seq (.reg [⟨(some (sl 10)), none, (.mv (.s (sl 8))), none⟩, ⟨(some (sl 5)), none, (.mv (.s (sl 10))), none⟩])
  (.seq (.reg [⟨(some (sl 11)), none, (.mv (.s (sl 1))), none⟩, ⟨(some (sl 12)), none, (.mv (.s (sl 0))), none⟩, ⟨(some (sl 13)), none, (.mv (.s (sl 5))), none⟩, ⟨(some (sl 14)), none, (.idx true (.s (sl 12)) (.s (sl 13)) 1), none⟩, ⟨(some (sl 15)), none, (.ld true (.s (sl 14)) none), none⟩, ⟨(some (sl 16)), none, (.call true (.s (sl 11)) [(.s (sl 15))]), none⟩])
  (.cond (.s (sl 16))
  (.seq (.reg [⟨(some (sl 17)), none, (.mv (.s (sl 5))), none⟩, ⟨(some (sl 4)), none, (.mv (.s (sl 17))), none⟩])
  .ret)
  .skip))))
  (.reg [⟨(some (sl 18)), none, (.bin .add (.s (sl 8)) (.c (.int .i64 1))), none⟩, ⟨(some (sl 8)), none, (.mv (.s (sl 18))), none⟩])))))))
  (.seq (.reg [⟨(some (sl 4)), none, (.mv (.c (.int .i64 (-1)))), none⟩])
  .ret)))
def r_slices_IndexFunc___int_int_ : List ARes := [(.tmp (sl 4))]
theorem t_slices_IndexFunc___int_int_ : (Try.f74).body.bind (trCode Try.prog 8 (Try.f74).ntmps [] [(61, 3, 1), (79, 25, 6)] (drOk 8)) = some c_slices_IndexFunc___int_int_ := by kernel_rfl
theorem u_slices_IndexFunc___int_int_ : trRess Try.prog 8 (Try.f74).results.toList = some r_slices_IndexFunc___int_int_ := by kernel_rfl

/-- marline/ir.end$1 -/
def c_ir_end_1 : ACode :=
  (.seq (.reg [⟨(some (sl 6)), none, (.mv (.c (.bool false))), none⟩])
  (.seq (.reg [⟨(some (sl 7)), none, (.mv (.s (sl 0))), none⟩, ⟨(some (sl 8)), none, (.bin .geq (.s (sl 7)) (.c (.int .i64 0))), none⟩, ⟨(some (sl 9)), none, (.mv (.s (sl 8))), none⟩, ⟨(some (sl 10)), (some ((sl 9), true)), (.mv (.s (sl 0))), none⟩, ⟨(some (sl 11)), (some ((sl 9), true)), (.fld (.s (sl 2)) 3), none⟩, ⟨(some (sl 12)), (some ((sl 9), true)), (.ld true (.s (sl 11)) none), none⟩, ⟨(some (sl 13)), (some ((sl 9), true)), (.len false (.s (sl 12))), none⟩, ⟨(some (sl 14)), (some ((sl 9), true)), (.bin .lss (.s (sl 10)) (.s (sl 13))), none⟩, ⟨(some (sl 15)), none, (.pick (.s (sl 9)) (.s (sl 14)) (.c (.bool false))), none⟩, ⟨(some (sl 16)), none, (.mv (.s (sl 15))), none⟩, ⟨(some (sl 17)), (some ((sl 16), true)), (.mv (.s (sl 1))), none⟩, ⟨(some (sl 18)), (some ((sl 16), true)), (.len false (.s (sl 17))), none⟩, ⟨(some (sl 19)), (some ((sl 16), true)), (.fld (.s (sl 2)) 3), none⟩, ⟨(some (sl 20)), (some ((sl 16), true)), (.ld true (.s (sl 19)) none), none⟩, ⟨(some (sl 21)), (some ((sl 16), true)), (.mv (.s (sl 0))), none⟩, ⟨(some (sl 22)), (some ((sl 16), true)), (.idx true (.s (sl 20)) (.s (sl 21)) 8), none⟩, ⟨(some (sl 23)), (some ((sl 16), true)), (.fld (.s (sl 22)) 0), none⟩, ⟨(some (sl 24)), (some ((sl 16), true)), (.ld true (.s (sl 23)) none), none⟩, ⟨(some (sl 25)), (some ((sl 16), true)), (.bin .eql (.s (sl 18)) (.s (sl 24))), none⟩, ⟨(some (sl 26)), none, (.pick (.s (sl 16)) (.s (sl 25)) (.c (.bool false))), none⟩, ⟨(some (sl 27)), none, (.mv (.s (sl 26))), none⟩, ⟨(some (sl 28)), (some ((sl 27), true)), (.mv (.s (sl 1))), none⟩, ⟨(some (sl 29)), (some ((sl 27), true)), (.ld true (.s (sl 3)) none), none⟩, ⟨(some (sl 30)), (some ((sl 27), true)), (.call true (.f 37) [(.s (sl 28)), (.s (sl 29))]), none⟩, ⟨(some (sl 31)), none, (.pick (.s (sl 27)) (.s (sl 30)) (.c (.bool false))), none⟩, ⟨(some (sl 6)), none, (.mv (.s (sl 31))), none⟩])
  .ret))
def r_ir_end_1 : List ARes := [(.tmp (sl 6))]
theorem t_ir_end_1 : (Try.f75).body.bind (trCode Try.prog 8 (Try.f75).ntmps [] [(61, 3, 1), (79, 25, 6)] (drOk 8)) = some c_ir_end_1 := by kernel_rfl
theorem u_ir_end_1 : trRess Try.prog 8 (Try.f75).results.toList = some r_ir_end_1 := by kernel_rfl

/-- slices.ContainsFunc[[]marline/api.Block,marline/api.Block] -/
def c_slices_ContainsFunc___api_Block_api_Block_ : ACode :=
  (.seq (.reg [⟨(some (sl 4)), none, (.mv (.c (.bool false))), none⟩])
  (.seq (.reg [⟨(some (sl 5)), none, (.mv (.s (sl 0))), none⟩, ⟨(some (sl 6)), none, (.mv (.s (sl 1))), none⟩, ⟨(some (sl 7)), none, (.call true (.f 65) [(.s (sl 5)), (.s (sl 6))]), none⟩, ⟨(some (sl 8)), none, (.bin .geq (.s (sl 7)) (.c (.int .i64 0))), none⟩, ⟨(some (sl 4)), none, (.mv (.s (sl 8))), none⟩])
  .ret))
def r_slices_ContainsFunc___api_Block_api_Block_ : List ARes := [(.tmp (sl 4))]
theorem t_slices_ContainsFunc___api_Block_api_Block_ : (Try.f43).body.bind (trCode Try.prog 8 (Try.f43).ntmps [] [(61, 3, 1), (79, 25, 6)] (drOk 8)) = some c_slices_ContainsFunc___api_Block_api_Block_ := by kernel_rfl
theorem u_slices_ContainsFunc___api_Block_api_Block_ : trRess Try.prog 8 (Try.f43).results.toList = some r_slices_ContainsFunc___api_Block_api_Block_ := by kernel_rfl

/-- marline/ir.Func$1 -/
def c_ir_Func_1 : ACode :=
  (.seq (.reg [⟨(some (sl 2)), none, (.box true (.s (sl 0))), none⟩, ⟨(some (sl 3)), none, (.mv (.c (.bool false))), none⟩])
  (.seq (.reg [⟨(some (sl 4)), none, (.ld true (.s (sl 1)) (some 4)), none⟩, ⟨(some (sl 5)), none, (.ld true (.s (sl 2)) (some 8)), none⟩, ⟨(some (sl 6)), none, (.call true (.f 45) [(.s (sl 4)), (.s (sl 5))]), none⟩, ⟨(some (sl 7)), none, (.not (.s (sl 6))), none⟩, ⟨(some (sl 3)), none, (.mv (.s (sl 7))), none⟩])
  .ret))
def r_ir_Func_1 : List ARes := [(.tmp (sl 3))]
theorem t_ir_Func_1 : (Try.f44).body.bind (trCode Try.prog 8 (Try.f44).ntmps [] [(61, 3, 1), (79, 25, 6)] (drOk 8)) = some c_ir_Func_1 := by kernel_rfl
theorem u_ir_Func_1 : trRess Try.prog 8 (Try.f44).results.toList = some r_ir_Func_1 := by kernel_rfl

/-- marline/ir.glob -/
def c_ir_glob : ACode :=
  (.seq (.reg [⟨(some (sl 1)), none, (.box true (.s (sl 0))), none⟩, ⟨(some (sl 2)), none, (.mv (.c (.bool false))), none⟩])
  (.seq (.reg [⟨(some (sl 3)), none, (.fld (.s (sl 1)) 0), none⟩, ⟨(some (sl 4)), none, (.ld true (.s (sl 3)) none), none⟩, ⟨(some (sl 5)), none, (.call true (.f 39) [(.s (sl 4))]), none⟩, ⟨(some (sl 6)), none, (.mv (.s (sl 5))), none⟩, ⟨(some (sl 7)), (some ((sl 6), true)), (.fld (.s (sl 1)) 1), none⟩, ⟨(some (sl 8)), (some ((sl 6), true)), (.ld true (.s (sl 7)) none), none⟩, ⟨(some (sl 9)), (some ((sl 6), true)), (.bin .geq (.s (sl 8)) (.c (.int .i64 1))), none⟩, ⟨(some (sl 10)), none, (.pick (.s (sl 6)) (.s (sl 9)) (.c (.bool false))), none⟩, ⟨(some (sl 11)), none, (.mv (.s (sl 10))), none⟩, ⟨(some (sl 12)), (some ((sl 11), true)), (.fld (.s (sl 1)) 1), none⟩, ⟨(some (sl 13)), (some ((sl 11), true)), (.ld true (.s (sl 12)) none), none⟩, ⟨(some (sl 14)), (some ((sl 11), true)), (.bin .leq (.s (sl 13)) (.c (.int .i64 3))), none⟩, ⟨(some (sl 15)), none, (.pick (.s (sl 11)) (.s (sl 14)) (.c (.bool false))), none⟩, ⟨(some (sl 16)), none, (.mv (.s (sl 15))), none⟩, ⟨(some (sl 17)), (some ((sl 16), true)), (.fld (.s (sl 1)) 2), none⟩, ⟨(some (sl 18)), (some ((sl 16), true)), (.ld true (.s (sl 17)) none), none⟩, ⟨(some (sl 19)), (some ((sl 16), true)), (.mv (.s (sl 18))), none⟩, ⟨(some (sl 20)), (some ((sl 19), false)), (.fld (.s (sl 1)) 3), none⟩, ⟨(some (sl 21)), (some ((sl 19), false)), (.ld true (.s (sl 20)) none), none⟩, ⟨(some (sl 22)), (some ((sl 19), false)), (.bin .eql (.s (sl 21)) (.c (.int .u64 0))), none⟩, ⟨(some (sl 23)), (some ((sl 19), false)), (.mv (.s (sl 22))), none⟩, ⟨(some (sl 24)), (some ((sl 23), true)), (.fld (.s (sl 1)) 1), none⟩, ⟨(some (sl 25)), (some ((sl 23), true)), (.ld true (.s (sl 24)) none), none⟩, ⟨(some (sl 26)), (some ((sl 23), true)), (.bin .neq (.s (sl 25)) (.c (.int .i64 1))), none⟩, ⟨(some (sl 27)), (some ((sl 19), false)), (.pick (.s (sl 23)) (.s (sl 26)) (.c (.bool false))), none⟩, ⟨(some (sl 28)), (some ((sl 16), true)), (.pick (.s (sl 19)) (.c (.bool true)) (.s (sl 27))), none⟩, ⟨(some (sl 29)), none, (.pick (.s (sl 16)) (.s (sl 28)) (.c (.bool false))), none⟩, ⟨(some (sl 2)), none, (.mv (.s (sl 29))), none⟩])
  .ret))
def r_ir_glob : List ARes := [(.tmp (sl 2))]
theorem t_ir_glob : (Try.f46).body.bind (trCode Try.prog 8 (Try.f46).ntmps [] [(61, 3, 1), (79, 25, 6)] (drOk 8)) = some c_ir_glob := by kernel_rfl
theorem u_ir_glob : trRess Try.prog 8 (Try.f46).results.toList = some r_ir_glob := by kernel_rfl

/-- marline/ir.insts -/
def c_ir_insts : ACode :=
  (.seq (.reg [⟨(some (sl 1)), none, (.box true (.s (sl 0))), none⟩, ⟨(some (sl 2)), none, (.mv (.c .nilFunc)), none⟩])
  (.seq (.reg [⟨(some (sl 3)), none, (.mkfn 67 [(.s (sl 1))]), none⟩, ⟨(some (sl 2)), none, (.mv (.s (sl 3))), none⟩])
  .ret))
def r_ir_insts : List ARes := [(.tmp (sl 2))]
theorem t_ir_insts : (Try.f48).body.bind (trCode Try.prog 8 (Try.f48).ntmps [] [(61, 3, 1), (79, 25, 6)] (drOk 8)) = some c_ir_insts := by kernel_rfl
theorem u_ir_insts : trRess Try.prog 8 (Try.f48).results.toList = some r_ir_insts := by kernel_rfl

end Go.Proofs.Ytghlfjpmpalpdaa
