/- The bodies of some functions, as the evaluator has them (printed by program), and that they are the program's own. -/
import Derived.Test.YtghlfjpmpalpdaaEv
namespace Go.Proofs.Ytghlfjpmpalpdaa
open Go.RowKit

/-- marline/ir.Check -/
def c_ir_Check : ACode :=
  (.seq (.reg [⟨(some (sl 1)), none, (.box true (.s (sl 0))), none⟩, ⟨(some (sl 2)), none, (.mv (.c (.int .i64 0))), none⟩])
  (.seq (.seq (.reg [⟨(some (sl 8)), none, (.fld (.s (sl 1)) 0), none⟩, ⟨(some (sl 9)), none, (.ld true (.s (sl 8)) none), none⟩, ⟨(some (sl 10)), none, (.len false (.s (sl 9))), none⟩, ⟨(some (sl 11)), none, (.bin .gtr (.s (sl 10)) (.c (.int .i64 16))), none⟩, ⟨(some (sl 12)), none, (.mv (.s (sl 11))), none⟩, ⟨(some (sl 13)), (some ((sl 12), false)), (.fld (.s (sl 1)) 1), none⟩, ⟨(some (sl 14)), (some ((sl 12), false)), (.ld true (.s (sl 13)) none), none⟩, ⟨(some (sl 15)), (some ((sl 12), false)), (.len false (.s (sl 14))), none⟩, ⟨(some (sl 16)), (some ((sl 12), false)), (.bin .gtr (.s (sl 15)) (.c (.int .i64 16))), none⟩, ⟨(some (sl 17)), none, (.pick (.s (sl 12)) (.c (.bool true)) (.s (sl 16))), none⟩])
  (.cond (.s (sl 17))
  (.seq (.reg [⟨(some (sl 2)), none, (.mv (.c (.int .i64 4))), none⟩])
  .ret)
  .skip))
  (.seq (.reg [⟨(some (sl 18)), none, (.mmk .string), none⟩, ⟨(some (sl 3)), none, (.mv (.s (sl 18))), none⟩])
  (.seq (.seq (.reg [⟨(some (sl 19)), none, (.fld (.s (sl 1)) 0), none⟩, ⟨(some (sl 20)), none, (.ld true (.s (sl 19)) none), none⟩, ⟨(some (sl 21)), none, (.len false (.s (sl 20))), none⟩, ⟨(some (sl 22)), none, (.mv (.c (.int .i64 0))), none⟩])
  (.block 0
  (.loop (.seq (.reg [⟨(some (sl 23)), none, (.bin .lss (.s (sl 22)) (.s (sl 21))), none⟩])
  (.seq (.cond (.s (sl 23))
  .skip
  (.exit 0))
  (.seq (.block 1
  (.seq (.seq (.reg [⟨(some (sl 24)), none, (.idx true (.s (sl 20)) (.s (sl 22)) 4), none⟩, ⟨(some (sl 25)), none, (.ld true (.s (sl 24)) (some 4)), none⟩, ⟨(some (sl 5)), none, (.new [(.string ⟨#[]⟩), (.int .i64 0), (.int .i64 0), (.slice none 0 0)]), none⟩, ⟨none, none, (.ini 1 (.s (sl 5)) (.s (sl 25)) 4), none⟩])
  (.frz (sl 5)))
  (.seq (.seq (.reg [⟨(some (sl 26)), none, (.ld true (.s (sl 5)) (some 4)), none⟩, ⟨(some (sl 27)), none, (.call true (.f 21) [(.s (sl 26))]), none⟩, ⟨(some (sl 28)), none, (.not (.s (sl 27))), none⟩])
  (.cond (.s (sl 28))
  (.seq (.reg [⟨(some (sl 2)), none, (.mv (.c (.int .i64 10))), none⟩])
  .ret)
  .skip))
  (.reg [⟨(some (sl 29)), none, (.mv (.s (sl 3))), none⟩, ⟨(some (sl 30)), none, (.fld (.s (sl 5)) 0), none⟩, ⟨(some (sl 31)), none, (.ld true (.s (sl 30)) none), none⟩, ⟨none, none, (.mset (.s (sl 29)) (.s (sl 31)) (.c (.bool true)) .string), none⟩]))))
  (.reg [⟨(some (sl 32)), none, (.bin .add (.s (sl 22)) (.c (.int .i64 1))), none⟩, ⟨(some (sl 22)), none, (.mv (.s (sl 32))), none⟩])))))))
  (.seq (.seq (.reg [⟨(some (sl 33)), none, (.fld (.s (sl 1)) 1), none⟩, ⟨(some (sl 34)), none, (.ld true (.s (sl 33)) none), none⟩, ⟨(some (sl 35)), none, (.len false (.s (sl 34))), none⟩, ⟨(some (sl 36)), none, (.mv (.c (.int .i64 0))), none⟩])
  (.block 2
  (.loop (.seq (.reg [⟨(some (sl 37)), none, (.bin .lss (.s (sl 36)) (.s (sl 35))), none⟩])
  (.seq (.cond (.s (sl 37))
  .skip
  (.exit 2))
  (.seq (.block 3
  (.seq (.seq (.reg [⟨(some (sl 38)), none, (.idx true (.s (sl 34)) (.s (sl 36)) 4), none⟩, ⟨(some (sl 39)), none, (.ld true (.s (sl 38)) (some 4)), none⟩, ⟨(some (sl 7)), none, (.new [(.string ⟨#[]⟩), (.int .i64 0), (.bool false), (.int .u64 0)]), none⟩, ⟨none, none, (.ini 1 (.s (sl 7)) (.s (sl 39)) 4), none⟩])
  (.frz (sl 7)))
  (.seq (.seq (.reg [⟨(some (sl 40)), none, (.ld true (.s (sl 7)) (some 4)), none⟩, ⟨(some (sl 41)), none, (.call true (.f 46) [(.s (sl 40))]), none⟩, ⟨(some (sl 42)), none, (.not (.s (sl 41))), none⟩])
  (.cond (.s (sl 42))
  (.seq (.reg [⟨(some (sl 2)), none, (.mv (.c (.int .i64 10))), none⟩])
  .ret)
  .skip))
  (.reg [⟨(some (sl 43)), none, (.mv (.s (sl 3))), none⟩, ⟨(some (sl 44)), none, (.fld (.s (sl 7)) 0), none⟩, ⟨(some (sl 45)), none, (.ld true (.s (sl 44)) none), none⟩, ⟨none, none, (.mset (.s (sl 43)) (.s (sl 45)) (.c (.bool true)) .string), none⟩]))))
  (.reg [⟨(some (sl 46)), none, (.bin .add (.s (sl 36)) (.c (.int .i64 1))), none⟩, ⟨(some (sl 36)), none, (.mv (.s (sl 46))), none⟩])))))))
  (.seq (.seq (.reg [⟨(some (sl 47)), none, (.mv (.s (sl 3))), none⟩, ⟨(some (sl 48)), none, (.mlen (.s (sl 47))), none⟩, ⟨(some (sl 49)), none, (.fld (.s (sl 1)) 0), none⟩, ⟨(some (sl 50)), none, (.ld true (.s (sl 49)) none), none⟩, ⟨(some (sl 51)), none, (.len false (.s (sl 50))), none⟩, ⟨(some (sl 52)), none, (.fld (.s (sl 1)) 1), none⟩, ⟨(some (sl 53)), none, (.ld true (.s (sl 52)) none), none⟩, ⟨(some (sl 54)), none, (.len false (.s (sl 53))), none⟩, ⟨(some (sl 55)), none, (.bin .add (.s (sl 51)) (.s (sl 54))), none⟩, ⟨(some (sl 56)), none, (.bin .lss (.s (sl 48)) (.s (sl 55))), none⟩])
  (.cond (.s (sl 56))
  (.seq (.reg [⟨(some (sl 2)), none, (.mv (.c (.int .i64 9))), none⟩])
  .ret)
  .skip))
  (.seq (.reg [⟨(some (sl 57)), none, (.ld true (.s (sl 1)) (some 2)), none⟩, ⟨(some (sl 58)), none, (.call true (.f 47) [(.s (sl 57))]), none⟩, ⟨(some (sl 2)), none, (.mv (.s (sl 58))), none⟩])
  .ret)))))))
def r_ir_Check : List ARes := [(.tmp (sl 2))]
theorem t_ir_Check : (Try.f22).body.bind (trCode Try.prog 8 (Try.f22).ntmps [] [(61, 3, 1), (79, 25, 6)] (drOk 8)) = some c_ir_Check := by kernel_rfl
theorem u_ir_Check : trRess Try.prog 8 (Try.f22).results.toList = some r_ir_Check := by kernel_rfl

/-- marline/ir.Refs -/
def c_ir_Refs : ACode :=
  (.seq (.reg [⟨(some (sl 1)), none, (.box true (.s (sl 0))), none⟩, ⟨(some (sl 2)), none, (.mv (.c (.slice none 0 0))), none⟩])
  (.seq (.reg [⟨(some (sl 3)), none, (.new [(.slice none 0 0)]), none⟩])
  (.seq (.seq (.reg [⟨(some (sl 5)), none, (.ld true (.s (sl 1)) (some 4)), none⟩, ⟨(some (sl 6)), none, (.call true (.f 48) [(.s (sl 5))]), none⟩])
  (.block 0
  (.rng (.s (sl 6))
  [(sl 7)]
  (.seq (.reg [⟨(some (sl 4)), none, (.new [(.int .i64 0), (.int .i64 0), (.int .i64 0), (.int .u64 0), (.string ⟨#[]⟩), (.slice none 0 0)]), none⟩, ⟨none, none, (.ini 1 (.s (sl 4)) (.s (sl 7)) 6), none⟩])
  (.frz (sl 4)))
  (.block 1
  (.seq (.reg [⟨(some (sl 8)), none, (.ld true (.s (sl 4)) (some 6)), none⟩, ⟨(some (sl 9)), none, (.call true (.f 38) [(.s (sl 8))]), none⟩])
  (.cond (.s (sl 9))
  (.reg [⟨(some (sl 10)), none, (.ld false (.s (sl 3)) none), none⟩, ⟨(some (sl 11)), none, (.fld (.s (sl 4)) 4), none⟩, ⟨(some (sl 12)), none, (.ld true (.s (sl 11)) none), none⟩, ⟨(some (sl 13)), none, (.mksl 1 1 [(.string ⟨#[]⟩)] [(0, 1, (.s (sl 12)))]), none⟩, ⟨(some (sl 14)), none, (.app 9 1 16 (.s (sl 10)) (.s (sl 13))), none⟩, ⟨none, none, (.st (.s (sl 3)) (.s (sl 14)) 1), none⟩])
  .skip))))))
  (.seq (.reg [⟨(some (sl 15)), none, (.ld false (.s (sl 3)) none), none⟩, ⟨(some (sl 2)), none, (.mv (.s (sl 15))), none⟩])
  .ret))))
def r_ir_Refs : List ARes := [(.tmp (sl 2))]
theorem t_ir_Refs : (Try.f26).body.bind (trCode Try.prog 8 (Try.f26).ntmps [2, 3, 10, 14, 15] [(61, 3, 1), (79, 25, 6)] (drOk 8)) = some c_ir_Refs := by kernel_rfl
theorem u_ir_Refs : trRess Try.prog 8 (Try.f26).results.toList = some r_ir_Refs := by kernel_rfl

/-- marline/ir.Same -/
def c_ir_Same : ACode :=
  (.seq (.reg [⟨(some (sl 2)), none, (.box true (.s (sl 0))), none⟩, ⟨(some (sl 3)), none, (.box true (.s (sl 1))), none⟩, ⟨(some (sl 4)), none, (.mv (.c (.bool false))), none⟩])
  (.seq (.reg [⟨(some (sl 5)), none, (.fld (.s (sl 2)) 0), none⟩, ⟨(some (sl 6)), none, (.ld true (.s (sl 5)) none), none⟩, ⟨(some (sl 7)), none, (.fld (.s (sl 3)) 0), none⟩, ⟨(some (sl 8)), none, (.ld true (.s (sl 7)) none), none⟩, ⟨(some (sl 9)), none, (.call true (.f 51) [(.s (sl 6)), (.s (sl 8)), (.f 52)]), none⟩, ⟨(some (sl 10)), none, (.mv (.s (sl 9))), none⟩, ⟨(some (sl 11)), (some ((sl 10), true)), (.fld (.s (sl 2)) 1), none⟩, ⟨(some (sl 12)), (some ((sl 10), true)), (.ld true (.s (sl 11)) none), none⟩, ⟨(some (sl 13)), (some ((sl 10), true)), (.fld (.s (sl 3)) 1), none⟩, ⟨(some (sl 14)), (some ((sl 10), true)), (.ld true (.s (sl 13)) none), none⟩, ⟨(some (sl 15)), (some ((sl 10), true)), (.call true (.f 53) [(.s (sl 12)), (.s (sl 14))]), none⟩, ⟨(some (sl 16)), none, (.pick (.s (sl 10)) (.s (sl 15)) (.c (.bool false))), none⟩, ⟨(some (sl 4)), none, (.mv (.s (sl 16))), none⟩])
  .ret))
def r_ir_Same : List ARes := [(.tmp (sl 4))]
theorem t_ir_Same : (Try.f30).body.bind (trCode Try.prog 8 (Try.f30).ntmps [] [(61, 3, 1), (79, 25, 6)] (drOk 8)) = some c_ir_Same := by kernel_rfl
theorem u_ir_Same : trRess Try.prog 8 (Try.f30).results.toList = some r_ir_Same := by kernel_rfl

/-- marline/ir.refs -/
def c_ir_refs : ACode :=
  (.seq (.reg [⟨(some (sl 1)), none, (.box true (.s (sl 0))), none⟩, ⟨(some (sl 2)), none, (.new [(.int .i64 0)]), none⟩])
  (.seq (.reg [⟨(some (sl 15)), none, (.mmk .string), none⟩, ⟨(some (sl 16)), none, (.mmk .string), none⟩, ⟨(some (sl 3)), none, (.new [(.map none)]), none⟩, ⟨(some (sl 4)), none, (.new [(.map none)]), none⟩, ⟨none, none, (.ini 2 (.s (sl 3)) (.s (sl 15)) 1), none⟩, ⟨none, none, (.ini 2 (.s (sl 4)) (.s (sl 16)) 1), none⟩])
  (.seq (.seq (.reg [⟨(some (sl 17)), none, (.fld (.s (sl 1)) 0), none⟩, ⟨(some (sl 18)), none, (.ld true (.s (sl 17)) none), none⟩, ⟨(some (sl 19)), none, (.len false (.s (sl 18))), none⟩, ⟨(some (sl 20)), none, (.mv (.c (.int .i64 0))), none⟩])
  (.block 0
  (.loop (.seq (.reg [⟨(some (sl 21)), none, (.bin .lss (.s (sl 20)) (.s (sl 19))), none⟩])
  (.seq (.cond (.s (sl 21))
  .skip
  (.exit 0))
  (.seq (.block 1
  (.seq (.seq (.reg [⟨(some (sl 22)), none, (.idx true (.s (sl 18)) (.s (sl 20)) 4), none⟩, ⟨(some (sl 23)), none, (.ld true (.s (sl 22)) (some 4)), none⟩, ⟨(some (sl 6)), none, (.new [(.string ⟨#[]⟩), (.int .i64 0), (.int .i64 0), (.slice none 0 0)]), none⟩, ⟨none, none, (.ini 1 (.s (sl 6)) (.s (sl 23)) 4), none⟩])
  (.frz (sl 6)))
  (.reg [⟨(some (sl 24)), none, (.ld false (.s (sl 3)) none), none⟩, ⟨(some (sl 25)), none, (.fld (.s (sl 6)) 0), none⟩, ⟨(some (sl 26)), none, (.ld true (.s (sl 25)) none), none⟩, ⟨(some (sl 27)), none, (.fld (.s (sl 6)) 2), none⟩, ⟨(some (sl 28)), none, (.ld true (.s (sl 27)) none), none⟩, ⟨none, none, (.mset (.s (sl 24)) (.s (sl 26)) (.s (sl 28)) .string), none⟩])))
  (.reg [⟨(some (sl 29)), none, (.bin .add (.s (sl 20)) (.c (.int .i64 1))), none⟩, ⟨(some (sl 20)), none, (.mv (.s (sl 29))), none⟩])))))))
  (.seq (.seq (.reg [⟨(some (sl 30)), none, (.fld (.s (sl 1)) 1), none⟩, ⟨(some (sl 31)), none, (.ld true (.s (sl 30)) none), none⟩, ⟨(some (sl 32)), none, (.len false (.s (sl 31))), none⟩, ⟨(some (sl 33)), none, (.mv (.c (.int .i64 0))), none⟩])
  (.block 2
  (.loop (.seq (.reg [⟨(some (sl 34)), none, (.bin .lss (.s (sl 33)) (.s (sl 32))), none⟩])
  (.seq (.cond (.s (sl 34))
  .skip
  (.exit 2))
  (.seq (.block 3
  (.seq (.seq (.reg [⟨(some (sl 35)), none, (.idx true (.s (sl 31)) (.s (sl 33)) 4), none⟩, ⟨(some (sl 36)), none, (.ld true (.s (sl 35)) (some 4)), none⟩, ⟨(some (sl 8)), none, (.new [(.string ⟨#[]⟩), (.int .i64 0), (.bool false), (.int .u64 0)]), none⟩, ⟨none, none, (.ini 1 (.s (sl 8)) (.s (sl 36)) 4), none⟩])
  (.frz (sl 8)))
  (.reg [⟨(some (sl 37)), none, (.ld false (.s (sl 4)) none), none⟩, ⟨(some (sl 38)), none, (.fld (.s (sl 8)) 0), none⟩, ⟨(some (sl 39)), none, (.ld true (.s (sl 38)) none), none⟩, ⟨none, none, (.mset (.s (sl 37)) (.s (sl 39)) (.c (.bool true)) .string), none⟩])))
  (.reg [⟨(some (sl 40)), none, (.bin .add (.s (sl 33)) (.c (.int .i64 1))), none⟩, ⟨(some (sl 33)), none, (.mv (.s (sl 40))), none⟩])))))))
  (.seq (.reg [⟨(some (sl 9)), none, (.new [(.bool false)]), none⟩, ⟨none, none, (.ini 1 (.s (sl 9)) (.c (.bool false)) 1), none⟩])
  (.seq (.seq (.reg [⟨(some (sl 41)), none, (.fld (.s (sl 1)) 0), none⟩, ⟨(some (sl 42)), none, (.ld true (.s (sl 41)) none), none⟩, ⟨(some (sl 43)), none, (.len false (.s (sl 42))), none⟩, ⟨(some (sl 44)), none, (.mv (.c (.int .i64 0))), none⟩])
  (.block 4
  (.loop (.seq (.reg [⟨(some (sl 45)), none, (.bin .lss (.s (sl 44)) (.s (sl 43))), none⟩])
  (.seq (.cond (.s (sl 45))
  .skip
  (.exit 4))
  (.seq (.block 5
  (.seq (.seq (.reg [⟨(some (sl 46)), none, (.idx true (.s (sl 42)) (.s (sl 44)) 4), none⟩, ⟨(some (sl 47)), none, (.ld true (.s (sl 46)) (some 4)), none⟩, ⟨(some (sl 11)), none, (.new [(.string ⟨#[]⟩), (.int .i64 0), (.int .i64 0), (.slice none 0 0)]), none⟩, ⟨none, none, (.ini 1 (.s (sl 11)) (.s (sl 47)) 4), none⟩])
  (.frz (sl 11)))
  (.seq (.reg [⟨(some (sl 48)), none, (.ld true (.s (sl 11)) (some 4)), none⟩, ⟨(some (sl 49)), none, (.call true (.f 48) [(.s (sl 48))]), none⟩])
  (.block 6
  (.rng (.s (sl 49))
  [(sl 50)]
  (.seq (.reg [⟨(some (sl 12)), none, (.new [(.int .i64 0), (.int .i64 0), (.int .i64 0), (.int .u64 0), (.string ⟨#[]⟩), (.slice none 0 0)]), none⟩, ⟨none, none, (.ini 1 (.s (sl 12)) (.s (sl 50)) 6), none⟩])
  (.frz (sl 12)))
  (.block 7
  (.seq (.reg [⟨(some (sl 52)), none, (.ld false (.s (sl 3)) none), none⟩, ⟨(some (sl 53)), none, (.fld (.s (sl 12)) 4), none⟩, ⟨(some (sl 54)), none, (.ld true (.s (sl 53)) none), none⟩, ⟨(some (sl 55)), none, (.mget (.s (sl 52)) (.s (sl 54)) true .string (.int .i64 0)), none⟩, ⟨(some (sl 51)), none, (.mv (.s (sl 55))), none⟩, ⟨(some (sl 56)), none, (.ext (.s (sl 51)) 0), none⟩, ⟨(some (sl 57)), none, (.ext (.s (sl 51)) 1), none⟩, ⟨(some (sl 13)), none, (.mv (.s (sl 56))), none⟩, ⟨(some (sl 14)), none, (.mv (.s (sl 57))), none⟩])
  (.seq (.seq (.reg [⟨(some (sl 58)), none, (.fld (.s (sl 12)) 0), none⟩, ⟨(some (sl 59)), none, (.ld true (.s (sl 58)) none), none⟩, ⟨(some (sl 60)), none, (.bin .eql (.s (sl 59)) (.c (.int .i64 14))), none⟩, ⟨(some (sl 61)), none, (.mv (.s (sl 60))), none⟩, ⟨(some (sl 62)), (some ((sl 61), true)), (.mv (.s (sl 14))), none⟩, ⟨(some (sl 63)), (some ((sl 61), true)), (.not (.s (sl 62))), none⟩, ⟨(some (sl 64)), none, (.pick (.s (sl 61)) (.s (sl 63)) (.c (.bool false))), none⟩, ⟨(some (sl 65)), none, (.mv (.s (sl 64))), none⟩, ⟨(some (sl 66)), (some ((sl 65), false)), (.fld (.s (sl 12)) 0), none⟩, ⟨(some (sl 67)), (some ((sl 65), false)), (.ld true (.s (sl 66)) none), none⟩, ⟨(some (sl 68)), (some ((sl 65), false)), (.bin .eql (.s (sl 67)) (.c (.int .i64 12))), none⟩, ⟨(some (sl 69)), (some ((sl 65), false)), (.mv (.s (sl 68))), none⟩, ⟨(some (sl 70)), (some ((sl 69), false)), (.fld (.s (sl 12)) 0), none⟩, ⟨(some (sl 71)), (some ((sl 69), false)), (.ld true (.s (sl 70)) none), none⟩, ⟨(some (sl 72)), (some ((sl 69), false)), (.bin .eql (.s (sl 71)) (.c (.int .i64 13))), none⟩, ⟨(some (sl 73)), (some ((sl 65), false)), (.pick (.s (sl 69)) (.c (.bool true)) (.s (sl 72))), none⟩, ⟨(some (sl 74)), (some ((sl 65), false)), (.mv (.s (sl 73))), none⟩, ⟨(some (sl 75)), (some ((sl 74), true)), (.ld false (.s (sl 4)) none), none⟩, ⟨(some (sl 76)), (some ((sl 74), true)), (.fld (.s (sl 12)) 4), none⟩, ⟨(some (sl 77)), (some ((sl 74), true)), (.ld true (.s (sl 76)) none), none⟩, ⟨(some (sl 78)), (some ((sl 74), true)), (.mget (.s (sl 75)) (.s (sl 77)) false .string (.bool false)), none⟩, ⟨(some (sl 79)), (some ((sl 74), true)), (.not (.s (sl 78))), none⟩, ⟨(some (sl 80)), (some ((sl 65), false)), (.pick (.s (sl 74)) (.s (sl 79)) (.c (.bool false))), none⟩, ⟨(some (sl 81)), none, (.pick (.s (sl 65)) (.c (.bool true)) (.s (sl 80))), none⟩])
  (.cond (.s (sl 81))
  (.seq (.reg [⟨none, none, (.st (.s (sl 2)) (.c (.int .i64 8)) 1), none⟩])
  .ret)
  .skip))
  (.reg [⟨(some (sl 82)), none, (.ld false (.s (sl 9)) none), none⟩, ⟨(some (sl 83)), none, (.mv (.s (sl 82))), none⟩, ⟨(some (sl 84)), (some ((sl 83), false)), (.fld (.s (sl 12)) 0), none⟩, ⟨(some (sl 85)), (some ((sl 83), false)), (.ld true (.s (sl 84)) none), none⟩, ⟨(some (sl 86)), (some ((sl 83), false)), (.bin .eql (.s (sl 85)) (.c (.int .i64 14))), none⟩, ⟨(some (sl 87)), (some ((sl 83), false)), (.mv (.s (sl 86))), none⟩, ⟨(some (sl 88)), (some ((sl 87), true)), (.mv (.s (sl 13))), none⟩, ⟨(some (sl 89)), (some ((sl 87), true)), (.fld (.s (sl 12)) 5), none⟩, ⟨(some (sl 90)), (some ((sl 87), true)), (.ld true (.s (sl 89)) none), none⟩, ⟨(some (sl 91)), (some ((sl 87), true)), (.len false (.s (sl 90))), none⟩, ⟨(some (sl 92)), (some ((sl 87), true)), (.bin .neq (.s (sl 88)) (.s (sl 91))), none⟩, ⟨(some (sl 93)), (some ((sl 83), false)), (.pick (.s (sl 87)) (.s (sl 92)) (.c (.bool false))), none⟩, ⟨(some (sl 94)), none, (.pick (.s (sl 83)) (.c (.bool true)) (.s (sl 93))), none⟩, ⟨none, none, (.st (.s (sl 9)) (.s (sl 94)) 1), none⟩])))))))))
  (.reg [⟨(some (sl 95)), none, (.bin .add (.s (sl 44)) (.c (.int .i64 1))), none⟩, ⟨(some (sl 44)), none, (.mv (.s (sl 95))), none⟩])))))))
  (.seq (.seq (.reg [⟨(some (sl 96)), none, (.ld false (.s (sl 9)) none), none⟩])
  (.cond (.s (sl 96))
  (.seq (.reg [⟨none, none, (.st (.s (sl 2)) (.c (.int .i64 1)) 1), none⟩])
  .ret)
  .skip))
  (.seq (.reg [⟨none, none, (.st (.s (sl 2)) (.c (.int .i64 0)) 1), none⟩])
  .ret))))))))
def r_ir_refs : List ARes := [(.cell (sl 2) none)]
theorem t_ir_refs : (Try.f47).body.bind (trCode Try.prog 8 (Try.f47).ntmps [2, 3, 4, 9, 24, 37, 52, 75, 82, 83, 94, 96] [(61, 3, 1), (79, 25, 6)] (drOk 8)) = some c_ir_refs := by kernel_rfl
theorem u_ir_refs : trRess Try.prog 8 (Try.f47).results.toList = some r_ir_refs := by kernel_rfl

/-- slices.EqualFunc[[]marline/api.Func,[]marline/api.Func,marline/api.Func,marline/api.Func] -/
def c_slices_EqualFunc___api_Func___api_Func_api_Func_api_Func_ : ACode :=
  (.seq (.reg [⟨(some (sl 6)), none, (.mv (.c (.bool false))), none⟩])
  (.seq (.seq (.reg [⟨(some (sl 10)), none, (.mv (.s (sl 0))), none⟩, ⟨(some (sl 11)), none, (.len false (.s (sl 10))), none⟩, ⟨(some (sl 12)), none, (.mv (.s (sl 1))), none⟩, ⟨(some (sl 13)), none, (.len false (.s (sl 12))), none⟩, ⟨(some (sl 14)), none, (.bin .neq (.s (sl 11)) (.s (sl 13))), none⟩])
  (.cond (.s (sl 14))
  (.seq (.reg [⟨(some (sl 6)), none, (.mv (.c (.bool false))), none⟩])
  .ret)
  .skip))
  (.seq (.seq (.reg [⟨(some (sl 15)), none, (.mv (.s (sl 0))), none⟩, ⟨(some (sl 16)), none, (.len false (.s (sl 15))), none⟩, ⟨(some (sl 17)), none, (.mv (.c (.int .i64 0))), none⟩])
  (.block 0
  (.loop (.seq (.reg [⟨(some (sl 18)), none, (.bin .lss (.s (sl 17)) (.s (sl 16))), none⟩])
  (.seq (.cond (.s (sl 18))
  .skip
  (.exit 0))
  (.seq (.block 1
  (.seq (.seq (.reg [⟨(some (sl 19)), none, (.mv (.s (sl 17))), none⟩, ⟨(some (sl 20)), none, (.idx true (.s (sl 15)) (.s (sl 17)) 4), none⟩, ⟨(some (sl 21)), none, (.ld true (.s (sl 20)) (some 4)), none⟩, ⟨(some (sl 8)), none, (.new [(.string ⟨#[]⟩), (.int .i64 0), (.int .i64 0), (.slice none 0 0)]), none⟩, ⟨(some (sl 7)), none, (.mv (.s (sl 19))), none⟩, ⟨none, none, (.ini 2 (.s (sl 8)) (.s (sl 21)) 4), none⟩])
  (.frz (sl 8)))
  (.seq (.seq (.reg [⟨(some (sl 22)), none, (.mv (.s (sl 1))), none⟩, ⟨(some (sl 23)), none, (.mv (.s (sl 7))), none⟩, ⟨(some (sl 24)), none, (.idx true (.s (sl 22)) (.s (sl 23)) 4), none⟩, ⟨(some (sl 25)), none, (.ld true (.s (sl 24)) (some 4)), none⟩, ⟨(some (sl 9)), none, (.new [(.string ⟨#[]⟩), (.int .i64 0), (.int .i64 0), (.slice none 0 0)]), none⟩, ⟨none, none, (.ini 1 (.s (sl 9)) (.s (sl 25)) 4), none⟩])
  (.frz (sl 9)))
  (.seq (.reg [⟨(some (sl 26)), none, (.mv (.s (sl 2))), none⟩, ⟨(some (sl 27)), none, (.ld true (.s (sl 8)) (some 4)), none⟩, ⟨(some (sl 28)), none, (.ld true (.s (sl 9)) (some 4)), none⟩, ⟨(some (sl 29)), none, (.call true (.s (sl 26)) [(.s (sl 27)), (.s (sl 28))]), none⟩, ⟨(some (sl 30)), none, (.not (.s (sl 29))), none⟩])
  (.cond (.s (sl 30))
  (.seq (.reg [⟨(some (sl 6)), none, (.mv (.c (.bool false))), none⟩])
  .ret)
  .skip)))))
  (.reg [⟨(some (sl 31)), none, (.bin .add (.s (sl 17)) (.c (.int .i64 1))), none⟩, ⟨(some (sl 17)), none, (.mv (.s (sl 31))), none⟩])))))))
  (.seq (.reg [⟨(some (sl 6)), none, (.mv (.c (.bool true))), none⟩])
  .ret))))
def r_slices_EqualFunc___api_Func___api_Func_api_Func_api_Func_ : List ARes := [(.tmp (sl 6))]
theorem t_slices_EqualFunc___api_Func___api_Func_api_Func_api_Func_ : (Try.f51).body.bind (trCode Try.prog 8 (Try.f51).ntmps [] [(61, 3, 1), (79, 25, 6)] (drOk 8)) = some c_slices_EqualFunc___api_Func___api_Func_api_Func_api_Func_ := by kernel_rfl
theorem u_slices_EqualFunc___api_Func___api_Func_api_Func_api_Func_ : trRess Try.prog 8 (Try.f51).results.toList = some r_slices_EqualFunc___api_Func___api_Func_api_Func_api_Func_ := by kernel_rfl

/-- marline/ir.sameFunc -/
def c_ir_sameFunc : ACode :=
  (.seq (.reg [⟨(some (sl 2)), none, (.box true (.s (sl 0))), none⟩, ⟨(some (sl 3)), none, (.box true (.s (sl 1))), none⟩, ⟨(some (sl 4)), none, (.mv (.c (.bool false))), none⟩])
  (.seq (.reg [⟨(some (sl 5)), none, (.fld (.s (sl 2)) 0), none⟩, ⟨(some (sl 6)), none, (.ld true (.s (sl 5)) none), none⟩, ⟨(some (sl 7)), none, (.fld (.s (sl 3)) 0), none⟩, ⟨(some (sl 8)), none, (.ld true (.s (sl 7)) none), none⟩, ⟨(some (sl 9)), none, (.bin .eql (.s (sl 6)) (.s (sl 8))), none⟩, ⟨(some (sl 10)), none, (.mv (.s (sl 9))), none⟩, ⟨(some (sl 11)), (some ((sl 10), true)), (.fld (.s (sl 2)) 1), none⟩, ⟨(some (sl 12)), (some ((sl 10), true)), (.ld true (.s (sl 11)) none), none⟩, ⟨(some (sl 13)), (some ((sl 10), true)), (.fld (.s (sl 3)) 1), none⟩, ⟨(some (sl 14)), (some ((sl 10), true)), (.ld true (.s (sl 13)) none), none⟩, ⟨(some (sl 15)), (some ((sl 10), true)), (.bin .eql (.s (sl 12)) (.s (sl 14))), none⟩, ⟨(some (sl 16)), none, (.pick (.s (sl 10)) (.s (sl 15)) (.c (.bool false))), none⟩, ⟨(some (sl 17)), none, (.mv (.s (sl 16))), none⟩, ⟨(some (sl 18)), (some ((sl 17), true)), (.fld (.s (sl 2)) 2), none⟩, ⟨(some (sl 19)), (some ((sl 17), true)), (.ld true (.s (sl 18)) none), none⟩, ⟨(some (sl 20)), (some ((sl 17), true)), (.fld (.s (sl 3)) 2), none⟩, ⟨(some (sl 21)), (some ((sl 17), true)), (.ld true (.s (sl 20)) none), none⟩, ⟨(some (sl 22)), (some ((sl 17), true)), (.bin .eql (.s (sl 19)) (.s (sl 21))), none⟩, ⟨(some (sl 23)), none, (.pick (.s (sl 17)) (.s (sl 22)) (.c (.bool false))), none⟩, ⟨(some (sl 24)), none, (.mv (.s (sl 23))), none⟩, ⟨(some (sl 25)), (some ((sl 24), true)), (.fld (.s (sl 2)) 3), none⟩, ⟨(some (sl 26)), (some ((sl 24), true)), (.ld true (.s (sl 25)) none), none⟩, ⟨(some (sl 27)), (some ((sl 24), true)), (.fld (.s (sl 3)) 3), none⟩, ⟨(some (sl 28)), (some ((sl 24), true)), (.ld true (.s (sl 27)) none), none⟩, ⟨(some (sl 29)), (some ((sl 24), true)), (.call true (.f 69) [(.s (sl 26)), (.s (sl 28)), (.f 70)]), none⟩, ⟨(some (sl 30)), none, (.pick (.s (sl 24)) (.s (sl 29)) (.c (.bool false))), none⟩, ⟨(some (sl 4)), none, (.mv (.s (sl 30))), none⟩])
  .ret))
def r_ir_sameFunc : List ARes := [(.tmp (sl 4))]
theorem t_ir_sameFunc : (Try.f52).body.bind (trCode Try.prog 8 (Try.f52).ntmps [] [(61, 3, 1), (79, 25, 6)] (drOk 8)) = some c_ir_sameFunc := by kernel_rfl
theorem u_ir_sameFunc : trRess Try.prog 8 (Try.f52).results.toList = some r_ir_sameFunc := by kernel_rfl

/-- slices.Equal[[]marline/api.Glob,marline/api.Glob] -/
def c_slices_Equal___api_Glob_api_Glob_ : ACode :=
  (.seq (.reg [⟨(some (sl 4)), none, (.mv (.c (.bool false))), none⟩])
  (.seq (.seq (.reg [⟨(some (sl 6)), none, (.mv (.s (sl 0))), none⟩, ⟨(some (sl 7)), none, (.len false (.s (sl 6))), none⟩, ⟨(some (sl 8)), none, (.mv (.s (sl 1))), none⟩, ⟨(some (sl 9)), none, (.len false (.s (sl 8))), none⟩, ⟨(some (sl 10)), none, (.bin .neq (.s (sl 7)) (.s (sl 9))), none⟩])
  (.cond (.s (sl 10))
  (.seq (.reg [⟨(some (sl 4)), none, (.mv (.c (.bool false))), none⟩])
  .ret)
  .skip))
  (.seq (.seq (.reg [⟨(some (sl 11)), none, (.mv (.s (sl 0))), none⟩, ⟨(some (sl 12)), none, (.len false (.s (sl 11))), none⟩, ⟨(some (sl 13)), none, (.mv (.c (.int .i64 0))), none⟩])
  (.block 0
  (.loop (.seq (.reg [⟨(some (sl 14)), none, (.bin .lss (.s (sl 13)) (.s (sl 12))), none⟩])
  (.seq (.cond (.s (sl 14))
  .skip
  (.exit 0))
  (.seq (.block 1
  (.seq (.reg [⟨(some (sl 15)), none, (.mv (.s (sl 13))), none⟩, ⟨(some (sl 5)), none, (.mv (.s (sl 15))), none⟩])
  (.seq (.reg [⟨(some (sl 16)), none, (.mv (.s (sl 0))), (some 0)⟩, ⟨(some (sl 17)), none, (.mv (.s (sl 5))), (some 1)⟩, ⟨(some (sl 18)), none, (.idx true (.s (sl 16)) (.s (sl 17)) 4), (some 2)⟩, ⟨(some (sl 19)), none, (.ld true (.s (sl 18)) (some 4)), (some 3)⟩, ⟨(some (sl 20)), none, (.mv (.s (sl 1))), (some 4)⟩, ⟨(some (sl 21)), none, (.mv (.s (sl 5))), (some 5)⟩, ⟨(some (sl 22)), none, (.idx true (.s (sl 20)) (.s (sl 21)) 4), (some 6)⟩, ⟨(some (sl 23)), none, (.ld true (.s (sl 22)) (some 4)), (some 7)⟩, ⟨(some (sl 24)), none, (.eqs true (.s (sl 19)) (.s (sl 23)) [.string, (.int .i64), .bool, (.int .u64)]), (some 8)⟩])
  (.cond (.s (sl 24))
  (.seq (.reg [⟨(some (sl 4)), none, (.mv (.c (.bool false))), none⟩])
  .ret)
  .skip))))
  (.reg [⟨(some (sl 25)), none, (.bin .add (.s (sl 13)) (.c (.int .i64 1))), none⟩, ⟨(some (sl 13)), none, (.mv (.s (sl 25))), none⟩])))))))
  (.seq (.reg [⟨(some (sl 4)), none, (.mv (.c (.bool true))), none⟩])
  .ret))))
def r_slices_Equal___api_Glob_api_Glob_ : List ARes := [(.tmp (sl 4))]
theorem t_slices_Equal___api_Glob_api_Glob_ : (Try.f53).body.bind (trCode Try.prog 8 (Try.f53).ntmps [] [(61, 3, 1), (79, 25, 6)] (drOk 8)) = some c_slices_Equal___api_Glob_api_Glob_ := by kernel_rfl
theorem u_slices_Equal___api_Glob_api_Glob_ : trRess Try.prog 8 (Try.f53).results.toList = some r_slices_Equal___api_Glob_api_Glob_ := by kernel_rfl

/-- slices.EqualFunc[[]marline/api.Block,[]marline/api.Block,marline/api.Block,marline/api.Block] -/
def c_slices_EqualFunc___api_Block___api_Block_api_Block_api_Block_ : ACode :=
  (.seq (.reg [⟨(some (sl 6)), none, (.mv (.c (.bool false))), none⟩])
  (.seq (.seq (.reg [⟨(some (sl 10)), none, (.mv (.s (sl 0))), none⟩, ⟨(some (sl 11)), none, (.len false (.s (sl 10))), none⟩, ⟨(some (sl 12)), none, (.mv (.s (sl 1))), none⟩, ⟨(some (sl 13)), none, (.len false (.s (sl 12))), none⟩, ⟨(some (sl 14)), none, (.bin .neq (.s (sl 11)) (.s (sl 13))), none⟩])
  (.cond (.s (sl 14))
  (.seq (.reg [⟨(some (sl 6)), none, (.mv (.c (.bool false))), none⟩])
  .ret)
  .skip))
  (.seq (.seq (.reg [⟨(some (sl 15)), none, (.mv (.s (sl 0))), none⟩, ⟨(some (sl 16)), none, (.len false (.s (sl 15))), none⟩, ⟨(some (sl 17)), none, (.mv (.c (.int .i64 0))), none⟩])
  (.block 0
  (.loop (.seq (.reg [⟨(some (sl 18)), none, (.bin .lss (.s (sl 17)) (.s (sl 16))), none⟩])
  (.seq (.cond (.s (sl 18))
  .skip
  (.exit 0))
  (.seq (.block 1
  (.seq (.seq (.reg [⟨(some (sl 19)), none, (.mv (.s (sl 17))), none⟩, ⟨(some (sl 20)), none, (.idx true (.s (sl 15)) (.s (sl 17)) 8), none⟩, ⟨(some (sl 21)), none, (.ld true (.s (sl 20)) (some 8)), none⟩, ⟨(some (sl 8)), none, (.new [(.int .i64 0), (.slice none 0 0), (.int .i64 0), (.int .i64 0), (.int .i64 0), (.slice none 0 0), (.int .i64 0), (.slice none 0 0)]), none⟩, ⟨(some (sl 7)), none, (.mv (.s (sl 19))), none⟩, ⟨none, none, (.ini 2 (.s (sl 8)) (.s (sl 21)) 8), none⟩])
  (.frz (sl 8)))
  (.seq (.seq (.reg [⟨(some (sl 22)), none, (.mv (.s (sl 1))), none⟩, ⟨(some (sl 23)), none, (.mv (.s (sl 7))), none⟩, ⟨(some (sl 24)), none, (.idx true (.s (sl 22)) (.s (sl 23)) 8), none⟩, ⟨(some (sl 25)), none, (.ld true (.s (sl 24)) (some 8)), none⟩, ⟨(some (sl 9)), none, (.new [(.int .i64 0), (.slice none 0 0), (.int .i64 0), (.int .i64 0), (.int .i64 0), (.slice none 0 0), (.int .i64 0), (.slice none 0 0)]), none⟩, ⟨none, none, (.ini 1 (.s (sl 9)) (.s (sl 25)) 8), none⟩])
  (.frz (sl 9)))
  (.seq (.reg [⟨(some (sl 26)), none, (.mv (.s (sl 2))), none⟩, ⟨(some (sl 27)), none, (.ld true (.s (sl 8)) (some 8)), none⟩, ⟨(some (sl 28)), none, (.ld true (.s (sl 9)) (some 8)), none⟩, ⟨(some (sl 29)), none, (.call true (.s (sl 26)) [(.s (sl 27)), (.s (sl 28))]), none⟩, ⟨(some (sl 30)), none, (.not (.s (sl 29))), none⟩])
  (.cond (.s (sl 30))
  (.seq (.reg [⟨(some (sl 6)), none, (.mv (.c (.bool false))), none⟩])
  .ret)
  .skip)))))
  (.reg [⟨(some (sl 31)), none, (.bin .add (.s (sl 17)) (.c (.int .i64 1))), none⟩, ⟨(some (sl 17)), none, (.mv (.s (sl 31))), none⟩])))))))
  (.seq (.reg [⟨(some (sl 6)), none, (.mv (.c (.bool true))), none⟩])
  .ret))))
def r_slices_EqualFunc___api_Block___api_Block_api_Block_api_Block_ : List ARes := [(.tmp (sl 6))]
theorem t_slices_EqualFunc___api_Block___api_Block_api_Block_api_Block_ : (Try.f69).body.bind (trCode Try.prog 8 (Try.f69).ntmps [] [(61, 3, 1), (79, 25, 6)] (drOk 8)) = some c_slices_EqualFunc___api_Block___api_Block_api_Block_api_Block_ := by kernel_rfl
theorem u_slices_EqualFunc___api_Block___api_Block_api_Block_api_Block_ : trRess Try.prog 8 (Try.f69).results.toList = some r_slices_EqualFunc___api_Block___api_Block_api_Block_api_Block_ := by kernel_rfl

/-- marline/ir.sameBlock -/
def c_ir_sameBlock : ACode :=
  (.seq (.reg [⟨(some (sl 2)), none, (.box true (.s (sl 0))), none⟩, ⟨(some (sl 3)), none, (.box true (.s (sl 1))), none⟩, ⟨(some (sl 4)), none, (.mv (.c (.bool false))), none⟩])
  (.seq (.seq (.seq (.reg [⟨(some (sl 8)), none, (.fld (.s (sl 2)) 2), (some 0)⟩, ⟨(some (sl 9)), none, (.ld true (.s (sl 8)) (some 6)), (some 1)⟩, ⟨(some (sl 10)), none, (.fld (.s (sl 3)) 2), (some 2)⟩, ⟨(some (sl 11)), none, (.ld true (.s (sl 10)) (some 6)), (some 3)⟩, ⟨(some (sl 5)), none, (.new [(.int .i64 0), (.int .i64 0), (.int .i64 0), (.slice none 0 0), (.int .i64 0), (.slice none 0 0)]), (some 4)⟩, ⟨(some (sl 6)), none, (.new [(.int .i64 0), (.int .i64 0), (.int .i64 0), (.slice none 0 0), (.int .i64 0), (.slice none 0 0)]), (some 5)⟩, ⟨none, none, (.ini 2 (.s (sl 5)) (.s (sl 9)) 6), none⟩, ⟨none, none, (.ini 2 (.s (sl 6)) (.s (sl 11)) 6), none⟩])
  (.frz (sl 5)))
  (.frz (sl 6)))
  (.seq (.reg [⟨(some (sl 12)), none, (.fld (.s (sl 5)) 0), none⟩, ⟨(some (sl 13)), none, (.ld true (.s (sl 12)) none), none⟩, ⟨(some (sl 14)), none, (.fld (.s (sl 6)) 0), none⟩, ⟨(some (sl 15)), none, (.ld true (.s (sl 14)) none), none⟩, ⟨(some (sl 16)), none, (.bin .eql (.s (sl 13)) (.s (sl 15))), none⟩, ⟨(some (sl 17)), none, (.mv (.s (sl 16))), none⟩, ⟨(some (sl 18)), (some ((sl 17), true)), (.fld (.s (sl 5)) 1), none⟩, ⟨(some (sl 19)), (some ((sl 17), true)), (.ld true (.s (sl 18)) none), none⟩, ⟨(some (sl 20)), (some ((sl 17), true)), (.fld (.s (sl 6)) 1), none⟩, ⟨(some (sl 21)), (some ((sl 17), true)), (.ld true (.s (sl 20)) none), none⟩, ⟨(some (sl 22)), (some ((sl 17), true)), (.bin .eql (.s (sl 19)) (.s (sl 21))), none⟩, ⟨(some (sl 23)), none, (.pick (.s (sl 17)) (.s (sl 22)) (.c (.bool false))), none⟩, ⟨(some (sl 24)), none, (.mv (.s (sl 23))), none⟩, ⟨(some (sl 25)), (some ((sl 24), true)), (.fld (.s (sl 5)) 2), none⟩, ⟨(some (sl 26)), (some ((sl 24), true)), (.ld true (.s (sl 25)) none), none⟩, ⟨(some (sl 27)), (some ((sl 24), true)), (.fld (.s (sl 6)) 2), none⟩, ⟨(some (sl 28)), (some ((sl 24), true)), (.ld true (.s (sl 27)) none), none⟩, ⟨(some (sl 29)), (some ((sl 24), true)), (.bin .eql (.s (sl 26)) (.s (sl 28))), none⟩, ⟨(some (sl 30)), none, (.pick (.s (sl 24)) (.s (sl 29)) (.c (.bool false))), none⟩, ⟨(some (sl 31)), none, (.mv (.s (sl 30))), none⟩, ⟨(some (sl 32)), (some ((sl 31), true)), (.fld (.s (sl 5)) 3), none⟩, ⟨(some (sl 33)), (some ((sl 31), true)), (.ld true (.s (sl 32)) none), none⟩, ⟨(some (sl 34)), (some ((sl 31), true)), (.fld (.s (sl 6)) 3), none⟩, ⟨(some (sl 35)), (some ((sl 31), true)), (.ld true (.s (sl 34)) none), none⟩, ⟨(some (sl 36)), (some ((sl 31), true)), (.call true (.f 76) [(.s (sl 33)), (.s (sl 35))]), none⟩, ⟨(some (sl 37)), none, (.pick (.s (sl 31)) (.s (sl 36)) (.c (.bool false))), none⟩, ⟨(some (sl 38)), none, (.mv (.s (sl 37))), none⟩, ⟨(some (sl 39)), (some ((sl 38), true)), (.fld (.s (sl 5)) 4), none⟩, ⟨(some (sl 40)), (some ((sl 38), true)), (.ld true (.s (sl 39)) none), none⟩, ⟨(some (sl 41)), (some ((sl 38), true)), (.fld (.s (sl 6)) 4), none⟩, ⟨(some (sl 42)), (some ((sl 38), true)), (.ld true (.s (sl 41)) none), none⟩, ⟨(some (sl 43)), (some ((sl 38), true)), (.bin .eql (.s (sl 40)) (.s (sl 42))), none⟩, ⟨(some (sl 44)), none, (.pick (.s (sl 38)) (.s (sl 43)) (.c (.bool false))), none⟩, ⟨(some (sl 45)), none, (.mv (.s (sl 44))), none⟩, ⟨(some (sl 46)), (some ((sl 45), true)), (.fld (.s (sl 5)) 5), none⟩, ⟨(some (sl 47)), (some ((sl 45), true)), (.ld true (.s (sl 46)) none), none⟩, ⟨(some (sl 48)), (some ((sl 45), true)), (.fld (.s (sl 6)) 5), none⟩, ⟨(some (sl 49)), (some ((sl 45), true)), (.ld true (.s (sl 48)) none), none⟩, ⟨(some (sl 50)), (some ((sl 45), true)), (.call true (.f 76) [(.s (sl 47)), (.s (sl 49))]), none⟩, ⟨(some (sl 51)), none, (.pick (.s (sl 45)) (.s (sl 50)) (.c (.bool false))), none⟩, ⟨(some (sl 7)), none, (.mv (.s (sl 51))), none⟩])
  (.seq (.reg [⟨(some (sl 52)), none, (.mv (.s (sl 7))), none⟩, ⟨(some (sl 53)), none, (.mv (.s (sl 52))), none⟩, ⟨(some (sl 54)), (some ((sl 53), true)), (.fld (.s (sl 2)) 0), none⟩, ⟨(some (sl 55)), (some ((sl 53), true)), (.ld true (.s (sl 54)) none), none⟩, ⟨(some (sl 56)), (some ((sl 53), true)), (.fld (.s (sl 3)) 0), none⟩, ⟨(some (sl 57)), (some ((sl 53), true)), (.ld true (.s (sl 56)) none), none⟩, ⟨(some (sl 58)), (some ((sl 53), true)), (.bin .eql (.s (sl 55)) (.s (sl 57))), none⟩, ⟨(some (sl 59)), none, (.pick (.s (sl 53)) (.s (sl 58)) (.c (.bool false))), none⟩, ⟨(some (sl 60)), none, (.mv (.s (sl 59))), none⟩, ⟨(some (sl 61)), (some ((sl 60), true)), (.fld (.s (sl 2)) 1), none⟩, ⟨(some (sl 62)), (some ((sl 60), true)), (.ld true (.s (sl 61)) none), none⟩, ⟨(some (sl 63)), (some ((sl 60), true)), (.fld (.s (sl 3)) 1), none⟩, ⟨(some (sl 64)), (some ((sl 60), true)), (.ld true (.s (sl 63)) none), none⟩, ⟨(some (sl 65)), (some ((sl 60), true)), (.call true (.f 77) [(.s (sl 62)), (.s (sl 64)), (.f 78)]), none⟩, ⟨(some (sl 66)), none, (.pick (.s (sl 60)) (.s (sl 65)) (.c (.bool false))), none⟩, ⟨(some (sl 4)), none, (.mv (.s (sl 66))), none⟩])
  .ret))))
def r_ir_sameBlock : List ARes := [(.tmp (sl 4))]
theorem t_ir_sameBlock : (Try.f70).body.bind (trCode Try.prog 8 (Try.f70).ntmps [] [(61, 3, 1), (79, 25, 6)] (drOk 8)) = some c_ir_sameBlock := by kernel_rfl
theorem u_ir_sameBlock : trRess Try.prog 8 (Try.f70).results.toList = some r_ir_sameBlock := by kernel_rfl

/-- slices.Equal[[]int,int] -/
def c_slices_Equal___int_int_ : ACode :=
  (.seq (.reg [⟨(some (sl 4)), none, (.mv (.c (.bool false))), none⟩])
  (.seq (.seq (.reg [⟨(some (sl 6)), none, (.mv (.s (sl 0))), none⟩, ⟨(some (sl 7)), none, (.len false (.s (sl 6))), none⟩, ⟨(some (sl 8)), none, (.mv (.s (sl 1))), none⟩, ⟨(some (sl 9)), none, (.len false (.s (sl 8))), none⟩, ⟨(some (sl 10)), none, (.bin .neq (.s (sl 7)) (.s (sl 9))), none⟩])
  (.cond (.s (sl 10))
  (.seq (.reg [⟨(some (sl 4)), none, (.mv (.c (.bool false))), none⟩])
  .ret)
  .skip))
  (.seq (.seq (.reg [⟨(some (sl 11)), none, (.mv (.s (sl 0))), none⟩, ⟨(some (sl 12)), none, (.len false (.s (sl 11))), none⟩, ⟨(some (sl 13)), none, (.mv (.c (.int .i64 0))), none⟩])
  (.block 0
  (.loop (.seq (.reg [⟨(some (sl 14)), none, (.bin .lss (.s (sl 13)) (.s (sl 12))), none⟩])
  (.seq (.cond (.s (sl 14))
  .skip
  (.exit 0))
  (.seq (.block 1
  (.seq (.reg [⟨(some (sl 15)), none, (.mv (.s (sl 13))), none⟩, ⟨(some (sl 5)), none, (.mv (.s (sl 15))), none⟩])
  (.seq (.reg [⟨(some (sl 16)), none, (.mv (.s (sl 0))), (some 0)⟩, ⟨(some (sl 17)), none, (.mv (.s (sl 5))), (some 1)⟩, ⟨(some (sl 18)), none, (.idx true (.s (sl 16)) (.s (sl 17)) 1), (some 2)⟩, ⟨(some (sl 19)), none, (.ld true (.s (sl 18)) none), (some 3)⟩, ⟨(some (sl 20)), none, (.mv (.s (sl 1))), (some 4)⟩, ⟨(some (sl 21)), none, (.mv (.s (sl 5))), (some 5)⟩, ⟨(some (sl 22)), none, (.idx true (.s (sl 20)) (.s (sl 21)) 1), (some 6)⟩, ⟨(some (sl 23)), none, (.ld true (.s (sl 22)) none), (some 7)⟩, ⟨(some (sl 24)), none, (.bin .neq (.s (sl 19)) (.s (sl 23))), (some 8)⟩])
  (.cond (.s (sl 24))
  (.seq (.reg [⟨(some (sl 4)), none, (.mv (.c (.bool false))), none⟩])
  .ret)
  .skip))))
  (.reg [⟨(some (sl 25)), none, (.bin .add (.s (sl 13)) (.c (.int .i64 1))), none⟩, ⟨(some (sl 13)), none, (.mv (.s (sl 25))), none⟩])))))))
  (.seq (.reg [⟨(some (sl 4)), none, (.mv (.c (.bool true))), none⟩])
  .ret))))
def r_slices_Equal___int_int_ : List ARes := [(.tmp (sl 4))]
theorem t_slices_Equal___int_int_ : (Try.f76).body.bind (trCode Try.prog 8 (Try.f76).ntmps [] [(61, 3, 1), (79, 25, 6)] (drOk 8)) = some c_slices_Equal___int_int_ := by kernel_rfl
theorem u_slices_Equal___int_int_ : trRess Try.prog 8 (Try.f76).results.toList = some r_slices_Equal___int_int_ := by kernel_rfl

/-- slices.EqualFunc[[]marline/api.Inst,[]marline/api.Inst,marline/api.Inst,marline/api.Inst] -/
def c_slices_EqualFunc___api_Inst___api_Inst_api_Inst_api_Inst_ : ACode :=
  (.seq (.reg [⟨(some (sl 6)), none, (.mv (.c (.bool false))), none⟩])
  (.seq (.seq (.reg [⟨(some (sl 10)), none, (.mv (.s (sl 0))), none⟩, ⟨(some (sl 11)), none, (.len false (.s (sl 10))), none⟩, ⟨(some (sl 12)), none, (.mv (.s (sl 1))), none⟩, ⟨(some (sl 13)), none, (.len false (.s (sl 12))), none⟩, ⟨(some (sl 14)), none, (.bin .neq (.s (sl 11)) (.s (sl 13))), none⟩])
  (.cond (.s (sl 14))
  (.seq (.reg [⟨(some (sl 6)), none, (.mv (.c (.bool false))), none⟩])
  .ret)
  .skip))
  (.seq (.seq (.reg [⟨(some (sl 15)), none, (.mv (.s (sl 0))), none⟩, ⟨(some (sl 16)), none, (.len false (.s (sl 15))), none⟩, ⟨(some (sl 17)), none, (.mv (.c (.int .i64 0))), none⟩])
  (.block 0
  (.loop (.seq (.reg [⟨(some (sl 18)), none, (.bin .lss (.s (sl 17)) (.s (sl 16))), none⟩])
  (.seq (.cond (.s (sl 18))
  .skip
  (.exit 0))
  (.seq (.block 1
  (.seq (.seq (.reg [⟨(some (sl 19)), none, (.mv (.s (sl 17))), none⟩, ⟨(some (sl 20)), none, (.idx true (.s (sl 15)) (.s (sl 17)) 6), none⟩, ⟨(some (sl 21)), none, (.ld true (.s (sl 20)) (some 6)), none⟩, ⟨(some (sl 8)), none, (.new [(.int .i64 0), (.int .i64 0), (.int .i64 0), (.int .u64 0), (.string ⟨#[]⟩), (.slice none 0 0)]), none⟩, ⟨(some (sl 7)), none, (.mv (.s (sl 19))), none⟩, ⟨none, none, (.ini 2 (.s (sl 8)) (.s (sl 21)) 6), none⟩])
  (.frz (sl 8)))
  (.seq (.seq (.reg [⟨(some (sl 22)), none, (.mv (.s (sl 1))), none⟩, ⟨(some (sl 23)), none, (.mv (.s (sl 7))), none⟩, ⟨(some (sl 24)), none, (.idx true (.s (sl 22)) (.s (sl 23)) 6), none⟩, ⟨(some (sl 25)), none, (.ld true (.s (sl 24)) (some 6)), none⟩, ⟨(some (sl 9)), none, (.new [(.int .i64 0), (.int .i64 0), (.int .i64 0), (.int .u64 0), (.string ⟨#[]⟩), (.slice none 0 0)]), none⟩, ⟨none, none, (.ini 1 (.s (sl 9)) (.s (sl 25)) 6), none⟩])
  (.frz (sl 9)))
  (.seq (.reg [⟨(some (sl 26)), none, (.mv (.s (sl 2))), none⟩, ⟨(some (sl 27)), none, (.ld true (.s (sl 8)) (some 6)), none⟩, ⟨(some (sl 28)), none, (.ld true (.s (sl 9)) (some 6)), none⟩, ⟨(some (sl 29)), none, (.call true (.s (sl 26)) [(.s (sl 27)), (.s (sl 28))]), none⟩, ⟨(some (sl 30)), none, (.not (.s (sl 29))), none⟩])
  (.cond (.s (sl 30))
  (.seq (.reg [⟨(some (sl 6)), none, (.mv (.c (.bool false))), none⟩])
  .ret)
  .skip)))))
  (.reg [⟨(some (sl 31)), none, (.bin .add (.s (sl 17)) (.c (.int .i64 1))), none⟩, ⟨(some (sl 17)), none, (.mv (.s (sl 31))), none⟩])))))))
  (.seq (.reg [⟨(some (sl 6)), none, (.mv (.c (.bool true))), none⟩])
  .ret))))
def r_slices_EqualFunc___api_Inst___api_Inst_api_Inst_api_Inst_ : List ARes := [(.tmp (sl 6))]
theorem t_slices_EqualFunc___api_Inst___api_Inst_api_Inst_api_Inst_ : (Try.f77).body.bind (trCode Try.prog 8 (Try.f77).ntmps [] [(61, 3, 1), (79, 25, 6)] (drOk 8)) = some c_slices_EqualFunc___api_Inst___api_Inst_api_Inst_api_Inst_ := by kernel_rfl
theorem u_slices_EqualFunc___api_Inst___api_Inst_api_Inst_api_Inst_ : trRess Try.prog 8 (Try.f77).results.toList = some r_slices_EqualFunc___api_Inst___api_Inst_api_Inst_api_Inst_ := by kernel_rfl

/-- marline/ir.inst -/
def c_ir_inst : ACode :=
  (.seq (.reg [⟨(some (sl 2)), none, (.box true (.s (sl 0))), none⟩, ⟨(some (sl 3)), none, (.box true (.s (sl 1))), none⟩, ⟨(some (sl 4)), none, (.mv (.c (.bool false))), none⟩])
  (.seq (.reg [⟨(some (sl 5)), none, (.fld (.s (sl 2)) 0), none⟩, ⟨(some (sl 6)), none, (.ld true (.s (sl 5)) none), none⟩, ⟨(some (sl 7)), none, (.fld (.s (sl 3)) 0), none⟩, ⟨(some (sl 8)), none, (.ld true (.s (sl 7)) none), none⟩, ⟨(some (sl 9)), none, (.bin .eql (.s (sl 6)) (.s (sl 8))), none⟩, ⟨(some (sl 10)), none, (.mv (.s (sl 9))), none⟩, ⟨(some (sl 11)), (some ((sl 10), true)), (.fld (.s (sl 2)) 1), none⟩, ⟨(some (sl 12)), (some ((sl 10), true)), (.ld true (.s (sl 11)) none), none⟩, ⟨(some (sl 13)), (some ((sl 10), true)), (.fld (.s (sl 3)) 1), none⟩, ⟨(some (sl 14)), (some ((sl 10), true)), (.ld true (.s (sl 13)) none), none⟩, ⟨(some (sl 15)), (some ((sl 10), true)), (.bin .eql (.s (sl 12)) (.s (sl 14))), none⟩, ⟨(some (sl 16)), none, (.pick (.s (sl 10)) (.s (sl 15)) (.c (.bool false))), none⟩, ⟨(some (sl 17)), none, (.mv (.s (sl 16))), none⟩, ⟨(some (sl 18)), (some ((sl 17), true)), (.fld (.s (sl 2)) 2), none⟩, ⟨(some (sl 19)), (some ((sl 17), true)), (.ld true (.s (sl 18)) none), none⟩, ⟨(some (sl 20)), (some ((sl 17), true)), (.fld (.s (sl 3)) 2), none⟩, ⟨(some (sl 21)), (some ((sl 17), true)), (.ld true (.s (sl 20)) none), none⟩, ⟨(some (sl 22)), (some ((sl 17), true)), (.bin .eql (.s (sl 19)) (.s (sl 21))), none⟩, ⟨(some (sl 23)), none, (.pick (.s (sl 17)) (.s (sl 22)) (.c (.bool false))), none⟩, ⟨(some (sl 24)), none, (.mv (.s (sl 23))), none⟩, ⟨(some (sl 25)), (some ((sl 24), true)), (.fld (.s (sl 2)) 3), none⟩, ⟨(some (sl 26)), (some ((sl 24), true)), (.ld true (.s (sl 25)) none), none⟩, ⟨(some (sl 27)), (some ((sl 24), true)), (.fld (.s (sl 3)) 3), none⟩, ⟨(some (sl 28)), (some ((sl 24), true)), (.ld true (.s (sl 27)) none), none⟩, ⟨(some (sl 29)), (some ((sl 24), true)), (.bin .eql (.s (sl 26)) (.s (sl 28))), none⟩, ⟨(some (sl 30)), none, (.pick (.s (sl 24)) (.s (sl 29)) (.c (.bool false))), none⟩, ⟨(some (sl 31)), none, (.mv (.s (sl 30))), none⟩, ⟨(some (sl 32)), (some ((sl 31), true)), (.fld (.s (sl 2)) 4), none⟩, ⟨(some (sl 33)), (some ((sl 31), true)), (.ld true (.s (sl 32)) none), none⟩, ⟨(some (sl 34)), (some ((sl 31), true)), (.fld (.s (sl 3)) 4), none⟩, ⟨(some (sl 35)), (some ((sl 31), true)), (.ld true (.s (sl 34)) none), none⟩, ⟨(some (sl 36)), (some ((sl 31), true)), (.bin .eql (.s (sl 33)) (.s (sl 35))), none⟩, ⟨(some (sl 37)), none, (.pick (.s (sl 31)) (.s (sl 36)) (.c (.bool false))), none⟩, ⟨(some (sl 38)), none, (.mv (.s (sl 37))), none⟩, ⟨(some (sl 39)), (some ((sl 38), true)), (.fld (.s (sl 2)) 5), none⟩, ⟨(some (sl 40)), (some ((sl 38), true)), (.ld true (.s (sl 39)) none), none⟩, ⟨(some (sl 41)), (some ((sl 38), true)), (.fld (.s (sl 3)) 5), none⟩, ⟨(some (sl 42)), (some ((sl 38), true)), (.ld true (.s (sl 41)) none), none⟩, ⟨(some (sl 43)), (some ((sl 38), true)), (.call true (.f 76) [(.s (sl 40)), (.s (sl 42))]), none⟩, ⟨(some (sl 44)), none, (.pick (.s (sl 38)) (.s (sl 43)) (.c (.bool false))), none⟩, ⟨(some (sl 4)), none, (.mv (.s (sl 44))), none⟩])
  .ret))
def r_ir_inst : List ARes := [(.tmp (sl 4))]
theorem t_ir_inst : (Try.f78).body.bind (trCode Try.prog 8 (Try.f78).ntmps [] [(61, 3, 1), (79, 25, 6)] (drOk 8)) = some c_ir_inst := by kernel_rfl
theorem u_ir_inst : trRess Try.prog 8 (Try.f78).results.toList = some r_ir_inst := by kernel_rfl

end Go.Proofs.Ytghlfjpmpalpdaa
