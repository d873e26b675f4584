/- The bodies of some functions, as the evaluator has them (printed by program), and that they are the program's own. -/
import Derived.Test.YtndpejmebhcaaaaKE
namespace Go.Proofs.Ytndpejmebhcaaaa
open Go.RowKit

/-- marline/marlinelaw14.shown -/
def c_marlinelaw14_shown : ACode :=
  (.seq (.reg [⟨(some (sl 0)), none, (.mv (.c (.bool false))), none⟩])
  (.seq (.seq (.reg [⟨(some (sl 4)), none, (.bld [(.int .i64 0), (.int .i64 0), (.int .i64 0), (.int .u64 0), (.string ⟨#[]⟩), (.slice none 0 0)] [(0, 1, (.c (.int .i64 1))), (3, 1, (.c (.int .u64 2)))]), none⟩, ⟨(some (sl 5)), none, (.mksl 1 1 [(.int .i64 0)] [(0, 1, (.c (.int .i64 0)))]), none⟩, ⟨(some (sl 6)), none, (.bld [(.int .i64 0), (.int .i64 0), (.int .i64 0), (.int .u64 0), (.string ⟨#[]⟩), (.slice none 0 0)] [(0, 1, (.c (.int .i64 14))), (4, 1, (.c (.string ⟨#[102]⟩))), (5, 1, (.s (sl 5)))]), none⟩, ⟨(some (sl 7)), none, (.mksl 6 2 [(.int .i64 0), (.int .i64 0), (.int .i64 0), (.int .u64 0), (.string ⟨#[]⟩), (.slice none 0 0), (.int .i64 0), (.int .i64 0), (.int .i64 0), (.int .u64 0), (.string ⟨#[]⟩), (.slice none 0 0)] [(0, 6, (.s (sl 4))), (6, 6, (.s (sl 6)))]), none⟩, ⟨(some (sl 8)), none, (.bld [(.int .i64 0), (.int .i64 0), (.int .i64 0), (.slice none 0 0), (.int .i64 0), (.slice none 0 0)] [(0, 1, (.c (.int .i64 3))), (1, 1, (.c (.int .i64 1)))]), none⟩, ⟨(some (sl 9)), none, (.bld [(.int .i64 0), (.slice none 0 0), (.int .i64 0), (.int .i64 0), (.int .i64 0), (.slice none 0 0), (.int .i64 0), (.slice none 0 0)] [(1, 1, (.s (sl 7))), (2, 6, (.s (sl 8)))]), none⟩, ⟨(some (sl 10)), none, (.bld [(.int .i64 0), (.int .i64 0), (.int .i64 0), (.slice none 0 0), (.int .i64 0), (.slice none 0 0)] [(0, 1, (.c (.int .i64 3)))]), none⟩, ⟨(some (sl 11)), none, (.bld [(.int .i64 0), (.slice none 0 0), (.int .i64 0), (.int .i64 0), (.int .i64 0), (.slice none 0 0), (.int .i64 0), (.slice none 0 0)] [(0, 1, (.c (.int .i64 1))), (2, 6, (.s (sl 10)))]), none⟩, ⟨(some (sl 12)), none, (.call true (.f 40) [(.s (sl 9)), (.s (sl 11)), (.c (.int .i64 1))]), none⟩, ⟨(some (sl 3)), none, (.mv (.s (sl 12))), none⟩, ⟨(some (sl 13)), none, (.ext (.s (sl 3)) 0), none⟩, ⟨(some (sl 14)), none, (.ext (.s (sl 3)) 1), none⟩, ⟨(some (sl 1)), none, (.new [(.int .i64 0), (.slice none 0 0), (.int .i64 0), (.int .i64 0), (.int .i64 0), (.slice none 0 0), (.int .i64 0), (.slice none 0 0)]), none⟩, ⟨none, none, (.ini 1 (.s (sl 1)) (.s (sl 13)) 8), none⟩, ⟨(some (sl 2)), none, (.mv (.s (sl 14))), none⟩])
  (.frz (sl 1)))
  (.seq (.reg [⟨(some (sl 15)), none, (.mv (.s (sl 2))), none⟩, ⟨(some (sl 16)), none, (.mv (.s (sl 15))), none⟩, ⟨(some (sl 17)), (some ((sl 16), true)), (.fld (.s (sl 1)) 1), none⟩, ⟨(some (sl 18)), (some ((sl 16), true)), (.ld true (.s (sl 17)) none), none⟩, ⟨(some (sl 19)), (some ((sl 16), true)), (.len false (.s (sl 18))), none⟩, ⟨(some (sl 20)), (some ((sl 16), true)), (.bin .eql (.s (sl 19)) (.c (.int .i64 1))), none⟩, ⟨(some (sl 21)), none, (.pick (.s (sl 16)) (.s (sl 20)) (.c (.bool false))), none⟩, ⟨(some (sl 22)), none, (.mv (.s (sl 21))), none⟩, ⟨(some (sl 23)), (some ((sl 22), true)), (.fld (.s (sl 1)) 1), none⟩, ⟨(some (sl 24)), (some ((sl 22), true)), (.ld true (.s (sl 23)) none), none⟩, ⟨(some (sl 25)), (some ((sl 22), true)), (.idx true (.s (sl 24)) (.c (.int .i64 0)) 6), none⟩, ⟨(some (sl 26)), (some ((sl 22), true)), (.fld (.s (sl 25)) 3), none⟩, ⟨(some (sl 27)), (some ((sl 22), true)), (.ld true (.s (sl 26)) none), none⟩, ⟨(some (sl 28)), (some ((sl 22), true)), (.bin .eql (.s (sl 27)) (.c (.int .u64 2))), none⟩, ⟨(some (sl 29)), none, (.pick (.s (sl 22)) (.s (sl 28)) (.c (.bool false))), none⟩, ⟨(some (sl 30)), none, (.mv (.s (sl 29))), none⟩, ⟨(some (sl 31)), (some ((sl 30), true)), (.fld (.s (sl 1)) 2), none⟩, ⟨(some (sl 32)), (some ((sl 30), true)), (.fld (.s (sl 31)) 1), none⟩, ⟨(some (sl 33)), (some ((sl 30), true)), (.ld true (.s (sl 32)) none), none⟩, ⟨(some (sl 34)), (some ((sl 30), true)), (.bin .eql (.s (sl 33)) (.c (.int .i64 0))), none⟩, ⟨(some (sl 35)), none, (.pick (.s (sl 30)) (.s (sl 34)) (.c (.bool false))), none⟩, ⟨(some (sl 0)), none, (.mv (.s (sl 35))), none⟩])
  .ret)))
def r_marlinelaw14_shown : List ARes := [(.tmp (sl 0))]
theorem t_marlinelaw14_shown : (Try.f18).body.bind (trCode Try.prog 8 (Try.f18).ntmps [] [] (drOk 8)) = some c_marlinelaw14_shown := by kernel_rfl
theorem u_marlinelaw14_shown : trRess Try.prog 8 (Try.f18).results.toList = some r_marlinelaw14_shown := by kernel_rfl

/-- marline/inline.Put -/
def c_inline_Put : ACode :=
  (.seq (.reg [⟨(some (sl 3)), none, (.box true (.s (sl 0))), none⟩, ⟨(some (sl 4)), none, (.box true (.s (sl 1))), none⟩, ⟨(some (sl 6)), none, (.new [(.int .i64 0), (.slice none 0 0), (.int .i64 0), (.int .i64 0), (.int .i64 0), (.slice none 0 0), (.int .i64 0), (.slice none 0 0)]), none⟩, ⟨(some (sl 7)), none, (.mv (.c (.bool false))), none⟩])
  (.seq (.seq (.reg [⟨(some (sl 13)), none, (.mv (.s (sl 2))), (some (0, []))⟩, ⟨(some (sl 14)), none, (.bin .lss (.s (sl 13)) (.c (.int .i64 0))), (some (1, []))⟩, ⟨(some (sl 15)), none, (.mv (.s (sl 14))), (some (2, []))⟩, ⟨(some (sl 16)), (some ((sl 15), false)), (.mv (.s (sl 2))), (some (3, []))⟩, ⟨(some (sl 17)), (some ((sl 15), false)), (.fld (.s (sl 3)) 1), (some (4, []))⟩, ⟨(some (sl 18)), (some ((sl 15), false)), (.ld true (.s (sl 17)) none), (some (5, []))⟩, ⟨(some (sl 19)), (some ((sl 15), false)), (.len false (.s (sl 18))), (some (6, []))⟩, ⟨(some (sl 20)), (some ((sl 15), false)), (.bin .geq (.s (sl 16)) (.s (sl 19))), (some (7, []))⟩, ⟨(some (sl 21)), none, (.pick (.s (sl 15)) (.c (.bool true)) (.s (sl 20))), (some (8, []))⟩, ⟨(some (sl 22)), none, (.mv (.s (sl 21))), (some (9, []))⟩, ⟨(some (sl 23)), (some ((sl 22), false)), (.fld (.s (sl 3)) 1), (some (10, []))⟩, ⟨(some (sl 24)), (some ((sl 22), false)), (.ld true (.s (sl 23)) none), (some (11, []))⟩, ⟨(some (sl 25)), (some ((sl 22), false)), (.mv (.s (sl 2))), (some (12, []))⟩, ⟨(some (sl 26)), (some ((sl 22), false)), (.idx true (.s (sl 24)) (.s (sl 25)) 6), (some (13, []))⟩, ⟨(some (sl 27)), (some ((sl 22), false)), (.fld (.s (sl 26)) 0), (some (14, []))⟩, ⟨(some (sl 28)), (some ((sl 22), false)), (.ld true (.s (sl 27)) none), (some (15, []))⟩, ⟨(some (sl 29)), (some ((sl 22), false)), (.bin .neq (.s (sl 28)) (.c (.int .i64 14))), (some (16, []))⟩, ⟨(some (sl 30)), none, (.pick (.s (sl 22)) (.c (.bool true)) (.s (sl 29))), (some (17, []))⟩, ⟨(some (sl 31)), none, (.mv (.s (sl 30))), (some (18, []))⟩, ⟨(some (sl 32)), (some ((sl 31), false)), (.fld (.s (sl 3)) 1), (some (19, []))⟩, ⟨(some (sl 33)), (some ((sl 31), false)), (.ld true (.s (sl 32)) none), (some (20, []))⟩, ⟨(some (sl 34)), (some ((sl 31), false)), (.mv (.s (sl 2))), (some (21, []))⟩, ⟨(some (sl 35)), (some ((sl 31), false)), (.idx true (.s (sl 33)) (.s (sl 34)) 6), (some (22, []))⟩, ⟨(some (sl 36)), (some ((sl 31), false)), (.fld (.s (sl 35)) 5), (some (23, []))⟩, ⟨(some (sl 37)), (some ((sl 31), false)), (.ld true (.s (sl 36)) none), (some (24, []))⟩, ⟨(some (sl 38)), (some ((sl 31), false)), (.len false (.s (sl 37))), (some (25, []))⟩, ⟨(some (sl 39)), (some ((sl 31), false)), (.fld (.s (sl 4)) 0), (some (26, []))⟩, ⟨(some (sl 40)), (some ((sl 31), false)), (.ld true (.s (sl 39)) none), (some (27, []))⟩, ⟨(some (sl 41)), (some ((sl 31), false)), (.bin .neq (.s (sl 38)) (.s (sl 40))), (some (28, []))⟩, ⟨(some (sl 42)), none, (.pick (.s (sl 31)) (.c (.bool true)) (.s (sl 41))), (some (29, []))⟩, ⟨(some (sl 43)), none, (.mv (.s (sl 42))), (some (30, []))⟩, ⟨(some (sl 44)), (some ((sl 43), false)), (.fld (.s (sl 4)) 2), (some (31, []))⟩, ⟨(some (sl 45)), (some ((sl 43), false)), (.fld (.s (sl 44)) 0), (some (32, []))⟩, ⟨(some (sl 46)), (some ((sl 43), false)), (.ld true (.s (sl 45)) none), (some (33, []))⟩, ⟨(some (sl 47)), (some ((sl 43), false)), (.bin .neq (.s (sl 46)) (.c (.int .i64 3))), (some (34, []))⟩, ⟨(some (sl 48)), none, (.pick (.s (sl 43)) (.c (.bool true)) (.s (sl 47))), (some (35, []))⟩, ⟨(some (sl 49)), none, (.mv (.s (sl 48))), (some (36, []))⟩, ⟨(some (sl 50)), (some ((sl 49), false)), (.fld (.s (sl 3)) 1), (some (37, []))⟩, ⟨(some (sl 51)), (some ((sl 49), false)), (.ld true (.s (sl 50)) none), (some (38, []))⟩, ⟨(some (sl 52)), (some ((sl 49), false)), (.len false (.s (sl 51))), (some (39, []))⟩, ⟨(some (sl 53)), (some ((sl 49), false)), (.bin .sub (.s (sl 52)) (.c (.int .i64 1))), (some (40, []))⟩, ⟨(some (sl 54)), (some ((sl 49), false)), (.fld (.s (sl 4)) 1), (some (41, []))⟩, ⟨(some (sl 55)), (some ((sl 49), false)), (.ld true (.s (sl 54)) none), (some (42, []))⟩, ⟨(some (sl 56)), (some ((sl 49), false)), (.len false (.s (sl 55))), (some (43, []))⟩, ⟨(some (sl 57)), (some ((sl 49), false)), (.bin .add (.s (sl 53)) (.s (sl 56))), (some (44, []))⟩, ⟨(some (sl 58)), (some ((sl 49), false)), (.bin .gtr (.s (sl 57)) (.c (.int .i64 32))), (some (45, []))⟩, ⟨(some (sl 59)), none, (.pick (.s (sl 49)) (.c (.bool true)) (.s (sl 58))), (some (46, []))⟩])
  (.cond (.s (sl 59))
  (.seq (.reg [⟨(some (sl 60)), none, (.ld true (.s (sl 3)) (some 8)), none⟩, ⟨none, none, (.st (.s (sl 6)) (.s (sl 60)) 8), none⟩, ⟨(some (sl 7)), none, (.mv (.c (.bool false))), none⟩])
  .ret)
  .skip))
  (.seq (.seq (.reg [⟨(some (sl 61)), none, (.fld (.s (sl 3)) 1), none⟩, ⟨(some (sl 62)), none, (.ld true (.s (sl 61)) none), none⟩, ⟨(some (sl 63)), none, (.mv (.s (sl 2))), none⟩, ⟨(some (sl 64)), none, (.idx true (.s (sl 62)) (.s (sl 63)) 6), none⟩, ⟨(some (sl 65)), none, (.fld (.s (sl 64)) 5), none⟩, ⟨(some (sl 66)), none, (.ld true (.s (sl 65)) none), none⟩, ⟨(some (sl 8)), none, (.new [(.slice none 0 0)]), none⟩, ⟨none, none, (.ini 1 (.s (sl 8)) (.s (sl 66)) 1), none⟩])
  (.frz (sl 8)))
  (.seq (.seq (.reg [⟨(some (sl 67)), none, (.fld (.s (sl 3)) 0), none⟩, ⟨(some (sl 68)), none, (.ld true (.s (sl 67)) none), none⟩, ⟨(some (sl 69)), none, (.mv (.s (sl 2))), none⟩, ⟨(some (sl 70)), none, (.bin .add (.s (sl 68)) (.s (sl 69))), none⟩, ⟨(some (sl 9)), none, (.new [(.int .i64 0)]), none⟩, ⟨none, none, (.ini 1 (.s (sl 9)) (.s (sl 70)) 1), none⟩])
  (.frz (sl 9)))
  (.seq (.seq (.reg [⟨(some (sl 71)), none, (.mkfn 69 [(.s (sl 4)), (.s (sl 8)), (.s (sl 9))]), none⟩, ⟨(some (sl 72)), none, (.bld [.nilFunc] [(0, 1, (.s (sl 71)))]), none⟩, ⟨(some (sl 10)), none, (.new [.nilFunc]), none⟩, ⟨none, none, (.ini 1 (.s (sl 10)) (.s (sl 72)) 1), none⟩])
  (.frz (sl 10)))
  (.seq (.seq (.reg [⟨(some (sl 73)), none, (.mkfn 70 [(.s (sl 9)), (.s (sl 10)), (.s (sl 4))]), none⟩, ⟨(some (sl 74)), none, (.bld [.nilFunc] [(0, 1, (.s (sl 73)))]), none⟩, ⟨(some (sl 11)), none, (.new [.nilFunc]), none⟩, ⟨none, none, (.ini 1 (.s (sl 11)) (.s (sl 74)) 1), none⟩])
  (.frz (sl 11)))
  (.seq (.reg [⟨(some (sl 75)), none, (.fld (.s (sl 3)) 1), (some (0, []))⟩, ⟨(some (sl 76)), none, (.ld true (.s (sl 75)) none), (some (1, []))⟩, ⟨(some (sl 77)), none, (.mv (.s (sl 2))), (some (2, []))⟩, ⟨(some (sl 78)), none, (.slc (.s (sl 76)) none (some (.s (sl 77))) 6), (some (3, []))⟩, ⟨(some (sl 79)), none, (.ld true (.s (sl 10)) (some 1)), (some (4, []))⟩, ⟨(some (sl 80)), none, (.fld (.s (sl 4)) 1), (some (5, []))⟩, ⟨(some (sl 81)), none, (.ld true (.s (sl 80)) none), (some (6, []))⟩, ⟨(some (sl 82)), none, (.call true (.f 72) [(.s (sl 79)), (.s (sl 81))]), (some (7, []))⟩, ⟨(some (sl 83)), none, (.ld true (.s (sl 11)) (some 1)), (some (8, []))⟩, ⟨(some (sl 84)), none, (.fld (.s (sl 3)) 1), (some (9, []))⟩, ⟨(some (sl 85)), none, (.ld true (.s (sl 84)) none), (some (10, []))⟩, ⟨(some (sl 86)), none, (.mv (.s (sl 2))), (some (11, []))⟩, ⟨(some (sl 87)), none, (.bin .add (.s (sl 86)) (.c (.int .i64 1))), (some (12, []))⟩, ⟨(some (sl 88)), none, (.slc (.s (sl 85)) (some (.s (sl 87))) none 6), (some (13, []))⟩, ⟨(some (sl 89)), none, (.call true (.f 72) [(.s (sl 83)), (.s (sl 88))]), (some (14, []))⟩, ⟨(some (sl 90)), none, (.mksl 1 3 [(.slice none 0 0), (.slice none 0 0), (.slice none 0 0)] [(0, 1, (.s (sl 78))), (1, 1, (.s (sl 82))), (2, 1, (.s (sl 89)))]), (some (15, []))⟩, ⟨(some (sl 91)), none, (.call true (.f 71) [(.s (sl 90))]), (some (16, []))⟩, ⟨(some (sl 12)), none, (.mv (.s (sl 91))), (some (17, []))⟩])
  (.seq (.reg [⟨(some (sl 92)), none, (.fld (.s (sl 3)) 0), (some (0, []))⟩, ⟨(some (sl 93)), none, (.ld true (.s (sl 92)) none), (some (1, []))⟩, ⟨(some (sl 94)), none, (.mv (.s (sl 12))), (some (2, []))⟩, ⟨(some (sl 95)), none, (.ld true (.s (sl 11)) (some 1)), (some (3, []))⟩, ⟨(some (sl 96)), none, (.fld (.s (sl 3)) 2), (some (4, []))⟩, ⟨(some (sl 97)), none, (.ld true (.s (sl 96)) (some 6)), (some (5, []))⟩, ⟨(some (sl 98)), none, (.call true (.f 73) [(.s (sl 95)), (.s (sl 97))]), (some (6, []))⟩, ⟨(some (sl 99)), none, (.bld [(.int .i64 0), (.slice none 0 0), (.int .i64 0), (.int .i64 0), (.int .i64 0), (.slice none 0 0), (.int .i64 0), (.slice none 0 0)] [(0, 1, (.s (sl 93))), (1, 1, (.s (sl 94))), (2, 6, (.s (sl 98)))]), (some (7, []))⟩, ⟨none, none, (.st (.s (sl 6)) (.s (sl 99)) 8), (some (8, []))⟩, ⟨(some (sl 7)), none, (.mv (.c (.bool true))), (some (9, []))⟩])
  .ret))))))))
def r_inline_Put : List ARes := [(.cell (sl 6) (some 8)), (.tmp (sl 7))]
theorem t_inline_Put : (Try.f40).body.bind (trCode Try.prog 8 (Try.f40).ntmps [6] [] (drOk 8)) = some c_inline_Put := by kernel_rfl
theorem u_inline_Put : trRess Try.prog 8 (Try.f40).results.toList = some r_inline_Put := by kernel_rfl

/-- marline/inline.Put$1 -/
def c_inline_Put_1 : ACode :=
  (.seq (.reg [⟨(some (sl 5)), none, (.mv (.c (.int .i64 0))), none⟩])
  (.seq (.seq (.reg [⟨(some (sl 6)), none, (.mv (.s (sl 0))), none⟩, ⟨(some (sl 7)), none, (.fld (.s (sl 1)) 0), none⟩, ⟨(some (sl 8)), none, (.ld true (.s (sl 7)) none), none⟩, ⟨(some (sl 9)), none, (.bin .lss (.s (sl 6)) (.s (sl 8))), none⟩])
  (.cond (.s (sl 9))
  (.seq (.reg [⟨(some (sl 10)), none, (.ld true (.s (sl 2)) none), none⟩, ⟨(some (sl 11)), none, (.mv (.s (sl 0))), none⟩, ⟨(some (sl 12)), none, (.idx true (.s (sl 10)) (.s (sl 11)) 1), none⟩, ⟨(some (sl 13)), none, (.ld true (.s (sl 12)) none), none⟩, ⟨(some (sl 5)), none, (.mv (.s (sl 13))), none⟩])
  .ret)
  .skip))
  (.seq (.reg [⟨(some (sl 14)), none, (.ld true (.s (sl 3)) none), none⟩, ⟨(some (sl 15)), none, (.mv (.s (sl 0))), none⟩, ⟨(some (sl 16)), none, (.bin .add (.s (sl 14)) (.s (sl 15))), none⟩, ⟨(some (sl 17)), none, (.fld (.s (sl 1)) 0), none⟩, ⟨(some (sl 18)), none, (.ld true (.s (sl 17)) none), none⟩, ⟨(some (sl 19)), none, (.bin .sub (.s (sl 16)) (.s (sl 18))), none⟩, ⟨(some (sl 5)), none, (.mv (.s (sl 19))), none⟩])
  .ret)))
def r_inline_Put_1 : List ARes := [(.tmp (sl 5))]
theorem t_inline_Put_1 : (Try.f69).body.bind (trCode Try.prog 8 (Try.f69).ntmps [] [] (drOk 8)) = some c_inline_Put_1 := by kernel_rfl
theorem u_inline_Put_1 : trRess Try.prog 8 (Try.f69).results.toList = some r_inline_Put_1 := by kernel_rfl

/-- marline/inline.Put$2 -/
def c_inline_Put_2 : ACode :=
  (.seq (.reg [⟨(some (sl 5)), none, (.mv (.c (.int .i64 0))), none⟩])
  (.seq (.block 0
  (.seq (.reg [⟨(some (sl 7)), none, (.mv (.s (sl 0))), none⟩, ⟨(some (sl 8)), none, (.ld true (.s (sl 1)) none), none⟩, ⟨(some (sl 9)), none, (.bin .lss (.s (sl 7)) (.s (sl 8))), none⟩, ⟨(some (sl 6)), none, (.mv (.s (sl 9))), none⟩])
  (.cond (.s (sl 6))
  (.seq (.reg [⟨(some (sl 10)), none, (.mv (.s (sl 0))), none⟩, ⟨(some (sl 5)), none, (.mv (.s (sl 10))), none⟩])
  .ret)
  (.seq (.reg [⟨(some (sl 12)), none, (.mv (.s (sl 0))), none⟩, ⟨(some (sl 13)), none, (.ld true (.s (sl 1)) none), none⟩, ⟨(some (sl 14)), none, (.bin .eql (.s (sl 12)) (.s (sl 13))), none⟩, ⟨(some (sl 11)), none, (.mv (.s (sl 14))), none⟩])
  (.cond (.s (sl 11))
  (.seq (.reg [⟨(some (sl 15)), none, (.fld (.s (sl 2)) 0), none⟩, ⟨(some (sl 16)), none, (.ld true (.s (sl 15)) none), none⟩, ⟨(some (sl 17)), none, (.fld (.s (sl 3)) 2), none⟩, ⟨(some (sl 18)), none, (.fld (.s (sl 17)) 1), none⟩, ⟨(some (sl 19)), none, (.ld true (.s (sl 18)) none), none⟩, ⟨(some (sl 20)), none, (.call true (.s (sl 16)) [(.s (sl 19))]), none⟩, ⟨(some (sl 5)), none, (.mv (.s (sl 20))), none⟩])
  .ret)
  .skip)))))
  (.seq (.reg [⟨(some (sl 21)), none, (.mv (.s (sl 0))), none⟩, ⟨(some (sl 22)), none, (.bin .sub (.s (sl 21)) (.c (.int .i64 1))), none⟩, ⟨(some (sl 23)), none, (.fld (.s (sl 3)) 1), none⟩, ⟨(some (sl 24)), none, (.ld true (.s (sl 23)) none), none⟩, ⟨(some (sl 25)), none, (.len false (.s (sl 24))), none⟩, ⟨(some (sl 26)), none, (.bin .add (.s (sl 22)) (.s (sl 25))), none⟩, ⟨(some (sl 5)), none, (.mv (.s (sl 26))), none⟩])
  .ret)))
def r_inline_Put_2 : List ARes := [(.tmp (sl 5))]
theorem t_inline_Put_2 : (Try.f70).body.bind (trCode Try.prog 8 (Try.f70).ntmps [] [] (drOk 8)) = some c_inline_Put_2 := by kernel_rfl
theorem u_inline_Put_2 : trRess Try.prog 8 (Try.f70).results.toList = some r_inline_Put_2 := by kernel_rfl

/-- marline/inline.joined[marline/api.Inst] -/
def c_inline_joined_api_Inst_ : ACode :=
  (.seq (.reg [⟨(some (sl 2)), none, (.mv (.c (.slice none 0 0))), none⟩])
  (.seq (.reg [⟨(some (sl 3)), none, (.mv (.s (sl 0))), none⟩, ⟨(some (sl 4)), none, (.call true (.f 92) [(.s (sl 3))]), none⟩, ⟨(some (sl 2)), none, (.mv (.s (sl 4))), none⟩])
  .ret))
def r_inline_joined_api_Inst_ : List ARes := [(.tmp (sl 2))]
theorem t_inline_joined_api_Inst_ : (Try.f71).body.bind (trCode Try.prog 8 (Try.f71).ntmps [] [] (drOk 8)) = some c_inline_joined_api_Inst_ := by kernel_rfl
theorem u_inline_joined_api_Inst_ : trRess Try.prog 8 (Try.f71).results.toList = some r_inline_joined_api_Inst_ := by kernel_rfl

/-- (marline/inline.numbers).insts -/
def c__inline_numbers__insts : ACode :=
  (.seq (.reg [⟨(some (sl 2)), none, (.box true (.s (sl 0))), none⟩, ⟨(some (sl 4)), none, (.mv (.c (.slice none 0 0))), none⟩])
  (.seq (.reg [⟨(some (sl 5)), none, (.mv (.c (.slice none 0 0))), none⟩])
  (.seq (.seq (.reg [⟨(some (sl 8)), none, (.mv (.s (sl 1))), none⟩, ⟨(some (sl 9)), none, (.len false (.s (sl 8))), none⟩, ⟨(some (sl 10)), none, (.mv (.c (.int .i64 0))), none⟩])
  (.block 0
  (.loop (.seq (.reg [⟨(some (sl 11)), none, (.bin .lss (.s (sl 10)) (.s (sl 9))), none⟩])
  (.seq (.cond (.s (sl 11))
  .skip
  (.exit 0))
  (.seq (.block 1
  (.seq (.seq (.reg [⟨(some (sl 12)), none, (.idx true (.s (sl 8)) (.s (sl 10)) 6), none⟩, ⟨(some (sl 13)), none, (.ld true (.s (sl 12)) (some 6)), none⟩, ⟨(some (sl 7)), none, (.new [(.int .i64 0), (.int .i64 0), (.int .i64 0), (.int .u64 0), (.string ⟨#[]⟩), (.slice none 0 0)]), none⟩, ⟨none, none, (.ini 1 (.s (sl 7)) (.s (sl 13)) 6), none⟩])
  (.frz (sl 7)))
  (.reg [⟨(some (sl 14)), none, (.mv (.s (sl 5))), none⟩, ⟨(some (sl 15)), none, (.ld true (.s (sl 2)) (some 1)), none⟩, ⟨(some (sl 16)), none, (.ld true (.s (sl 7)) (some 6)), none⟩, ⟨(some (sl 17)), none, (.call true (.f 93) [(.s (sl 15)), (.s (sl 16))]), none⟩, ⟨(some (sl 18)), none, (.mksl 6 1 [(.int .i64 0), (.int .i64 0), (.int .i64 0), (.int .u64 0), (.string ⟨#[]⟩), (.slice none 0 0)] [(0, 6, (.s (sl 17)))]), none⟩, ⟨(some (sl 19)), none, (.app 74 6 72 (.s (sl 14)) (.s (sl 18))), none⟩, ⟨(some (sl 5)), none, (.mv (.s (sl 19))), none⟩])))
  (.reg [⟨(some (sl 20)), none, (.bin .add (.s (sl 10)) (.c (.int .i64 1))), none⟩, ⟨(some (sl 10)), none, (.mv (.s (sl 20))), none⟩])))))))
  (.seq (.reg [⟨(some (sl 21)), none, (.mv (.s (sl 5))), none⟩, ⟨(some (sl 4)), none, (.mv (.s (sl 21))), none⟩])
  .ret))))
def r__inline_numbers__insts : List ARes := [(.tmp (sl 4))]
theorem t__inline_numbers__insts : (Try.f72).body.bind (trCode Try.prog 8 (Try.f72).ntmps [4, 5, 14, 19, 21] [] (drOk 8)) = some c__inline_numbers__insts := by kernel_rfl
theorem u__inline_numbers__insts : trRess Try.prog 8 (Try.f72).results.toList = some r__inline_numbers__insts := by kernel_rfl

/-- (marline/inline.numbers).end -/
def c__inline_numbers__end : ACode :=
  (.seq (.reg [⟨(some (sl 2)), none, (.box true (.s (sl 0))), none⟩, ⟨(some (sl 3)), none, (.box false (.s (sl 1))), none⟩, ⟨(some (sl 4)), none, (.new [(.int .i64 0), (.int .i64 0), (.int .i64 0), (.slice none 0 0), (.int .i64 0), (.slice none 0 0)]), none⟩])
  (.seq (.reg [⟨(some (sl 5)), none, (.ld true (.s (sl 2)) (some 1)), (some (0, []))⟩, ⟨(some (sl 6)), none, (.fld (.s (sl 3)) 3), (some (1, []))⟩, ⟨(some (sl 7)), none, (.ld false (.s (sl 6)) none), (some (2, []))⟩, ⟨(some (sl 8)), none, (.call false (.f 94) [(.s (sl 5)), (.s (sl 7))]), (some (3, []))⟩, ⟨(some (sl 9)), none, (.ld true (.s (sl 2)) (some 1)), (some (4, []))⟩, ⟨(some (sl 10)), none, (.fld (.s (sl 3)) 5), (some (5, []))⟩, ⟨(some (sl 11)), none, (.ld false (.s (sl 10)) none), (some (6, []))⟩, ⟨(some (sl 12)), none, (.call false (.f 94) [(.s (sl 9)), (.s (sl 11))]), (some (7, []))⟩, ⟨(some (sl 13)), none, (.fld (.s (sl 3)) 3), (some (8, []))⟩, ⟨none, none, (.st (.s (sl 13)) (.s (sl 8)) 1), (some (9, []))⟩, ⟨(some (sl 14)), none, (.fld (.s (sl 3)) 5), (some (10, []))⟩, ⟨none, none, (.st (.s (sl 14)) (.s (sl 12)) 1), (some (11, []))⟩])
  (.seq (.seq (.reg [⟨(some (sl 15)), none, (.fld (.s (sl 3)) 0), none⟩, ⟨(some (sl 16)), none, (.ld false (.s (sl 15)) none), none⟩, ⟨(some (sl 17)), none, (.bin .neq (.s (sl 16)) (.c (.int .i64 1))), none⟩])
  (.cond (.s (sl 17))
  (.reg [⟨(some (sl 18)), none, (.fld (.s (sl 2)) 0), none⟩, ⟨(some (sl 19)), none, (.ld true (.s (sl 18)) none), none⟩, ⟨(some (sl 20)), none, (.fld (.s (sl 3)) 1), none⟩, ⟨(some (sl 21)), none, (.ld false (.s (sl 20)) none), none⟩, ⟨(some (sl 22)), none, (.call false (.s (sl 19)) [(.s (sl 21))]), none⟩, ⟨(some (sl 23)), none, (.fld (.s (sl 3)) 1), none⟩, ⟨none, none, (.st (.s (sl 23)) (.s (sl 22)) 1), none⟩])
  .skip))
  (.seq (.reg [⟨(some (sl 24)), none, (.ld false (.s (sl 3)) (some 6)), none⟩, ⟨none, none, (.st (.s (sl 4)) (.s (sl 24)) 6), none⟩])
  .ret))))
def r__inline_numbers__end : List ARes := [(.cell (sl 4) (some 6))]
theorem t__inline_numbers__end : (Try.f73).body.bind (trCode Try.prog 8 (Try.f73).ntmps [3, 4, 6, 7, 10, 11, 13, 14, 15, 16, 20, 21, 23, 24] [] (drOk 8)) = some c__inline_numbers__end := by kernel_rfl
theorem u__inline_numbers__end : trRess Try.prog 8 (Try.f73).results.toList = some r__inline_numbers__end := by kernel_rfl

/-- (marline/inline.numbers).inst -/
def c__inline_numbers__inst : ACode :=
  (.seq (.reg [⟨(some (sl 2)), none, (.box true (.s (sl 0))), none⟩, ⟨(some (sl 3)), none, (.box false (.s (sl 1))), none⟩, ⟨(some (sl 4)), none, (.new [(.int .i64 0), (.int .i64 0), (.int .i64 0), (.int .u64 0), (.string ⟨#[]⟩), (.slice none 0 0)]), none⟩])
  (.seq (.reg [⟨(some (sl 6)), none, (.fld (.s (sl 3)) 0), none⟩, ⟨(some (sl 7)), none, (.ld false (.s (sl 6)) none), none⟩, ⟨(some (sl 8)), none, (.bin .geq (.s (sl 7)) (.c (.int .i64 2))), none⟩, ⟨(some (sl 9)), none, (.mv (.s (sl 8))), none⟩, ⟨(some (sl 10)), (some ((sl 9), true)), (.fld (.s (sl 3)) 0), none⟩, ⟨(some (sl 11)), (some ((sl 9), true)), (.ld false (.s (sl 10)) none), none⟩, ⟨(some (sl 12)), (some ((sl 9), true)), (.bin .leq (.s (sl 11)) (.c (.int .i64 11))), none⟩, ⟨(some (sl 13)), none, (.pick (.s (sl 9)) (.s (sl 12)) (.c (.bool false))), none⟩, ⟨(some (sl 5)), none, (.mv (.s (sl 13))), none⟩])
  (.seq (.seq (.reg [⟨(some (sl 14)), none, (.mv (.s (sl 5))), none⟩, ⟨(some (sl 15)), none, (.mv (.s (sl 14))), none⟩, ⟨(some (sl 16)), (some ((sl 15), false)), (.fld (.s (sl 3)) 0), none⟩, ⟨(some (sl 17)), (some ((sl 15), false)), (.ld false (.s (sl 16)) none), none⟩, ⟨(some (sl 18)), (some ((sl 15), false)), (.bin .eql (.s (sl 17)) (.c (.int .i64 13))), none⟩, ⟨(some (sl 19)), none, (.pick (.s (sl 15)) (.c (.bool true)) (.s (sl 18))), none⟩, ⟨(some (sl 20)), none, (.mv (.s (sl 19))), none⟩, ⟨(some (sl 21)), (some ((sl 20), false)), (.fld (.s (sl 3)) 0), none⟩, ⟨(some (sl 22)), (some ((sl 20), false)), (.ld false (.s (sl 21)) none), none⟩, ⟨(some (sl 23)), (some ((sl 20), false)), (.bin .eql (.s (sl 22)) (.c (.int .i64 16))), none⟩, ⟨(some (sl 24)), none, (.pick (.s (sl 20)) (.c (.bool true)) (.s (sl 23))), none⟩])
  (.cond (.s (sl 24))
  (.reg [⟨(some (sl 25)), none, (.fld (.s (sl 2)) 0), none⟩, ⟨(some (sl 26)), none, (.ld true (.s (sl 25)) none), none⟩, ⟨(some (sl 27)), none, (.fld (.s (sl 3)) 1), none⟩, ⟨(some (sl 28)), none, (.ld false (.s (sl 27)) none), none⟩, ⟨(some (sl 29)), none, (.call false (.s (sl 26)) [(.s (sl 28))]), none⟩, ⟨(some (sl 30)), none, (.fld (.s (sl 3)) 1), none⟩, ⟨none, none, (.st (.s (sl 30)) (.s (sl 29)) 1), none⟩])
  .skip))
  (.seq (.seq (.reg [⟨(some (sl 31)), none, (.mv (.s (sl 5))), none⟩])
  (.cond (.s (sl 31))
  (.reg [⟨(some (sl 32)), none, (.fld (.s (sl 2)) 0), none⟩, ⟨(some (sl 33)), none, (.ld true (.s (sl 32)) none), none⟩, ⟨(some (sl 34)), none, (.fld (.s (sl 3)) 2), none⟩, ⟨(some (sl 35)), none, (.ld false (.s (sl 34)) none), none⟩, ⟨(some (sl 36)), none, (.call false (.s (sl 33)) [(.s (sl 35))]), none⟩, ⟨(some (sl 37)), none, (.fld (.s (sl 3)) 2), none⟩, ⟨none, none, (.st (.s (sl 37)) (.s (sl 36)) 1), none⟩])
  .skip))
  (.seq (.reg [⟨(some (sl 38)), none, (.ld true (.s (sl 2)) (some 1)), none⟩, ⟨(some (sl 39)), none, (.fld (.s (sl 3)) 5), none⟩, ⟨(some (sl 40)), none, (.ld false (.s (sl 39)) none), none⟩, ⟨(some (sl 41)), none, (.call false (.f 94) [(.s (sl 38)), (.s (sl 40))]), none⟩, ⟨(some (sl 42)), none, (.fld (.s (sl 3)) 5), none⟩, ⟨none, none, (.st (.s (sl 42)) (.s (sl 41)) 1), none⟩])
  (.seq (.reg [⟨(some (sl 43)), none, (.ld false (.s (sl 3)) (some 6)), none⟩, ⟨none, none, (.st (.s (sl 4)) (.s (sl 43)) 6), none⟩])
  .ret))))))
def r__inline_numbers__inst : List ARes := [(.cell (sl 4) (some 6))]
theorem t__inline_numbers__inst : (Try.f93).body.bind (trCode Try.prog 8 (Try.f93).ntmps [3, 4, 6, 7, 10, 11, 16, 17, 21, 22, 27, 28, 30, 34, 35, 37, 39, 40, 42, 43] [] (drOk 8)) = some c__inline_numbers__inst := by kernel_rfl
theorem u__inline_numbers__inst : trRess Try.prog 8 (Try.f93).results.toList = some r__inline_numbers__inst := by kernel_rfl

/-- (marline/inline.numbers).all -/
def c__inline_numbers__all : ACode :=
  (.seq (.reg [⟨(some (sl 2)), none, (.box true (.s (sl 0))), none⟩, ⟨(some (sl 4)), none, (.mv (.c (.slice none 0 0))), none⟩])
  (.seq (.reg [⟨(some (sl 5)), none, (.mv (.c (.slice none 0 0))), none⟩])
  (.seq (.seq (.reg [⟨(some (sl 8)), none, (.mv (.s (sl 1))), none⟩, ⟨(some (sl 9)), none, (.len false (.s (sl 8))), none⟩, ⟨(some (sl 10)), none, (.mv (.c (.int .i64 0))), none⟩])
  (.block 0
  (.loop (.seq (.reg [⟨(some (sl 11)), none, (.bin .lss (.s (sl 10)) (.s (sl 9))), none⟩])
  (.seq (.cond (.s (sl 11))
  .skip
  (.exit 0))
  (.seq (.block 1
  (.seq (.reg [⟨(some (sl 12)), none, (.idx true (.s (sl 8)) (.s (sl 10)) 1), none⟩, ⟨(some (sl 13)), none, (.ld true (.s (sl 12)) none), none⟩, ⟨(some (sl 7)), none, (.mv (.s (sl 13))), none⟩])
  (.reg [⟨(some (sl 14)), none, (.mv (.s (sl 5))), none⟩, ⟨(some (sl 15)), none, (.fld (.s (sl 2)) 0), none⟩, ⟨(some (sl 16)), none, (.ld true (.s (sl 15)) none), none⟩, ⟨(some (sl 17)), none, (.mv (.s (sl 7))), none⟩, ⟨(some (sl 18)), none, (.call true (.s (sl 16)) [(.s (sl 17))]), none⟩, ⟨(some (sl 19)), none, (.mksl 1 1 [(.int .i64 0)] [(0, 1, (.s (sl 18)))]), none⟩, ⟨(some (sl 20)), none, (.app 3 1 8 (.s (sl 14)) (.s (sl 19))), none⟩, ⟨(some (sl 5)), none, (.mv (.s (sl 20))), none⟩])))
  (.reg [⟨(some (sl 21)), none, (.bin .add (.s (sl 10)) (.c (.int .i64 1))), none⟩, ⟨(some (sl 10)), none, (.mv (.s (sl 21))), none⟩])))))))
  (.seq (.reg [⟨(some (sl 22)), none, (.mv (.s (sl 5))), none⟩, ⟨(some (sl 4)), none, (.mv (.s (sl 22))), none⟩])
  .ret))))
def r__inline_numbers__all : List ARes := [(.tmp (sl 4))]
theorem t__inline_numbers__all : (Try.f94).body.bind (trCode Try.prog 8 (Try.f94).ntmps [4, 5, 14, 20, 22] [] (drOk 8)) = some c__inline_numbers__all := by kernel_rfl
theorem u__inline_numbers__all : trRess Try.prog 8 (Try.f94).results.toList = some r__inline_numbers__all := by kernel_rfl

/-- marline/marlineref14.turn -/
def c_marlineref14_turn : ACode :=
  (.seq (.reg [⟨(some (sl 2)), none, (.box false (.s (sl 0))), none⟩, ⟨(some (sl 4)), none, (.new [(.int .i64 0), (.int .i64 0), (.int .i64 0), (.int .u64 0), (.string ⟨#[]⟩), (.slice none 0 0)]), none⟩])
  (.seq (.seq (.reg [⟨(some (sl 5)), none, (.fld (.s (sl 2)) 0), none⟩, ⟨(some (sl 6)), none, (.ld false (.s (sl 5)) none), none⟩, ⟨(some (sl 7)), none, (.bin .geq (.s (sl 6)) (.c (.int .i64 2))), none⟩, ⟨(some (sl 8)), none, (.mv (.s (sl 7))), none⟩, ⟨(some (sl 9)), (some ((sl 8), true)), (.fld (.s (sl 2)) 0), none⟩, ⟨(some (sl 10)), (some ((sl 8), true)), (.ld false (.s (sl 9)) none), none⟩, ⟨(some (sl 11)), (some ((sl 8), true)), (.bin .leq (.s (sl 10)) (.c (.int .i64 11))), none⟩, ⟨(some (sl 12)), none, (.pick (.s (sl 8)) (.s (sl 11)) (.c (.bool false))), none⟩, ⟨(some (sl 13)), none, (.mv (.s (sl 12))), none⟩, ⟨(some (sl 14)), (some ((sl 13), false)), (.fld (.s (sl 2)) 0), none⟩, ⟨(some (sl 15)), (some ((sl 13), false)), (.ld false (.s (sl 14)) none), none⟩, ⟨(some (sl 16)), (some ((sl 13), false)), (.bin .eql (.s (sl 15)) (.c (.int .i64 13))), none⟩, ⟨(some (sl 17)), none, (.pick (.s (sl 13)) (.c (.bool true)) (.s (sl 16))), none⟩, ⟨(some (sl 18)), none, (.mv (.s (sl 17))), none⟩, ⟨(some (sl 19)), (some ((sl 18), false)), (.fld (.s (sl 2)) 0), none⟩, ⟨(some (sl 20)), (some ((sl 18), false)), (.ld false (.s (sl 19)) none), none⟩, ⟨(some (sl 21)), (some ((sl 18), false)), (.bin .eql (.s (sl 20)) (.c (.int .i64 16))), none⟩, ⟨(some (sl 22)), none, (.pick (.s (sl 18)) (.c (.bool true)) (.s (sl 21))), none⟩])
  (.cond (.s (sl 22))
  (.reg [⟨(some (sl 23)), none, (.mv (.s (sl 1))), none⟩, ⟨(some (sl 24)), none, (.fld (.s (sl 2)) 1), none⟩, ⟨(some (sl 25)), none, (.ld false (.s (sl 24)) none), none⟩, ⟨(some (sl 26)), none, (.idx true (.s (sl 23)) (.s (sl 25)) 1), none⟩, ⟨(some (sl 27)), none, (.ld false (.s (sl 26)) none), none⟩, ⟨(some (sl 28)), none, (.fld (.s (sl 2)) 1), none⟩, ⟨none, none, (.st (.s (sl 28)) (.s (sl 27)) 1), none⟩])
  .skip))
  (.seq (.seq (.reg [⟨(some (sl 29)), none, (.fld (.s (sl 2)) 0), none⟩, ⟨(some (sl 30)), none, (.ld false (.s (sl 29)) none), none⟩, ⟨(some (sl 31)), none, (.bin .geq (.s (sl 30)) (.c (.int .i64 2))), none⟩, ⟨(some (sl 32)), none, (.mv (.s (sl 31))), none⟩, ⟨(some (sl 33)), (some ((sl 32), true)), (.fld (.s (sl 2)) 0), none⟩, ⟨(some (sl 34)), (some ((sl 32), true)), (.ld false (.s (sl 33)) none), none⟩, ⟨(some (sl 35)), (some ((sl 32), true)), (.bin .leq (.s (sl 34)) (.c (.int .i64 11))), none⟩, ⟨(some (sl 36)), none, (.pick (.s (sl 32)) (.s (sl 35)) (.c (.bool false))), none⟩])
  (.cond (.s (sl 36))
  (.reg [⟨(some (sl 37)), none, (.mv (.s (sl 1))), none⟩, ⟨(some (sl 38)), none, (.fld (.s (sl 2)) 2), none⟩, ⟨(some (sl 39)), none, (.ld false (.s (sl 38)) none), none⟩, ⟨(some (sl 40)), none, (.idx true (.s (sl 37)) (.s (sl 39)) 1), none⟩, ⟨(some (sl 41)), none, (.ld false (.s (sl 40)) none), none⟩, ⟨(some (sl 42)), none, (.fld (.s (sl 2)) 2), none⟩, ⟨none, none, (.st (.s (sl 42)) (.s (sl 41)) 1), none⟩])
  .skip))
  (.seq (.reg [⟨(some (sl 43)), none, (.fld (.s (sl 2)) 5), none⟩, ⟨(some (sl 44)), none, (.ld false (.s (sl 43)) none), none⟩, ⟨(some (sl 45)), none, (.mv (.s (sl 1))), none⟩, ⟨(some (sl 46)), none, (.call false (.f 79) [(.s (sl 44)), (.s (sl 45))]), none⟩, ⟨(some (sl 47)), none, (.fld (.s (sl 2)) 5), none⟩, ⟨none, none, (.st (.s (sl 47)) (.s (sl 46)) 1), none⟩])
  (.seq (.reg [⟨(some (sl 48)), none, (.ld false (.s (sl 2)) (some 6)), none⟩, ⟨none, none, (.st (.s (sl 4)) (.s (sl 48)) 6), none⟩])
  .ret)))))
def r_marlineref14_turn : List ARes := [(.cell (sl 4) (some 6))]
theorem t_marlineref14_turn : (Try.f78).body.bind (trCode Try.prog 8 (Try.f78).ntmps [2, 4, 5, 6, 9, 10, 14, 15, 19, 20, 24, 25, 26, 27, 28, 29, 30, 33, 34, 38, 39, 40, 41, 42, 43, 44, 47, 48] [] (drOk 8)) = some c_marlineref14_turn := by kernel_rfl
theorem u_marlineref14_turn : trRess Try.prog 8 (Try.f78).results.toList = some r_marlineref14_turn := by kernel_rfl

/-- marline/marlineref14.turns -/
def c_marlineref14_turns : ACode :=
  (.seq (.reg [⟨(some (sl 4)), none, (.mv (.c (.slice none 0 0))), none⟩])
  (.seq (.reg [⟨(some (sl 5)), none, (.mv (.c (.slice none 0 0))), none⟩])
  (.seq (.seq (.reg [⟨(some (sl 6)), none, (.mv (.c (.int .i64 0))), none⟩])
  (.block 0
  (.loop (.seq (.seq (.reg [⟨(some (sl 7)), none, (.mv (.s (sl 6))), none⟩, ⟨(some (sl 8)), none, (.mv (.s (sl 0))), none⟩, ⟨(some (sl 9)), none, (.len false (.s (sl 8))), none⟩, ⟨(some (sl 10)), none, (.bin .lss (.s (sl 7)) (.s (sl 9))), none⟩])
  (.cond (.s (sl 10))
  .skip
  (.exit 0)))
  (.seq (.block 1
  (.reg [⟨(some (sl 13)), none, (.mv (.s (sl 5))), none⟩, ⟨(some (sl 14)), none, (.mv (.s (sl 1))), none⟩, ⟨(some (sl 15)), none, (.mv (.s (sl 0))), none⟩, ⟨(some (sl 16)), none, (.mv (.s (sl 6))), none⟩, ⟨(some (sl 17)), none, (.idx true (.s (sl 15)) (.s (sl 16)) 1), none⟩, ⟨(some (sl 18)), none, (.ld true (.s (sl 17)) none), none⟩, ⟨(some (sl 19)), none, (.idx true (.s (sl 14)) (.s (sl 18)) 1), none⟩, ⟨(some (sl 20)), none, (.ld true (.s (sl 19)) none), none⟩, ⟨(some (sl 21)), none, (.mksl 1 1 [(.int .i64 0)] [(0, 1, (.s (sl 20)))]), none⟩, ⟨(some (sl 22)), none, (.app 3 1 8 (.s (sl 13)) (.s (sl 21))), none⟩, ⟨(some (sl 5)), none, (.mv (.s (sl 22))), none⟩]))
  (.reg [⟨(some (sl 11)), none, (.mv (.s (sl 6))), none⟩, ⟨(some (sl 12)), none, (.bin .add (.s (sl 11)) (.c (.int .i64 1))), none⟩, ⟨(some (sl 6)), none, (.mv (.s (sl 12))), none⟩]))))))
  (.seq (.reg [⟨(some (sl 23)), none, (.mv (.s (sl 5))), none⟩, ⟨(some (sl 4)), none, (.mv (.s (sl 23))), none⟩])
  .ret))))
def r_marlineref14_turns : List ARes := [(.tmp (sl 4))]
theorem t_marlineref14_turns : (Try.f79).body.bind (trCode Try.prog 8 (Try.f79).ntmps [4, 5, 13, 22, 23] [] (drOk 8)) = some c_marlineref14_turns := by kernel_rfl
theorem u_marlineref14_turns : trRess Try.prog 8 (Try.f79).results.toList = some r_marlineref14_turns := by kernel_rfl

/-- marline/marlinelaw14.InlinePuts -/
def c_marlinelaw14_InlinePuts : ACode :=
  (.seq (.reg [⟨(some (sl 1)), none, (.box true (.s (sl 0))), none⟩, ⟨(some (sl 2)), none, (.mv (.c (.bool false))), none⟩])
  (.seq (.seq (.reg [⟨(some (sl 15)), none, (.fld (.s (sl 1)) 0), none⟩, ⟨(some (sl 16)), none, (.ld true (.s (sl 15)) (some 4)), none⟩, ⟨(some (sl 3)), none, (.new [(.string ⟨#[]⟩), (.int .i64 0), (.int .i64 0), (.slice none 0 0)]), none⟩, ⟨none, none, (.ini 1 (.s (sl 3)) (.s (sl 16)) 4), none⟩])
  (.frz (sl 3)))
  (.seq (.seq (.reg [⟨(some (sl 17)), none, (.fld (.s (sl 1)) 4), none⟩, ⟨(some (sl 18)), none, (.ld true (.s (sl 17)) (some 4)), none⟩, ⟨(some (sl 4)), none, (.new [(.string ⟨#[]⟩), (.int .i64 0), (.int .i64 0), (.slice none 0 0)]), none⟩, ⟨none, none, (.ini 1 (.s (sl 4)) (.s (sl 18)) 4), none⟩])
  (.frz (sl 4)))
  (.seq (.reg [⟨(some (sl 19)), none, (.fld (.s (sl 1)) 8), none⟩, ⟨(some (sl 20)), none, (.ld true (.s (sl 19)) none), none⟩, ⟨(some (sl 5)), none, (.mv (.s (sl 20))), none⟩])
  (.seq (.reg [⟨(some (sl 21)), none, (.fld (.s (sl 1)) 9), none⟩, ⟨(some (sl 22)), none, (.ld true (.s (sl 21)) none), none⟩, ⟨(some (sl 6)), none, (.mv (.s (sl 22))), none⟩])
  (.seq (.reg [⟨(some (sl 23)), none, (.fld (.s (sl 1)) 10), none⟩, ⟨(some (sl 24)), none, (.ld true (.s (sl 23)) none), none⟩, ⟨(some (sl 7)), none, (.mv (.s (sl 24))), none⟩])
  (.seq (.reg [⟨(some (sl 25)), none, (.call true (.f 18) []), none⟩, ⟨(some (sl 8)), none, (.mv (.s (sl 25))), none⟩])
  (.seq (.reg [⟨(some (sl 26)), none, (.ld true (.s (sl 3)) (some 4)), none⟩, ⟨(some (sl 27)), none, (.call true (.f 41) [(.s (sl 26))]), none⟩, ⟨(some (sl 28)), none, (.mv (.s (sl 27))), none⟩, ⟨(some (sl 29)), (some ((sl 28), true)), (.ld true (.s (sl 4)) (some 4)), none⟩, ⟨(some (sl 30)), (some ((sl 28), true)), (.call true (.f 41) [(.s (sl 29))]), none⟩, ⟨(some (sl 31)), none, (.pick (.s (sl 28)) (.s (sl 30)) (.c (.bool false))), none⟩, ⟨(some (sl 9)), none, (.mv (.s (sl 31))), none⟩])
  (.seq (.seq (.reg [⟨(some (sl 32)), none, (.mv (.s (sl 9))), none⟩, ⟨(some (sl 33)), none, (.not (.s (sl 32))), none⟩, ⟨(some (sl 34)), none, (.mv (.s (sl 33))), none⟩, ⟨(some (sl 35)), (some ((sl 34), false)), (.mv (.s (sl 5))), none⟩, ⟨(some (sl 36)), (some ((sl 34), false)), (.bin .lss (.s (sl 35)) (.c (.int .i64 0))), none⟩, ⟨(some (sl 37)), none, (.pick (.s (sl 34)) (.c (.bool true)) (.s (sl 36))), none⟩, ⟨(some (sl 38)), none, (.mv (.s (sl 37))), none⟩, ⟨(some (sl 39)), (some ((sl 38), false)), (.mv (.s (sl 5))), none⟩, ⟨(some (sl 40)), (some ((sl 38), false)), (.fld (.s (sl 3)) 3), none⟩, ⟨(some (sl 41)), (some ((sl 38), false)), (.ld true (.s (sl 40)) none), none⟩, ⟨(some (sl 42)), (some ((sl 38), false)), (.len false (.s (sl 41))), none⟩, ⟨(some (sl 43)), (some ((sl 38), false)), (.bin .geq (.s (sl 39)) (.s (sl 42))), none⟩, ⟨(some (sl 44)), none, (.pick (.s (sl 38)) (.c (.bool true)) (.s (sl 43))), none⟩, ⟨(some (sl 45)), none, (.mv (.s (sl 44))), none⟩, ⟨(some (sl 46)), (some ((sl 45), false)), (.mv (.s (sl 6))), none⟩, ⟨(some (sl 47)), (some ((sl 45), false)), (.bin .lss (.s (sl 46)) (.c (.int .i64 0))), none⟩, ⟨(some (sl 48)), none, (.pick (.s (sl 45)) (.c (.bool true)) (.s (sl 47))), none⟩, ⟨(some (sl 49)), none, (.mv (.s (sl 48))), none⟩, ⟨(some (sl 50)), (some ((sl 49), false)), (.mv (.s (sl 6))), none⟩, ⟨(some (sl 51)), (some ((sl 49), false)), (.fld (.s (sl 4)) 3), none⟩, ⟨(some (sl 52)), (some ((sl 49), false)), (.ld true (.s (sl 51)) none), none⟩, ⟨(some (sl 53)), (some ((sl 49), false)), (.len false (.s (sl 52))), none⟩, ⟨(some (sl 54)), (some ((sl 49), false)), (.bin .geq (.s (sl 50)) (.s (sl 53))), none⟩, ⟨(some (sl 55)), none, (.pick (.s (sl 49)) (.c (.bool true)) (.s (sl 54))), none⟩])
  (.cond (.s (sl 55))
  (.seq (.reg [⟨(some (sl 56)), none, (.mv (.s (sl 8))), none⟩, ⟨(some (sl 2)), none, (.mv (.s (sl 56))), none⟩])
  .ret)
  .skip))
  (.seq (.seq (.reg [⟨(some (sl 58)), none, (.fld (.s (sl 3)) 3), (some (0, []))⟩, ⟨(some (sl 59)), none, (.ld true (.s (sl 58)) none), (some (1, []))⟩, ⟨(some (sl 60)), none, (.mv (.s (sl 5))), (some (2, []))⟩, ⟨(some (sl 61)), none, (.idx true (.s (sl 59)) (.s (sl 60)) 8), (some (3, []))⟩, ⟨(some (sl 62)), none, (.ld true (.s (sl 61)) (some 8)), (some (4, []))⟩, ⟨(some (sl 63)), none, (.fld (.s (sl 4)) 3), (some (5, []))⟩, ⟨(some (sl 64)), none, (.ld true (.s (sl 63)) none), (some (6, []))⟩, ⟨(some (sl 65)), none, (.mv (.s (sl 6))), (some (7, []))⟩, ⟨(some (sl 66)), none, (.idx true (.s (sl 64)) (.s (sl 65)) 8), (some (8, []))⟩, ⟨(some (sl 67)), none, (.ld true (.s (sl 66)) (some 8)), (some (9, []))⟩, ⟨(some (sl 68)), none, (.mv (.s (sl 7))), (some (10, []))⟩, ⟨(some (sl 69)), none, (.call true (.f 40) [(.s (sl 62)), (.s (sl 67)), (.s (sl 68))]), (some (11, []))⟩, ⟨(some (sl 57)), none, (.mv (.s (sl 69))), (some (12, []))⟩, ⟨(some (sl 70)), none, (.ext (.s (sl 57)) 0), (some (13, []))⟩, ⟨(some (sl 71)), none, (.ext (.s (sl 57)) 1), (some (14, []))⟩, ⟨(some (sl 10)), none, (.new [(.int .i64 0), (.slice none 0 0), (.int .i64 0), (.int .i64 0), (.int .i64 0), (.slice none 0 0), (.int .i64 0), (.slice none 0 0)]), (some (15, []))⟩, ⟨none, none, (.ini 1 (.s (sl 10)) (.s (sl 70)) 8), none⟩, ⟨(some (sl 11)), none, (.mv (.s (sl 71))), (some (17, []))⟩])
  (.frz (sl 10)))
  (.seq (.seq (.reg [⟨(some (sl 73)), none, (.fld (.s (sl 3)) 3), (some (0, []))⟩, ⟨(some (sl 74)), none, (.ld true (.s (sl 73)) none), (some (1, []))⟩, ⟨(some (sl 75)), none, (.mv (.s (sl 5))), (some (2, []))⟩, ⟨(some (sl 76)), none, (.idx true (.s (sl 74)) (.s (sl 75)) 8), (some (3, []))⟩, ⟨(some (sl 77)), none, (.ld true (.s (sl 76)) (some 8)), (some (4, []))⟩, ⟨(some (sl 78)), none, (.fld (.s (sl 4)) 3), (some (5, []))⟩, ⟨(some (sl 79)), none, (.ld true (.s (sl 78)) none), (some (6, []))⟩, ⟨(some (sl 80)), none, (.mv (.s (sl 6))), (some (7, []))⟩, ⟨(some (sl 81)), none, (.idx true (.s (sl 79)) (.s (sl 80)) 8), (some (8, []))⟩, ⟨(some (sl 82)), none, (.ld true (.s (sl 81)) (some 8)), (some (9, []))⟩, ⟨(some (sl 83)), none, (.mv (.s (sl 7))), (some (10, []))⟩, ⟨(some (sl 84)), none, (.call true (.f 51) [(.s (sl 77)), (.s (sl 82)), (.s (sl 83))]), (some (11, []))⟩, ⟨(some (sl 72)), none, (.mv (.s (sl 84))), (some (12, []))⟩, ⟨(some (sl 85)), none, (.ext (.s (sl 72)) 0), (some (13, []))⟩, ⟨(some (sl 86)), none, (.ext (.s (sl 72)) 1), (some (14, []))⟩, ⟨(some (sl 12)), none, (.new [(.int .i64 0), (.slice none 0 0), (.int .i64 0), (.int .i64 0), (.int .i64 0), (.slice none 0 0), (.int .i64 0), (.slice none 0 0)]), (some (15, []))⟩, ⟨none, none, (.ini 1 (.s (sl 12)) (.s (sl 85)) 8), none⟩, ⟨(some (sl 13)), none, (.mv (.s (sl 86))), (some (17, []))⟩])
  (.frz (sl 12)))
  (.seq (.reg [⟨(some (sl 87)), none, (.ld true (.s (sl 10)) (some 8)), none⟩, ⟨(some (sl 88)), none, (.ld true (.s (sl 12)) (some 8)), none⟩, ⟨(some (sl 89)), none, (.call true (.f 22) [(.s (sl 87)), (.s (sl 88))]), none⟩, ⟨(some (sl 14)), none, (.mv (.s (sl 89))), none⟩])
  (.seq (.reg [⟨(some (sl 90)), none, (.mv (.s (sl 8))), none⟩, ⟨(some (sl 91)), none, (.mv (.s (sl 90))), none⟩, ⟨(some (sl 92)), (some ((sl 91), true)), (.mv (.s (sl 14))), none⟩, ⟨(some (sl 93)), none, (.pick (.s (sl 91)) (.s (sl 92)) (.c (.bool false))), none⟩, ⟨(some (sl 94)), none, (.mv (.s (sl 93))), none⟩, ⟨(some (sl 95)), (some ((sl 94), true)), (.mv (.s (sl 11))), none⟩, ⟨(some (sl 96)), (some ((sl 94), true)), (.mv (.s (sl 13))), none⟩, ⟨(some (sl 97)), (some ((sl 94), true)), (.binb .eql (.s (sl 95)) (.s (sl 96))), none⟩, ⟨(some (sl 98)), none, (.pick (.s (sl 94)) (.s (sl 97)) (.c (.bool false))), none⟩, ⟨(some (sl 2)), none, (.mv (.s (sl 98))), none⟩])
  .ret)))))))))))))
def r_marlinelaw14_InlinePuts : List ARes := [(.tmp (sl 2))]
/-- marline/marlinelaw14.InlineGone -/
def c_marlinelaw14_InlineGone : ACode :=
  (.seq (.reg [⟨(some (sl 1)), none, (.box true (.s (sl 0))), none⟩, ⟨(some (sl 2)), none, (.mv (.c (.bool false))), none⟩])
  (.seq (.seq (.reg [⟨(some (sl 15)), none, (.fld (.s (sl 1)) 0), none⟩, ⟨(some (sl 16)), none, (.ld true (.s (sl 15)) (some 4)), none⟩, ⟨(some (sl 3)), none, (.new [(.string ⟨#[]⟩), (.int .i64 0), (.int .i64 0), (.slice none 0 0)]), none⟩, ⟨none, none, (.ini 1 (.s (sl 3)) (.s (sl 16)) 4), none⟩])
  (.frz (sl 3)))
  (.seq (.seq (.reg [⟨(some (sl 17)), none, (.fld (.s (sl 1)) 4), none⟩, ⟨(some (sl 18)), none, (.ld true (.s (sl 17)) (some 4)), none⟩, ⟨(some (sl 4)), none, (.new [(.string ⟨#[]⟩), (.int .i64 0), (.int .i64 0), (.slice none 0 0)]), none⟩, ⟨none, none, (.ini 1 (.s (sl 4)) (.s (sl 18)) 4), none⟩])
  (.frz (sl 4)))
  (.seq (.reg [⟨(some (sl 19)), none, (.fld (.s (sl 1)) 8), none⟩, ⟨(some (sl 20)), none, (.ld true (.s (sl 19)) none), none⟩, ⟨(some (sl 5)), none, (.mv (.s (sl 20))), none⟩])
  (.seq (.reg [⟨(some (sl 21)), none, (.fld (.s (sl 1)) 9), none⟩, ⟨(some (sl 22)), none, (.ld true (.s (sl 21)) none), none⟩, ⟨(some (sl 6)), none, (.mv (.s (sl 22))), none⟩])
  (.seq (.reg [⟨(some (sl 23)), none, (.call true (.f 18) []), none⟩, ⟨(some (sl 7)), none, (.mv (.s (sl 23))), none⟩])
  (.seq (.reg [⟨(some (sl 24)), none, (.ld true (.s (sl 3)) (some 4)), none⟩, ⟨(some (sl 25)), none, (.call true (.f 41) [(.s (sl 24))]), none⟩, ⟨(some (sl 26)), none, (.mv (.s (sl 25))), none⟩, ⟨(some (sl 27)), (some ((sl 26), true)), (.ld true (.s (sl 4)) (some 4)), none⟩, ⟨(some (sl 28)), (some ((sl 26), true)), (.call true (.f 41) [(.s (sl 27))]), none⟩, ⟨(some (sl 29)), none, (.pick (.s (sl 26)) (.s (sl 28)) (.c (.bool false))), none⟩, ⟨(some (sl 8)), none, (.mv (.s (sl 29))), none⟩])
  (.seq (.seq (.reg [⟨(some (sl 30)), none, (.mv (.s (sl 8))), none⟩, ⟨(some (sl 31)), none, (.not (.s (sl 30))), none⟩, ⟨(some (sl 32)), none, (.mv (.s (sl 31))), none⟩, ⟨(some (sl 33)), (some ((sl 32), false)), (.mv (.s (sl 5))), none⟩, ⟨(some (sl 34)), (some ((sl 32), false)), (.bin .lss (.s (sl 33)) (.c (.int .i64 0))), none⟩, ⟨(some (sl 35)), none, (.pick (.s (sl 32)) (.c (.bool true)) (.s (sl 34))), none⟩, ⟨(some (sl 36)), none, (.mv (.s (sl 35))), none⟩, ⟨(some (sl 37)), (some ((sl 36), false)), (.mv (.s (sl 5))), none⟩, ⟨(some (sl 38)), (some ((sl 36), false)), (.fld (.s (sl 3)) 3), none⟩, ⟨(some (sl 39)), (some ((sl 36), false)), (.ld true (.s (sl 38)) none), none⟩, ⟨(some (sl 40)), (some ((sl 36), false)), (.len false (.s (sl 39))), none⟩, ⟨(some (sl 41)), (some ((sl 36), false)), (.bin .geq (.s (sl 37)) (.s (sl 40))), none⟩, ⟨(some (sl 42)), none, (.pick (.s (sl 36)) (.c (.bool true)) (.s (sl 41))), none⟩, ⟨(some (sl 43)), none, (.mv (.s (sl 42))), none⟩, ⟨(some (sl 44)), (some ((sl 43), false)), (.fld (.s (sl 4)) 3), none⟩, ⟨(some (sl 45)), (some ((sl 43), false)), (.ld true (.s (sl 44)) none), none⟩, ⟨(some (sl 46)), (some ((sl 43), false)), (.len false (.s (sl 45))), none⟩, ⟨(some (sl 47)), (some ((sl 43), false)), (.bin .neq (.s (sl 46)) (.c (.int .i64 1))), none⟩, ⟨(some (sl 48)), none, (.pick (.s (sl 43)) (.c (.bool true)) (.s (sl 47))), none⟩])
  (.cond (.s (sl 48))
  (.seq (.reg [⟨(some (sl 49)), none, (.mv (.s (sl 7))), none⟩, ⟨(some (sl 2)), none, (.mv (.s (sl 49))), none⟩])
  .ret)
  .skip))
  (.seq (.seq (.reg [⟨(some (sl 50)), none, (.fld (.s (sl 3)) 3), none⟩, ⟨(some (sl 51)), none, (.ld true (.s (sl 50)) none), none⟩, ⟨(some (sl 52)), none, (.mv (.s (sl 5))), none⟩, ⟨(some (sl 53)), none, (.idx true (.s (sl 51)) (.s (sl 52)) 8), none⟩, ⟨(some (sl 54)), none, (.ld true (.s (sl 53)) (some 8)), none⟩, ⟨(some (sl 9)), none, (.new [(.int .i64 0), (.slice none 0 0), (.int .i64 0), (.int .i64 0), (.int .i64 0), (.slice none 0 0), (.int .i64 0), (.slice none 0 0)]), none⟩, ⟨none, none, (.ini 1 (.s (sl 9)) (.s (sl 54)) 8), none⟩])
  (.frz (sl 9)))
  (.seq (.seq (.reg [⟨(some (sl 55)), none, (.fld (.s (sl 4)) 3), none⟩, ⟨(some (sl 56)), none, (.ld true (.s (sl 55)) none), none⟩, ⟨(some (sl 57)), none, (.idx true (.s (sl 56)) (.c (.int .i64 0)) 8), none⟩, ⟨(some (sl 58)), none, (.ld true (.s (sl 57)) (some 8)), none⟩, ⟨(some (sl 10)), none, (.new [(.int .i64 0), (.slice none 0 0), (.int .i64 0), (.int .i64 0), (.int .i64 0), (.slice none 0 0), (.int .i64 0), (.slice none 0 0)]), none⟩, ⟨none, none, (.ini 1 (.s (sl 10)) (.s (sl 58)) 8), none⟩])
  (.frz (sl 10)))
  (.seq (.seq (.reg [⟨(some (sl 60)), none, (.ld true (.s (sl 9)) (some 8)), none⟩, ⟨(some (sl 61)), none, (.ld true (.s (sl 10)) (some 8)), none⟩, ⟨(some (sl 62)), none, (.mv (.s (sl 6))), none⟩, ⟨(some (sl 63)), none, (.call true (.f 40) [(.s (sl 60)), (.s (sl 61)), (.s (sl 62))]), none⟩, ⟨(some (sl 59)), none, (.mv (.s (sl 63))), none⟩, ⟨(some (sl 64)), none, (.ext (.s (sl 59)) 0), none⟩, ⟨(some (sl 65)), none, (.ext (.s (sl 59)) 1), none⟩, ⟨(some (sl 11)), none, (.new [(.int .i64 0), (.slice none 0 0), (.int .i64 0), (.int .i64 0), (.int .i64 0), (.slice none 0 0), (.int .i64 0), (.slice none 0 0)]), none⟩, ⟨none, none, (.ini 1 (.s (sl 11)) (.s (sl 64)) 8), none⟩, ⟨(some (sl 12)), none, (.mv (.s (sl 65))), none⟩])
  (.frz (sl 11)))
  (.seq (.seq (.reg [⟨(some (sl 66)), none, (.mv (.s (sl 12))), none⟩, ⟨(some (sl 67)), none, (.not (.s (sl 66))), none⟩])
  (.cond (.s (sl 67))
  (.seq (.reg [⟨(some (sl 68)), none, (.mv (.s (sl 7))), none⟩, ⟨(some (sl 69)), none, (.mv (.s (sl 68))), none⟩, ⟨(some (sl 70)), (some ((sl 69), true)), (.ld true (.s (sl 11)) (some 8)), none⟩, ⟨(some (sl 71)), (some ((sl 69), true)), (.ld true (.s (sl 9)) (some 8)), none⟩, ⟨(some (sl 72)), (some ((sl 69), true)), (.call true (.f 22) [(.s (sl 70)), (.s (sl 71))]), none⟩, ⟨(some (sl 73)), none, (.pick (.s (sl 69)) (.s (sl 72)) (.c (.bool false))), none⟩, ⟨(some (sl 2)), none, (.mv (.s (sl 73))), none⟩])
  .ret)
  .skip))
  (.seq (.seq (.reg [⟨(some (sl 74)), none, (.fld (.s (sl 11)) 1), none⟩, ⟨(some (sl 75)), none, (.ld true (.s (sl 74)) none), none⟩, ⟨(some (sl 76)), none, (.len false (.s (sl 75))), none⟩, ⟨(some (sl 77)), none, (.fld (.s (sl 9)) 1), none⟩, ⟨(some (sl 78)), none, (.ld true (.s (sl 77)) none), none⟩, ⟨(some (sl 79)), none, (.len false (.s (sl 78))), none⟩, ⟨(some (sl 80)), none, (.bin .sub (.s (sl 79)) (.c (.int .i64 1))), none⟩, ⟨(some (sl 81)), none, (.fld (.s (sl 10)) 1), none⟩, ⟨(some (sl 82)), none, (.ld true (.s (sl 81)) none), none⟩, ⟨(some (sl 83)), none, (.len false (.s (sl 82))), none⟩, ⟨(some (sl 84)), none, (.bin .add (.s (sl 80)) (.s (sl 83))), none⟩, ⟨(some (sl 85)), none, (.bin .neq (.s (sl 76)) (.s (sl 84))), none⟩, ⟨(some (sl 86)), none, (.mv (.s (sl 85))), none⟩, ⟨(some (sl 87)), (some ((sl 86), false)), (.fld (.s (sl 11)) 0), none⟩, ⟨(some (sl 88)), (some ((sl 86), false)), (.ld true (.s (sl 87)) none), none⟩, ⟨(some (sl 89)), (some ((sl 86), false)), (.fld (.s (sl 9)) 0), none⟩, ⟨(some (sl 90)), (some ((sl 86), false)), (.ld true (.s (sl 89)) none), none⟩, ⟨(some (sl 91)), (some ((sl 86), false)), (.bin .neq (.s (sl 88)) (.s (sl 90))), none⟩, ⟨(some (sl 92)), none, (.pick (.s (sl 86)) (.c (.bool true)) (.s (sl 91))), none⟩])
  (.cond (.s (sl 92))
  (.seq (.reg [⟨(some (sl 2)), none, (.mv (.c (.bool false))), none⟩])
  .ret)
  .skip))
  (.seq (.seq (.reg [⟨(some (sl 13)), none, (.mv (.c (.int .i64 0))), none⟩])
  (.block 0
  (.loop (.seq (.seq (.reg [⟨(some (sl 93)), none, (.mv (.s (sl 13))), none⟩, ⟨(some (sl 94)), none, (.fld (.s (sl 11)) 1), none⟩, ⟨(some (sl 95)), none, (.ld true (.s (sl 94)) none), none⟩, ⟨(some (sl 96)), none, (.len false (.s (sl 95))), none⟩, ⟨(some (sl 97)), none, (.bin .lss (.s (sl 93)) (.s (sl 96))), none⟩])
  (.cond (.s (sl 97))
  .skip
  (.exit 0)))
  (.seq (.block 1
  (.seq (.reg [⟨(some (sl 100)), none, (.bld [(.int .i64 0), (.int .i64 0), (.int .i64 0), (.int .u64 0), (.string ⟨#[]⟩), (.slice none 0 0)] []), none⟩, ⟨(some (sl 14)), none, (.new [(.int .i64 0), (.int .i64 0), (.int .i64 0), (.int .u64 0), (.string ⟨#[]⟩), (.slice none 0 0)]), none⟩, ⟨none, none, (.ini 1 (.s (sl 14)) (.s (sl 100)) 6), none⟩])
  (.seq (.seq (.reg [⟨(some (sl 101)), none, (.mv (.s (sl 13))), none⟩, ⟨(some (sl 102)), none, (.mv (.s (sl 6))), none⟩, ⟨(some (sl 103)), none, (.bin .lss (.s (sl 101)) (.s (sl 102))), none⟩])
  (.cond (.s (sl 103))
  (.reg [⟨(some (sl 104)), none, (.fld (.s (sl 9)) 1), none⟩, ⟨(some (sl 105)), none, (.ld true (.s (sl 104)) none), none⟩, ⟨(some (sl 106)), none, (.mv (.s (sl 13))), none⟩, ⟨(some (sl 107)), none, (.idx true (.s (sl 105)) (.s (sl 106)) 6), none⟩, ⟨(some (sl 108)), none, (.ld true (.s (sl 107)) (some 6)), none⟩, ⟨none, none, (.st (.s (sl 14)) (.s (sl 108)) 6), none⟩])
  (.seq (.reg [⟨(some (sl 109)), none, (.mv (.s (sl 13))), none⟩, ⟨(some (sl 110)), none, (.mv (.s (sl 6))), none⟩, ⟨(some (sl 111)), none, (.fld (.s (sl 10)) 1), none⟩, ⟨(some (sl 112)), none, (.ld true (.s (sl 111)) none), none⟩, ⟨(some (sl 113)), none, (.len false (.s (sl 112))), none⟩, ⟨(some (sl 114)), none, (.bin .add (.s (sl 110)) (.s (sl 113))), none⟩, ⟨(some (sl 115)), none, (.bin .lss (.s (sl 109)) (.s (sl 114))), none⟩])
  (.cond (.s (sl 115))
  (.reg [⟨(some (sl 116)), none, (.fld (.s (sl 10)) 1), none⟩, ⟨(some (sl 117)), none, (.ld true (.s (sl 116)) none), none⟩, ⟨(some (sl 118)), none, (.mv (.s (sl 13))), none⟩, ⟨(some (sl 119)), none, (.mv (.s (sl 6))), none⟩, ⟨(some (sl 120)), none, (.bin .sub (.s (sl 118)) (.s (sl 119))), none⟩, ⟨(some (sl 121)), none, (.idx true (.s (sl 117)) (.s (sl 120)) 6), none⟩, ⟨(some (sl 122)), none, (.ld true (.s (sl 121)) (some 6)), none⟩, ⟨none, none, (.st (.s (sl 14)) (.s (sl 122)) 6), none⟩])
  (.reg [⟨(some (sl 123)), none, (.fld (.s (sl 9)) 1), none⟩, ⟨(some (sl 124)), none, (.ld true (.s (sl 123)) none), none⟩, ⟨(some (sl 125)), none, (.mv (.s (sl 13))), none⟩, ⟨(some (sl 126)), none, (.bin .add (.s (sl 125)) (.c (.int .i64 1))), none⟩, ⟨(some (sl 127)), none, (.fld (.s (sl 10)) 1), none⟩, ⟨(some (sl 128)), none, (.ld true (.s (sl 127)) none), none⟩, ⟨(some (sl 129)), none, (.len false (.s (sl 128))), none⟩, ⟨(some (sl 130)), none, (.bin .sub (.s (sl 126)) (.s (sl 129))), none⟩, ⟨(some (sl 131)), none, (.idx true (.s (sl 124)) (.s (sl 130)) 6), none⟩, ⟨(some (sl 132)), none, (.ld true (.s (sl 131)) (some 6)), none⟩, ⟨none, none, (.st (.s (sl 14)) (.s (sl 132)) 6), none⟩])))))
  (.seq (.reg [⟨(some (sl 133)), none, (.fld (.s (sl 11)) 1), (some (0, []))⟩, ⟨(some (sl 134)), none, (.ld true (.s (sl 133)) none), (some (1, []))⟩, ⟨(some (sl 135)), none, (.mv (.s (sl 13))), (some (2, []))⟩, ⟨(some (sl 136)), none, (.idx true (.s (sl 134)) (.s (sl 135)) 6), (some (3, []))⟩, ⟨(some (sl 137)), none, (.fld (.s (sl 136)) 0), (some (4, []))⟩, ⟨(some (sl 138)), none, (.ld true (.s (sl 137)) none), (some (5, []))⟩, ⟨(some (sl 139)), none, (.fld (.s (sl 14)) 0), (some (6, []))⟩, ⟨(some (sl 140)), none, (.ld false (.s (sl 139)) none), (some (7, []))⟩, ⟨(some (sl 141)), none, (.bin .neq (.s (sl 138)) (.s (sl 140))), (some (8, []))⟩, ⟨(some (sl 142)), none, (.mv (.s (sl 141))), (some (9, []))⟩, ⟨(some (sl 143)), (some ((sl 142), false)), (.fld (.s (sl 11)) 1), (some (10, []))⟩, ⟨(some (sl 144)), (some ((sl 142), false)), (.ld true (.s (sl 143)) none), (some (11, []))⟩, ⟨(some (sl 145)), (some ((sl 142), false)), (.mv (.s (sl 13))), (some (12, []))⟩, ⟨(some (sl 146)), (some ((sl 142), false)), (.idx true (.s (sl 144)) (.s (sl 145)) 6), (some (13, []))⟩, ⟨(some (sl 147)), (some ((sl 142), false)), (.fld (.s (sl 146)) 4), (some (14, []))⟩, ⟨(some (sl 148)), (some ((sl 142), false)), (.ld true (.s (sl 147)) none), (some (15, []))⟩, ⟨(some (sl 149)), (some ((sl 142), false)), (.fld (.s (sl 14)) 4), (some (16, []))⟩, ⟨(some (sl 150)), (some ((sl 142), false)), (.ld false (.s (sl 149)) none), (some (17, []))⟩, ⟨(some (sl 151)), (some ((sl 142), false)), (.bin .neq (.s (sl 148)) (.s (sl 150))), (some (18, []))⟩, ⟨(some (sl 152)), none, (.pick (.s (sl 142)) (.c (.bool true)) (.s (sl 151))), (some (19, []))⟩, ⟨(some (sl 153)), none, (.mv (.s (sl 152))), (some (20, []))⟩, ⟨(some (sl 154)), (some ((sl 153), false)), (.fld (.s (sl 11)) 1), (some (21, []))⟩, ⟨(some (sl 155)), (some ((sl 153), false)), (.ld true (.s (sl 154)) none), (some (22, []))⟩, ⟨(some (sl 156)), (some ((sl 153), false)), (.mv (.s (sl 13))), (some (23, []))⟩, ⟨(some (sl 157)), (some ((sl 153), false)), (.idx true (.s (sl 155)) (.s (sl 156)) 6), (some (24, []))⟩, ⟨(some (sl 158)), (some ((sl 153), false)), (.fld (.s (sl 157)) 3), (some (25, []))⟩, ⟨(some (sl 159)), (some ((sl 153), false)), (.ld true (.s (sl 158)) none), (some (26, []))⟩, ⟨(some (sl 160)), (some ((sl 153), false)), (.fld (.s (sl 14)) 3), (some (27, []))⟩, ⟨(some (sl 161)), (some ((sl 153), false)), (.ld false (.s (sl 160)) none), (some (28, []))⟩, ⟨(some (sl 162)), (some ((sl 153), false)), (.bin .neq (.s (sl 159)) (.s (sl 161))), (some (29, []))⟩, ⟨(some (sl 163)), none, (.pick (.s (sl 153)) (.c (.bool true)) (.s (sl 162))), (some (30, []))⟩])
  (.cond (.s (sl 163))
  (.seq (.reg [⟨(some (sl 2)), none, (.mv (.c (.bool false))), none⟩])
  .ret)
  .skip)))))
  (.reg [⟨(some (sl 98)), none, (.mv (.s (sl 13))), none⟩, ⟨(some (sl 99)), none, (.bin .add (.s (sl 98)) (.c (.int .i64 1))), none⟩, ⟨(some (sl 13)), none, (.mv (.s (sl 99))), none⟩]))))))
  (.seq (.reg [⟨(some (sl 164)), none, (.mv (.s (sl 7))), none⟩, ⟨(some (sl 2)), none, (.mv (.s (sl 164))), none⟩])
  .ret)))))))))))))))
def r_marlinelaw14_InlineGone : List ARes := [(.tmp (sl 2))]
end Go.Proofs.Ytndpejmebhcaaaa
