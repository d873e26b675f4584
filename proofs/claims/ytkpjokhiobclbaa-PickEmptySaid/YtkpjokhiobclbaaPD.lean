/- The bodies of some functions, as the evaluator has them (printed by program), and that they are the program's own. -/
import Derived.Test.YtkpjokhiobclbaaKE
namespace Go.Proofs.Ytkpjokhiobclbaa
open Go.RowKit

/-- marline/marlinelaw08.gives -/
def c_marlinelaw08_gives : ACode :=
  (.seq (.reg [⟨(some (sl 2)), none, (.new [(.slice none 0 0), (.slice none 0 0)]), none⟩])
  (.seq (.reg [⟨(some (sl 3)), none, (.mv (.s (sl 0))), none⟩, ⟨(some (sl 4)), none, (.bld [(.int .i64 0), (.int .i64 0), (.int .i64 0), (.int .u64 0), (.string ⟨#[]⟩), (.slice none 0 0)] [(0, 1, (.c (.int .i64 1)))]), none⟩, ⟨(some (sl 5)), none, (.mksl 6 1 [(.int .i64 0), (.int .i64 0), (.int .i64 0), (.int .u64 0), (.string ⟨#[]⟩), (.slice none 0 0)] [(0, 6, (.s (sl 4)))]), none⟩, ⟨(some (sl 6)), none, (.bld [(.int .i64 0), (.int .i64 0), (.int .i64 0), (.slice none 0 0), (.int .i64 0), (.slice none 0 0)] [(0, 1, (.c (.int .i64 3)))]), none⟩, ⟨(some (sl 7)), none, (.bld [(.int .i64 0), (.slice none 0 0), (.int .i64 0), (.int .i64 0), (.int .i64 0), (.slice none 0 0), (.int .i64 0), (.slice none 0 0)] [(1, 1, (.s (sl 5))), (2, 6, (.s (sl 6)))]), none⟩, ⟨(some (sl 8)), none, (.mksl 8 1 [(.int .i64 0), (.slice none 0 0), (.int .i64 0), (.int .i64 0), (.int .i64 0), (.slice none 0 0), (.int .i64 0), (.slice none 0 0)] [(0, 8, (.s (sl 7)))]), none⟩, ⟨(some (sl 9)), none, (.bld [(.string ⟨#[]⟩), (.int .i64 0), (.int .i64 0), (.slice none 0 0)] [(0, 1, (.s (sl 3))), (1, 1, (.c (.int .i64 2))), (3, 1, (.s (sl 8)))]), none⟩, ⟨(some (sl 10)), none, (.mksl 4 1 [(.string ⟨#[]⟩), (.int .i64 0), (.int .i64 0), (.slice none 0 0)] [(0, 4, (.s (sl 9)))]), none⟩, ⟨(some (sl 11)), none, (.bld [(.slice none 0 0), (.slice none 0 0)] [(0, 1, (.s (sl 10)))]), none⟩, ⟨none, none, (.st (.s (sl 2)) (.s (sl 11)) 2), none⟩])
  .ret))
def r_marlinelaw08_gives : List ARes := [(.cell (sl 2) (some 2))]
theorem t_marlinelaw08_gives : (Try.f25).body.bind (trCode Try.prog 8 (Try.f25).ntmps [2] [] (drOk 8)) = some c_marlinelaw08_gives := by kernel_rfl
theorem u_marlinelaw08_gives : trRess Try.prog 8 (Try.f25).results.toList = some r_marlinelaw08_gives := by kernel_rfl

/-- marline/marlinelaw08.wants -/
def c_marlinelaw08_wants : ACode :=
  (.seq (.reg [⟨(some (sl 2)), none, (.new [(.slice none 0 0), (.slice none 0 0)]), none⟩])
  (.seq (.reg [⟨(some (sl 3)), none, (.mv (.s (sl 0))), none⟩, ⟨(some (sl 4)), none, (.bld [(.string ⟨#[]⟩), (.int .i64 0), (.int .i64 0), (.slice none 0 0)] [(0, 1, (.s (sl 3))), (1, 1, (.c (.int .i64 2)))]), none⟩, ⟨(some (sl 5)), none, (.mksl 4 1 [(.string ⟨#[]⟩), (.int .i64 0), (.int .i64 0), (.slice none 0 0)] [(0, 4, (.s (sl 4)))]), none⟩, ⟨(some (sl 6)), none, (.bld [(.slice none 0 0), (.slice none 0 0)] [(0, 1, (.s (sl 5)))]), none⟩, ⟨none, none, (.st (.s (sl 2)) (.s (sl 6)) 2), none⟩])
  .ret))
def r_marlinelaw08_wants : List ARes := [(.cell (sl 2) (some 2))]
theorem t_marlinelaw08_wants : (Try.f24).body.bind (trCode Try.prog 8 (Try.f24).ntmps [2] [] (drOk 8)) = some c_marlinelaw08_wants := by kernel_rfl
theorem u_marlinelaw08_wants : trRess Try.prog 8 (Try.f24).results.toList = some r_marlinelaw08_wants := by kernel_rfl

/-- marline/marlinelaw08.shown -/
def c_marlinelaw08_shown : ACode :=
  (.seq (.reg [⟨(some (sl 0)), none, (.mv (.c (.bool false))), none⟩])
  (.seq (.reg [⟨(some (sl 4)), none, (.call true (.f 24) [(.c (.string ⟨#[102]⟩))]), none⟩, ⟨(some (sl 5)), none, (.mksl 2 1 [(.slice none 0 0), (.slice none 0 0)] [(0, 2, (.s (sl 4)))]), none⟩, ⟨(some (sl 6)), none, (.bld [(.bool false), (.slice none 0 0)] [(1, 1, (.s (sl 5)))]), none⟩, ⟨(some (sl 7)), none, (.call true (.f 25) [(.c (.string ⟨#[103]⟩))]), none⟩, ⟨(some (sl 8)), none, (.call true (.f 25) [(.c (.string ⟨#[102]⟩))]), none⟩, ⟨(some (sl 9)), none, (.call true (.f 25) [(.c (.string ⟨#[104]⟩))]), none⟩, ⟨(some (sl 10)), none, (.mksl 2 3 [(.slice none 0 0), (.slice none 0 0), (.slice none 0 0), (.slice none 0 0), (.slice none 0 0), (.slice none 0 0)] [(0, 2, (.s (sl 7))), (2, 2, (.s (sl 8))), (4, 2, (.s (sl 9)))]), none⟩, ⟨(some (sl 11)), none, (.bld [(.bool false), (.slice none 0 0)] [(0, 1, (.c (.bool true))), (1, 1, (.s (sl 10)))]), none⟩, ⟨(some (sl 12)), none, (.mksl 2 2 [(.bool false), (.slice none 0 0), (.bool false), (.slice none 0 0)] [(0, 2, (.s (sl 6))), (2, 2, (.s (sl 11)))]), none⟩, ⟨(some (sl 13)), none, (.call true (.f 11) [(.s (sl 12))]), none⟩, ⟨(some (sl 3)), none, (.mv (.s (sl 13))), none⟩, ⟨(some (sl 14)), none, (.ext (.s (sl 3)) 0), none⟩, ⟨(some (sl 15)), none, (.ext (.s (sl 3)) 1), none⟩, ⟨(some (sl 1)), none, (.mv (.s (sl 14))), none⟩, ⟨(some (sl 2)), none, (.mv (.s (sl 15))), none⟩])
  (.seq (.reg [⟨(some (sl 16)), none, (.mv (.s (sl 2))), none⟩, ⟨(some (sl 17)), none, (.bin .eql (.s (sl 16)) (.c (.int .i64 0))), none⟩, ⟨(some (sl 18)), none, (.mv (.s (sl 17))), none⟩, ⟨(some (sl 19)), (some ((sl 18), true)), (.mv (.s (sl 1))), none⟩, ⟨(some (sl 20)), (some ((sl 18), true)), (.len false (.s (sl 19))), none⟩, ⟨(some (sl 21)), (some ((sl 18), true)), (.bin .eql (.s (sl 20)) (.c (.int .i64 2))), none⟩, ⟨(some (sl 22)), none, (.pick (.s (sl 18)) (.s (sl 21)) (.c (.bool false))), none⟩, ⟨(some (sl 23)), none, (.mv (.s (sl 22))), none⟩, ⟨(some (sl 24)), (some ((sl 23), true)), (.mv (.s (sl 1))), none⟩, ⟨(some (sl 25)), (some ((sl 23), true)), (.idx true (.s (sl 24)) (.c (.int .i64 1)) 2), none⟩, ⟨(some (sl 26)), (some ((sl 23), true)), (.fld (.s (sl 25)) 0), none⟩, ⟨(some (sl 27)), (some ((sl 23), true)), (.ld true (.s (sl 26)) none), none⟩, ⟨(some (sl 28)), (some ((sl 23), true)), (.len false (.s (sl 27))), none⟩, ⟨(some (sl 29)), (some ((sl 23), true)), (.bin .eql (.s (sl 28)) (.c (.int .i64 1))), none⟩, ⟨(some (sl 30)), none, (.pick (.s (sl 23)) (.s (sl 29)) (.c (.bool false))), none⟩, ⟨(some (sl 31)), none, (.mv (.s (sl 30))), none⟩, ⟨(some (sl 32)), (some ((sl 31), true)), (.mv (.s (sl 1))), none⟩, ⟨(some (sl 33)), (some ((sl 31), true)), (.idx true (.s (sl 32)) (.c (.int .i64 1)) 2), none⟩, ⟨(some (sl 34)), (some ((sl 31), true)), (.fld (.s (sl 33)) 0), none⟩, ⟨(some (sl 35)), (some ((sl 31), true)), (.ld true (.s (sl 34)) none), none⟩, ⟨(some (sl 36)), (some ((sl 31), true)), (.idx true (.s (sl 35)) (.c (.int .i64 0)) 4), none⟩, ⟨(some (sl 37)), (some ((sl 31), true)), (.fld (.s (sl 36)) 0), none⟩, ⟨(some (sl 38)), (some ((sl 31), true)), (.ld true (.s (sl 37)) none), none⟩, ⟨(some (sl 39)), (some ((sl 31), true)), (.bin .eql (.s (sl 38)) (.c (.string ⟨#[102]⟩))), none⟩, ⟨(some (sl 40)), none, (.pick (.s (sl 31)) (.s (sl 39)) (.c (.bool false))), none⟩, ⟨(some (sl 0)), none, (.mv (.s (sl 40))), none⟩])
  .ret)))
def r_marlinelaw08_shown : List ARes := [(.tmp (sl 0))]
theorem t_marlinelaw08_shown : (Try.f10).body.bind (trCode Try.prog 8 (Try.f10).ntmps [] [] (drOk 8)) = some c_marlinelaw08_shown := by kernel_rfl
theorem u_marlinelaw08_shown : trRess Try.prog 8 (Try.f10).results.toList = some r_marlinelaw08_shown := by kernel_rfl

/-- marline/marlinelaw08.PickTakes -/
def c_marlinelaw08_PickTakes : ACode :=
  (.seq (.reg [⟨(some (sl 2)), none, (.box true (.s (sl 0))), none⟩, ⟨(some (sl 4)), none, (.mv (.c (.bool false))), none⟩])
  (.seq (.reg [⟨(some (sl 11)), none, (.call true (.f 10) []), none⟩, ⟨(some (sl 5)), none, (.mv (.s (sl 11))), none⟩])
  (.seq (.reg [⟨(some (sl 13)), none, (.mv (.s (sl 1))), none⟩, ⟨(some (sl 14)), none, (.call true (.f 11) [(.s (sl 13))]), none⟩, ⟨(some (sl 12)), none, (.mv (.s (sl 14))), none⟩, ⟨(some (sl 15)), none, (.ext (.s (sl 12)) 0), none⟩, ⟨(some (sl 16)), none, (.ext (.s (sl 12)) 1), none⟩, ⟨(some (sl 6)), none, (.mv (.s (sl 15))), none⟩, ⟨(some (sl 7)), none, (.mv (.s (sl 16))), none⟩])
  (.seq (.reg [⟨(some (sl 18)), none, (.mv (.s (sl 1))), none⟩, ⟨(some (sl 19)), none, (.call true (.f 12) [(.s (sl 18))]), none⟩, ⟨(some (sl 17)), none, (.mv (.s (sl 19))), none⟩, ⟨(some (sl 20)), none, (.ext (.s (sl 17)) 0), none⟩, ⟨(some (sl 21)), none, (.ext (.s (sl 17)) 1), none⟩, ⟨(some (sl 8)), none, (.mv (.s (sl 20))), none⟩, ⟨(some (sl 9)), none, (.mv (.s (sl 21))), none⟩])
  (.seq (.reg [⟨(some (sl 22)), none, (.mv (.s (sl 6))), (some (0, []))⟩, ⟨(some (sl 23)), none, (.mv (.s (sl 8))), (some (1, []))⟩, ⟨(some (sl 24)), none, (.call true (.f 13) [(.s (sl 22)), (.s (sl 23))]), (some (2, []))⟩, ⟨(some (sl 25)), none, (.mv (.s (sl 24))), (some (3, []))⟩, ⟨(some (sl 26)), (some ((sl 25), true)), (.ld true (.s (sl 2)) (some 2)), (some (4, []))⟩, ⟨(some (sl 27)), (some ((sl 25), true)), (.call true (.f 15) [(.s (sl 26))]), (some (5, []))⟩, ⟨(some (sl 28)), (some ((sl 25), true)), (.ld true (.s (sl 2)) (some 2)), (some (6, []))⟩, ⟨(some (sl 29)), (some ((sl 25), true)), (.call true (.f 16) [(.s (sl 28))]), (some (7, []))⟩, ⟨(some (sl 30)), (some ((sl 25), true)), (.call true (.f 14) [(.s (sl 27)), (.s (sl 29))]), (some (8, []))⟩, ⟨(some (sl 31)), none, (.pick (.s (sl 25)) (.s (sl 30)) (.c (.bool false))), (some (9, []))⟩, ⟨(some (sl 32)), none, (.mv (.s (sl 31))), (some (10, []))⟩, ⟨(some (sl 33)), (some ((sl 32), true)), (.ld true (.s (sl 2)) (some 2)), (some (11, []))⟩, ⟨(some (sl 34)), (some ((sl 32), true)), (.call true (.f 17) [(.s (sl 33))]), (some (12, []))⟩, ⟨(some (sl 35)), (some ((sl 32), true)), (.ld true (.s (sl 2)) (some 2)), (some (13, []))⟩, ⟨(some (sl 36)), (some ((sl 32), true)), (.call true (.f 18) [(.s (sl 35))]), (some (14, []))⟩, ⟨(some (sl 37)), (some ((sl 32), true)), (.call true (.f 14) [(.s (sl 34)), (.s (sl 36))]), (some (15, []))⟩, ⟨(some (sl 38)), none, (.pick (.s (sl 32)) (.s (sl 37)) (.c (.bool false))), (some (16, []))⟩, ⟨(some (sl 10)), none, (.mv (.s (sl 38))), (some (17, []))⟩])
  (.seq (.reg [⟨(some (sl 39)), none, (.mv (.s (sl 5))), none⟩, ⟨(some (sl 40)), none, (.mv (.s (sl 39))), none⟩, ⟨(some (sl 41)), (some ((sl 40), true)), (.mv (.s (sl 10))), none⟩, ⟨(some (sl 42)), none, (.pick (.s (sl 40)) (.s (sl 41)) (.c (.bool false))), none⟩, ⟨(some (sl 43)), none, (.mv (.s (sl 42))), none⟩, ⟨(some (sl 44)), (some ((sl 43), true)), (.mv (.s (sl 7))), none⟩, ⟨(some (sl 45)), (some ((sl 43), true)), (.mv (.s (sl 9))), none⟩, ⟨(some (sl 46)), (some ((sl 43), true)), (.bin .eql (.s (sl 44)) (.s (sl 45))), none⟩, ⟨(some (sl 47)), none, (.pick (.s (sl 43)) (.s (sl 46)) (.c (.bool false))), none⟩, ⟨(some (sl 48)), none, (.mv (.s (sl 47))), none⟩, ⟨(some (sl 49)), (some ((sl 48), true)), (.mv (.s (sl 1))), none⟩, ⟨(some (sl 50)), (some ((sl 48), true)), (.call true (.f 19) [(.s (sl 49))]), none⟩, ⟨(some (sl 51)), (some ((sl 48), true)), (.mv (.s (sl 1))), none⟩, ⟨(some (sl 52)), (some ((sl 48), true)), (.call true (.f 20) [(.s (sl 51))]), none⟩, ⟨(some (sl 53)), (some ((sl 48), true)), (.bin .eql (.s (sl 50)) (.s (sl 52))), none⟩, ⟨(some (sl 54)), none, (.pick (.s (sl 48)) (.s (sl 53)) (.c (.bool false))), none⟩, ⟨(some (sl 4)), none, (.mv (.s (sl 54))), none⟩])
  .ret))))))
def r_marlinelaw08_PickTakes : List ARes := [(.tmp (sl 4))]
theorem t_marlinelaw08_PickTakes : (Try.f3).body.bind (trCode Try.prog 8 (Try.f3).ntmps [] [] (drOk 8)) = some c_marlinelaw08_PickTakes := by kernel_rfl
theorem u_marlinelaw08_PickTakes : trRess Try.prog 8 (Try.f3).results.toList = some r_marlinelaw08_PickTakes := by kernel_rfl

/-- marline/marlinelaw08.PickAll -/
def c_marlinelaw08_PickAll : ACode :=
  (.seq (.reg [⟨(some (sl 2)), none, (.mv (.c (.bool false))), none⟩])
  (.seq (.reg [⟨(some (sl 9)), none, (.call true (.f 10) []), none⟩, ⟨(some (sl 3)), none, (.mv (.s (sl 9))), none⟩])
  (.seq (.reg [⟨(some (sl 11)), none, (.mv (.s (sl 0))), none⟩, ⟨(some (sl 12)), none, (.call true (.f 11) [(.s (sl 11))]), none⟩, ⟨(some (sl 10)), none, (.mv (.s (sl 12))), none⟩, ⟨(some (sl 13)), none, (.ext (.s (sl 10)) 0), none⟩, ⟨(some (sl 14)), none, (.ext (.s (sl 10)) 1), none⟩, ⟨(some (sl 4)), none, (.mv (.s (sl 13))), none⟩, ⟨(some (sl 5)), none, (.mv (.s (sl 14))), none⟩])
  (.seq (.seq (.reg [⟨(some (sl 15)), none, (.mv (.s (sl 5))), none⟩, ⟨(some (sl 16)), none, (.bin .neq (.s (sl 15)) (.c (.int .i64 0))), none⟩])
  (.cond (.s (sl 16))
  (.seq (.reg [⟨(some (sl 17)), none, (.mv (.s (sl 3))), none⟩, ⟨(some (sl 18)), none, (.mv (.s (sl 17))), none⟩, ⟨(some (sl 19)), (some ((sl 18), true)), (.mv (.s (sl 4))), none⟩, ⟨(some (sl 20)), (some ((sl 18), true)), (.len false (.s (sl 19))), none⟩, ⟨(some (sl 21)), (some ((sl 18), true)), (.bin .eql (.s (sl 20)) (.c (.int .i64 0))), none⟩, ⟨(some (sl 22)), none, (.pick (.s (sl 18)) (.s (sl 21)) (.c (.bool false))), none⟩, ⟨(some (sl 2)), none, (.mv (.s (sl 22))), none⟩])
  .ret)
  .skip))
  (.seq (.reg [⟨(some (sl 6)), none, (.mv (.c (.int .i64 0))), none⟩])
  (.seq (.reg [⟨(some (sl 7)), none, (.mv (.c (.int .i64 0))), none⟩])
  (.seq (.seq (.reg [⟨(some (sl 8)), none, (.mv (.c (.int .i64 0))), none⟩])
  (.block 0
  (.loop (.seq (.seq (.reg [⟨(some (sl 23)), none, (.mv (.s (sl 8))), none⟩, ⟨(some (sl 24)), none, (.mv (.s (sl 0))), none⟩, ⟨(some (sl 25)), none, (.len false (.s (sl 24))), none⟩, ⟨(some (sl 26)), none, (.bin .lss (.s (sl 23)) (.s (sl 25))), none⟩])
  (.cond (.s (sl 26))
  .skip
  (.exit 0)))
  (.seq (.block 1
  (.seq (.reg [⟨(some (sl 29)), none, (.mv (.s (sl 7))), none⟩, ⟨(some (sl 30)), none, (.mv (.s (sl 0))), none⟩, ⟨(some (sl 31)), none, (.mv (.s (sl 8))), none⟩, ⟨(some (sl 32)), none, (.idx true (.s (sl 30)) (.s (sl 31)) 2), none⟩, ⟨(some (sl 33)), none, (.fld (.s (sl 32)) 1), none⟩, ⟨(some (sl 34)), none, (.ld true (.s (sl 33)) none), none⟩, ⟨(some (sl 35)), none, (.len false (.s (sl 34))), none⟩, ⟨(some (sl 36)), none, (.bin .add (.s (sl 29)) (.s (sl 35))), none⟩, ⟨(some (sl 7)), none, (.mv (.s (sl 36))), none⟩])
  (.seq (.seq (.reg [⟨(some (sl 37)), none, (.mv (.s (sl 0))), none⟩, ⟨(some (sl 38)), none, (.mv (.s (sl 8))), none⟩, ⟨(some (sl 39)), none, (.idx true (.s (sl 37)) (.s (sl 38)) 2), none⟩, ⟨(some (sl 40)), none, (.fld (.s (sl 39)) 0), none⟩, ⟨(some (sl 41)), none, (.ld true (.s (sl 40)) none), none⟩])
  (.cond (.s (sl 41))
  (.exit 1)
  .skip))
  (.seq (.seq (.reg [⟨(some (sl 42)), none, (.mv (.s (sl 6))), (some (0, []))⟩, ⟨(some (sl 43)), none, (.mv (.s (sl 4))), (some (1, []))⟩, ⟨(some (sl 44)), none, (.len false (.s (sl 43))), (some (2, []))⟩, ⟨(some (sl 45)), none, (.bin .geq (.s (sl 42)) (.s (sl 44))), (some (3, []))⟩, ⟨(some (sl 46)), none, (.mv (.s (sl 45))), (some (4, []))⟩, ⟨(some (sl 47)), (some ((sl 46), false)), (.mv (.s (sl 4))), (some (5, []))⟩, ⟨(some (sl 48)), (some ((sl 46), false)), (.mv (.s (sl 6))), (some (6, []))⟩, ⟨(some (sl 49)), (some ((sl 46), false)), (.idx true (.s (sl 47)) (.s (sl 48)) 2), (some (7, []))⟩, ⟨(some (sl 50)), (some ((sl 46), false)), (.ld true (.s (sl 49)) (some 2)), (some (8, []))⟩, ⟨(some (sl 51)), (some ((sl 46), false)), (.mv (.s (sl 0))), (some (9, []))⟩, ⟨(some (sl 52)), (some ((sl 46), false)), (.mv (.s (sl 8))), (some (10, []))⟩, ⟨(some (sl 53)), (some ((sl 46), false)), (.idx true (.s (sl 51)) (.s (sl 52)) 2), (some (11, []))⟩, ⟨(some (sl 54)), (some ((sl 46), false)), (.fld (.s (sl 53)) 1), (some (12, []))⟩, ⟨(some (sl 55)), (some ((sl 46), false)), (.ld true (.s (sl 54)) none), (some (13, []))⟩, ⟨(some (sl 56)), (some ((sl 46), false)), (.idx true (.s (sl 55)) (.c (.int .i64 0)) 2), (some (14, []))⟩, ⟨(some (sl 57)), (some ((sl 46), false)), (.ld true (.s (sl 56)) (some 2)), (some (15, []))⟩, ⟨(some (sl 58)), (some ((sl 46), false)), (.call true (.f 21) [(.s (sl 50)), (.s (sl 57))]), (some (16, []))⟩, ⟨(some (sl 59)), (some ((sl 46), false)), (.not (.s (sl 58))), (some (17, []))⟩, ⟨(some (sl 60)), none, (.pick (.s (sl 46)) (.c (.bool true)) (.s (sl 59))), (some (18, []))⟩])
  (.cond (.s (sl 60))
  (.seq (.reg [⟨(some (sl 2)), none, (.mv (.c (.bool false))), none⟩])
  .ret)
  .skip))
  (.reg [⟨(some (sl 61)), none, (.mv (.s (sl 6))), none⟩, ⟨(some (sl 62)), none, (.bin .add (.s (sl 61)) (.c (.int .i64 1))), none⟩, ⟨(some (sl 6)), none, (.mv (.s (sl 62))), none⟩])))))
  (.reg [⟨(some (sl 27)), none, (.mv (.s (sl 8))), none⟩, ⟨(some (sl 28)), none, (.bin .add (.s (sl 27)) (.c (.int .i64 1))), none⟩, ⟨(some (sl 8)), none, (.mv (.s (sl 28))), none⟩]))))))
  (.seq (.reg [⟨(some (sl 63)), none, (.mv (.s (sl 3))), none⟩, ⟨(some (sl 64)), none, (.mv (.s (sl 63))), none⟩, ⟨(some (sl 65)), (some ((sl 64), true)), (.mv (.s (sl 4))), none⟩, ⟨(some (sl 66)), (some ((sl 64), true)), (.len false (.s (sl 65))), none⟩, ⟨(some (sl 67)), (some ((sl 64), true)), (.mv (.s (sl 7))), none⟩, ⟨(some (sl 68)), (some ((sl 64), true)), (.bin .leq (.s (sl 66)) (.s (sl 67))), none⟩, ⟨(some (sl 69)), none, (.pick (.s (sl 64)) (.s (sl 68)) (.c (.bool false))), none⟩, ⟨(some (sl 2)), none, (.mv (.s (sl 69))), none⟩])
  .ret))))))))
def r_marlinelaw08_PickAll : List ARes := [(.tmp (sl 2))]
theorem t_marlinelaw08_PickAll : (Try.f4).body.bind (trCode Try.prog 8 (Try.f4).ntmps [] [] (drOk 8)) = some c_marlinelaw08_PickAll := by kernel_rfl
theorem u_marlinelaw08_PickAll : trRess Try.prog 8 (Try.f4).results.toList = some r_marlinelaw08_PickAll := by kernel_rfl

/-- marline/marlinelaw08.PickDone -/
def c_marlinelaw08_PickDone : ACode :=
  (.seq (.reg [⟨(some (sl 2)), none, (.mv (.c (.bool false))), none⟩])
  (.seq (.reg [⟨(some (sl 9)), none, (.call true (.f 10) []), none⟩, ⟨(some (sl 3)), none, (.mv (.s (sl 9))), none⟩])
  (.seq (.reg [⟨(some (sl 11)), none, (.mv (.s (sl 0))), none⟩, ⟨(some (sl 12)), none, (.call true (.f 11) [(.s (sl 11))]), none⟩, ⟨(some (sl 10)), none, (.mv (.s (sl 12))), none⟩, ⟨(some (sl 13)), none, (.ext (.s (sl 10)) 0), none⟩, ⟨(some (sl 14)), none, (.ext (.s (sl 10)) 1), none⟩, ⟨(some (sl 4)), none, (.mv (.s (sl 13))), none⟩, ⟨(some (sl 5)), none, (.mv (.s (sl 14))), none⟩])
  (.seq (.seq (.reg [⟨(some (sl 15)), none, (.mv (.s (sl 5))), none⟩, ⟨(some (sl 16)), none, (.bin .neq (.s (sl 15)) (.c (.int .i64 0))), none⟩])
  (.cond (.s (sl 16))
  (.seq (.reg [⟨(some (sl 17)), none, (.mv (.s (sl 3))), none⟩, ⟨(some (sl 2)), none, (.mv (.s (sl 17))), none⟩])
  .ret)
  .skip))
  (.seq (.seq (.reg [⟨(some (sl 6)), none, (.mv (.c (.int .i64 0))), none⟩])
  (.block 0
  (.loop (.seq (.seq (.reg [⟨(some (sl 18)), none, (.mv (.s (sl 6))), none⟩, ⟨(some (sl 19)), none, (.mv (.s (sl 0))), none⟩, ⟨(some (sl 20)), none, (.len false (.s (sl 19))), none⟩, ⟨(some (sl 21)), none, (.bin .lss (.s (sl 18)) (.s (sl 20))), none⟩])
  (.cond (.s (sl 21))
  .skip
  (.exit 0)))
  (.seq (.block 1
  (.seq (.reg [⟨(some (sl 7)), none, (.mv (.c (.int .i64 0))), none⟩])
  (.block 2
  (.loop (.seq (.seq (.reg [⟨(some (sl 24)), none, (.mv (.s (sl 7))), none⟩, ⟨(some (sl 25)), none, (.mv (.s (sl 0))), none⟩, ⟨(some (sl 26)), none, (.mv (.s (sl 6))), none⟩, ⟨(some (sl 27)), none, (.idx true (.s (sl 25)) (.s (sl 26)) 2), none⟩, ⟨(some (sl 28)), none, (.fld (.s (sl 27)) 1), none⟩, ⟨(some (sl 29)), none, (.ld true (.s (sl 28)) none), none⟩, ⟨(some (sl 30)), none, (.len false (.s (sl 29))), none⟩, ⟨(some (sl 31)), none, (.bin .lss (.s (sl 24)) (.s (sl 30))), none⟩, ⟨(some (sl 32)), none, (.mv (.s (sl 31))), none⟩, ⟨(some (sl 33)), (some ((sl 32), true)), (.mv (.s (sl 0))), none⟩, ⟨(some (sl 34)), (some ((sl 32), true)), (.mv (.s (sl 6))), none⟩, ⟨(some (sl 35)), (some ((sl 32), true)), (.idx true (.s (sl 33)) (.s (sl 34)) 2), none⟩, ⟨(some (sl 36)), (some ((sl 32), true)), (.fld (.s (sl 35)) 0), none⟩, ⟨(some (sl 37)), (some ((sl 32), true)), (.ld true (.s (sl 36)) none), none⟩, ⟨(some (sl 38)), none, (.pick (.s (sl 32)) (.s (sl 37)) (.c (.bool false))), none⟩])
  (.cond (.s (sl 38))
  .skip
  (.exit 2)))
  (.seq (.block 3
  (.seq (.reg [⟨(some (sl 41)), none, (.mv (.s (sl 4))), none⟩, ⟨(some (sl 42)), none, (.mv (.s (sl 0))), none⟩, ⟨(some (sl 43)), none, (.mv (.s (sl 6))), none⟩, ⟨(some (sl 44)), none, (.idx true (.s (sl 42)) (.s (sl 43)) 2), none⟩, ⟨(some (sl 45)), none, (.fld (.s (sl 44)) 1), none⟩, ⟨(some (sl 46)), none, (.ld true (.s (sl 45)) none), none⟩, ⟨(some (sl 47)), none, (.mv (.s (sl 7))), none⟩, ⟨(some (sl 48)), none, (.idx true (.s (sl 46)) (.s (sl 47)) 2), none⟩, ⟨(some (sl 49)), none, (.ld true (.s (sl 48)) (some 2)), none⟩, ⟨(some (sl 50)), none, (.call true (.f 22) [(.s (sl 41)), (.s (sl 49))]), none⟩, ⟨(some (sl 8)), none, (.mv (.s (sl 50))), none⟩])
  (.seq (.reg [⟨(some (sl 51)), none, (.mv (.s (sl 8))), none⟩])
  (.cond (.s (sl 51))
  (.seq (.reg [⟨(some (sl 2)), none, (.mv (.c (.bool false))), none⟩])
  .ret)
  .skip))))
  (.reg [⟨(some (sl 39)), none, (.mv (.s (sl 7))), none⟩, ⟨(some (sl 40)), none, (.bin .add (.s (sl 39)) (.c (.int .i64 1))), none⟩, ⟨(some (sl 7)), none, (.mv (.s (sl 40))), none⟩])))))))
  (.reg [⟨(some (sl 22)), none, (.mv (.s (sl 6))), none⟩, ⟨(some (sl 23)), none, (.bin .add (.s (sl 22)) (.c (.int .i64 1))), none⟩, ⟨(some (sl 6)), none, (.mv (.s (sl 23))), none⟩]))))))
  (.seq (.reg [⟨(some (sl 52)), none, (.mv (.s (sl 3))), none⟩, ⟨(some (sl 2)), none, (.mv (.s (sl 52))), none⟩])
  .ret))))))
def r_marlinelaw08_PickDone : List ARes := [(.tmp (sl 2))]
theorem t_marlinelaw08_PickDone : (Try.f5).body.bind (trCode Try.prog 8 (Try.f5).ntmps [] [] (drOk 8)) = some c_marlinelaw08_PickDone := by kernel_rfl
theorem u_marlinelaw08_PickDone : trRess Try.prog 8 (Try.f5).results.toList = some r_marlinelaw08_PickDone := by kernel_rfl

/-- marline/marlinelaw08.PickWanted -/
def c_marlinelaw08_PickWanted : ACode :=
  (.seq (.reg [⟨(some (sl 2)), none, (.mv (.c (.bool false))), none⟩])
  (.seq (.reg [⟨(some (sl 10)), none, (.call true (.f 10) []), none⟩, ⟨(some (sl 3)), none, (.mv (.s (sl 10))), none⟩])
  (.seq (.reg [⟨(some (sl 12)), none, (.mv (.s (sl 0))), none⟩, ⟨(some (sl 13)), none, (.call true (.f 11) [(.s (sl 12))]), none⟩, ⟨(some (sl 11)), none, (.mv (.s (sl 13))), none⟩, ⟨(some (sl 14)), none, (.ext (.s (sl 11)) 0), none⟩, ⟨(some (sl 15)), none, (.ext (.s (sl 11)) 1), none⟩, ⟨(some (sl 4)), none, (.mv (.s (sl 14))), none⟩, ⟨(some (sl 5)), none, (.mv (.s (sl 15))), none⟩])
  (.seq (.seq (.reg [⟨(some (sl 16)), none, (.mv (.s (sl 5))), none⟩, ⟨(some (sl 17)), none, (.bin .neq (.s (sl 16)) (.c (.int .i64 0))), none⟩])
  (.cond (.s (sl 17))
  (.seq (.reg [⟨(some (sl 18)), none, (.mv (.s (sl 3))), none⟩, ⟨(some (sl 2)), none, (.mv (.s (sl 18))), none⟩])
  .ret)
  .skip))
  (.seq (.reg [⟨(some (sl 6)), none, (.mv (.c (.int .i64 0))), none⟩])
  (.seq (.seq (.reg [⟨(some (sl 7)), none, (.mv (.c (.int .i64 0))), none⟩])
  (.block 0
  (.loop (.seq (.seq (.reg [⟨(some (sl 19)), none, (.mv (.s (sl 7))), none⟩, ⟨(some (sl 20)), none, (.mv (.s (sl 0))), none⟩, ⟨(some (sl 21)), none, (.len false (.s (sl 20))), none⟩, ⟨(some (sl 22)), none, (.bin .lss (.s (sl 19)) (.s (sl 21))), none⟩])
  (.cond (.s (sl 22))
  .skip
  (.exit 0)))
  (.seq (.block 1
  (.seq (.reg [⟨(some (sl 25)), none, (.mv (.s (sl 0))), none⟩, ⟨(some (sl 26)), none, (.mv (.s (sl 7))), none⟩, ⟨(some (sl 27)), none, (.idx true (.s (sl 25)) (.s (sl 26)) 2), none⟩, ⟨(some (sl 28)), none, (.fld (.s (sl 27)) 0), none⟩, ⟨(some (sl 29)), none, (.ld true (.s (sl 28)) none), none⟩, ⟨(some (sl 30)), none, (.not (.s (sl 29))), none⟩])
  (.cond (.s (sl 30))
  (.reg [⟨(some (sl 31)), none, (.mv (.s (sl 6))), none⟩, ⟨(some (sl 32)), none, (.bin .add (.s (sl 31)) (.c (.int .i64 1))), none⟩, ⟨(some (sl 6)), none, (.mv (.s (sl 32))), none⟩])
  .skip)))
  (.reg [⟨(some (sl 23)), none, (.mv (.s (sl 7))), none⟩, ⟨(some (sl 24)), none, (.bin .add (.s (sl 23)) (.c (.int .i64 1))), none⟩, ⟨(some (sl 7)), none, (.mv (.s (sl 24))), none⟩]))))))
  (.seq (.seq (.reg [⟨(some (sl 33)), none, (.mv (.s (sl 6))), none⟩, ⟨(some (sl 8)), none, (.mv (.s (sl 33))), none⟩])
  (.block 2
  (.loop (.seq (.seq (.reg [⟨(some (sl 34)), none, (.mv (.s (sl 8))), none⟩, ⟨(some (sl 35)), none, (.mv (.s (sl 4))), none⟩, ⟨(some (sl 36)), none, (.len false (.s (sl 35))), none⟩, ⟨(some (sl 37)), none, (.bin .lss (.s (sl 34)) (.s (sl 36))), none⟩])
  (.cond (.s (sl 37))
  .skip
  (.exit 2)))
  (.seq (.block 3
  (.seq (.reg [⟨(some (sl 40)), none, (.mv (.s (sl 4))), (some (0, []))⟩, ⟨(some (sl 41)), none, (.mv (.s (sl 8))), (some (1, []))⟩, ⟨(some (sl 42)), none, (.slc (.s (sl 40)) none (some (.s (sl 41))) 2), (some (2, []))⟩, ⟨(some (sl 43)), none, (.mv (.s (sl 4))), (some (3, []))⟩, ⟨(some (sl 44)), none, (.mv (.s (sl 8))), (some (4, []))⟩, ⟨(some (sl 45)), none, (.idx true (.s (sl 43)) (.s (sl 44)) 2), (some (5, []))⟩, ⟨(some (sl 46)), none, (.ld true (.s (sl 45)) (some 2)), (some (6, []))⟩, ⟨(some (sl 47)), none, (.call true (.f 22) [(.s (sl 42)), (.s (sl 46))]), (some (7, []))⟩, ⟨(some (sl 9)), none, (.mv (.s (sl 47))), (some (8, []))⟩])
  (.seq (.reg [⟨(some (sl 48)), none, (.mv (.s (sl 9))), none⟩, ⟨(some (sl 49)), none, (.not (.s (sl 48))), none⟩])
  (.cond (.s (sl 49))
  (.seq (.reg [⟨(some (sl 2)), none, (.mv (.c (.bool false))), none⟩])
  .ret)
  .skip))))
  (.reg [⟨(some (sl 38)), none, (.mv (.s (sl 8))), none⟩, ⟨(some (sl 39)), none, (.bin .add (.s (sl 38)) (.c (.int .i64 1))), none⟩, ⟨(some (sl 8)), none, (.mv (.s (sl 39))), none⟩]))))))
  (.seq (.reg [⟨(some (sl 50)), none, (.mv (.s (sl 3))), none⟩, ⟨(some (sl 51)), none, (.mv (.s (sl 50))), none⟩, ⟨(some (sl 52)), (some ((sl 51), true)), (.mv (.s (sl 4))), none⟩, ⟨(some (sl 53)), (some ((sl 51), true)), (.len false (.s (sl 52))), none⟩, ⟨(some (sl 54)), (some ((sl 51), true)), (.mv (.s (sl 6))), none⟩, ⟨(some (sl 55)), (some ((sl 51), true)), (.bin .geq (.s (sl 53)) (.s (sl 54))), none⟩, ⟨(some (sl 56)), none, (.pick (.s (sl 51)) (.s (sl 55)) (.c (.bool false))), none⟩, ⟨(some (sl 2)), none, (.mv (.s (sl 56))), none⟩])
  .ret))))))))
def r_marlinelaw08_PickWanted : List ARes := [(.tmp (sl 2))]
theorem t_marlinelaw08_PickWanted : (Try.f6).body.bind (trCode Try.prog 8 (Try.f6).ntmps [] [] (drOk 8)) = some c_marlinelaw08_PickWanted := by kernel_rfl
theorem u_marlinelaw08_PickWanted : trRess Try.prog 8 (Try.f6).results.toList = some r_marlinelaw08_PickWanted := by kernel_rfl

/-- marline/marlinelaw08.PickEmpty -/
def c_marlinelaw08_PickEmpty : ACode :=
  (.seq (.reg [⟨(some (sl 4)), none, (.mv (.c (.bool false))), none⟩])
  (.seq (.reg [⟨(some (sl 12)), none, (.call true (.f 10) []), none⟩, ⟨(some (sl 5)), none, (.mv (.s (sl 12))), none⟩])
  (.seq (.seq (.reg [⟨(some (sl 13)), none, (.mv (.s (sl 1))), none⟩, ⟨(some (sl 14)), none, (.bin .lss (.s (sl 13)) (.c (.int .i64 0))), none⟩, ⟨(some (sl 15)), none, (.mv (.s (sl 14))), none⟩, ⟨(some (sl 16)), (some ((sl 15), false)), (.mv (.s (sl 1))), none⟩, ⟨(some (sl 17)), (some ((sl 15), false)), (.mv (.s (sl 0))), none⟩, ⟨(some (sl 18)), (some ((sl 15), false)), (.len false (.s (sl 17))), none⟩, ⟨(some (sl 19)), (some ((sl 15), false)), (.bin .gtr (.s (sl 16)) (.s (sl 18))), none⟩, ⟨(some (sl 20)), none, (.pick (.s (sl 15)) (.c (.bool true)) (.s (sl 19))), none⟩, ⟨(some (sl 21)), none, (.mv (.s (sl 20))), none⟩, ⟨(some (sl 22)), (some ((sl 21), false)), (.mv (.s (sl 0))), none⟩, ⟨(some (sl 23)), (some ((sl 21), false)), (.len false (.s (sl 22))), none⟩, ⟨(some (sl 24)), (some ((sl 21), false)), (.bin .gtr (.s (sl 23)) (.c (.int .i64 7))), none⟩, ⟨(some (sl 25)), none, (.pick (.s (sl 21)) (.c (.bool true)) (.s (sl 24))), none⟩])
  (.cond (.s (sl 25))
  (.seq (.reg [⟨(some (sl 26)), none, (.mv (.s (sl 5))), none⟩, ⟨(some (sl 4)), none, (.mv (.s (sl 26))), none⟩])
  .ret)
  .skip))
  (.seq (.reg [⟨(some (sl 28)), none, (.mv (.s (sl 0))), none⟩, ⟨(some (sl 29)), none, (.call true (.f 11) [(.s (sl 28))]), none⟩, ⟨(some (sl 27)), none, (.mv (.s (sl 29))), none⟩, ⟨(some (sl 30)), none, (.ext (.s (sl 27)) 0), none⟩, ⟨(some (sl 31)), none, (.ext (.s (sl 27)) 1), none⟩, ⟨(some (sl 6)), none, (.mv (.s (sl 30))), none⟩, ⟨(some (sl 7)), none, (.mv (.s (sl 31))), none⟩])
  (.seq (.reg [⟨(some (sl 32)), none, (.nrow 42 2), none⟩, ⟨(some (sl 33)), none, (.mv (.s (sl 0))), none⟩, ⟨(some (sl 34)), none, (.mv (.s (sl 1))), none⟩, ⟨(some (sl 35)), none, (.slc (.s (sl 33)) none (some (.s (sl 34))) 2), none⟩, ⟨(some (sl 36)), none, (.app 42 2 32 (.s (sl 32)) (.s (sl 35))), none⟩, ⟨(some (sl 37)), none, (.bld [(.bool false), (.slice none 0 0)] [(0, 1, (.c (.bool true)))]), none⟩, ⟨(some (sl 38)), none, (.mksl 2 1 [(.bool false), (.slice none 0 0)] [(0, 2, (.s (sl 37)))]), none⟩, ⟨(some (sl 39)), none, (.app 42 2 32 (.s (sl 36)) (.s (sl 38))), none⟩, ⟨(some (sl 8)), none, (.mv (.s (sl 39))), none⟩])
  (.seq (.reg [⟨(some (sl 40)), none, (.mv (.s (sl 8))), none⟩, ⟨(some (sl 41)), none, (.mv (.s (sl 0))), none⟩, ⟨(some (sl 42)), none, (.mv (.s (sl 1))), none⟩, ⟨(some (sl 43)), none, (.slc (.s (sl 41)) (some (.s (sl 42))) none 2), none⟩, ⟨(some (sl 44)), none, (.app 42 2 32 (.s (sl 40)) (.s (sl 43))), none⟩, ⟨(some (sl 8)), none, (.mv (.s (sl 44))), none⟩])
  (.seq (.reg [⟨(some (sl 46)), none, (.mv (.s (sl 8))), none⟩, ⟨(some (sl 47)), none, (.call false (.f 11) [(.s (sl 46))]), none⟩, ⟨(some (sl 45)), none, (.mv (.s (sl 47))), none⟩, ⟨(some (sl 48)), none, (.ext (.s (sl 45)) 0), none⟩, ⟨(some (sl 49)), none, (.ext (.s (sl 45)) 1), none⟩, ⟨(some (sl 9)), none, (.mv (.s (sl 48))), none⟩, ⟨(some (sl 10)), none, (.mv (.s (sl 49))), none⟩])
  (.seq (.reg [⟨(some (sl 50)), none, (.mv (.s (sl 6))), none⟩, ⟨(some (sl 51)), none, (.mv (.s (sl 9))), none⟩, ⟨(some (sl 52)), none, (.call true (.f 13) [(.s (sl 50)), (.s (sl 51))]), none⟩, ⟨(some (sl 11)), none, (.mv (.s (sl 52))), none⟩])
  (.seq (.reg [⟨(some (sl 53)), none, (.mv (.s (sl 5))), none⟩, ⟨(some (sl 54)), none, (.mv (.s (sl 53))), none⟩, ⟨(some (sl 55)), (some ((sl 54), true)), (.mv (.s (sl 11))), none⟩, ⟨(some (sl 56)), none, (.pick (.s (sl 54)) (.s (sl 55)) (.c (.bool false))), none⟩, ⟨(some (sl 57)), none, (.mv (.s (sl 56))), none⟩, ⟨(some (sl 58)), (some ((sl 57), true)), (.mv (.s (sl 7))), none⟩, ⟨(some (sl 59)), (some ((sl 57), true)), (.mv (.s (sl 10))), none⟩, ⟨(some (sl 60)), (some ((sl 57), true)), (.bin .eql (.s (sl 58)) (.s (sl 59))), none⟩, ⟨(some (sl 61)), none, (.pick (.s (sl 57)) (.s (sl 60)) (.c (.bool false))), none⟩, ⟨(some (sl 4)), none, (.mv (.s (sl 61))), none⟩])
  .ret)))))))))
def r_marlinelaw08_PickEmpty : List ARes := [(.tmp (sl 4))]
theorem t_marlinelaw08_PickEmpty : (Try.f7).body.bind (trCode Try.prog 8 (Try.f7).ntmps [8, 36, 39, 40, 44, 46] [] (drOk 8)) = some c_marlinelaw08_PickEmpty := by kernel_rfl
theorem u_marlinelaw08_PickEmpty : trRess Try.prog 8 (Try.f7).results.toList = some r_marlinelaw08_PickEmpty := by kernel_rfl

/-- marline/marlinelaw08.PickNames -/
def c_marlinelaw08_PickNames : ACode :=
  (.seq (.reg [⟨(some (sl 1)), none, (.box true (.s (sl 0))), none⟩, ⟨(some (sl 2)), none, (.mv (.c (.bool false))), none⟩])
  (.seq (.reg [⟨(some (sl 9)), none, (.call true (.f 10) []), none⟩, ⟨(some (sl 3)), none, (.mv (.s (sl 9))), none⟩])
  (.seq (.reg [⟨(some (sl 10)), none, (.ld true (.s (sl 1)) (some 2)), none⟩, ⟨(some (sl 11)), none, (.call true (.f 15) [(.s (sl 10))]), none⟩, ⟨(some (sl 4)), none, (.mv (.s (sl 11))), none⟩])
  (.seq (.reg [⟨(some (sl 12)), none, (.ld true (.s (sl 1)) (some 2)), none⟩, ⟨(some (sl 13)), none, (.call true (.f 17) [(.s (sl 12))]), none⟩, ⟨(some (sl 5)), none, (.mv (.s (sl 13))), none⟩])
  (.seq (.reg [⟨(some (sl 14)), none, (.ld true (.s (sl 1)) (some 2)), none⟩, ⟨(some (sl 15)), none, (.mksl 2 1 [(.slice none 0 0), (.slice none 0 0)] [(0, 2, (.s (sl 14)))]), none⟩, ⟨(some (sl 16)), none, (.bld [(.bool false), (.slice none 0 0)] [(1, 1, (.s (sl 15)))]), none⟩, ⟨(some (sl 17)), none, (.mksl 2 1 [(.bool false), (.slice none 0 0)] [(0, 2, (.s (sl 16)))]), none⟩, ⟨(some (sl 18)), none, (.call true (.f 20) [(.s (sl 17))]), none⟩, ⟨(some (sl 19)), none, (.bin .eql (.s (sl 18)) (.c (.int .i64 0))), none⟩, ⟨(some (sl 6)), none, (.mv (.s (sl 19))), none⟩])
  (.seq (.seq (.reg [⟨(some (sl 20)), none, (.mv (.s (sl 6))), none⟩, ⟨(some (sl 21)), none, (.not (.s (sl 20))), none⟩])
  (.cond (.s (sl 21))
  (.seq (.reg [⟨(some (sl 22)), none, (.mv (.s (sl 3))), none⟩, ⟨(some (sl 2)), none, (.mv (.s (sl 22))), none⟩])
  .ret)
  .skip))
  (.seq (.seq (.reg [⟨(some (sl 7)), none, (.mv (.c (.int .i64 0))), none⟩])
  (.block 0
  (.loop (.seq (.seq (.reg [⟨(some (sl 23)), none, (.mv (.s (sl 7))), none⟩, ⟨(some (sl 24)), none, (.mv (.s (sl 4))), none⟩, ⟨(some (sl 25)), none, (.len false (.s (sl 24))), none⟩, ⟨(some (sl 26)), none, (.bin .lss (.s (sl 23)) (.s (sl 25))), none⟩])
  (.cond (.s (sl 26))
  .skip
  (.exit 0)))
  (.seq (.block 1
  (.seq (.reg [⟨(some (sl 29)), none, (.mv (.s (sl 5))), none⟩, ⟨(some (sl 30)), none, (.mv (.s (sl 4))), none⟩, ⟨(some (sl 31)), none, (.mv (.s (sl 7))), none⟩, ⟨(some (sl 32)), none, (.idx true (.s (sl 30)) (.s (sl 31)) 1), none⟩, ⟨(some (sl 33)), none, (.ld true (.s (sl 32)) none), none⟩, ⟨(some (sl 34)), none, (.call true (.f 23) [(.s (sl 29)), (.s (sl 33))]), none⟩, ⟨(some (sl 8)), none, (.mv (.s (sl 34))), none⟩])
  (.seq (.reg [⟨(some (sl 35)), none, (.mv (.s (sl 8))), none⟩, ⟨(some (sl 36)), none, (.mv (.s (sl 35))), none⟩, ⟨(some (sl 37)), (some ((sl 36), false)), (.mv (.s (sl 4))), none⟩, ⟨(some (sl 38)), (some ((sl 36), false)), (.mv (.s (sl 7))), none⟩, ⟨(some (sl 39)), (some ((sl 36), false)), (.idx true (.s (sl 37)) (.s (sl 38)) 1), none⟩, ⟨(some (sl 40)), (some ((sl 36), false)), (.ld true (.s (sl 39)) none), none⟩, ⟨(some (sl 41)), (some ((sl 36), false)), (.len true (.s (sl 40))), none⟩, ⟨(some (sl 42)), (some ((sl 36), false)), (.bin .eql (.s (sl 41)) (.c (.int .i64 0))), none⟩, ⟨(some (sl 43)), none, (.pick (.s (sl 36)) (.c (.bool true)) (.s (sl 42))), none⟩])
  (.cond (.s (sl 43))
  (.seq (.reg [⟨(some (sl 2)), none, (.mv (.c (.bool false))), none⟩])
  .ret)
  .skip))))
  (.reg [⟨(some (sl 27)), none, (.mv (.s (sl 7))), none⟩, ⟨(some (sl 28)), none, (.bin .add (.s (sl 27)) (.c (.int .i64 1))), none⟩, ⟨(some (sl 7)), none, (.mv (.s (sl 28))), none⟩]))))))
  (.seq (.reg [⟨(some (sl 44)), none, (.mv (.s (sl 3))), none⟩, ⟨(some (sl 45)), none, (.mv (.s (sl 44))), none⟩, ⟨(some (sl 46)), (some ((sl 45), true)), (.mv (.s (sl 4))), none⟩, ⟨(some (sl 47)), (some ((sl 45), true)), (.len false (.s (sl 46))), none⟩, ⟨(some (sl 48)), (some ((sl 45), true)), (.mv (.s (sl 5))), none⟩, ⟨(some (sl 49)), (some ((sl 45), true)), (.len false (.s (sl 48))), none⟩, ⟨(some (sl 50)), (some ((sl 45), true)), (.bin .add (.s (sl 47)) (.s (sl 49))), none⟩, ⟨(some (sl 51)), (some ((sl 45), true)), (.fld (.s (sl 1)) 0), none⟩, ⟨(some (sl 52)), (some ((sl 45), true)), (.ld true (.s (sl 51)) none), none⟩, ⟨(some (sl 53)), (some ((sl 45), true)), (.len false (.s (sl 52))), none⟩, ⟨(some (sl 54)), (some ((sl 45), true)), (.fld (.s (sl 1)) 1), none⟩, ⟨(some (sl 55)), (some ((sl 45), true)), (.ld true (.s (sl 54)) none), none⟩, ⟨(some (sl 56)), (some ((sl 45), true)), (.len false (.s (sl 55))), none⟩, ⟨(some (sl 57)), (some ((sl 45), true)), (.bin .add (.s (sl 53)) (.s (sl 56))), none⟩, ⟨(some (sl 58)), (some ((sl 45), true)), (.bin .leq (.s (sl 50)) (.s (sl 57))), none⟩, ⟨(some (sl 59)), none, (.pick (.s (sl 45)) (.s (sl 58)) (.c (.bool false))), none⟩, ⟨(some (sl 2)), none, (.mv (.s (sl 59))), none⟩])
  .ret))))))))
def r_marlinelaw08_PickNames : List ARes := [(.tmp (sl 2))]
theorem t_marlinelaw08_PickNames : (Try.f8).body.bind (trCode Try.prog 8 (Try.f8).ntmps [] [] (drOk 8)) = some c_marlinelaw08_PickNames := by kernel_rfl
theorem u_marlinelaw08_PickNames : trRess Try.prog 8 (Try.f8).results.toList = some r_marlinelaw08_PickNames := by kernel_rfl

/-- marline/marlinelaw08.PickObjects -/
def c_marlinelaw08_PickObjects : ACode :=
  (.seq (.reg [⟨(some (sl 2)), none, (.mv (.c (.bool false))), none⟩])
  (.seq (.reg [⟨(some (sl 8)), none, (.call true (.f 10) []), none⟩, ⟨(some (sl 3)), none, (.mv (.s (sl 8))), none⟩])
  (.seq (.reg [⟨(some (sl 4)), none, (.mv (.c (.slice none 0 0))), none⟩])
  (.seq (.seq (.reg [⟨(some (sl 5)), none, (.mv (.c (.int .i64 0))), none⟩])
  (.block 0
  (.loop (.seq (.seq (.reg [⟨(some (sl 9)), none, (.mv (.s (sl 5))), none⟩, ⟨(some (sl 10)), none, (.mv (.s (sl 0))), none⟩, ⟨(some (sl 11)), none, (.len false (.s (sl 10))), none⟩, ⟨(some (sl 12)), none, (.bin .lss (.s (sl 9)) (.s (sl 11))), none⟩])
  (.cond (.s (sl 12))
  .skip
  (.exit 0)))
  (.seq (.block 1
  (.seq (.seq (.reg [⟨(some (sl 15)), none, (.mv (.s (sl 0))), none⟩, ⟨(some (sl 16)), none, (.mv (.s (sl 5))), none⟩, ⟨(some (sl 17)), none, (.idx true (.s (sl 15)) (.s (sl 16)) 2), none⟩, ⟨(some (sl 18)), none, (.fld (.s (sl 17)) 0), none⟩, ⟨(some (sl 19)), none, (.ld true (.s (sl 18)) none), none⟩, ⟨(some (sl 20)), none, (.mv (.s (sl 19))), none⟩, ⟨(some (sl 21)), (some ((sl 20), false)), (.mv (.s (sl 0))), none⟩, ⟨(some (sl 22)), (some ((sl 20), false)), (.mv (.s (sl 5))), none⟩, ⟨(some (sl 23)), (some ((sl 20), false)), (.idx true (.s (sl 21)) (.s (sl 22)) 2), none⟩, ⟨(some (sl 24)), (some ((sl 20), false)), (.fld (.s (sl 23)) 1), none⟩, ⟨(some (sl 25)), (some ((sl 20), false)), (.ld true (.s (sl 24)) none), none⟩, ⟨(some (sl 26)), (some ((sl 20), false)), (.len false (.s (sl 25))), none⟩, ⟨(some (sl 27)), (some ((sl 20), false)), (.bin .neq (.s (sl 26)) (.c (.int .i64 1))), none⟩, ⟨(some (sl 28)), none, (.pick (.s (sl 20)) (.c (.bool true)) (.s (sl 27))), none⟩])
  (.cond (.s (sl 28))
  (.seq (.reg [⟨(some (sl 29)), none, (.mv (.s (sl 3))), none⟩, ⟨(some (sl 2)), none, (.mv (.s (sl 29))), none⟩])
  .ret)
  .skip))
  (.reg [⟨(some (sl 30)), none, (.mv (.s (sl 4))), none⟩, ⟨(some (sl 31)), none, (.mv (.s (sl 0))), none⟩, ⟨(some (sl 32)), none, (.mv (.s (sl 5))), none⟩, ⟨(some (sl 33)), none, (.idx true (.s (sl 31)) (.s (sl 32)) 2), none⟩, ⟨(some (sl 34)), none, (.fld (.s (sl 33)) 1), none⟩, ⟨(some (sl 35)), none, (.ld true (.s (sl 34)) none), none⟩, ⟨(some (sl 36)), none, (.idx true (.s (sl 35)) (.c (.int .i64 0)) 2), none⟩, ⟨(some (sl 37)), none, (.ld true (.s (sl 36)) (some 2)), none⟩, ⟨(some (sl 38)), none, (.mksl 2 1 [(.slice none 0 0), (.slice none 0 0)] [(0, 2, (.s (sl 37)))]), none⟩, ⟨(some (sl 39)), none, (.app 25 2 48 (.s (sl 30)) (.s (sl 38))), none⟩, ⟨(some (sl 4)), none, (.mv (.s (sl 39))), none⟩])))
  (.reg [⟨(some (sl 13)), none, (.mv (.s (sl 5))), none⟩, ⟨(some (sl 14)), none, (.bin .add (.s (sl 13)) (.c (.int .i64 1))), none⟩, ⟨(some (sl 5)), none, (.mv (.s (sl 14))), none⟩]))))))
  (.seq (.reg [⟨(some (sl 41)), none, (.mv (.s (sl 0))), none⟩, ⟨(some (sl 42)), none, (.call true (.f 11) [(.s (sl 41))]), none⟩, ⟨(some (sl 40)), none, (.mv (.s (sl 42))), none⟩, ⟨(some (sl 43)), none, (.ext (.s (sl 40)) 0), none⟩, ⟨(some (sl 44)), none, (.ext (.s (sl 40)) 1), none⟩, ⟨(some (sl 6)), none, (.mv (.s (sl 43))), none⟩, ⟨(some (sl 7)), none, (.mv (.s (sl 44))), none⟩])
  (.seq (.reg [⟨(some (sl 45)), none, (.mv (.s (sl 3))), none⟩, ⟨(some (sl 46)), none, (.mv (.s (sl 45))), none⟩, ⟨(some (sl 47)), (some ((sl 46), true)), (.mv (.s (sl 7))), none⟩, ⟨(some (sl 48)), (some ((sl 46), true)), (.bin .neq (.s (sl 47)) (.c (.int .i64 0))), none⟩, ⟨(some (sl 49)), (some ((sl 46), true)), (.mv (.s (sl 48))), none⟩, ⟨(some (sl 50)), (some ((sl 49), false)), (.mv (.s (sl 6))), none⟩, ⟨(some (sl 51)), (some ((sl 49), false)), (.mv (.s (sl 4))), none⟩, ⟨(some (sl 52)), (some ((sl 49), false)), (.call false (.f 13) [(.s (sl 50)), (.s (sl 51))]), none⟩, ⟨(some (sl 53)), (some ((sl 46), true)), (.pick (.s (sl 49)) (.c (.bool true)) (.s (sl 52))), none⟩, ⟨(some (sl 54)), none, (.pick (.s (sl 46)) (.s (sl 53)) (.c (.bool false))), none⟩, ⟨(some (sl 2)), none, (.mv (.s (sl 54))), none⟩])
  .ret))))))
def r_marlinelaw08_PickObjects : List ARes := [(.tmp (sl 2))]
theorem t_marlinelaw08_PickObjects : (Try.f9).body.bind (trCode Try.prog 8 (Try.f9).ntmps [4, 30, 39, 51] [] (drOk 8)) = some c_marlinelaw08_PickObjects := by kernel_rfl
theorem u_marlinelaw08_PickObjects : trRess Try.prog 8 (Try.f9).results.toList = some r_marlinelaw08_PickObjects := by kernel_rfl

end Go.Proofs.Ytkpjokhiobclbaa
