/- The bodies of some functions, as the evaluator has them (printed by program), and that they are the program's own. -/
import Derived.Test.YtndpejmebhcaaaaKE
namespace Go.Proofs.Ytndpejmebhcaaaa
open Go.RowKit

/-- marline/inline.Module -/
def c_inline_Module : ACode :=
  (.seq (.reg [⟨(some (sl 2)), none, (.box true (.s (sl 0))), none⟩, ⟨(some (sl 4)), none, (.new [(.slice none 0 0), (.slice none 0 0)]), none⟩])
  (.seq (.seq (.reg [⟨(some (sl 10)), none, (.ld true (.s (sl 2)) (some 2)), none⟩, ⟨(some (sl 11)), none, (.call true (.f 52) [(.s (sl 10))]), none⟩, ⟨(some (sl 12)), none, (.bin .neq (.s (sl 11)) (.c (.int .i64 0))), none⟩])
  (.cond (.s (sl 12))
  (.seq (.reg [⟨(some (sl 13)), none, (.ld true (.s (sl 2)) (some 2)), none⟩, ⟨none, none, (.st (.s (sl 4)) (.s (sl 13)) 2), none⟩])
  .ret)
  .skip))
  (.seq (.reg [⟨(some (sl 14)), none, (.ld true (.s (sl 2)) (some 2)), none⟩, ⟨(some (sl 5)), none, (.new [(.slice none 0 0), (.slice none 0 0)]), none⟩, ⟨none, none, (.ini 1 (.s (sl 5)) (.s (sl 14)) 2), none⟩])
  (.seq (.reg [⟨(some (sl 15)), none, (.fld (.s (sl 2)) 0), none⟩, ⟨(some (sl 16)), none, (.ld true (.s (sl 15)) none), none⟩, ⟨(some (sl 17)), none, (.callv 31 4 (.f 53) [(.s (sl 16))]), none⟩, ⟨(some (sl 18)), none, (.fld (.s (sl 5)) 0), none⟩, ⟨none, none, (.st (.s (sl 18)) (.s (sl 17)) 1), none⟩])
  (.seq (.seq (.reg [⟨(some (sl 19)), none, (.fld (.s (sl 2)) 0), none⟩, ⟨(some (sl 20)), none, (.ld true (.s (sl 19)) none), none⟩, ⟨(some (sl 21)), none, (.len false (.s (sl 20))), none⟩, ⟨(some (sl 22)), none, (.mv (.c (.int .i64 0))), none⟩])
  (.block 0
  (.loop (.seq (.reg [⟨(some (sl 23)), none, (.bin .lss (.s (sl 22)) (.s (sl 21))), none⟩])
  (.seq (.cond (.s (sl 23))
  .skip
  (.exit 0))
  (.seq (.block 1
  (.seq (.seq (.reg [⟨(some (sl 24)), none, (.mv (.s (sl 22))), none⟩, ⟨(some (sl 25)), none, (.idx true (.s (sl 20)) (.s (sl 22)) 4), none⟩, ⟨(some (sl 26)), none, (.ld true (.s (sl 25)) (some 4)), none⟩, ⟨(some (sl 7)), none, (.new [(.string ⟨#[]⟩), (.int .i64 0), (.int .i64 0), (.slice none 0 0)]), none⟩, ⟨(some (sl 6)), none, (.mv (.s (sl 24))), none⟩, ⟨none, none, (.ini 2 (.s (sl 7)) (.s (sl 26)) 4), none⟩])
  (.frz (sl 7)))
  (.seq (.reg [⟨(some (sl 27)), none, (.fld (.s (sl 5)) 0), none⟩, ⟨(some (sl 28)), none, (.ld false (.s (sl 27)) none), none⟩, ⟨(some (sl 29)), none, (.mv (.s (sl 6))), none⟩, ⟨(some (sl 30)), none, (.idx false (.s (sl 28)) (.s (sl 29)) 4), none⟩, ⟨(some (sl 31)), none, (.fld (.s (sl 30)) 3), none⟩, ⟨none, none, (.st (.s (sl 31)) (.c (.slice none 0 0)) 1), none⟩])
  (.seq (.reg [⟨(some (sl 32)), none, (.fld (.s (sl 7)) 3), none⟩, ⟨(some (sl 33)), none, (.ld true (.s (sl 32)) none), none⟩, ⟨(some (sl 34)), none, (.len false (.s (sl 33))), none⟩, ⟨(some (sl 35)), none, (.mv (.c (.int .i64 0))), none⟩])
  (.block 2
  (.loop (.seq (.reg [⟨(some (sl 36)), none, (.bin .lss (.s (sl 35)) (.s (sl 34))), none⟩])
  (.seq (.cond (.s (sl 36))
  .skip
  (.exit 2))
  (.seq (.block 3
  (.seq (.seq (.reg [⟨(some (sl 37)), none, (.idx true (.s (sl 33)) (.s (sl 35)) 8), none⟩, ⟨(some (sl 38)), none, (.ld true (.s (sl 37)) (some 8)), none⟩, ⟨(some (sl 9)), none, (.new [(.int .i64 0), (.slice none 0 0), (.int .i64 0), (.int .i64 0), (.int .i64 0), (.slice none 0 0), (.int .i64 0), (.slice none 0 0)]), none⟩, ⟨none, none, (.ini 1 (.s (sl 9)) (.s (sl 38)) 8), none⟩])
  (.frz (sl 9)))
  (.reg [⟨(some (sl 39)), none, (.fld (.s (sl 5)) 0), (some (0, [[]]))⟩, ⟨(some (sl 40)), none, (.ld false (.s (sl 39)) none), (some (1, [[]]))⟩, ⟨(some (sl 41)), none, (.mv (.s (sl 6))), (some (2, [[]]))⟩, ⟨(some (sl 42)), none, (.fld (.s (sl 5)) 0), (some (3, [[]]))⟩, ⟨(some (sl 43)), none, (.ld false (.s (sl 42)) none), (some (4, [[]]))⟩, ⟨(some (sl 44)), none, (.mv (.s (sl 6))), (some (5, [[]]))⟩, ⟨(some (sl 45)), none, (.idx false (.s (sl 43)) (.s (sl 44)) 4), (some (6, [[]]))⟩, ⟨(some (sl 46)), none, (.fld (.s (sl 45)) 3), (some (7, [[]]))⟩, ⟨(some (sl 47)), none, (.ld false (.s (sl 46)) none), (some (8, [[]]))⟩, ⟨(some (sl 48)), none, (.ld true (.s (sl 9)) (some 8)), (some (9, [[]]))⟩, ⟨(some (sl 49)), none, (.ld true (.s (sl 2)) (some 2)), (some (10, [[]]))⟩, ⟨(some (sl 50)), none, (.mv (.s (sl 1))), (some (11, [[]]))⟩, ⟨(some (sl 51)), none, (.call true (.f 23) [(.s (sl 48)), (.s (sl 49)), (.s (sl 50))]), (some (12, [[]]))⟩, ⟨(some (sl 52)), none, (.mksl 8 1 [(.int .i64 0), (.slice none 0 0), (.int .i64 0), (.int .i64 0), (.int .i64 0), (.slice none 0 0), (.int .i64 0), (.slice none 0 0)] [(0, 8, (.s (sl 51)))]), (some (13, [[]]))⟩, ⟨(some (sl 53)), none, (.app 38 8 112 (.s (sl 47)) (.s (sl 52))), (some (14, [[]]))⟩, ⟨(some (sl 54)), none, (.idx false (.s (sl 40)) (.s (sl 41)) 4), (some (15, [[]]))⟩, ⟨(some (sl 55)), none, (.fld (.s (sl 54)) 3), (some (16, [[]]))⟩, ⟨none, none, (.st (.s (sl 55)) (.s (sl 53)) 1), (some (17, [[]]))⟩])))
  (.reg [⟨(some (sl 56)), none, (.bin .add (.s (sl 35)) (.c (.int .i64 1))), none⟩, ⟨(some (sl 35)), none, (.mv (.s (sl 56))), none⟩]))))))))))
  (.reg [⟨(some (sl 57)), none, (.bin .add (.s (sl 22)) (.c (.int .i64 1))), none⟩, ⟨(some (sl 22)), none, (.mv (.s (sl 57))), none⟩])))))))
  (.seq (.reg [⟨(some (sl 58)), none, (.ld false (.s (sl 5)) (some 2)), none⟩, ⟨none, none, (.st (.s (sl 4)) (.s (sl 58)) 2), none⟩])
  .ret))))))
def r_inline_Module : List ARes := [(.cell (sl 4) (some 2))]
theorem t_inline_Module : (Try.f26).body.bind (trCode Try.prog 8 (Try.f26).ntmps [4, 5, 17, 18, 27, 28, 30, 31, 39, 40, 42, 43, 45, 46, 47, 53, 54, 55, 58] [(53, 31, 1004), (4000008, 0, 1)] (drOk 8)) = some c_inline_Module := by kernel_rfl
theorem u_inline_Module : trRess Try.prog 8 (Try.f26).results.toList = some r_inline_Module := by kernel_rfl

/-- marline/marlineref14.Module -/
def c_marlineref14_Module : ACode :=
  (.seq (.reg [⟨(some (sl 2)), none, (.box true (.s (sl 0))), none⟩, ⟨(some (sl 4)), none, (.new [(.slice none 0 0), (.slice none 0 0)]), none⟩])
  (.seq (.seq (.reg [⟨(some (sl 10)), none, (.ld true (.s (sl 2)) (some 2)), none⟩, ⟨(some (sl 11)), none, (.call true (.f 19) [(.s (sl 10))]), none⟩, ⟨(some (sl 12)), none, (.bin .neq (.s (sl 11)) (.c (.int .i64 0))), none⟩])
  (.cond (.s (sl 12))
  (.seq (.reg [⟨(some (sl 13)), none, (.ld true (.s (sl 2)) (some 2)), none⟩, ⟨none, none, (.st (.s (sl 4)) (.s (sl 13)) 2), none⟩])
  .ret)
  .skip))
  (.seq (.reg [⟨(some (sl 14)), none, (.fld (.s (sl 2)) 1), none⟩, ⟨(some (sl 15)), none, (.ld true (.s (sl 14)) none), none⟩, ⟨(some (sl 16)), none, (.bld [(.slice none 0 0), (.slice none 0 0)] [(1, 1, (.s (sl 15)))]), none⟩, ⟨(some (sl 5)), none, (.new [(.slice none 0 0), (.slice none 0 0)]), none⟩, ⟨none, none, (.ini 1 (.s (sl 5)) (.s (sl 16)) 2), none⟩])
  (.seq (.seq (.reg [⟨(some (sl 6)), none, (.mv (.c (.int .i64 0))), none⟩])
  (.block 0
  (.loop (.seq (.seq (.reg [⟨(some (sl 17)), none, (.mv (.s (sl 6))), none⟩, ⟨(some (sl 18)), none, (.fld (.s (sl 2)) 0), none⟩, ⟨(some (sl 19)), none, (.ld true (.s (sl 18)) none), none⟩, ⟨(some (sl 20)), none, (.len false (.s (sl 19))), none⟩, ⟨(some (sl 21)), none, (.bin .lss (.s (sl 17)) (.s (sl 20))), none⟩])
  (.cond (.s (sl 21))
  .skip
  (.exit 0)))
  (.seq (.block 1
  (.seq (.seq (.reg [⟨(some (sl 24)), none, (.fld (.s (sl 2)) 0), none⟩, ⟨(some (sl 25)), none, (.ld true (.s (sl 24)) none), none⟩, ⟨(some (sl 26)), none, (.mv (.s (sl 6))), none⟩, ⟨(some (sl 27)), none, (.idx true (.s (sl 25)) (.s (sl 26)) 4), none⟩, ⟨(some (sl 28)), none, (.ld true (.s (sl 27)) (some 4)), none⟩, ⟨(some (sl 7)), none, (.new [(.string ⟨#[]⟩), (.int .i64 0), (.int .i64 0), (.slice none 0 0)]), none⟩, ⟨none, none, (.ini 1 (.s (sl 7)) (.s (sl 28)) 4), none⟩])
  (.frz (sl 7)))
  (.seq (.reg [⟨(some (sl 29)), none, (.fld (.s (sl 7)) 0), none⟩, ⟨(some (sl 30)), none, (.ld true (.s (sl 29)) none), none⟩, ⟨(some (sl 31)), none, (.fld (.s (sl 7)) 1), none⟩, ⟨(some (sl 32)), none, (.ld true (.s (sl 31)) none), none⟩, ⟨(some (sl 33)), none, (.fld (.s (sl 7)) 2), none⟩, ⟨(some (sl 34)), none, (.ld true (.s (sl 33)) none), none⟩, ⟨(some (sl 35)), none, (.bld [(.string ⟨#[]⟩), (.int .i64 0), (.int .i64 0), (.slice none 0 0)] [(0, 1, (.s (sl 30))), (1, 1, (.s (sl 32))), (2, 1, (.s (sl 34)))]), none⟩, ⟨(some (sl 8)), none, (.new [(.string ⟨#[]⟩), (.int .i64 0), (.int .i64 0), (.slice none 0 0)]), none⟩, ⟨none, none, (.ini 1 (.s (sl 8)) (.s (sl 35)) 4), none⟩])
  (.seq (.seq (.reg [⟨(some (sl 9)), none, (.mv (.c (.int .i64 0))), none⟩])
  (.block 2
  (.loop (.seq (.seq (.reg [⟨(some (sl 36)), none, (.mv (.s (sl 9))), none⟩, ⟨(some (sl 37)), none, (.fld (.s (sl 7)) 3), none⟩, ⟨(some (sl 38)), none, (.ld true (.s (sl 37)) none), none⟩, ⟨(some (sl 39)), none, (.len false (.s (sl 38))), none⟩, ⟨(some (sl 40)), none, (.bin .lss (.s (sl 36)) (.s (sl 39))), none⟩])
  (.cond (.s (sl 40))
  .skip
  (.exit 2)))
  (.seq (.block 3
  (.reg [⟨(some (sl 43)), none, (.fld (.s (sl 8)) 3), (some (0, []))⟩, ⟨(some (sl 44)), none, (.ld false (.s (sl 43)) none), (some (1, []))⟩, ⟨(some (sl 45)), none, (.fld (.s (sl 7)) 3), (some (2, []))⟩, ⟨(some (sl 46)), none, (.ld true (.s (sl 45)) none), (some (3, []))⟩, ⟨(some (sl 47)), none, (.mv (.s (sl 9))), (some (4, []))⟩, ⟨(some (sl 48)), none, (.idx true (.s (sl 46)) (.s (sl 47)) 8), (some (5, []))⟩, ⟨(some (sl 49)), none, (.ld true (.s (sl 48)) (some 8)), (some (6, []))⟩, ⟨(some (sl 50)), none, (.ld true (.s (sl 2)) (some 2)), (some (7, []))⟩, ⟨(some (sl 51)), none, (.mv (.s (sl 1))), (some (8, []))⟩, ⟨(some (sl 52)), none, (.call true (.f 24) [(.s (sl 49)), (.s (sl 50)), (.s (sl 51))]), (some (9, []))⟩, ⟨(some (sl 53)), none, (.mksl 8 1 [(.int .i64 0), (.slice none 0 0), (.int .i64 0), (.int .i64 0), (.int .i64 0), (.slice none 0 0), (.int .i64 0), (.slice none 0 0)] [(0, 8, (.s (sl 52)))]), (some (10, []))⟩, ⟨(some (sl 54)), none, (.app 38 8 112 (.s (sl 44)) (.s (sl 53))), (some (11, []))⟩, ⟨(some (sl 55)), none, (.fld (.s (sl 8)) 3), (some (12, []))⟩, ⟨none, none, (.st (.s (sl 55)) (.s (sl 54)) 1), (some (13, []))⟩]))
  (.reg [⟨(some (sl 41)), none, (.mv (.s (sl 9))), none⟩, ⟨(some (sl 42)), none, (.bin .add (.s (sl 41)) (.c (.int .i64 1))), none⟩, ⟨(some (sl 9)), none, (.mv (.s (sl 42))), none⟩]))))))
  (.seq (.frz (sl 8))
  (.reg [⟨(some (sl 56)), none, (.fld (.s (sl 5)) 0), none⟩, ⟨(some (sl 57)), none, (.ld false (.s (sl 56)) none), none⟩, ⟨(some (sl 58)), none, (.ld false (.s (sl 8)) (some 4)), none⟩, ⟨(some (sl 59)), none, (.mksl 4 1 [(.string ⟨#[]⟩), (.int .i64 0), (.int .i64 0), (.slice none 0 0)] [(0, 4, (.s (sl 58)))]), none⟩, ⟨(some (sl 60)), none, (.app 31 4 56 (.s (sl 57)) (.s (sl 59))), none⟩, ⟨(some (sl 61)), none, (.fld (.s (sl 5)) 0), none⟩, ⟨none, none, (.st (.s (sl 61)) (.s (sl 60)) 1), none⟩]))))))
  (.reg [⟨(some (sl 22)), none, (.mv (.s (sl 6))), none⟩, ⟨(some (sl 23)), none, (.bin .add (.s (sl 22)) (.c (.int .i64 1))), none⟩, ⟨(some (sl 6)), none, (.mv (.s (sl 23))), none⟩]))))))
  (.seq (.reg [⟨(some (sl 62)), none, (.ld false (.s (sl 5)) (some 2)), none⟩, ⟨none, none, (.st (.s (sl 4)) (.s (sl 62)) 2), none⟩])
  .ret)))))
def r_marlineref14_Module : List ARes := [(.cell (sl 4) (some 2))]
theorem t_marlineref14_Module : (Try.f27).body.bind (trCode Try.prog 8 (Try.f27).ntmps [4, 5, 8, 43, 44, 54, 55, 56, 57, 58, 59, 60, 61, 62] [(53, 31, 1004), (4000008, 0, 1)] (drOk 8)) = some c_marlineref14_Module := by kernel_rfl
theorem u_marlineref14_Module : trRess Try.prog 8 (Try.f27).results.toList = some r_marlineref14_Module := by kernel_rfl

end Go.Proofs.Ytndpejmebhcaaaa
