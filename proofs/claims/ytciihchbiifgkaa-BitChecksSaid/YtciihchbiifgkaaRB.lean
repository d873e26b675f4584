/- Some texts of one kind, one behind the other. -/
import Derived.Test.YtciihchbiifgkaaKE
/- The bodies of some functions, as the evaluator has them (printed by program), and that they are the program's own. -/
namespace Go.Proofs.Ytciihchbiifgkaa
open Go.RowKit

def r_reach_find : List ARes := [(.cell (sl 4) (some 4)), (.tmp (sl 5))]
/-- marline/reach.find$1 -/
def c_reach_find_1 : ACode :=
  (.seq (.reg [⟨(some (sl 2)), none, (.box true (.s (sl 0))), none⟩, ⟨(some (sl 3)), none, (.mv (.c (.bool false))), none⟩])
  (.seq (.reg [⟨(some (sl 4)), none, (.fld (.s (sl 2)) 0), none⟩, ⟨(some (sl 5)), none, (.ld true (.s (sl 4)) none), none⟩, ⟨(some (sl 6)), none, (.ld true (.s (sl 1)) none), none⟩, ⟨(some (sl 7)), none, (.bin .eql (.s (sl 5)) (.s (sl 6))), none⟩, ⟨(some (sl 3)), none, (.mv (.s (sl 7))), none⟩])
  .ret))
def r_reach_find_1 : List ARes := [(.tmp (sl 3))]
def r_slices_Contains___string_string_ : List ARes := [(.tmp (sl 4))]
/-- slices.Index[[]string,string] -/
def c_slices_Index___string_string_ : ACode :=
  (.seq (.reg [⟨(some (sl 4)), none, (.mv (.c (.int .i64 0))), none⟩])
  (.seq (.seq (.reg [⟨(some (sl 6)), none, (.mv (.s (sl 0))), none⟩, ⟨(some (sl 7)), none, (.len false (.s (sl 6))), none⟩, ⟨(some (sl 8)), none, (.mv (.c (.int .i64 0))), none⟩])
  (.block 0
  (.loop (.seq (.reg [⟨(some (sl 9)), none, (.bin .lss (.s (sl 8)) (.s (sl 7))), none⟩])
  (.seq (.cond (.s (sl 9))
  .skip
  (.exit 0))
  (.seq (.block 1
  (.seq (.reg [⟨(some (sl 10)), none, (.mv (.s (sl 8))), none⟩, ⟨(some (sl 5)), none, (.mv (.s (sl 10))), none⟩])
  (.seq (.reg [⟨(some (sl 11)), none, (.mv (.s (sl 1))), none⟩, ⟨(some (sl 12)), none, (.mv (.s (sl 0))), none⟩, ⟨(some (sl 13)), none, (.mv (.s (sl 5))), none⟩, ⟨(some (sl 14)), none, (.idx true (.s (sl 12)) (.s (sl 13)) 1), none⟩, ⟨(some (sl 15)), none, (.ld true (.s (sl 14)) none), none⟩, ⟨(some (sl 16)), none, (.bin .eql (.s (sl 11)) (.s (sl 15))), none⟩])
  (.cond (.s (sl 16))
  (.seq (.reg [⟨(some (sl 17)), none, (.mv (.s (sl 5))), none⟩, ⟨(some (sl 4)), none, (.mv (.s (sl 17))), none⟩])
  .ret)
  .skip))))
  (.reg [⟨(some (sl 18)), none, (.bin .add (.s (sl 8)) (.c (.int .i64 1))), none⟩, ⟨(some (sl 8)), none, (.mv (.s (sl 18))), none⟩])))))))
  (.seq (.reg [⟨(some (sl 4)), none, (.mv (.c (.int .i64 (-1)))), none⟩])
  .ret)))
def r_slices_Index___string_string_ : List ARes := [(.tmp (sl 4))]
/-- marline/reach.Roots -/
def c_reach_Roots : ACode :=
  (.seq (.reg [⟨(some (sl 1)), none, (.box true (.s (sl 0))), none⟩, ⟨(some (sl 2)), none, (.mv (.c (.slice none 0 0))), none⟩])
  (.seq (.reg [⟨(some (sl 3)), none, (.mv (.c (.slice none 0 0))), none⟩])
  (.seq (.seq (.reg [⟨(some (sl 8)), none, (.fld (.s (sl 1)) 0), none⟩, ⟨(some (sl 9)), none, (.ld true (.s (sl 8)) none), none⟩, ⟨(some (sl 10)), none, (.len false (.s (sl 9))), none⟩, ⟨(some (sl 11)), none, (.mv (.c (.int .i64 0))), none⟩])
  (.block 0
  (.loop (.seq (.reg [⟨(some (sl 12)), none, (.bin .lss (.s (sl 11)) (.s (sl 10))), none⟩])
  (.seq (.cond (.s (sl 12))
  .skip
  (.exit 0))
  (.seq (.block 1
  (.seq (.seq (.reg [⟨(some (sl 13)), none, (.idx true (.s (sl 9)) (.s (sl 11)) 4), none⟩, ⟨(some (sl 14)), none, (.ld true (.s (sl 13)) (some 4)), none⟩, ⟨(some (sl 5)), none, (.new [(.string ⟨#[]⟩), (.int .i64 0), (.int .i64 0), (.slice none 0 0)]), none⟩, ⟨none, none, (.ini 1 (.s (sl 5)) (.s (sl 14)) 4), none⟩])
  (.frz (sl 5)))
  (.seq (.reg [⟨(some (sl 15)), none, (.fld (.s (sl 5)) 1), none⟩, ⟨(some (sl 16)), none, (.ld true (.s (sl 15)) none), none⟩, ⟨(some (sl 17)), none, (.bin .eql (.s (sl 16)) (.c (.int .i64 2))), none⟩, ⟨(some (sl 18)), none, (.mv (.s (sl 17))), none⟩, ⟨(some (sl 19)), (some ((sl 18), false)), (.fld (.s (sl 5)) 0), none⟩, ⟨(some (sl 20)), (some ((sl 18), false)), (.ld true (.s (sl 19)) none), none⟩, ⟨(some (sl 21)), (some ((sl 18), false)), (.bin .eql (.s (sl 20)) (.c (.string ⟨#[109, 97, 105, 110]⟩))), none⟩, ⟨(some (sl 22)), none, (.pick (.s (sl 18)) (.c (.bool true)) (.s (sl 21))), none⟩])
  (.cond (.s (sl 22))
  (.reg [⟨(some (sl 23)), none, (.mv (.s (sl 3))), none⟩, ⟨(some (sl 24)), none, (.fld (.s (sl 5)) 0), none⟩, ⟨(some (sl 25)), none, (.ld true (.s (sl 24)) none), none⟩, ⟨(some (sl 26)), none, (.mksl 1 1 [(.string ⟨#[]⟩)] [(0, 1, (.s (sl 25)))]), none⟩, ⟨(some (sl 27)), none, (.app 9 1 16 (.s (sl 23)) (.s (sl 26))), none⟩, ⟨(some (sl 3)), none, (.mv (.s (sl 27))), none⟩])
  .skip))))
  (.reg [⟨(some (sl 28)), none, (.bin .add (.s (sl 11)) (.c (.int .i64 1))), none⟩, ⟨(some (sl 11)), none, (.mv (.s (sl 28))), none⟩])))))))
  (.seq (.seq (.reg [⟨(some (sl 29)), none, (.fld (.s (sl 1)) 1), none⟩, ⟨(some (sl 30)), none, (.ld true (.s (sl 29)) none), none⟩, ⟨(some (sl 31)), none, (.len false (.s (sl 30))), none⟩, ⟨(some (sl 32)), none, (.mv (.c (.int .i64 0))), none⟩])
  (.block 2
  (.loop (.seq (.reg [⟨(some (sl 33)), none, (.bin .lss (.s (sl 32)) (.s (sl 31))), none⟩])
  (.seq (.cond (.s (sl 33))
  .skip
  (.exit 2))
  (.seq (.block 3
  (.seq (.seq (.reg [⟨(some (sl 34)), none, (.idx true (.s (sl 30)) (.s (sl 32)) 4), none⟩, ⟨(some (sl 35)), none, (.ld true (.s (sl 34)) (some 4)), none⟩, ⟨(some (sl 7)), none, (.new [(.string ⟨#[]⟩), (.int .i64 0), (.bool false), (.int .u64 0)]), none⟩, ⟨none, none, (.ini 1 (.s (sl 7)) (.s (sl 35)) 4), none⟩])
  (.frz (sl 7)))
  (.seq (.reg [⟨(some (sl 36)), none, (.fld (.s (sl 7)) 1), none⟩, ⟨(some (sl 37)), none, (.ld true (.s (sl 36)) none), none⟩, ⟨(some (sl 38)), none, (.bin .eql (.s (sl 37)) (.c (.int .i64 2))), none⟩])
  (.cond (.s (sl 38))
  (.reg [⟨(some (sl 39)), none, (.mv (.s (sl 3))), none⟩, ⟨(some (sl 40)), none, (.fld (.s (sl 7)) 0), none⟩, ⟨(some (sl 41)), none, (.ld true (.s (sl 40)) none), none⟩, ⟨(some (sl 42)), none, (.mksl 1 1 [(.string ⟨#[]⟩)] [(0, 1, (.s (sl 41)))]), none⟩, ⟨(some (sl 43)), none, (.app 9 1 16 (.s (sl 39)) (.s (sl 42))), none⟩, ⟨(some (sl 3)), none, (.mv (.s (sl 43))), none⟩])
  .skip))))
  (.reg [⟨(some (sl 44)), none, (.bin .add (.s (sl 32)) (.c (.int .i64 1))), none⟩, ⟨(some (sl 32)), none, (.mv (.s (sl 44))), none⟩])))))))
  (.seq (.reg [⟨(some (sl 45)), none, (.mv (.s (sl 3))), none⟩, ⟨(some (sl 2)), none, (.mv (.s (sl 45))), none⟩])
  .ret)))))
def r_reach_Roots : List ARes := [(.tmp (sl 2))]
/-- marline/marlineref08.Has -/
def c_marlineref08_Has : ACode :=
  (.seq (.reg [⟨(some (sl 4)), none, (.mv (.c (.bool false))), none⟩])
  (.seq (.seq (.reg [⟨(some (sl 5)), none, (.mv (.c (.int .i64 0))), none⟩])
  (.block 0
  (.loop (.seq (.seq (.reg [⟨(some (sl 6)), none, (.mv (.s (sl 5))), none⟩, ⟨(some (sl 7)), none, (.mv (.s (sl 0))), none⟩, ⟨(some (sl 8)), none, (.len false (.s (sl 7))), none⟩, ⟨(some (sl 9)), none, (.bin .lss (.s (sl 6)) (.s (sl 8))), none⟩])
  (.cond (.s (sl 9))
  .skip
  (.exit 0)))
  (.seq (.block 1
  (.seq (.reg [⟨(some (sl 12)), none, (.mv (.s (sl 0))), none⟩, ⟨(some (sl 13)), none, (.mv (.s (sl 5))), none⟩, ⟨(some (sl 14)), none, (.idx true (.s (sl 12)) (.s (sl 13)) 1), none⟩, ⟨(some (sl 15)), none, (.ld true (.s (sl 14)) none), none⟩, ⟨(some (sl 16)), none, (.mv (.s (sl 1))), none⟩, ⟨(some (sl 17)), none, (.bin .eql (.s (sl 15)) (.s (sl 16))), none⟩])
  (.cond (.s (sl 17))
  (.seq (.reg [⟨(some (sl 4)), none, (.mv (.c (.bool true))), none⟩])
  .ret)
  .skip)))
  (.reg [⟨(some (sl 10)), none, (.mv (.s (sl 5))), none⟩, ⟨(some (sl 11)), none, (.bin .add (.s (sl 10)) (.c (.int .i64 1))), none⟩, ⟨(some (sl 5)), none, (.mv (.s (sl 11))), none⟩]))))))
  (.seq (.reg [⟨(some (sl 4)), none, (.mv (.c (.bool false))), none⟩])
  .ret)))
def r_marlineref08_Has : List ARes := [(.tmp (sl 4))]
def r_reach_Calls : List ARes := [(.tmp (sl 4))]
/-- slices.IndexFunc[[]string,string] -/
def c_slices_IndexFunc___string_string_ : ACode :=
  (.seq (.reg [⟨(some (sl 4)), none, (.mv (.c (.int .i64 0))), none⟩])
  (.seq (.seq (.reg [⟨(some (sl 6)), none, (.mv (.s (sl 0))), none⟩, ⟨(some (sl 7)), none, (.len false (.s (sl 6))), none⟩, ⟨(some (sl 8)), none, (.mv (.c (.int .i64 0))), none⟩])
  (.block 0
  (.loop (.seq (.reg [⟨(some (sl 9)), none, (.bin .lss (.s (sl 8)) (.s (sl 7))), none⟩])
  (.seq (.cond (.s (sl 9))
  .skip
  (.exit 0))
  (.seq (.block 1
  (.seq (.reg [⟨(some (sl 10)), none, (.mv (.s (sl 8))), none⟩, ⟨(some (sl 5)), none, (.mv (.s (sl 10))), none⟩])
  (.seq (.reg [⟨(some (sl 11)), none, (.mv (.s (sl 1))), none⟩, ⟨(some (sl 12)), none, (.mv (.s (sl 0))), none⟩, ⟨(some (sl 13)), none, (.mv (.s (sl 5))), none⟩, ⟨(some (sl 14)), none, (.idx true (.s (sl 12)) (.s (sl 13)) 1), none⟩, ⟨(some (sl 15)), none, (.ld true (.s (sl 14)) none), none⟩, ⟨(some (sl 16)), none, (.call true (.s (sl 11)) [(.s (sl 15))]), none⟩])
  (.cond (.s (sl 16))
  (.seq (.reg [⟨(some (sl 17)), none, (.mv (.s (sl 5))), none⟩, ⟨(some (sl 4)), none, (.mv (.s (sl 17))), none⟩])
  .ret)
  .skip))))
  (.reg [⟨(some (sl 18)), none, (.bin .add (.s (sl 8)) (.c (.int .i64 1))), none⟩, ⟨(some (sl 8)), none, (.mv (.s (sl 18))), none⟩])))))))
  (.seq (.reg [⟨(some (sl 4)), none, (.mv (.c (.int .i64 (-1)))), none⟩])
  .ret)))
def r_slices_IndexFunc___string_string_ : List ARes := [(.tmp (sl 4))]
def r_marlineref11_Calls : List ARes := [(.tmp (sl 4))]
def r_marlineref11_From : List ARes := [(.tmp (sl 4))]
def r_marlineref11_refs : List ARes := [(.tmp (sl 4))]
/-- marline/marlinelaw11.few -/
def c_marlinelaw11_few : ACode :=
  (.seq (.reg [⟨(some (sl 1)), none, (.box true (.s (sl 0))), none⟩, ⟨(some (sl 2)), none, (.mv (.c (.bool false))), none⟩])
  (.seq (.reg [⟨(some (sl 3)), none, (.fld (.s (sl 1)) 0), none⟩, ⟨(some (sl 4)), none, (.ld true (.s (sl 3)) none), none⟩, ⟨(some (sl 5)), none, (.len false (.s (sl 4))), none⟩, ⟨(some (sl 6)), none, (.fld (.s (sl 1)) 1), none⟩, ⟨(some (sl 7)), none, (.ld true (.s (sl 6)) none), none⟩, ⟨(some (sl 8)), none, (.len false (.s (sl 7))), none⟩, ⟨(some (sl 9)), none, (.bin .add (.s (sl 5)) (.s (sl 8))), none⟩, ⟨(some (sl 10)), none, (.bin .leq (.s (sl 9)) (.c (.int .i64 40))), none⟩, ⟨(some (sl 2)), none, (.mv (.s (sl 10))), none⟩])
  .ret))
def r_marlinelaw11_few : List ARes := [(.tmp (sl 2))]
/-- marline/marlinelaw11.fun -/
def c_marlinelaw11_fun : ACode :=
  (.seq (.reg [⟨(some (sl 6)), none, (.new [(.string ⟨#[]⟩), (.int .i64 0), (.int .i64 0), (.slice none 0 0)]), none⟩])
  (.seq (.seq (.reg [⟨(some (sl 8)), none, (.bld [(.int .i64 0), (.int .i64 0), (.int .i64 0), (.int .u64 0), (.string ⟨#[]⟩), (.slice none 0 0)] [(0, 1, (.c (.int .i64 1)))]), none⟩, ⟨(some (sl 9)), none, (.mksl 6 1 [(.int .i64 0), (.int .i64 0), (.int .i64 0), (.int .u64 0), (.string ⟨#[]⟩), (.slice none 0 0)] [(0, 6, (.s (sl 8)))]), none⟩, ⟨(some (sl 10)), none, (.bld [(.int .i64 0), (.int .i64 0), (.int .i64 0), (.slice none 0 0), (.int .i64 0), (.slice none 0 0)] [(0, 1, (.c (.int .i64 3)))]), none⟩, ⟨(some (sl 11)), none, (.bld [(.int .i64 0), (.slice none 0 0), (.int .i64 0), (.int .i64 0), (.int .i64 0), (.slice none 0 0), (.int .i64 0), (.slice none 0 0)] [(1, 1, (.s (sl 9))), (2, 6, (.s (sl 10)))]), none⟩, ⟨(some (sl 7)), none, (.new [(.int .i64 0), (.slice none 0 0), (.int .i64 0), (.int .i64 0), (.int .i64 0), (.slice none 0 0), (.int .i64 0), (.slice none 0 0)]), none⟩, ⟨none, none, (.ini 1 (.s (sl 7)) (.s (sl 11)) 8), none⟩])
  (.frz (sl 7)))
  (.seq (.seq (.reg [⟨(some (sl 12)), none, (.mv (.s (sl 2))), none⟩, ⟨(some (sl 13)), none, (.bin .neq (.s (sl 12)) (.c (.string ⟨#[]⟩))), none⟩])
  (.cond (.s (sl 13))
  (.reg [⟨(some (sl 14)), none, (.fld (.s (sl 7)) 1), none⟩, ⟨(some (sl 15)), none, (.ld true (.s (sl 14)) none), none⟩, ⟨(some (sl 16)), none, (.mv (.s (sl 2))), none⟩, ⟨(some (sl 17)), none, (.bld [(.int .i64 0), (.int .i64 0), (.int .i64 0), (.int .u64 0), (.string ⟨#[]⟩), (.slice none 0 0)] [(0, 1, (.c (.int .i64 14))), (4, 1, (.s (sl 16)))]), none⟩, ⟨(some (sl 18)), none, (.idx true (.s (sl 15)) (.c (.int .i64 0)) 6), none⟩, ⟨none, none, (.st (.s (sl 18)) (.s (sl 17)) 6), none⟩])
  .skip))
  (.seq (.reg [⟨(some (sl 19)), none, (.mv (.s (sl 0))), none⟩, ⟨(some (sl 20)), none, (.mv (.s (sl 1))), none⟩, ⟨(some (sl 21)), none, (.ld true (.s (sl 7)) (some 8)), none⟩, ⟨(some (sl 22)), none, (.mksl 8 1 [(.int .i64 0), (.slice none 0 0), (.int .i64 0), (.int .i64 0), (.int .i64 0), (.slice none 0 0), (.int .i64 0), (.slice none 0 0)] [(0, 8, (.s (sl 21)))]), none⟩, ⟨(some (sl 23)), none, (.bld [(.string ⟨#[]⟩), (.int .i64 0), (.int .i64 0), (.slice none 0 0)] [(0, 1, (.s (sl 19))), (1, 1, (.s (sl 20))), (3, 1, (.s (sl 22)))]), none⟩, ⟨none, none, (.st (.s (sl 6)) (.s (sl 23)) 4), none⟩])
  .ret))))
def r_marlinelaw11_fun : List ARes := [(.cell (sl 6) (some 4))]
end Go.Proofs.Ytciihchbiifgkaa
/- The bodies of some functions, as the evaluator has them (printed by program), and that they are the program's own. -/
namespace Go.Proofs.Ytciihchbiifgkaa
open Go.RowKit

def r_reach_once_string_ : List ARes := [(.tmp (sl 2))]
def r_reach_names : List ARes := [(.tmp (sl 2))]
end Go.Proofs.Ytciihchbiifgkaa
/- The bodies of some functions, as the evaluator has them (printed by program), and that they are the program's own. -/
namespace Go.Proofs.Ytciihchbiifgkaa
open Go.RowKit

def r_reach_From : List ARes := [(.tmp (sl 4))]
end Go.Proofs.Ytciihchbiifgkaa
/- The bodies of some functions, as the evaluator has them (printed by program), and that they are the program's own. -/
namespace Go.Proofs.Ytciihchbiifgkaa
open Go.RowKit

def r_reach_From_1 : List ARes := []
/-- marline/reach.From$2 -/
def c_reach_From_2 : ACode :=
  (.seq (.reg [⟨(some (sl 3)), none, (.mv (.c (.bool false))), none⟩])
  (.seq (.reg [⟨(some (sl 4)), none, (.ld false (.s (sl 1)) none), none⟩, ⟨(some (sl 5)), none, (.mv (.s (sl 0))), none⟩, ⟨(some (sl 6)), none, (.mget (.s (sl 4)) (.s (sl 5)) false .string (.bool false)), none⟩, ⟨(some (sl 7)), none, (.not (.s (sl 6))), none⟩, ⟨(some (sl 3)), none, (.mv (.s (sl 7))), none⟩])
  .ret))
def r_reach_From_2 : List ARes := [(.tmp (sl 3))]
end Go.Proofs.Ytciihchbiifgkaa
/- The bodies of some functions, as the evaluator has them (printed by program), and that they are the program's own. -/
namespace Go.Proofs.Ytciihchbiifgkaa
open Go.RowKit

def r_reach_Deepest : List ARes := [(.tmp (sl 2))]
end Go.Proofs.Ytciihchbiifgkaa
/- The bodies of some functions, as the evaluator has them (printed by program), and that they are the program's own. -/
namespace Go.Proofs.Ytciihchbiifgkaa
open Go.RowKit

def r_reach_Deepest_1 : List ARes := []
end Go.Proofs.Ytciihchbiifgkaa
/- The bodies of some functions, as the evaluator has them (printed by program), and that they are the program's own. -/
namespace Go.Proofs.Ytciihchbiifgkaa
open Go.RowKit

def r_reach_Drop : List ARes := [(.cell (sl 2) (some 2))]
end Go.Proofs.Ytciihchbiifgkaa
/- The bodies of some functions, as the evaluator has them (printed by program), and that they are the program's own. -/
namespace Go.Proofs.Ytciihchbiifgkaa
open Go.RowKit

def r_marlinelaw11_shown : List ARes := [(.tmp (sl 0))]
def r_marlinelaw11_ReachNamed : List ARes := [(.tmp (sl 2))]
def r_marlinelaw11_ReachTwice : List ARes := [(.tmp (sl 2))]
def r_marlinelaw11_ReachOrder : List ARes := [(.tmp (sl 2))]
def r_marlinelaw11_ReachGrows : List ARes := [(.tmp (sl 6))]
def r_marlinelaw11_ReachChain : List ARes := [(.tmp (sl 6))]
def r_marlinelaw11_ReachRight : List ARes := [(.tmp (sl 2))]
end Go.Proofs.Ytciihchbiifgkaa
