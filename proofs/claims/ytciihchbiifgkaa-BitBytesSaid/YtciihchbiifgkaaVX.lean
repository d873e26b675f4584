/- Some texts of one kind, one behind the other. -/
import Derived.Test.YtciihchbiifgkaaKE
/- The bodies of some functions, as the evaluator has them (printed by program), and that they are the program's own. -/
namespace Go.Proofs.Ytciihchbiifgkaa
open Go.RowKit

/-- marline/marlineref06.num -/
def c_marlineref06_num : ACode :=
  (.seq (.reg [⟨(some (sl 2)), none, (.mv (.c (.string ⟨#[]⟩))), none⟩])
  (.seq (.reg [⟨(some (sl 3)), none, (.mv (.s (sl 0))), none⟩, ⟨(some (sl 4)), none, (.cnv .u64 (.s (sl 3))), none⟩, ⟨(some (sl 5)), none, (.call true (.f 34) [(.s (sl 4))]), none⟩, ⟨(some (sl 2)), none, (.mv (.s (sl 5))), none⟩])
  .ret))
def r_marlineref06_num : List ARes := [(.tmp (sl 2))]
theorem t_marlineref06_num : (Try.f30).body.bind (trCode Try.prog 8 (Try.f30).ntmps [] [] (drOk 8)) = some c_marlineref06_num := by kernel_rfl
theorem u_marlineref06_num : trRess Try.prog 8 (Try.f30).results.toList = some r_marlineref06_num := by kernel_rfl

/-- marline/marlineref06.text -/
def c_marlineref06_text : ACode :=
  (.seq (.reg [⟨(some (sl 2)), none, (.mv (.c (.string ⟨#[]⟩))), none⟩])
  (.seq (.reg [⟨(some (sl 3)), none, (.mv (.s (sl 0))), none⟩, ⟨(some (sl 4)), none, (.len true (.s (sl 3))), none⟩, ⟨(some (sl 5)), none, (.call true (.f 30) [(.s (sl 4))]), none⟩, ⟨(some (sl 6)), none, (.mv (.s (sl 0))), none⟩, ⟨(some (sl 7)), none, (.bin .add (.s (sl 5)) (.s (sl 6))), none⟩, ⟨(some (sl 2)), none, (.mv (.s (sl 7))), none⟩])
  .ret))
def r_marlineref06_text : List ARes := [(.tmp (sl 2))]
theorem t_marlineref06_text : (Try.f31).body.bind (trCode Try.prog 8 (Try.f31).ntmps [] [] (drOk 8)) = some c_marlineref06_text := by kernel_rfl
theorem u_marlineref06_text : trRess Try.prog 8 (Try.f31).results.toList = some r_marlineref06_text := by kernel_rfl

/-- marline/marlineref06.nums -/
def c_marlineref06_nums : ACode :=
  (.seq (.reg [⟨(some (sl 2)), none, (.mv (.c (.string ⟨#[]⟩))), none⟩])
  (.seq (.reg [⟨(some (sl 5)), none, (.mv (.s (sl 0))), none⟩, ⟨(some (sl 6)), none, (.len false (.s (sl 5))), none⟩, ⟨(some (sl 7)), none, (.call true (.f 30) [(.s (sl 6))]), none⟩, ⟨(some (sl 3)), none, (.mv (.s (sl 7))), none⟩])
  (.seq (.seq (.reg [⟨(some (sl 4)), none, (.mv (.c (.int .i64 0))), none⟩])
  (.block 0
  (.loop (.seq (.seq (.reg [⟨(some (sl 8)), none, (.mv (.s (sl 4))), none⟩, ⟨(some (sl 9)), none, (.mv (.s (sl 0))), none⟩, ⟨(some (sl 10)), none, (.len false (.s (sl 9))), none⟩, ⟨(some (sl 11)), none, (.bin .lss (.s (sl 8)) (.s (sl 10))), none⟩])
  (.cond (.s (sl 11))
  .skip
  (.exit 0)))
  (.seq (.block 1
  (.reg [⟨(some (sl 14)), none, (.mv (.s (sl 3))), none⟩, ⟨(some (sl 15)), none, (.mv (.s (sl 0))), none⟩, ⟨(some (sl 16)), none, (.mv (.s (sl 4))), none⟩, ⟨(some (sl 17)), none, (.idx true (.s (sl 15)) (.s (sl 16)) 1), none⟩, ⟨(some (sl 18)), none, (.ld true (.s (sl 17)) none), none⟩, ⟨(some (sl 19)), none, (.call true (.f 30) [(.s (sl 18))]), none⟩, ⟨(some (sl 20)), none, (.bin .add (.s (sl 14)) (.s (sl 19))), none⟩, ⟨(some (sl 3)), none, (.mv (.s (sl 20))), none⟩]))
  (.reg [⟨(some (sl 12)), none, (.mv (.s (sl 4))), none⟩, ⟨(some (sl 13)), none, (.bin .add (.s (sl 12)) (.c (.int .i64 1))), none⟩, ⟨(some (sl 4)), none, (.mv (.s (sl 13))), none⟩]))))))
  (.seq (.reg [⟨(some (sl 21)), none, (.mv (.s (sl 3))), none⟩, ⟨(some (sl 2)), none, (.mv (.s (sl 21))), none⟩])
  .ret))))
def r_marlineref06_nums : List ARes := [(.tmp (sl 2))]
theorem t_marlineref06_nums : (Try.f59).body.bind (trCode Try.prog 8 (Try.f59).ntmps [] [] (drOk 8)) = some c_marlineref06_nums := by kernel_rfl
theorem u_marlineref06_nums : trRess Try.prog 8 (Try.f59).results.toList = some r_marlineref06_nums := by kernel_rfl

/-- marline/marlineref06.inst -/
def c_marlineref06_inst : ACode :=
  (.seq (.reg [⟨(some (sl 1)), none, (.box true (.s (sl 0))), none⟩, ⟨(some (sl 2)), none, (.mv (.c (.string ⟨#[]⟩))), none⟩])
  (.seq (.reg [⟨(some (sl 4)), none, (.fld (.s (sl 1)) 0), none⟩, ⟨(some (sl 5)), none, (.ld true (.s (sl 4)) none), none⟩, ⟨(some (sl 6)), none, (.call true (.f 30) [(.s (sl 5))]), none⟩, ⟨(some (sl 3)), none, (.mv (.s (sl 6))), none⟩])
  (.seq (.seq (.reg [⟨(some (sl 7)), none, (.fld (.s (sl 1)) 0), none⟩, ⟨(some (sl 8)), none, (.ld true (.s (sl 7)) none), none⟩, ⟨(some (sl 9)), none, (.bin .eql (.s (sl 8)) (.c (.int .i64 1))), none⟩])
  (.cond (.s (sl 9))
  (.seq (.reg [⟨(some (sl 10)), none, (.mv (.s (sl 3))), none⟩, ⟨(some (sl 11)), none, (.fld (.s (sl 1)) 3), none⟩, ⟨(some (sl 12)), none, (.ld true (.s (sl 11)) none), none⟩, ⟨(some (sl 13)), none, (.call true (.f 34) [(.s (sl 12))]), none⟩, ⟨(some (sl 14)), none, (.bin .add (.s (sl 10)) (.s (sl 13))), none⟩, ⟨(some (sl 2)), none, (.mv (.s (sl 14))), none⟩])
  .ret)
  .skip))
  (.seq (.seq (.reg [⟨(some (sl 15)), none, (.fld (.s (sl 1)) 0), none⟩, ⟨(some (sl 16)), none, (.ld true (.s (sl 15)) none), none⟩, ⟨(some (sl 17)), none, (.bin .leq (.s (sl 16)) (.c (.int .i64 11))), none⟩])
  (.cond (.s (sl 17))
  (.seq (.reg [⟨(some (sl 18)), none, (.mv (.s (sl 3))), (some (0, []))⟩, ⟨(some (sl 19)), none, (.fld (.s (sl 1)) 1), (some (1, []))⟩, ⟨(some (sl 20)), none, (.ld true (.s (sl 19)) none), (some (2, []))⟩, ⟨(some (sl 21)), none, (.call true (.f 30) [(.s (sl 20))]), (some (3, []))⟩, ⟨(some (sl 22)), none, (.bin .add (.s (sl 18)) (.s (sl 21))), (some (4, []))⟩, ⟨(some (sl 23)), none, (.fld (.s (sl 1)) 2), (some (5, []))⟩, ⟨(some (sl 24)), none, (.ld true (.s (sl 23)) none), (some (6, []))⟩, ⟨(some (sl 25)), none, (.call true (.f 30) [(.s (sl 24))]), (some (7, []))⟩, ⟨(some (sl 26)), none, (.bin .add (.s (sl 22)) (.s (sl 25))), (some (8, []))⟩, ⟨(some (sl 2)), none, (.mv (.s (sl 26))), (some (9, []))⟩])
  .ret)
  .skip))
  (.seq (.seq (.reg [⟨(some (sl 27)), none, (.fld (.s (sl 1)) 0), none⟩, ⟨(some (sl 28)), none, (.ld true (.s (sl 27)) none), none⟩, ⟨(some (sl 29)), none, (.bin .eql (.s (sl 28)) (.c (.int .i64 12))), none⟩])
  (.cond (.s (sl 29))
  (.seq (.reg [⟨(some (sl 30)), none, (.mv (.s (sl 3))), none⟩, ⟨(some (sl 31)), none, (.fld (.s (sl 1)) 4), none⟩, ⟨(some (sl 32)), none, (.ld true (.s (sl 31)) none), none⟩, ⟨(some (sl 33)), none, (.call true (.f 31) [(.s (sl 32))]), none⟩, ⟨(some (sl 34)), none, (.bin .add (.s (sl 30)) (.s (sl 33))), none⟩, ⟨(some (sl 2)), none, (.mv (.s (sl 34))), none⟩])
  .ret)
  .skip))
  (.seq (.seq (.reg [⟨(some (sl 35)), none, (.fld (.s (sl 1)) 0), none⟩, ⟨(some (sl 36)), none, (.ld true (.s (sl 35)) none), none⟩, ⟨(some (sl 37)), none, (.bin .eql (.s (sl 36)) (.c (.int .i64 13))), none⟩])
  (.cond (.s (sl 37))
  (.seq (.reg [⟨(some (sl 38)), none, (.mv (.s (sl 3))), (some (0, []))⟩, ⟨(some (sl 39)), none, (.fld (.s (sl 1)) 1), (some (1, []))⟩, ⟨(some (sl 40)), none, (.ld true (.s (sl 39)) none), (some (2, []))⟩, ⟨(some (sl 41)), none, (.call true (.f 30) [(.s (sl 40))]), (some (3, []))⟩, ⟨(some (sl 42)), none, (.bin .add (.s (sl 38)) (.s (sl 41))), (some (4, []))⟩, ⟨(some (sl 43)), none, (.fld (.s (sl 1)) 4), (some (5, []))⟩, ⟨(some (sl 44)), none, (.ld true (.s (sl 43)) none), (some (6, []))⟩, ⟨(some (sl 45)), none, (.call true (.f 31) [(.s (sl 44))]), (some (7, []))⟩, ⟨(some (sl 46)), none, (.bin .add (.s (sl 42)) (.s (sl 45))), (some (8, []))⟩, ⟨(some (sl 2)), none, (.mv (.s (sl 46))), (some (9, []))⟩])
  .ret)
  .skip))
  (.seq (.seq (.reg [⟨(some (sl 47)), none, (.fld (.s (sl 1)) 0), none⟩, ⟨(some (sl 48)), none, (.ld true (.s (sl 47)) none), none⟩, ⟨(some (sl 49)), none, (.bin .eql (.s (sl 48)) (.c (.int .i64 14))), none⟩])
  (.cond (.s (sl 49))
  (.seq (.reg [⟨(some (sl 50)), none, (.mv (.s (sl 3))), (some (0, []))⟩, ⟨(some (sl 51)), none, (.fld (.s (sl 1)) 4), (some (1, []))⟩, ⟨(some (sl 52)), none, (.ld true (.s (sl 51)) none), (some (2, []))⟩, ⟨(some (sl 53)), none, (.call true (.f 31) [(.s (sl 52))]), (some (3, []))⟩, ⟨(some (sl 54)), none, (.bin .add (.s (sl 50)) (.s (sl 53))), (some (4, []))⟩, ⟨(some (sl 55)), none, (.fld (.s (sl 1)) 5), (some (5, []))⟩, ⟨(some (sl 56)), none, (.ld true (.s (sl 55)) none), (some (6, []))⟩, ⟨(some (sl 57)), none, (.call true (.f 59) [(.s (sl 56))]), (some (7, []))⟩, ⟨(some (sl 58)), none, (.bin .add (.s (sl 54)) (.s (sl 57))), (some (8, []))⟩, ⟨(some (sl 2)), none, (.mv (.s (sl 58))), (some (9, []))⟩])
  .ret)
  .skip))
  (.seq (.seq (.reg [⟨(some (sl 59)), none, (.fld (.s (sl 1)) 0), none⟩, ⟨(some (sl 60)), none, (.ld true (.s (sl 59)) none), none⟩, ⟨(some (sl 61)), none, (.bin .eql (.s (sl 60)) (.c (.int .i64 16))), none⟩])
  (.cond (.s (sl 61))
  (.seq (.reg [⟨(some (sl 62)), none, (.mv (.s (sl 3))), none⟩, ⟨(some (sl 63)), none, (.fld (.s (sl 1)) 1), none⟩, ⟨(some (sl 64)), none, (.ld true (.s (sl 63)) none), none⟩, ⟨(some (sl 65)), none, (.call true (.f 30) [(.s (sl 64))]), none⟩, ⟨(some (sl 66)), none, (.bin .add (.s (sl 62)) (.s (sl 65))), none⟩, ⟨(some (sl 2)), none, (.mv (.s (sl 66))), none⟩])
  .ret)
  .skip))
  (.seq (.reg [⟨(some (sl 67)), none, (.mv (.s (sl 3))), none⟩, ⟨(some (sl 2)), none, (.mv (.s (sl 67))), none⟩])
  .ret)))))))))
def r_marlineref06_inst : List ARes := [(.tmp (sl 2))]
theorem t_marlineref06_inst : (Try.f32).body.bind (trCode Try.prog 8 (Try.f32).ntmps [] [] (drOk 8)) = some c_marlineref06_inst := by kernel_rfl
theorem u_marlineref06_inst : trRess Try.prog 8 (Try.f32).results.toList = some r_marlineref06_inst := by kernel_rfl

/-- marline/marlineref06.end -/
def c_marlineref06_end : ACode :=
  (.seq (.reg [⟨(some (sl 1)), none, (.box true (.s (sl 0))), none⟩, ⟨(some (sl 2)), none, (.mv (.c (.string ⟨#[]⟩))), none⟩])
  (.seq (.seq (.reg [⟨(some (sl 3)), none, (.fld (.s (sl 1)) 0), none⟩, ⟨(some (sl 4)), none, (.ld true (.s (sl 3)) none), none⟩, ⟨(some (sl 5)), none, (.bin .eql (.s (sl 4)) (.c (.int .i64 1))), none⟩])
  (.cond (.s (sl 5))
  (.seq (.reg [⟨(some (sl 6)), none, (.call true (.f 30) [(.c (.int .i64 1))]), (some (0, []))⟩, ⟨(some (sl 7)), none, (.fld (.s (sl 1)) 2), (some (1, []))⟩, ⟨(some (sl 8)), none, (.ld true (.s (sl 7)) none), (some (2, []))⟩, ⟨(some (sl 9)), none, (.call true (.f 30) [(.s (sl 8))]), (some (3, []))⟩, ⟨(some (sl 10)), none, (.bin .add (.s (sl 6)) (.s (sl 9))), (some (4, []))⟩, ⟨(some (sl 11)), none, (.fld (.s (sl 1)) 3), (some (5, []))⟩, ⟨(some (sl 12)), none, (.ld true (.s (sl 11)) none), (some (6, []))⟩, ⟨(some (sl 13)), none, (.call true (.f 59) [(.s (sl 12))]), (some (7, []))⟩, ⟨(some (sl 14)), none, (.bin .add (.s (sl 10)) (.s (sl 13))), (some (8, []))⟩, ⟨(some (sl 2)), none, (.mv (.s (sl 14))), (some (9, []))⟩])
  .ret)
  .skip))
  (.seq (.seq (.reg [⟨(some (sl 15)), none, (.fld (.s (sl 1)) 0), none⟩, ⟨(some (sl 16)), none, (.ld true (.s (sl 15)) none), none⟩, ⟨(some (sl 17)), none, (.bin .eql (.s (sl 16)) (.c (.int .i64 2))), none⟩])
  (.cond (.s (sl 17))
  (.seq (.reg [⟨(some (sl 18)), none, (.call true (.f 30) [(.c (.int .i64 2))]), (some (0, []))⟩, ⟨(some (sl 19)), none, (.fld (.s (sl 1)) 1), (some (1, []))⟩, ⟨(some (sl 20)), none, (.ld true (.s (sl 19)) none), (some (2, []))⟩, ⟨(some (sl 21)), none, (.call true (.f 30) [(.s (sl 20))]), (some (3, []))⟩, ⟨(some (sl 22)), none, (.bin .add (.s (sl 18)) (.s (sl 21))), (some (4, []))⟩, ⟨(some (sl 23)), none, (.fld (.s (sl 1)) 2), (some (5, []))⟩, ⟨(some (sl 24)), none, (.ld true (.s (sl 23)) none), (some (6, []))⟩, ⟨(some (sl 25)), none, (.call true (.f 30) [(.s (sl 24))]), (some (7, []))⟩, ⟨(some (sl 26)), none, (.bin .add (.s (sl 22)) (.s (sl 25))), (some (8, []))⟩, ⟨(some (sl 27)), none, (.fld (.s (sl 1)) 3), (some (9, []))⟩, ⟨(some (sl 28)), none, (.ld true (.s (sl 27)) none), (some (10, []))⟩, ⟨(some (sl 29)), none, (.call true (.f 59) [(.s (sl 28))]), (some (11, []))⟩, ⟨(some (sl 30)), none, (.bin .add (.s (sl 26)) (.s (sl 29))), (some (12, []))⟩, ⟨(some (sl 31)), none, (.fld (.s (sl 1)) 4), (some (13, []))⟩, ⟨(some (sl 32)), none, (.ld true (.s (sl 31)) none), (some (14, []))⟩, ⟨(some (sl 33)), none, (.call true (.f 30) [(.s (sl 32))]), (some (15, []))⟩, ⟨(some (sl 34)), none, (.bin .add (.s (sl 30)) (.s (sl 33))), (some (16, []))⟩, ⟨(some (sl 35)), none, (.fld (.s (sl 1)) 5), (some (17, []))⟩, ⟨(some (sl 36)), none, (.ld true (.s (sl 35)) none), (some (18, []))⟩, ⟨(some (sl 37)), none, (.call true (.f 59) [(.s (sl 36))]), (some (19, []))⟩, ⟨(some (sl 38)), none, (.bin .add (.s (sl 34)) (.s (sl 37))), (some (20, []))⟩, ⟨(some (sl 2)), none, (.mv (.s (sl 38))), (some (21, []))⟩])
  .ret)
  .skip))
  (.seq (.reg [⟨(some (sl 39)), none, (.call true (.f 30) [(.c (.int .i64 3))]), (some (0, []))⟩, ⟨(some (sl 40)), none, (.fld (.s (sl 1)) 1), (some (1, []))⟩, ⟨(some (sl 41)), none, (.ld true (.s (sl 40)) none), (some (2, []))⟩, ⟨(some (sl 42)), none, (.call true (.f 30) [(.s (sl 41))]), (some (3, []))⟩, ⟨(some (sl 43)), none, (.bin .add (.s (sl 39)) (.s (sl 42))), (some (4, []))⟩, ⟨(some (sl 2)), none, (.mv (.s (sl 43))), (some (5, []))⟩])
  .ret))))
def r_marlineref06_end : List ARes := [(.tmp (sl 2))]
theorem t_marlineref06_end : (Try.f33).body.bind (trCode Try.prog 8 (Try.f33).ntmps [] [] (drOk 8)) = some c_marlineref06_end := by kernel_rfl
theorem u_marlineref06_end : trRess Try.prog 8 (Try.f33).results.toList = some r_marlineref06_end := by kernel_rfl

/-- marline/marlineref06.Bytes -/
def c_marlineref06_Bytes : ACode :=
  (.seq (.reg [⟨(some (sl 1)), none, (.box true (.s (sl 0))), none⟩, ⟨(some (sl 2)), none, (.mv (.c (.string ⟨#[]⟩))), none⟩, ⟨(some (sl 3)), none, (.mv (.c (.int .i64 0))), none⟩])
  (.seq (.reg [⟨(some (sl 14)), none, (.ld true (.s (sl 1)) (some 2)), none⟩, ⟨(some (sl 15)), none, (.call true (.f 14) [(.s (sl 14))]), none⟩, ⟨(some (sl 4)), none, (.mv (.s (sl 15))), none⟩])
  (.seq (.seq (.reg [⟨(some (sl 16)), none, (.mv (.s (sl 4))), none⟩, ⟨(some (sl 17)), none, (.bin .neq (.s (sl 16)) (.c (.int .i64 0))), none⟩])
  (.cond (.s (sl 17))
  (.seq (.reg [⟨(some (sl 18)), none, (.mv (.s (sl 4))), none⟩, ⟨(some (sl 2)), none, (.mv (.c (.string ⟨#[]⟩))), none⟩, ⟨(some (sl 3)), none, (.mv (.s (sl 18))), none⟩])
  .ret)
  .skip))
  (.seq (.reg [⟨(some (sl 19)), none, (.fld (.s (sl 1)) 0), none⟩, ⟨(some (sl 20)), none, (.ld true (.s (sl 19)) none), none⟩, ⟨(some (sl 21)), none, (.len false (.s (sl 20))), none⟩, ⟨(some (sl 22)), none, (.call true (.f 30) [(.s (sl 21))]), none⟩, ⟨(some (sl 23)), none, (.bin .add (.c (.string ⟨#[77, 73, 82, 49]⟩)) (.s (sl 22))), none⟩, ⟨(some (sl 5)), none, (.mv (.s (sl 23))), none⟩])
  (.seq (.seq (.reg [⟨(some (sl 6)), none, (.mv (.c (.int .i64 0))), none⟩])
  (.block 0
  (.loop (.seq (.seq (.reg [⟨(some (sl 24)), none, (.mv (.s (sl 6))), none⟩, ⟨(some (sl 25)), none, (.fld (.s (sl 1)) 0), none⟩, ⟨(some (sl 26)), none, (.ld true (.s (sl 25)) none), none⟩, ⟨(some (sl 27)), none, (.len false (.s (sl 26))), none⟩, ⟨(some (sl 28)), none, (.bin .lss (.s (sl 24)) (.s (sl 27))), none⟩])
  (.cond (.s (sl 28))
  .skip
  (.exit 0)))
  (.seq (.block 1
  (.seq (.seq (.reg [⟨(some (sl 31)), none, (.fld (.s (sl 1)) 0), none⟩, ⟨(some (sl 32)), none, (.ld true (.s (sl 31)) none), none⟩, ⟨(some (sl 33)), none, (.mv (.s (sl 6))), none⟩, ⟨(some (sl 34)), none, (.idx true (.s (sl 32)) (.s (sl 33)) 4), none⟩, ⟨(some (sl 35)), none, (.ld true (.s (sl 34)) (some 4)), none⟩, ⟨(some (sl 7)), none, (.new [(.string ⟨#[]⟩), (.int .i64 0), (.int .i64 0), (.slice none 0 0)]), none⟩, ⟨none, none, (.ini 1 (.s (sl 7)) (.s (sl 35)) 4), none⟩])
  (.frz (sl 7)))
  (.seq (.reg [⟨(some (sl 36)), none, (.mv (.s (sl 5))), (some (0, []))⟩, ⟨(some (sl 37)), none, (.fld (.s (sl 7)) 0), (some (1, []))⟩, ⟨(some (sl 38)), none, (.ld true (.s (sl 37)) none), (some (2, []))⟩, ⟨(some (sl 39)), none, (.call true (.f 31) [(.s (sl 38))]), (some (3, []))⟩, ⟨(some (sl 40)), none, (.bin .add (.s (sl 36)) (.s (sl 39))), (some (4, []))⟩, ⟨(some (sl 41)), none, (.fld (.s (sl 7)) 1), (some (5, []))⟩, ⟨(some (sl 42)), none, (.ld true (.s (sl 41)) none), (some (6, []))⟩, ⟨(some (sl 43)), none, (.call true (.f 30) [(.s (sl 42))]), (some (7, []))⟩, ⟨(some (sl 44)), none, (.bin .add (.s (sl 40)) (.s (sl 43))), (some (8, []))⟩, ⟨(some (sl 45)), none, (.fld (.s (sl 7)) 2), (some (9, []))⟩, ⟨(some (sl 46)), none, (.ld true (.s (sl 45)) none), (some (10, []))⟩, ⟨(some (sl 47)), none, (.call true (.f 30) [(.s (sl 46))]), (some (11, []))⟩, ⟨(some (sl 48)), none, (.bin .add (.s (sl 44)) (.s (sl 47))), (some (12, []))⟩, ⟨(some (sl 49)), none, (.fld (.s (sl 7)) 3), (some (13, []))⟩, ⟨(some (sl 50)), none, (.ld true (.s (sl 49)) none), (some (14, []))⟩, ⟨(some (sl 51)), none, (.len false (.s (sl 50))), (some (15, []))⟩, ⟨(some (sl 52)), none, (.call true (.f 30) [(.s (sl 51))]), (some (16, []))⟩, ⟨(some (sl 53)), none, (.bin .add (.s (sl 48)) (.s (sl 52))), (some (17, []))⟩, ⟨(some (sl 5)), none, (.mv (.s (sl 53))), (some (18, []))⟩])
  (.seq (.reg [⟨(some (sl 8)), none, (.mv (.c (.int .i64 0))), none⟩])
  (.block 2
  (.loop (.seq (.seq (.reg [⟨(some (sl 54)), none, (.mv (.s (sl 8))), none⟩, ⟨(some (sl 55)), none, (.fld (.s (sl 7)) 3), none⟩, ⟨(some (sl 56)), none, (.ld true (.s (sl 55)) none), none⟩, ⟨(some (sl 57)), none, (.len false (.s (sl 56))), none⟩, ⟨(some (sl 58)), none, (.bin .lss (.s (sl 54)) (.s (sl 57))), none⟩])
  (.cond (.s (sl 58))
  .skip
  (.exit 2)))
  (.seq (.block 3
  (.seq (.seq (.reg [⟨(some (sl 61)), none, (.fld (.s (sl 7)) 3), none⟩, ⟨(some (sl 62)), none, (.ld true (.s (sl 61)) none), none⟩, ⟨(some (sl 63)), none, (.mv (.s (sl 8))), none⟩, ⟨(some (sl 64)), none, (.idx true (.s (sl 62)) (.s (sl 63)) 8), none⟩, ⟨(some (sl 65)), none, (.ld true (.s (sl 64)) (some 8)), none⟩, ⟨(some (sl 9)), none, (.new [(.int .i64 0), (.slice none 0 0), (.int .i64 0), (.int .i64 0), (.int .i64 0), (.slice none 0 0), (.int .i64 0), (.slice none 0 0)]), none⟩, ⟨none, none, (.ini 1 (.s (sl 9)) (.s (sl 65)) 8), none⟩])
  (.frz (sl 9)))
  (.seq (.reg [⟨(some (sl 66)), none, (.mv (.s (sl 5))), (some (0, []))⟩, ⟨(some (sl 67)), none, (.fld (.s (sl 9)) 0), (some (1, []))⟩, ⟨(some (sl 68)), none, (.ld true (.s (sl 67)) none), (some (2, []))⟩, ⟨(some (sl 69)), none, (.call true (.f 30) [(.s (sl 68))]), (some (3, []))⟩, ⟨(some (sl 70)), none, (.bin .add (.s (sl 66)) (.s (sl 69))), (some (4, []))⟩, ⟨(some (sl 71)), none, (.fld (.s (sl 9)) 1), (some (5, []))⟩, ⟨(some (sl 72)), none, (.ld true (.s (sl 71)) none), (some (6, []))⟩, ⟨(some (sl 73)), none, (.len false (.s (sl 72))), (some (7, []))⟩, ⟨(some (sl 74)), none, (.call true (.f 30) [(.s (sl 73))]), (some (8, []))⟩, ⟨(some (sl 75)), none, (.bin .add (.s (sl 70)) (.s (sl 74))), (some (9, []))⟩, ⟨(some (sl 5)), none, (.mv (.s (sl 75))), (some (10, []))⟩])
  (.seq (.seq (.reg [⟨(some (sl 10)), none, (.mv (.c (.int .i64 0))), none⟩])
  (.block 4
  (.loop (.seq (.seq (.reg [⟨(some (sl 76)), none, (.mv (.s (sl 10))), none⟩, ⟨(some (sl 77)), none, (.fld (.s (sl 9)) 1), none⟩, ⟨(some (sl 78)), none, (.ld true (.s (sl 77)) none), none⟩, ⟨(some (sl 79)), none, (.len false (.s (sl 78))), none⟩, ⟨(some (sl 80)), none, (.bin .lss (.s (sl 76)) (.s (sl 79))), none⟩])
  (.cond (.s (sl 80))
  .skip
  (.exit 4)))
  (.seq (.block 5
  (.reg [⟨(some (sl 83)), none, (.mv (.s (sl 5))), none⟩, ⟨(some (sl 84)), none, (.fld (.s (sl 9)) 1), none⟩, ⟨(some (sl 85)), none, (.ld true (.s (sl 84)) none), none⟩, ⟨(some (sl 86)), none, (.mv (.s (sl 10))), none⟩, ⟨(some (sl 87)), none, (.idx true (.s (sl 85)) (.s (sl 86)) 6), none⟩, ⟨(some (sl 88)), none, (.ld true (.s (sl 87)) (some 6)), none⟩, ⟨(some (sl 89)), none, (.call true (.f 32) [(.s (sl 88))]), none⟩, ⟨(some (sl 90)), none, (.bin .add (.s (sl 83)) (.s (sl 89))), none⟩, ⟨(some (sl 5)), none, (.mv (.s (sl 90))), none⟩]))
  (.reg [⟨(some (sl 81)), none, (.mv (.s (sl 10))), none⟩, ⟨(some (sl 82)), none, (.bin .add (.s (sl 81)) (.c (.int .i64 1))), none⟩, ⟨(some (sl 10)), none, (.mv (.s (sl 82))), none⟩]))))))
  (.reg [⟨(some (sl 91)), none, (.mv (.s (sl 5))), none⟩, ⟨(some (sl 92)), none, (.fld (.s (sl 9)) 2), none⟩, ⟨(some (sl 93)), none, (.ld true (.s (sl 92)) (some 6)), none⟩, ⟨(some (sl 94)), none, (.call true (.f 33) [(.s (sl 93))]), none⟩, ⟨(some (sl 95)), none, (.bin .add (.s (sl 91)) (.s (sl 94))), none⟩, ⟨(some (sl 5)), none, (.mv (.s (sl 95))), none⟩])))))
  (.reg [⟨(some (sl 59)), none, (.mv (.s (sl 8))), none⟩, ⟨(some (sl 60)), none, (.bin .add (.s (sl 59)) (.c (.int .i64 1))), none⟩, ⟨(some (sl 8)), none, (.mv (.s (sl 60))), none⟩])))))))))
  (.reg [⟨(some (sl 29)), none, (.mv (.s (sl 6))), none⟩, ⟨(some (sl 30)), none, (.bin .add (.s (sl 29)) (.c (.int .i64 1))), none⟩, ⟨(some (sl 6)), none, (.mv (.s (sl 30))), none⟩]))))))
  (.seq (.reg [⟨(some (sl 96)), none, (.mv (.s (sl 5))), none⟩, ⟨(some (sl 97)), none, (.fld (.s (sl 1)) 1), none⟩, ⟨(some (sl 98)), none, (.ld true (.s (sl 97)) none), none⟩, ⟨(some (sl 99)), none, (.len false (.s (sl 98))), none⟩, ⟨(some (sl 100)), none, (.call true (.f 30) [(.s (sl 99))]), none⟩, ⟨(some (sl 101)), none, (.bin .add (.s (sl 96)) (.s (sl 100))), none⟩, ⟨(some (sl 5)), none, (.mv (.s (sl 101))), none⟩])
  (.seq (.seq (.reg [⟨(some (sl 11)), none, (.mv (.c (.int .i64 0))), none⟩])
  (.block 6
  (.loop (.seq (.seq (.reg [⟨(some (sl 102)), none, (.mv (.s (sl 11))), none⟩, ⟨(some (sl 103)), none, (.fld (.s (sl 1)) 1), none⟩, ⟨(some (sl 104)), none, (.ld true (.s (sl 103)) none), none⟩, ⟨(some (sl 105)), none, (.len false (.s (sl 104))), none⟩, ⟨(some (sl 106)), none, (.bin .lss (.s (sl 102)) (.s (sl 105))), none⟩])
  (.cond (.s (sl 106))
  .skip
  (.exit 6)))
  (.seq (.block 7
  (.seq (.seq (.reg [⟨(some (sl 109)), none, (.fld (.s (sl 1)) 1), none⟩, ⟨(some (sl 110)), none, (.ld true (.s (sl 109)) none), none⟩, ⟨(some (sl 111)), none, (.mv (.s (sl 11))), none⟩, ⟨(some (sl 112)), none, (.idx true (.s (sl 110)) (.s (sl 111)) 4), none⟩, ⟨(some (sl 113)), none, (.ld true (.s (sl 112)) (some 4)), none⟩, ⟨(some (sl 12)), none, (.new [(.string ⟨#[]⟩), (.int .i64 0), (.bool false), (.int .u64 0)]), none⟩, ⟨none, none, (.ini 1 (.s (sl 12)) (.s (sl 113)) 4), none⟩])
  (.frz (sl 12)))
  (.seq (.reg [⟨(some (sl 13)), none, (.mv (.c (.int .i64 0))), none⟩])
  (.seq (.seq (.reg [⟨(some (sl 114)), none, (.fld (.s (sl 12)) 2), none⟩, ⟨(some (sl 115)), none, (.ld true (.s (sl 114)) none), none⟩])
  (.cond (.s (sl 115))
  (.reg [⟨(some (sl 13)), none, (.mv (.c (.int .i64 1))), none⟩])
  .skip))
  (.reg [⟨(some (sl 116)), none, (.mv (.s (sl 5))), (some (0, []))⟩, ⟨(some (sl 117)), none, (.fld (.s (sl 12)) 0), (some (1, []))⟩, ⟨(some (sl 118)), none, (.ld true (.s (sl 117)) none), (some (2, []))⟩, ⟨(some (sl 119)), none, (.call true (.f 31) [(.s (sl 118))]), (some (3, []))⟩, ⟨(some (sl 120)), none, (.bin .add (.s (sl 116)) (.s (sl 119))), (some (4, []))⟩, ⟨(some (sl 121)), none, (.fld (.s (sl 12)) 1), (some (5, []))⟩, ⟨(some (sl 122)), none, (.ld true (.s (sl 121)) none), (some (6, []))⟩, ⟨(some (sl 123)), none, (.call true (.f 30) [(.s (sl 122))]), (some (7, []))⟩, ⟨(some (sl 124)), none, (.bin .add (.s (sl 120)) (.s (sl 123))), (some (8, []))⟩, ⟨(some (sl 125)), none, (.mv (.s (sl 13))), (some (9, []))⟩, ⟨(some (sl 126)), none, (.call true (.f 30) [(.s (sl 125))]), (some (10, []))⟩, ⟨(some (sl 127)), none, (.bin .add (.s (sl 124)) (.s (sl 126))), (some (11, []))⟩, ⟨(some (sl 128)), none, (.fld (.s (sl 12)) 3), (some (12, []))⟩, ⟨(some (sl 129)), none, (.ld true (.s (sl 128)) none), (some (13, []))⟩, ⟨(some (sl 130)), none, (.call true (.f 34) [(.s (sl 129))]), (some (14, []))⟩, ⟨(some (sl 131)), none, (.bin .add (.s (sl 127)) (.s (sl 130))), (some (15, []))⟩, ⟨(some (sl 5)), none, (.mv (.s (sl 131))), (some (16, []))⟩])))))
  (.reg [⟨(some (sl 107)), none, (.mv (.s (sl 11))), none⟩, ⟨(some (sl 108)), none, (.bin .add (.s (sl 107)) (.c (.int .i64 1))), none⟩, ⟨(some (sl 11)), none, (.mv (.s (sl 108))), none⟩]))))))
  (.seq (.seq (.reg [⟨(some (sl 132)), none, (.mv (.s (sl 5))), none⟩, ⟨(some (sl 133)), none, (.len true (.s (sl 132))), none⟩, ⟨(some (sl 134)), none, (.bin .gtr (.s (sl 133)) (.c (.int .i64 65535))), none⟩])
  (.cond (.s (sl 134))
  (.seq (.reg [⟨(some (sl 2)), none, (.mv (.c (.string ⟨#[]⟩))), none⟩, ⟨(some (sl 3)), none, (.mv (.c (.int .i64 4))), none⟩])
  .ret)
  .skip))
  (.seq (.reg [⟨(some (sl 135)), none, (.mv (.s (sl 5))), none⟩, ⟨(some (sl 2)), none, (.mv (.s (sl 135))), none⟩, ⟨(some (sl 3)), none, (.mv (.c (.int .i64 0))), none⟩])
  .ret)))))))))
def r_marlineref06_Bytes : List ARes := [(.tmp (sl 2)), (.tmp (sl 3))]
theorem t_marlineref06_Bytes : (Try.f11).body.bind (trCode Try.prog 8 (Try.f11).ntmps [] [] (drOk 8)) = some c_marlineref06_Bytes := by kernel_rfl
theorem u_marlineref06_Bytes : trRess Try.prog 8 (Try.f11).results.toList = some r_marlineref06_Bytes := by kernel_rfl

end Go.Proofs.Ytciihchbiifgkaa
/- The bodies of some functions, as the evaluator has them (printed by program), and that they are the program's own. -/
namespace Go.Proofs.Ytciihchbiifgkaa
open Go.RowKit

/-- marline/marlineref06.wide -/
def c_marlineref06_wide : ACode :=
  (.seq (.reg [⟨(some (sl 1)), none, (.box true (.s (sl 0))), none⟩, ⟨(some (sl 2)), none, (.new [(.string ⟨#[]⟩), (.int .i64 0)]), none⟩, ⟨(some (sl 3)), none, (.mv (.c (.int .u64 0))), none⟩])
  (.seq (.seq (.reg [⟨(some (sl 7)), none, (.fld (.s (sl 1)) 1), none⟩, ⟨(some (sl 8)), none, (.ld true (.s (sl 7)) none), none⟩, ⟨(some (sl 9)), none, (.bin .neq (.s (sl 8)) (.c (.int .i64 0))), none⟩])
  (.cond (.s (sl 9))
  (.seq (.reg [⟨(some (sl 10)), none, (.ld true (.s (sl 1)) (some 2)), none⟩, ⟨none, none, (.st (.s (sl 2)) (.s (sl 10)) 2), none⟩, ⟨(some (sl 3)), none, (.mv (.c (.int .u64 0))), none⟩])
  .ret)
  .skip))
  (.seq (.reg [⟨(some (sl 12)), none, (.fld (.s (sl 1)) 0), none⟩, ⟨(some (sl 13)), none, (.ld true (.s (sl 12)) none), none⟩, ⟨(some (sl 14)), none, (.call true (.f 69) [(.s (sl 13))]), none⟩, ⟨(some (sl 11)), none, (.mv (.s (sl 14))), none⟩, ⟨(some (sl 15)), none, (.ext (.s (sl 11)) 0), none⟩, ⟨(some (sl 16)), none, (.ext (.s (sl 11)) 1), none⟩, ⟨(some (sl 17)), none, (.ext (.s (sl 11)) 2), none⟩, ⟨(some (sl 4)), none, (.mv (.s (sl 15))), none⟩, ⟨(some (sl 5)), none, (.mv (.s (sl 16))), none⟩, ⟨(some (sl 6)), none, (.mv (.s (sl 17))), none⟩])
  (.seq (.seq (.reg [⟨(some (sl 18)), none, (.mv (.s (sl 6))), none⟩, ⟨(some (sl 19)), none, (.bin .neq (.s (sl 18)) (.c (.int .i64 0))), none⟩])
  (.cond (.s (sl 19))
  (.seq (.reg [⟨(some (sl 20)), none, (.mv (.s (sl 6))), none⟩, ⟨(some (sl 21)), none, (.bld [(.string ⟨#[]⟩), (.int .i64 0)] [(1, 1, (.s (sl 20)))]), none⟩, ⟨none, none, (.st (.s (sl 2)) (.s (sl 21)) 2), none⟩, ⟨(some (sl 3)), none, (.mv (.c (.int .u64 0))), none⟩])
  .ret)
  .skip))
  (.seq (.reg [⟨(some (sl 22)), none, (.mv (.s (sl 5))), none⟩, ⟨(some (sl 23)), none, (.bld [(.string ⟨#[]⟩), (.int .i64 0)] [(0, 1, (.s (sl 22)))]), none⟩, ⟨(some (sl 24)), none, (.mv (.s (sl 4))), none⟩, ⟨none, none, (.st (.s (sl 2)) (.s (sl 23)) 2), none⟩, ⟨(some (sl 3)), none, (.mv (.s (sl 24))), none⟩])
  .ret)))))
def r_marlineref06_wide : List ARes := [(.cell (sl 2) (some 2)), (.tmp (sl 3))]
theorem t_marlineref06_wide : (Try.f45).body.bind (trCode Try.prog 8 (Try.f45).ntmps [2] [] (drOk 8)) = some c_marlineref06_wide := by kernel_rfl
theorem u_marlineref06_wide : trRess Try.prog 8 (Try.f45).results.toList = some r_marlineref06_wide := by kernel_rfl

/-- marline/marlineref06.most -/
def c_marlineref06_most : ACode :=
  (.seq (.reg [⟨(some (sl 2)), none, (.box true (.s (sl 0))), none⟩, ⟨(some (sl 4)), none, (.new [(.string ⟨#[]⟩), (.int .i64 0)]), none⟩, ⟨(some (sl 5)), none, (.mv (.c (.int .i64 0))), none⟩])
  (.seq (.seq (.reg [⟨(some (sl 9)), none, (.ld true (.s (sl 2)) (some 2)), none⟩, ⟨(some (sl 10)), none, (.call true (.f 45) [(.s (sl 9))]), none⟩, ⟨(some (sl 8)), none, (.mv (.s (sl 10))), none⟩, ⟨(some (sl 11)), none, (.ext (.s (sl 8)) 0), none⟩, ⟨(some (sl 12)), none, (.ext (.s (sl 8)) 1), none⟩, ⟨(some (sl 6)), none, (.new [(.string ⟨#[]⟩), (.int .i64 0)]), none⟩, ⟨none, none, (.ini 1 (.s (sl 6)) (.s (sl 11)) 2), none⟩, ⟨(some (sl 7)), none, (.mv (.s (sl 12))), none⟩])
  (.frz (sl 6)))
  (.seq (.seq (.reg [⟨(some (sl 13)), none, (.fld (.s (sl 6)) 1), none⟩, ⟨(some (sl 14)), none, (.ld true (.s (sl 13)) none), none⟩, ⟨(some (sl 15)), none, (.bin .eql (.s (sl 14)) (.c (.int .i64 0))), none⟩, ⟨(some (sl 16)), none, (.mv (.s (sl 15))), none⟩, ⟨(some (sl 17)), (some ((sl 16), true)), (.mv (.s (sl 7))), none⟩, ⟨(some (sl 18)), (some ((sl 16), true)), (.mv (.s (sl 1))), none⟩, ⟨(some (sl 19)), (some ((sl 16), true)), (.bin .gtr (.s (sl 17)) (.s (sl 18))), none⟩, ⟨(some (sl 20)), none, (.pick (.s (sl 16)) (.s (sl 19)) (.c (.bool false))), none⟩])
  (.cond (.s (sl 20))
  (.seq (.reg [⟨(some (sl 21)), none, (.bld [(.string ⟨#[]⟩), (.int .i64 0)] [(1, 1, (.c (.int .i64 4)))]), none⟩, ⟨none, none, (.st (.s (sl 4)) (.s (sl 21)) 2), none⟩, ⟨(some (sl 5)), none, (.mv (.c (.int .i64 0))), none⟩])
  .ret)
  .skip))
  (.seq (.reg [⟨(some (sl 22)), none, (.ld true (.s (sl 6)) (some 2)), none⟩, ⟨(some (sl 23)), none, (.mv (.s (sl 7))), none⟩, ⟨(some (sl 24)), none, (.cnv .i64 (.s (sl 23))), none⟩, ⟨none, none, (.st (.s (sl 4)) (.s (sl 22)) 2), none⟩, ⟨(some (sl 5)), none, (.mv (.s (sl 24))), none⟩])
  .ret))))
def r_marlineref06_most : List ARes := [(.cell (sl 4) (some 2)), (.tmp (sl 5))]
theorem t_marlineref06_most : (Try.f41).body.bind (trCode Try.prog 8 (Try.f41).ntmps [4] [] (drOk 8)) = some c_marlineref06_most := by kernel_rfl
theorem u_marlineref06_most : trRess Try.prog 8 (Try.f41).results.toList = some r_marlineref06_most := by kernel_rfl

/-- marline/marlineref06.one -/
def c_marlineref06_one : ACode :=
  (.seq (.reg [⟨(some (sl 1)), none, (.box true (.s (sl 0))), none⟩, ⟨(some (sl 2)), none, (.new [(.string ⟨#[]⟩), (.int .i64 0)]), none⟩, ⟨(some (sl 3)), none, (.mv (.c (.int .i64 0))), none⟩])
  (.seq (.reg [⟨(some (sl 4)), none, (.ld true (.s (sl 1)) (some 2)), none⟩, ⟨(some (sl 5)), none, (.call true (.f 41) [(.s (sl 4)), (.c (.int .u64 4294967295))]), none⟩, ⟨(some (sl 6)), none, (.ext (.s (sl 5)) 0), none⟩, ⟨(some (sl 7)), none, (.ext (.s (sl 5)) 1), none⟩, ⟨none, none, (.st (.s (sl 2)) (.s (sl 6)) 2), none⟩, ⟨(some (sl 3)), none, (.mv (.s (sl 7))), none⟩])
  .ret))
def r_marlineref06_one : List ARes := [(.cell (sl 2) (some 2)), (.tmp (sl 3))]
theorem t_marlineref06_one : (Try.f43).body.bind (trCode Try.prog 8 (Try.f43).ntmps [2] [] (drOk 8)) = some c_marlineref06_one := by kernel_rfl
theorem u_marlineref06_one : trRess Try.prog 8 (Try.f43).results.toList = some r_marlineref06_one := by kernel_rfl

/-- marline/marlineref06.word -/
def c_marlineref06_word : ACode :=
  (.seq (.reg [⟨(some (sl 1)), none, (.box true (.s (sl 0))), none⟩, ⟨(some (sl 2)), none, (.new [(.string ⟨#[]⟩), (.int .i64 0)]), none⟩, ⟨(some (sl 3)), none, (.mv (.c (.string ⟨#[]⟩))), none⟩])
  (.seq (.seq (.reg [⟨(some (sl 7)), none, (.ld true (.s (sl 1)) (some 2)), none⟩, ⟨(some (sl 8)), none, (.call true (.f 41) [(.s (sl 7)), (.c (.int .u64 16))]), none⟩, ⟨(some (sl 6)), none, (.mv (.s (sl 8))), none⟩, ⟨(some (sl 9)), none, (.ext (.s (sl 6)) 0), none⟩, ⟨(some (sl 10)), none, (.ext (.s (sl 6)) 1), none⟩, ⟨(some (sl 4)), none, (.new [(.string ⟨#[]⟩), (.int .i64 0)]), none⟩, ⟨none, none, (.ini 1 (.s (sl 4)) (.s (sl 9)) 2), none⟩, ⟨(some (sl 5)), none, (.mv (.s (sl 10))), none⟩])
  (.frz (sl 4)))
  (.seq (.seq (.reg [⟨(some (sl 11)), none, (.fld (.s (sl 4)) 1), none⟩, ⟨(some (sl 12)), none, (.ld true (.s (sl 11)) none), none⟩, ⟨(some (sl 13)), none, (.bin .neq (.s (sl 12)) (.c (.int .i64 0))), none⟩])
  (.cond (.s (sl 13))
  (.seq (.reg [⟨(some (sl 14)), none, (.ld true (.s (sl 4)) (some 2)), none⟩, ⟨none, none, (.st (.s (sl 2)) (.s (sl 14)) 2), none⟩, ⟨(some (sl 3)), none, (.mv (.c (.string ⟨#[]⟩))), none⟩])
  .ret)
  .skip))
  (.seq (.seq (.reg [⟨(some (sl 15)), none, (.mv (.s (sl 5))), none⟩, ⟨(some (sl 16)), none, (.fld (.s (sl 4)) 0), none⟩, ⟨(some (sl 17)), none, (.ld true (.s (sl 16)) none), none⟩, ⟨(some (sl 18)), none, (.len true (.s (sl 17))), none⟩, ⟨(some (sl 19)), none, (.bin .gtr (.s (sl 15)) (.s (sl 18))), none⟩])
  (.cond (.s (sl 19))
  (.seq (.reg [⟨(some (sl 20)), none, (.bld [(.string ⟨#[]⟩), (.int .i64 0)] [(1, 1, (.c (.int .i64 2)))]), none⟩, ⟨none, none, (.st (.s (sl 2)) (.s (sl 20)) 2), none⟩, ⟨(some (sl 3)), none, (.mv (.c (.string ⟨#[]⟩))), none⟩])
  .ret)
  .skip))
  (.seq (.reg [⟨(some (sl 21)), none, (.fld (.s (sl 4)) 0), (some (0, []))⟩, ⟨(some (sl 22)), none, (.ld true (.s (sl 21)) none), (some (1, []))⟩, ⟨(some (sl 23)), none, (.mv (.s (sl 5))), (some (2, []))⟩, ⟨(some (sl 24)), none, (.sslc (.s (sl 22)) (some (.s (sl 23))) none), (some (3, []))⟩, ⟨(some (sl 25)), none, (.bld [(.string ⟨#[]⟩), (.int .i64 0)] [(0, 1, (.s (sl 24)))]), (some (4, []))⟩, ⟨(some (sl 26)), none, (.fld (.s (sl 4)) 0), (some (5, []))⟩, ⟨(some (sl 27)), none, (.ld true (.s (sl 26)) none), (some (6, []))⟩, ⟨(some (sl 28)), none, (.mv (.s (sl 5))), (some (7, []))⟩, ⟨(some (sl 29)), none, (.sslc (.s (sl 27)) none (some (.s (sl 28)))), (some (8, []))⟩, ⟨none, none, (.st (.s (sl 2)) (.s (sl 25)) 2), (some (9, []))⟩, ⟨(some (sl 3)), none, (.mv (.s (sl 29))), (some (10, []))⟩])
  .ret)))))
def r_marlineref06_word : List ARes := [(.cell (sl 2) (some 2)), (.tmp (sl 3))]
theorem t_marlineref06_word : (Try.f42).body.bind (trCode Try.prog 8 (Try.f42).ntmps [2] [] (drOk 8)) = some c_marlineref06_word := by kernel_rfl
theorem u_marlineref06_word : trRess Try.prog 8 (Try.f42).results.toList = some r_marlineref06_word := by kernel_rfl

/-- marline/marlineref06.args -/
def c_marlineref06_args : ACode :=
  (.seq (.reg [⟨(some (sl 1)), none, (.box false (.s (sl 0))), none⟩, ⟨(some (sl 2)), none, (.new [(.string ⟨#[]⟩), (.int .i64 0)]), none⟩, ⟨(some (sl 3)), none, (.mv (.c (.slice none 0 0))), none⟩])
  (.seq (.reg [⟨(some (sl 10)), none, (.ld false (.s (sl 1)) (some 2)), none⟩, ⟨(some (sl 11)), none, (.call false (.f 41) [(.s (sl 10)), (.c (.int .u64 6))]), none⟩, ⟨(some (sl 9)), none, (.mv (.s (sl 11))), none⟩, ⟨(some (sl 12)), none, (.ext (.s (sl 9)) 0), none⟩, ⟨(some (sl 13)), none, (.ext (.s (sl 9)) 1), none⟩, ⟨none, none, (.st (.s (sl 1)) (.s (sl 12)) 2), none⟩, ⟨(some (sl 4)), none, (.mv (.s (sl 13))), none⟩])
  (.seq (.reg [⟨(some (sl 5)), none, (.mv (.c (.slice none 0 0))), none⟩])
  (.seq (.seq (.reg [⟨(some (sl 6)), none, (.mv (.c (.int .i64 0))), none⟩])
  (.block 0
  (.loop (.seq (.seq (.reg [⟨(some (sl 14)), none, (.mv (.s (sl 6))), none⟩, ⟨(some (sl 15)), none, (.mv (.s (sl 4))), none⟩, ⟨(some (sl 16)), none, (.bin .lss (.s (sl 14)) (.s (sl 15))), none⟩, ⟨(some (sl 17)), none, (.mv (.s (sl 16))), none⟩, ⟨(some (sl 18)), (some ((sl 17), true)), (.fld (.s (sl 1)) 1), none⟩, ⟨(some (sl 19)), (some ((sl 17), true)), (.ld false (.s (sl 18)) none), none⟩, ⟨(some (sl 20)), (some ((sl 17), true)), (.bin .eql (.s (sl 19)) (.c (.int .i64 0))), none⟩, ⟨(some (sl 21)), none, (.pick (.s (sl 17)) (.s (sl 20)) (.c (.bool false))), none⟩])
  (.cond (.s (sl 21))
  .skip
  (.exit 0)))
  (.seq (.block 1
  (.seq (.seq (.reg [⟨(some (sl 25)), none, (.ld false (.s (sl 1)) (some 2)), none⟩, ⟨(some (sl 26)), none, (.call false (.f 43) [(.s (sl 25))]), none⟩, ⟨(some (sl 24)), none, (.mv (.s (sl 26))), none⟩, ⟨(some (sl 27)), none, (.ext (.s (sl 24)) 0), none⟩, ⟨(some (sl 28)), none, (.ext (.s (sl 24)) 1), none⟩, ⟨(some (sl 7)), none, (.new [(.string ⟨#[]⟩), (.int .i64 0)]), none⟩, ⟨none, none, (.ini 1 (.s (sl 7)) (.s (sl 27)) 2), none⟩, ⟨(some (sl 8)), none, (.mv (.s (sl 28))), none⟩])
  (.frz (sl 7)))
  (.seq (.reg [⟨(some (sl 29)), none, (.ld true (.s (sl 7)) (some 2)), none⟩, ⟨none, none, (.st (.s (sl 1)) (.s (sl 29)) 2), none⟩])
  (.reg [⟨(some (sl 30)), none, (.mv (.s (sl 5))), none⟩, ⟨(some (sl 31)), none, (.mv (.s (sl 8))), none⟩, ⟨(some (sl 32)), none, (.mksl 1 1 [(.int .i64 0)] [(0, 1, (.s (sl 31)))]), none⟩, ⟨(some (sl 33)), none, (.app 3 1 8 (.s (sl 30)) (.s (sl 32))), none⟩, ⟨(some (sl 5)), none, (.mv (.s (sl 33))), none⟩]))))
  (.reg [⟨(some (sl 22)), none, (.mv (.s (sl 6))), none⟩, ⟨(some (sl 23)), none, (.bin .add (.s (sl 22)) (.c (.int .i64 1))), none⟩, ⟨(some (sl 6)), none, (.mv (.s (sl 23))), none⟩]))))))
  (.seq (.reg [⟨(some (sl 34)), none, (.ld false (.s (sl 1)) (some 2)), none⟩, ⟨(some (sl 35)), none, (.mv (.s (sl 5))), none⟩, ⟨none, none, (.st (.s (sl 2)) (.s (sl 34)) 2), none⟩, ⟨(some (sl 3)), none, (.mv (.s (sl 35))), none⟩])
  .ret)))))
def r_marlineref06_args : List ARes := [(.cell (sl 2) (some 2)), (.tmp (sl 3))]
theorem t_marlineref06_args : (Try.f85).body.bind (trCode Try.prog 8 (Try.f85).ntmps [1, 2, 3, 5, 10, 18, 19, 25, 30, 33, 34, 35] [] (drOk 8)) = some c_marlineref06_args := by kernel_rfl
theorem u_marlineref06_args : trRess Try.prog 8 (Try.f85).results.toList = some r_marlineref06_args := by kernel_rfl

/-- marline/marlineref06.takeInst -/
def c_marlineref06_takeInst : ACode :=
  (.seq (.reg [⟨(some (sl 1)), none, (.box false (.s (sl 0))), none⟩, ⟨(some (sl 2)), none, (.new [(.string ⟨#[]⟩), (.int .i64 0)]), none⟩, ⟨(some (sl 3)), none, (.new [(.int .i64 0), (.int .i64 0), (.int .i64 0), (.int .u64 0), (.string ⟨#[]⟩), (.slice none 0 0)]), none⟩])
  (.seq (.reg [⟨(some (sl 7)), none, (.ld false (.s (sl 1)) (some 2)), none⟩, ⟨(some (sl 8)), none, (.call false (.f 43) [(.s (sl 7))]), none⟩, ⟨(some (sl 6)), none, (.mv (.s (sl 8))), none⟩, ⟨(some (sl 9)), none, (.ext (.s (sl 6)) 0), none⟩, ⟨(some (sl 10)), none, (.ext (.s (sl 6)) 1), none⟩, ⟨none, none, (.st (.s (sl 1)) (.s (sl 9)) 2), none⟩, ⟨(some (sl 4)), none, (.mv (.s (sl 10))), none⟩])
  (.seq (.reg [⟨(some (sl 11)), none, (.mv (.s (sl 4))), none⟩, ⟨(some (sl 12)), none, (.bld [(.int .i64 0), (.int .i64 0), (.int .i64 0), (.int .u64 0), (.string ⟨#[]⟩), (.slice none 0 0)] [(0, 1, (.s (sl 11)))]), none⟩, ⟨(some (sl 5)), none, (.new [(.int .i64 0), (.int .i64 0), (.int .i64 0), (.int .u64 0), (.string ⟨#[]⟩), (.slice none 0 0)]), none⟩, ⟨none, none, (.ini 1 (.s (sl 5)) (.s (sl 12)) 6), none⟩])
  (.seq (.seq (.reg [⟨(some (sl 13)), none, (.fld (.s (sl 1)) 1), none⟩, ⟨(some (sl 14)), none, (.ld false (.s (sl 13)) none), none⟩, ⟨(some (sl 15)), none, (.bin .neq (.s (sl 14)) (.c (.int .i64 0))), none⟩])
  (.cond (.s (sl 15))
  (.seq (.reg [⟨(some (sl 16)), none, (.ld false (.s (sl 1)) (some 2)), (some (0, [(sl 2), (sl 3)]))⟩, ⟨(some (sl 17)), none, (.ld false (.s (sl 5)) (some 6)), (some (1, [(sl 2), (sl 3)]))⟩, ⟨none, none, (.st (.s (sl 2)) (.s (sl 16)) 2), (some (2, [(sl 2), (sl 3)]))⟩, ⟨none, none, (.st (.s (sl 3)) (.s (sl 17)) 6), (some (3, [(sl 2), (sl 3)]))⟩])
  .ret)
  .skip))
  (.seq (.seq (.reg [⟨(some (sl 18)), none, (.mv (.s (sl 4))), none⟩, ⟨(some (sl 19)), none, (.bin .lss (.s (sl 18)) (.c (.int .i64 1))), none⟩, ⟨(some (sl 20)), none, (.mv (.s (sl 19))), none⟩, ⟨(some (sl 21)), (some ((sl 20), false)), (.mv (.s (sl 4))), none⟩, ⟨(some (sl 22)), (some ((sl 20), false)), (.bin .gtr (.s (sl 21)) (.c (.int .i64 16))), none⟩, ⟨(some (sl 23)), none, (.pick (.s (sl 20)) (.c (.bool true)) (.s (sl 22))), none⟩])
  (.cond (.s (sl 23))
  (.seq (.reg [⟨(some (sl 24)), none, (.bld [(.string ⟨#[]⟩), (.int .i64 0)] [(1, 1, (.c (.int .i64 3)))]), (some (0, [(sl 2), (sl 3)]))⟩, ⟨(some (sl 25)), none, (.ld false (.s (sl 5)) (some 6)), (some (1, [(sl 2), (sl 3)]))⟩, ⟨none, none, (.st (.s (sl 2)) (.s (sl 24)) 2), (some (2, [(sl 2), (sl 3)]))⟩, ⟨none, none, (.st (.s (sl 3)) (.s (sl 25)) 6), (some (3, [(sl 2), (sl 3)]))⟩])
  .ret)
  .skip))
  (.seq (.seq (.reg [⟨(some (sl 26)), none, (.mv (.s (sl 4))), none⟩, ⟨(some (sl 27)), none, (.bin .eql (.s (sl 26)) (.c (.int .i64 1))), none⟩])
  (.cond (.s (sl 27))
  (.reg [⟨(some (sl 29)), none, (.ld false (.s (sl 1)) (some 2)), none⟩, ⟨(some (sl 30)), none, (.call false (.f 45) [(.s (sl 29))]), none⟩, ⟨(some (sl 28)), none, (.mv (.s (sl 30))), none⟩, ⟨(some (sl 31)), none, (.ext (.s (sl 28)) 0), none⟩, ⟨(some (sl 32)), none, (.ext (.s (sl 28)) 1), none⟩, ⟨none, none, (.st (.s (sl 1)) (.s (sl 31)) 2), none⟩, ⟨(some (sl 33)), none, (.fld (.s (sl 5)) 3), none⟩, ⟨none, none, (.st (.s (sl 33)) (.s (sl 32)) 1), none⟩])
  .skip))
  (.seq (.seq (.reg [⟨(some (sl 34)), none, (.mv (.s (sl 4))), none⟩, ⟨(some (sl 35)), none, (.bin .geq (.s (sl 34)) (.c (.int .i64 2))), none⟩, ⟨(some (sl 36)), none, (.mv (.s (sl 35))), none⟩, ⟨(some (sl 37)), (some ((sl 36), true)), (.mv (.s (sl 4))), none⟩, ⟨(some (sl 38)), (some ((sl 36), true)), (.bin .leq (.s (sl 37)) (.c (.int .i64 11))), none⟩, ⟨(some (sl 39)), none, (.pick (.s (sl 36)) (.s (sl 38)) (.c (.bool false))), none⟩, ⟨(some (sl 40)), none, (.mv (.s (sl 39))), none⟩, ⟨(some (sl 41)), (some ((sl 40), false)), (.mv (.s (sl 4))), none⟩, ⟨(some (sl 42)), (some ((sl 40), false)), (.bin .eql (.s (sl 41)) (.c (.int .i64 13))), none⟩, ⟨(some (sl 43)), none, (.pick (.s (sl 40)) (.c (.bool true)) (.s (sl 42))), none⟩, ⟨(some (sl 44)), none, (.mv (.s (sl 43))), none⟩, ⟨(some (sl 45)), (some ((sl 44), false)), (.mv (.s (sl 4))), none⟩, ⟨(some (sl 46)), (some ((sl 44), false)), (.bin .eql (.s (sl 45)) (.c (.int .i64 16))), none⟩, ⟨(some (sl 47)), none, (.pick (.s (sl 44)) (.c (.bool true)) (.s (sl 46))), none⟩])
  (.cond (.s (sl 47))
  (.reg [⟨(some (sl 49)), none, (.ld false (.s (sl 1)) (some 2)), none⟩, ⟨(some (sl 50)), none, (.call false (.f 43) [(.s (sl 49))]), none⟩, ⟨(some (sl 48)), none, (.mv (.s (sl 50))), none⟩, ⟨(some (sl 51)), none, (.ext (.s (sl 48)) 0), none⟩, ⟨(some (sl 52)), none, (.ext (.s (sl 48)) 1), none⟩, ⟨none, none, (.st (.s (sl 1)) (.s (sl 51)) 2), none⟩, ⟨(some (sl 53)), none, (.fld (.s (sl 5)) 1), none⟩, ⟨none, none, (.st (.s (sl 53)) (.s (sl 52)) 1), none⟩])
  .skip))
  (.seq (.seq (.reg [⟨(some (sl 54)), none, (.mv (.s (sl 4))), none⟩, ⟨(some (sl 55)), none, (.bin .geq (.s (sl 54)) (.c (.int .i64 2))), none⟩, ⟨(some (sl 56)), none, (.mv (.s (sl 55))), none⟩, ⟨(some (sl 57)), (some ((sl 56), true)), (.mv (.s (sl 4))), none⟩, ⟨(some (sl 58)), (some ((sl 56), true)), (.bin .leq (.s (sl 57)) (.c (.int .i64 11))), none⟩, ⟨(some (sl 59)), none, (.pick (.s (sl 56)) (.s (sl 58)) (.c (.bool false))), none⟩])
  (.cond (.s (sl 59))
  (.reg [⟨(some (sl 61)), none, (.ld false (.s (sl 1)) (some 2)), none⟩, ⟨(some (sl 62)), none, (.call false (.f 43) [(.s (sl 61))]), none⟩, ⟨(some (sl 60)), none, (.mv (.s (sl 62))), none⟩, ⟨(some (sl 63)), none, (.ext (.s (sl 60)) 0), none⟩, ⟨(some (sl 64)), none, (.ext (.s (sl 60)) 1), none⟩, ⟨none, none, (.st (.s (sl 1)) (.s (sl 63)) 2), none⟩, ⟨(some (sl 65)), none, (.fld (.s (sl 5)) 2), none⟩, ⟨none, none, (.st (.s (sl 65)) (.s (sl 64)) 1), none⟩])
  .skip))
  (.seq (.seq (.reg [⟨(some (sl 66)), none, (.mv (.s (sl 4))), none⟩, ⟨(some (sl 67)), none, (.bin .geq (.s (sl 66)) (.c (.int .i64 12))), none⟩, ⟨(some (sl 68)), none, (.mv (.s (sl 67))), none⟩, ⟨(some (sl 69)), (some ((sl 68), true)), (.mv (.s (sl 4))), none⟩, ⟨(some (sl 70)), (some ((sl 68), true)), (.bin .leq (.s (sl 69)) (.c (.int .i64 14))), none⟩, ⟨(some (sl 71)), none, (.pick (.s (sl 68)) (.s (sl 70)) (.c (.bool false))), none⟩])
  (.cond (.s (sl 71))
  (.reg [⟨(some (sl 73)), none, (.ld false (.s (sl 1)) (some 2)), none⟩, ⟨(some (sl 74)), none, (.call false (.f 42) [(.s (sl 73))]), none⟩, ⟨(some (sl 72)), none, (.mv (.s (sl 74))), none⟩, ⟨(some (sl 75)), none, (.ext (.s (sl 72)) 0), none⟩, ⟨(some (sl 76)), none, (.ext (.s (sl 72)) 1), none⟩, ⟨none, none, (.st (.s (sl 1)) (.s (sl 75)) 2), none⟩, ⟨(some (sl 77)), none, (.fld (.s (sl 5)) 4), none⟩, ⟨none, none, (.st (.s (sl 77)) (.s (sl 76)) 1), none⟩])
  .skip))
  (.seq (.seq (.reg [⟨(some (sl 78)), none, (.mv (.s (sl 4))), none⟩, ⟨(some (sl 79)), none, (.bin .eql (.s (sl 78)) (.c (.int .i64 14))), none⟩])
  (.cond (.s (sl 79))
  (.reg [⟨(some (sl 81)), none, (.ld false (.s (sl 1)) (some 2)), none⟩, ⟨(some (sl 82)), none, (.call false (.f 85) [(.s (sl 81))]), none⟩, ⟨(some (sl 80)), none, (.mv (.s (sl 82))), none⟩, ⟨(some (sl 83)), none, (.ext (.s (sl 80)) 0), none⟩, ⟨(some (sl 84)), none, (.ext (.s (sl 80)) 1), none⟩, ⟨none, none, (.st (.s (sl 1)) (.s (sl 83)) 2), none⟩, ⟨(some (sl 85)), none, (.fld (.s (sl 5)) 5), none⟩, ⟨none, none, (.st (.s (sl 85)) (.s (sl 84)) 1), none⟩])
  .skip))
  (.seq (.reg [⟨(some (sl 86)), none, (.ld false (.s (sl 1)) (some 2)), (some (0, [(sl 2), (sl 3)]))⟩, ⟨(some (sl 87)), none, (.ld false (.s (sl 5)) (some 6)), (some (1, [(sl 2), (sl 3)]))⟩, ⟨none, none, (.st (.s (sl 2)) (.s (sl 86)) 2), (some (2, [(sl 2), (sl 3)]))⟩, ⟨none, none, (.st (.s (sl 3)) (.s (sl 87)) 6), (some (3, [(sl 2), (sl 3)]))⟩])
  .ret)))))))))))
def r_marlineref06_takeInst : List ARes := [(.cell (sl 2) (some 2)), (.cell (sl 3) (some 6))]
theorem t_marlineref06_takeInst : (Try.f67).body.bind (trCode Try.prog 8 (Try.f67).ntmps [1, 2, 3, 5, 7, 13, 14, 16, 17, 25, 29, 33, 49, 53, 61, 65, 73, 77, 81, 85, 86, 87] [] (drOk 8)) = some c_marlineref06_takeInst := by kernel_rfl
theorem u_marlineref06_takeInst : trRess Try.prog 8 (Try.f67).results.toList = some r_marlineref06_takeInst := by kernel_rfl

/-- marline/marlineref06.takeEnd -/
def c_marlineref06_takeEnd : ACode :=
  (.seq (.reg [⟨(some (sl 1)), none, (.box false (.s (sl 0))), none⟩, ⟨(some (sl 2)), none, (.new [(.string ⟨#[]⟩), (.int .i64 0)]), none⟩, ⟨(some (sl 3)), none, (.new [(.int .i64 0), (.int .i64 0), (.int .i64 0), (.slice none 0 0), (.int .i64 0), (.slice none 0 0)]), none⟩])
  (.seq (.reg [⟨(some (sl 7)), none, (.ld false (.s (sl 1)) (some 2)), none⟩, ⟨(some (sl 8)), none, (.call false (.f 43) [(.s (sl 7))]), none⟩, ⟨(some (sl 6)), none, (.mv (.s (sl 8))), none⟩, ⟨(some (sl 9)), none, (.ext (.s (sl 6)) 0), none⟩, ⟨(some (sl 10)), none, (.ext (.s (sl 6)) 1), none⟩, ⟨none, none, (.st (.s (sl 1)) (.s (sl 9)) 2), none⟩, ⟨(some (sl 4)), none, (.mv (.s (sl 10))), none⟩])
  (.seq (.reg [⟨(some (sl 11)), none, (.mv (.s (sl 4))), none⟩, ⟨(some (sl 12)), none, (.bld [(.int .i64 0), (.int .i64 0), (.int .i64 0), (.slice none 0 0), (.int .i64 0), (.slice none 0 0)] [(0, 1, (.s (sl 11)))]), none⟩, ⟨(some (sl 5)), none, (.new [(.int .i64 0), (.int .i64 0), (.int .i64 0), (.slice none 0 0), (.int .i64 0), (.slice none 0 0)]), none⟩, ⟨none, none, (.ini 1 (.s (sl 5)) (.s (sl 12)) 6), none⟩])
  (.seq (.seq (.reg [⟨(some (sl 13)), none, (.fld (.s (sl 1)) 1), none⟩, ⟨(some (sl 14)), none, (.ld false (.s (sl 13)) none), none⟩, ⟨(some (sl 15)), none, (.bin .neq (.s (sl 14)) (.c (.int .i64 0))), none⟩])
  (.cond (.s (sl 15))
  (.seq (.reg [⟨(some (sl 16)), none, (.ld false (.s (sl 1)) (some 2)), (some (0, [(sl 2), (sl 3)]))⟩, ⟨(some (sl 17)), none, (.ld false (.s (sl 5)) (some 6)), (some (1, [(sl 2), (sl 3)]))⟩, ⟨none, none, (.st (.s (sl 2)) (.s (sl 16)) 2), (some (2, [(sl 2), (sl 3)]))⟩, ⟨none, none, (.st (.s (sl 3)) (.s (sl 17)) 6), (some (3, [(sl 2), (sl 3)]))⟩])
  .ret)
  .skip))
  (.seq (.seq (.reg [⟨(some (sl 18)), none, (.mv (.s (sl 4))), none⟩, ⟨(some (sl 19)), none, (.bin .lss (.s (sl 18)) (.c (.int .i64 1))), none⟩, ⟨(some (sl 20)), none, (.mv (.s (sl 19))), none⟩, ⟨(some (sl 21)), (some ((sl 20), false)), (.mv (.s (sl 4))), none⟩, ⟨(some (sl 22)), (some ((sl 20), false)), (.bin .gtr (.s (sl 21)) (.c (.int .i64 3))), none⟩, ⟨(some (sl 23)), none, (.pick (.s (sl 20)) (.c (.bool true)) (.s (sl 22))), none⟩])
  (.cond (.s (sl 23))
  (.seq (.reg [⟨(some (sl 24)), none, (.bld [(.string ⟨#[]⟩), (.int .i64 0)] [(1, 1, (.c (.int .i64 3)))]), (some (0, [(sl 2), (sl 3)]))⟩, ⟨(some (sl 25)), none, (.ld false (.s (sl 5)) (some 6)), (some (1, [(sl 2), (sl 3)]))⟩, ⟨none, none, (.st (.s (sl 2)) (.s (sl 24)) 2), (some (2, [(sl 2), (sl 3)]))⟩, ⟨none, none, (.st (.s (sl 3)) (.s (sl 25)) 6), (some (3, [(sl 2), (sl 3)]))⟩])
  .ret)
  .skip))
  (.seq (.seq (.reg [⟨(some (sl 26)), none, (.mv (.s (sl 4))), none⟩, ⟨(some (sl 27)), none, (.bin .geq (.s (sl 26)) (.c (.int .i64 2))), none⟩])
  (.cond (.s (sl 27))
  (.reg [⟨(some (sl 29)), none, (.ld false (.s (sl 1)) (some 2)), none⟩, ⟨(some (sl 30)), none, (.call false (.f 43) [(.s (sl 29))]), none⟩, ⟨(some (sl 28)), none, (.mv (.s (sl 30))), none⟩, ⟨(some (sl 31)), none, (.ext (.s (sl 28)) 0), none⟩, ⟨(some (sl 32)), none, (.ext (.s (sl 28)) 1), none⟩, ⟨none, none, (.st (.s (sl 1)) (.s (sl 31)) 2), none⟩, ⟨(some (sl 33)), none, (.fld (.s (sl 5)) 1), none⟩, ⟨none, none, (.st (.s (sl 33)) (.s (sl 32)) 1), none⟩])
  .skip))
  (.seq (.seq (.reg [⟨(some (sl 34)), none, (.mv (.s (sl 4))), none⟩, ⟨(some (sl 35)), none, (.bin .leq (.s (sl 34)) (.c (.int .i64 2))), none⟩])
  (.cond (.s (sl 35))
  (.seq (.reg [⟨(some (sl 37)), none, (.ld false (.s (sl 1)) (some 2)), none⟩, ⟨(some (sl 38)), none, (.call false (.f 43) [(.s (sl 37))]), none⟩, ⟨(some (sl 36)), none, (.mv (.s (sl 38))), none⟩, ⟨(some (sl 39)), none, (.ext (.s (sl 36)) 0), none⟩, ⟨(some (sl 40)), none, (.ext (.s (sl 36)) 1), none⟩, ⟨none, none, (.st (.s (sl 1)) (.s (sl 39)) 2), none⟩, ⟨(some (sl 41)), none, (.fld (.s (sl 5)) 2), none⟩, ⟨none, none, (.st (.s (sl 41)) (.s (sl 40)) 1), none⟩])
  (.reg [⟨(some (sl 43)), none, (.ld false (.s (sl 1)) (some 2)), none⟩, ⟨(some (sl 44)), none, (.call false (.f 85) [(.s (sl 43))]), none⟩, ⟨(some (sl 42)), none, (.mv (.s (sl 44))), none⟩, ⟨(some (sl 45)), none, (.ext (.s (sl 42)) 0), none⟩, ⟨(some (sl 46)), none, (.ext (.s (sl 42)) 1), none⟩, ⟨none, none, (.st (.s (sl 1)) (.s (sl 45)) 2), none⟩, ⟨(some (sl 47)), none, (.fld (.s (sl 5)) 3), none⟩, ⟨none, none, (.st (.s (sl 47)) (.s (sl 46)) 1), none⟩]))
  .skip))
  (.seq (.seq (.reg [⟨(some (sl 48)), none, (.mv (.s (sl 4))), none⟩, ⟨(some (sl 49)), none, (.bin .eql (.s (sl 48)) (.c (.int .i64 2))), none⟩])
  (.cond (.s (sl 49))
  (.seq (.reg [⟨(some (sl 51)), none, (.ld false (.s (sl 1)) (some 2)), none⟩, ⟨(some (sl 52)), none, (.call false (.f 43) [(.s (sl 51))]), none⟩, ⟨(some (sl 50)), none, (.mv (.s (sl 52))), none⟩, ⟨(some (sl 53)), none, (.ext (.s (sl 50)) 0), none⟩, ⟨(some (sl 54)), none, (.ext (.s (sl 50)) 1), none⟩, ⟨none, none, (.st (.s (sl 1)) (.s (sl 53)) 2), none⟩, ⟨(some (sl 55)), none, (.fld (.s (sl 5)) 4), none⟩, ⟨none, none, (.st (.s (sl 55)) (.s (sl 54)) 1), none⟩])
  (.reg [⟨(some (sl 57)), none, (.ld false (.s (sl 1)) (some 2)), none⟩, ⟨(some (sl 58)), none, (.call false (.f 85) [(.s (sl 57))]), none⟩, ⟨(some (sl 56)), none, (.mv (.s (sl 58))), none⟩, ⟨(some (sl 59)), none, (.ext (.s (sl 56)) 0), none⟩, ⟨(some (sl 60)), none, (.ext (.s (sl 56)) 1), none⟩, ⟨none, none, (.st (.s (sl 1)) (.s (sl 59)) 2), none⟩, ⟨(some (sl 61)), none, (.fld (.s (sl 5)) 5), none⟩, ⟨none, none, (.st (.s (sl 61)) (.s (sl 60)) 1), none⟩]))
  .skip))
  (.seq (.reg [⟨(some (sl 62)), none, (.ld false (.s (sl 1)) (some 2)), (some (0, [(sl 2), (sl 3)]))⟩, ⟨(some (sl 63)), none, (.ld false (.s (sl 5)) (some 6)), (some (1, [(sl 2), (sl 3)]))⟩, ⟨none, none, (.st (.s (sl 2)) (.s (sl 62)) 2), (some (2, [(sl 2), (sl 3)]))⟩, ⟨none, none, (.st (.s (sl 3)) (.s (sl 63)) 6), (some (3, [(sl 2), (sl 3)]))⟩])
  .ret)))))))))
def r_marlineref06_takeEnd : List ARes := [(.cell (sl 2) (some 2)), (.cell (sl 3) (some 6))]
theorem t_marlineref06_takeEnd : (Try.f68).body.bind (trCode Try.prog 8 (Try.f68).ntmps [1, 2, 3, 5, 7, 13, 14, 16, 17, 25, 29, 33, 37, 41, 43, 47, 51, 55, 57, 61, 62, 63] [] (drOk 8)) = some c_marlineref06_takeEnd := by kernel_rfl
theorem u_marlineref06_takeEnd : trRess Try.prog 8 (Try.f68).results.toList = some r_marlineref06_takeEnd := by kernel_rfl

end Go.Proofs.Ytciihchbiifgkaa
/- The bodies of some functions, as the evaluator has them (printed by program), and that they are the program's own. -/
namespace Go.Proofs.Ytciihchbiifgkaa
open Go.RowKit

/-- marline/marlineref06.takeBlock -/
def c_marlineref06_takeBlock : ACode :=
  (.seq (.reg [⟨(some (sl 1)), none, (.box false (.s (sl 0))), none⟩, ⟨(some (sl 2)), none, (.new [(.string ⟨#[]⟩), (.int .i64 0)]), none⟩, ⟨(some (sl 3)), none, (.new [(.int .i64 0), (.slice none 0 0), (.int .i64 0), (.int .i64 0), (.int .i64 0), (.slice none 0 0), (.int .i64 0), (.slice none 0 0)]), none⟩])
  (.seq (.reg [⟨(some (sl 11)), none, (.ld false (.s (sl 1)) (some 2)), none⟩, ⟨(some (sl 12)), none, (.call false (.f 43) [(.s (sl 11))]), none⟩, ⟨(some (sl 10)), none, (.mv (.s (sl 12))), none⟩, ⟨(some (sl 13)), none, (.ext (.s (sl 10)) 0), none⟩, ⟨(some (sl 14)), none, (.ext (.s (sl 10)) 1), none⟩, ⟨none, none, (.st (.s (sl 1)) (.s (sl 13)) 2), none⟩, ⟨(some (sl 4)), none, (.mv (.s (sl 14))), none⟩])
  (.seq (.reg [⟨(some (sl 15)), none, (.mv (.s (sl 4))), none⟩, ⟨(some (sl 16)), none, (.bld [(.int .i64 0), (.slice none 0 0), (.int .i64 0), (.int .i64 0), (.int .i64 0), (.slice none 0 0), (.int .i64 0), (.slice none 0 0)] [(0, 1, (.s (sl 15)))]), none⟩, ⟨(some (sl 5)), none, (.new [(.int .i64 0), (.slice none 0 0), (.int .i64 0), (.int .i64 0), (.int .i64 0), (.slice none 0 0), (.int .i64 0), (.slice none 0 0)]), none⟩, ⟨none, none, (.ini 1 (.s (sl 5)) (.s (sl 16)) 8), none⟩])
  (.seq (.reg [⟨(some (sl 18)), none, (.ld false (.s (sl 1)) (some 2)), none⟩, ⟨(some (sl 19)), none, (.call false (.f 41) [(.s (sl 18)), (.c (.int .u64 32))]), none⟩, ⟨(some (sl 17)), none, (.mv (.s (sl 19))), none⟩, ⟨(some (sl 20)), none, (.ext (.s (sl 17)) 0), none⟩, ⟨(some (sl 21)), none, (.ext (.s (sl 17)) 1), none⟩, ⟨none, none, (.st (.s (sl 1)) (.s (sl 20)) 2), none⟩, ⟨(some (sl 6)), none, (.mv (.s (sl 21))), none⟩])
  (.seq (.seq (.reg [⟨(some (sl 7)), none, (.mv (.c (.int .i64 0))), none⟩])
  (.block 0
  (.loop (.seq (.seq (.reg [⟨(some (sl 22)), none, (.mv (.s (sl 7))), none⟩, ⟨(some (sl 23)), none, (.mv (.s (sl 6))), none⟩, ⟨(some (sl 24)), none, (.bin .lss (.s (sl 22)) (.s (sl 23))), none⟩, ⟨(some (sl 25)), none, (.mv (.s (sl 24))), none⟩, ⟨(some (sl 26)), (some ((sl 25), true)), (.fld (.s (sl 1)) 1), none⟩, ⟨(some (sl 27)), (some ((sl 25), true)), (.ld false (.s (sl 26)) none), none⟩, ⟨(some (sl 28)), (some ((sl 25), true)), (.bin .eql (.s (sl 27)) (.c (.int .i64 0))), none⟩, ⟨(some (sl 29)), none, (.pick (.s (sl 25)) (.s (sl 28)) (.c (.bool false))), none⟩])
  (.cond (.s (sl 29))
  .skip
  (.exit 0)))
  (.seq (.block 1
  (.seq (.seq (.seq (.reg [⟨(some (sl 33)), none, (.ld false (.s (sl 1)) (some 2)), none⟩, ⟨(some (sl 34)), none, (.call false (.f 67) [(.s (sl 33))]), none⟩, ⟨(some (sl 32)), none, (.mv (.s (sl 34))), none⟩, ⟨(some (sl 35)), none, (.ext (.s (sl 32)) 0), none⟩, ⟨(some (sl 36)), none, (.ext (.s (sl 32)) 1), none⟩, ⟨(some (sl 8)), none, (.new [(.string ⟨#[]⟩), (.int .i64 0)]), none⟩, ⟨(some (sl 9)), none, (.new [(.int .i64 0), (.int .i64 0), (.int .i64 0), (.int .u64 0), (.string ⟨#[]⟩), (.slice none 0 0)]), none⟩, ⟨none, none, (.ini 2 (.s (sl 8)) (.s (sl 35)) 2), none⟩, ⟨none, none, (.ini 2 (.s (sl 9)) (.s (sl 36)) 6), none⟩])
  (.frz (sl 8)))
  (.frz (sl 9)))
  (.seq (.reg [⟨(some (sl 37)), none, (.ld true (.s (sl 8)) (some 2)), none⟩, ⟨none, none, (.st (.s (sl 1)) (.s (sl 37)) 2), none⟩])
  (.reg [⟨(some (sl 38)), none, (.fld (.s (sl 5)) 1), none⟩, ⟨(some (sl 39)), none, (.ld false (.s (sl 38)) none), none⟩, ⟨(some (sl 40)), none, (.ld true (.s (sl 9)) (some 6)), none⟩, ⟨(some (sl 41)), none, (.mksl 6 1 [(.int .i64 0), (.int .i64 0), (.int .i64 0), (.int .u64 0), (.string ⟨#[]⟩), (.slice none 0 0)] [(0, 6, (.s (sl 40)))]), none⟩, ⟨(some (sl 42)), none, (.app 82 6 72 (.s (sl 39)) (.s (sl 41))), none⟩, ⟨(some (sl 43)), none, (.fld (.s (sl 5)) 1), none⟩, ⟨none, none, (.st (.s (sl 43)) (.s (sl 42)) 1), none⟩]))))
  (.reg [⟨(some (sl 30)), none, (.mv (.s (sl 7))), none⟩, ⟨(some (sl 31)), none, (.bin .add (.s (sl 30)) (.c (.int .i64 1))), none⟩, ⟨(some (sl 7)), none, (.mv (.s (sl 31))), none⟩]))))))
  (.seq (.reg [⟨(some (sl 45)), none, (.ld false (.s (sl 1)) (some 2)), none⟩, ⟨(some (sl 46)), none, (.call false (.f 68) [(.s (sl 45))]), none⟩, ⟨(some (sl 44)), none, (.mv (.s (sl 46))), none⟩, ⟨(some (sl 47)), none, (.ext (.s (sl 44)) 0), none⟩, ⟨(some (sl 48)), none, (.ext (.s (sl 44)) 1), none⟩, ⟨none, none, (.st (.s (sl 1)) (.s (sl 47)) 2), none⟩, ⟨(some (sl 49)), none, (.fld (.s (sl 5)) 2), none⟩, ⟨none, none, (.st (.s (sl 49)) (.s (sl 48)) 6), none⟩])
  (.seq (.seq (.frz (sl 5))
  (.reg [⟨(some (sl 50)), none, (.ld false (.s (sl 1)) (some 2)), (some (0, [(sl 2), (sl 3)]))⟩, ⟨(some (sl 51)), none, (.ld false (.s (sl 5)) (some 8)), (some (1, [(sl 2), (sl 3)]))⟩, ⟨none, none, (.st (.s (sl 2)) (.s (sl 50)) 2), (some (2, [(sl 2), (sl 3)]))⟩, ⟨none, none, (.st (.s (sl 3)) (.s (sl 51)) 8), (some (3, [(sl 2), (sl 3)]))⟩]))
  .ret)))))))
def r_marlineref06_takeBlock : List ARes := [(.cell (sl 2) (some 2)), (.cell (sl 3) (some 8))]
theorem t_marlineref06_takeBlock : (Try.f44).body.bind (trCode Try.prog 8 (Try.f44).ntmps [1, 2, 3, 5, 11, 18, 26, 27, 33, 38, 39, 42, 43, 45, 49, 50, 51] [(4000005, 0, 1)] (drOk 8)) = some c_marlineref06_takeBlock := by kernel_rfl
theorem u_marlineref06_takeBlock : trRess Try.prog 8 (Try.f44).results.toList = some r_marlineref06_takeBlock := by kernel_rfl

end Go.Proofs.Ytciihchbiifgkaa
/- The bodies of some functions, as the evaluator has them (printed by program), and that they are the program's own. -/
namespace Go.Proofs.Ytciihchbiifgkaa
open Go.RowKit

/-- marline/marlineref06.Take -/
def c_marlineref06_Take : ACode :=
  (.seq (.reg [⟨(some (sl 2)), none, (.new [(.slice none 0 0), (.slice none 0 0)]), none⟩, ⟨(some (sl 3)), none, (.mv (.c (.int .i64 0))), none⟩])
  (.seq (.seq (.reg [⟨(some (sl 20)), none, (.mv (.s (sl 0))), none⟩, ⟨(some (sl 21)), none, (.len true (.s (sl 20))), none⟩, ⟨(some (sl 22)), none, (.bin .lss (.s (sl 21)) (.c (.int .i64 4))), none⟩, ⟨(some (sl 23)), none, (.mv (.s (sl 22))), none⟩, ⟨(some (sl 24)), (some ((sl 23), false)), (.mv (.s (sl 0))), none⟩, ⟨(some (sl 25)), (some ((sl 23), false)), (.sslc (.s (sl 24)) none (some (.c (.int .i64 4)))), none⟩, ⟨(some (sl 26)), (some ((sl 23), false)), (.bin .neq (.s (sl 25)) (.c (.string ⟨#[77, 73, 82, 49]⟩))), none⟩, ⟨(some (sl 27)), none, (.pick (.s (sl 23)) (.c (.bool true)) (.s (sl 26))), none⟩])
  (.cond (.s (sl 27))
  (.seq (.reg [⟨(some (sl 28)), none, (.bld [(.slice none 0 0), (.slice none 0 0)] []), none⟩, ⟨none, none, (.st (.s (sl 2)) (.s (sl 28)) 2), none⟩, ⟨(some (sl 3)), none, (.mv (.c (.int .i64 3))), none⟩])
  .ret)
  .skip))
  (.seq (.reg [⟨(some (sl 29)), none, (.bld [(.slice none 0 0), (.slice none 0 0)] []), none⟩, ⟨(some (sl 4)), none, (.new [(.slice none 0 0), (.slice none 0 0)]), none⟩, ⟨none, none, (.ini 1 (.s (sl 4)) (.s (sl 29)) 2), none⟩])
  (.seq (.reg [⟨(some (sl 31)), none, (.mv (.s (sl 0))), none⟩, ⟨(some (sl 32)), none, (.sslc (.s (sl 31)) (some (.c (.int .i64 4))) none), none⟩, ⟨(some (sl 33)), none, (.bld [(.string ⟨#[]⟩), (.int .i64 0)] [(0, 1, (.s (sl 32)))]), none⟩, ⟨(some (sl 34)), none, (.call true (.f 41) [(.s (sl 33)), (.c (.int .u64 16))]), none⟩, ⟨(some (sl 30)), none, (.mv (.s (sl 34))), none⟩, ⟨(some (sl 35)), none, (.ext (.s (sl 30)) 0), none⟩, ⟨(some (sl 36)), none, (.ext (.s (sl 30)) 1), none⟩, ⟨(some (sl 5)), none, (.new [(.string ⟨#[]⟩), (.int .i64 0)]), none⟩, ⟨none, none, (.ini 1 (.s (sl 5)) (.s (sl 35)) 2), none⟩, ⟨(some (sl 6)), none, (.mv (.s (sl 36))), none⟩])
  (.seq (.seq (.reg [⟨(some (sl 7)), none, (.mv (.c (.int .i64 0))), none⟩])
  (.block 0
  (.loop (.seq (.seq (.reg [⟨(some (sl 37)), none, (.mv (.s (sl 7))), none⟩, ⟨(some (sl 38)), none, (.mv (.s (sl 6))), none⟩, ⟨(some (sl 39)), none, (.bin .lss (.s (sl 37)) (.s (sl 38))), none⟩, ⟨(some (sl 40)), none, (.mv (.s (sl 39))), none⟩, ⟨(some (sl 41)), (some ((sl 40), true)), (.fld (.s (sl 5)) 1), none⟩, ⟨(some (sl 42)), (some ((sl 40), true)), (.ld false (.s (sl 41)) none), none⟩, ⟨(some (sl 43)), (some ((sl 40), true)), (.bin .eql (.s (sl 42)) (.c (.int .i64 0))), none⟩, ⟨(some (sl 44)), none, (.pick (.s (sl 40)) (.s (sl 43)) (.c (.bool false))), none⟩])
  (.cond (.s (sl 44))
  .skip
  (.exit 0)))
  (.seq (.block 1
  (.seq (.reg [⟨(some (sl 47)), none, (.bld [(.string ⟨#[]⟩), (.int .i64 0), (.int .i64 0), (.slice none 0 0)] []), none⟩, ⟨(some (sl 8)), none, (.new [(.string ⟨#[]⟩), (.int .i64 0), (.int .i64 0), (.slice none 0 0)]), none⟩, ⟨none, none, (.ini 1 (.s (sl 8)) (.s (sl 47)) 4), none⟩])
  (.seq (.reg [⟨(some (sl 49)), none, (.ld false (.s (sl 5)) (some 2)), none⟩, ⟨(some (sl 50)), none, (.call false (.f 42) [(.s (sl 49))]), none⟩, ⟨(some (sl 48)), none, (.mv (.s (sl 50))), none⟩, ⟨(some (sl 51)), none, (.ext (.s (sl 48)) 0), none⟩, ⟨(some (sl 52)), none, (.ext (.s (sl 48)) 1), none⟩, ⟨none, none, (.st (.s (sl 5)) (.s (sl 51)) 2), none⟩, ⟨(some (sl 53)), none, (.fld (.s (sl 8)) 0), none⟩, ⟨none, none, (.st (.s (sl 53)) (.s (sl 52)) 1), none⟩])
  (.seq (.reg [⟨(some (sl 55)), none, (.ld false (.s (sl 5)) (some 2)), none⟩, ⟨(some (sl 56)), none, (.call false (.f 43) [(.s (sl 55))]), none⟩, ⟨(some (sl 54)), none, (.mv (.s (sl 56))), none⟩, ⟨(some (sl 57)), none, (.ext (.s (sl 54)) 0), none⟩, ⟨(some (sl 58)), none, (.ext (.s (sl 54)) 1), none⟩, ⟨none, none, (.st (.s (sl 5)) (.s (sl 57)) 2), none⟩, ⟨(some (sl 59)), none, (.fld (.s (sl 8)) 1), none⟩, ⟨none, none, (.st (.s (sl 59)) (.s (sl 58)) 1), none⟩])
  (.seq (.reg [⟨(some (sl 61)), none, (.ld false (.s (sl 5)) (some 2)), none⟩, ⟨(some (sl 62)), none, (.call false (.f 43) [(.s (sl 61))]), none⟩, ⟨(some (sl 60)), none, (.mv (.s (sl 62))), none⟩, ⟨(some (sl 63)), none, (.ext (.s (sl 60)) 0), none⟩, ⟨(some (sl 64)), none, (.ext (.s (sl 60)) 1), none⟩, ⟨none, none, (.st (.s (sl 5)) (.s (sl 63)) 2), none⟩, ⟨(some (sl 65)), none, (.fld (.s (sl 8)) 2), none⟩, ⟨none, none, (.st (.s (sl 65)) (.s (sl 64)) 1), none⟩])
  (.seq (.seq (.reg [⟨(some (sl 67)), none, (.ld false (.s (sl 5)) (some 2)), none⟩, ⟨(some (sl 68)), none, (.call false (.f 41) [(.s (sl 67)), (.c (.int .u64 16))]), none⟩, ⟨(some (sl 66)), none, (.mv (.s (sl 68))), none⟩, ⟨(some (sl 69)), none, (.ext (.s (sl 66)) 0), none⟩, ⟨(some (sl 70)), none, (.ext (.s (sl 66)) 1), none⟩, ⟨(some (sl 9)), none, (.new [(.string ⟨#[]⟩), (.int .i64 0)]), none⟩, ⟨none, none, (.ini 1 (.s (sl 9)) (.s (sl 69)) 2), none⟩, ⟨(some (sl 10)), none, (.mv (.s (sl 70))), none⟩])
  (.frz (sl 9)))
  (.seq (.reg [⟨(some (sl 71)), none, (.ld true (.s (sl 9)) (some 2)), none⟩, ⟨none, none, (.st (.s (sl 5)) (.s (sl 71)) 2), none⟩])
  (.seq (.seq (.reg [⟨(some (sl 11)), none, (.mv (.c (.int .i64 0))), none⟩])
  (.block 2
  (.loop (.seq (.seq (.reg [⟨(some (sl 72)), none, (.mv (.s (sl 11))), none⟩, ⟨(some (sl 73)), none, (.mv (.s (sl 10))), none⟩, ⟨(some (sl 74)), none, (.bin .lss (.s (sl 72)) (.s (sl 73))), none⟩, ⟨(some (sl 75)), none, (.mv (.s (sl 74))), none⟩, ⟨(some (sl 76)), (some ((sl 75), true)), (.fld (.s (sl 5)) 1), none⟩, ⟨(some (sl 77)), (some ((sl 75), true)), (.ld false (.s (sl 76)) none), none⟩, ⟨(some (sl 78)), (some ((sl 75), true)), (.bin .eql (.s (sl 77)) (.c (.int .i64 0))), none⟩, ⟨(some (sl 79)), none, (.pick (.s (sl 75)) (.s (sl 78)) (.c (.bool false))), none⟩])
  (.cond (.s (sl 79))
  .skip
  (.exit 2)))
  (.seq (.block 3
  (.seq (.seq (.seq (.reg [⟨(some (sl 83)), none, (.ld false (.s (sl 5)) (some 2)), none⟩, ⟨(some (sl 84)), none, (.call false (.f 44) [(.s (sl 83))]), none⟩, ⟨(some (sl 82)), none, (.mv (.s (sl 84))), none⟩, ⟨(some (sl 85)), none, (.ext (.s (sl 82)) 0), none⟩, ⟨(some (sl 86)), none, (.ext (.s (sl 82)) 1), none⟩, ⟨(some (sl 12)), none, (.new [(.string ⟨#[]⟩), (.int .i64 0)]), none⟩, ⟨(some (sl 13)), none, (.new [(.int .i64 0), (.slice none 0 0), (.int .i64 0), (.int .i64 0), (.int .i64 0), (.slice none 0 0), (.int .i64 0), (.slice none 0 0)]), none⟩, ⟨none, none, (.ini 2 (.s (sl 12)) (.s (sl 85)) 2), none⟩, ⟨none, none, (.ini 2 (.s (sl 13)) (.s (sl 86)) 8), none⟩])
  (.frz (sl 12)))
  (.frz (sl 13)))
  (.seq (.reg [⟨(some (sl 87)), none, (.ld true (.s (sl 12)) (some 2)), none⟩, ⟨none, none, (.st (.s (sl 5)) (.s (sl 87)) 2), none⟩])
  (.reg [⟨(some (sl 88)), none, (.fld (.s (sl 8)) 3), none⟩, ⟨(some (sl 89)), none, (.ld false (.s (sl 88)) none), none⟩, ⟨(some (sl 90)), none, (.ld true (.s (sl 13)) (some 8)), none⟩, ⟨(some (sl 91)), none, (.mksl 8 1 [(.int .i64 0), (.slice none 0 0), (.int .i64 0), (.int .i64 0), (.int .i64 0), (.slice none 0 0), (.int .i64 0), (.slice none 0 0)] [(0, 8, (.s (sl 90)))]), none⟩, ⟨(some (sl 92)), none, (.app 68 8 112 (.s (sl 89)) (.s (sl 91))), none⟩, ⟨(some (sl 93)), none, (.fld (.s (sl 8)) 3), none⟩, ⟨none, none, (.st (.s (sl 93)) (.s (sl 92)) 1), none⟩]))))
  (.reg [⟨(some (sl 80)), none, (.mv (.s (sl 11))), none⟩, ⟨(some (sl 81)), none, (.bin .add (.s (sl 80)) (.c (.int .i64 1))), none⟩, ⟨(some (sl 11)), none, (.mv (.s (sl 81))), none⟩]))))))
  (.seq (.frz (sl 8))
  (.reg [⟨(some (sl 94)), none, (.fld (.s (sl 4)) 0), none⟩, ⟨(some (sl 95)), none, (.ld false (.s (sl 94)) none), none⟩, ⟨(some (sl 96)), none, (.ld false (.s (sl 8)) (some 4)), none⟩, ⟨(some (sl 97)), none, (.mksl 4 1 [(.string ⟨#[]⟩), (.int .i64 0), (.int .i64 0), (.slice none 0 0)] [(0, 4, (.s (sl 96)))]), none⟩, ⟨(some (sl 98)), none, (.app 59 4 56 (.s (sl 95)) (.s (sl 97))), none⟩, ⟨(some (sl 99)), none, (.fld (.s (sl 4)) 0), none⟩, ⟨none, none, (.st (.s (sl 99)) (.s (sl 98)) 1), none⟩]))))))))))
  (.reg [⟨(some (sl 45)), none, (.mv (.s (sl 7))), none⟩, ⟨(some (sl 46)), none, (.bin .add (.s (sl 45)) (.c (.int .i64 1))), none⟩, ⟨(some (sl 7)), none, (.mv (.s (sl 46))), none⟩]))))))
  (.seq (.reg [⟨(some (sl 101)), none, (.ld false (.s (sl 5)) (some 2)), none⟩, ⟨(some (sl 102)), none, (.call false (.f 41) [(.s (sl 101)), (.c (.int .u64 16))]), none⟩, ⟨(some (sl 100)), none, (.mv (.s (sl 102))), none⟩, ⟨(some (sl 103)), none, (.ext (.s (sl 100)) 0), none⟩, ⟨(some (sl 104)), none, (.ext (.s (sl 100)) 1), none⟩, ⟨none, none, (.st (.s (sl 5)) (.s (sl 103)) 2), none⟩, ⟨(some (sl 14)), none, (.mv (.s (sl 104))), none⟩])
  (.seq (.seq (.reg [⟨(some (sl 15)), none, (.mv (.c (.int .i64 0))), none⟩])
  (.block 4
  (.loop (.seq (.seq (.reg [⟨(some (sl 105)), none, (.mv (.s (sl 15))), none⟩, ⟨(some (sl 106)), none, (.mv (.s (sl 14))), none⟩, ⟨(some (sl 107)), none, (.bin .lss (.s (sl 105)) (.s (sl 106))), none⟩, ⟨(some (sl 108)), none, (.mv (.s (sl 107))), none⟩, ⟨(some (sl 109)), (some ((sl 108), true)), (.fld (.s (sl 5)) 1), none⟩, ⟨(some (sl 110)), (some ((sl 108), true)), (.ld false (.s (sl 109)) none), none⟩, ⟨(some (sl 111)), (some ((sl 108), true)), (.bin .eql (.s (sl 110)) (.c (.int .i64 0))), none⟩, ⟨(some (sl 112)), none, (.pick (.s (sl 108)) (.s (sl 111)) (.c (.bool false))), none⟩])
  (.cond (.s (sl 112))
  .skip
  (.exit 4)))
  (.seq (.block 5
  (.seq (.reg [⟨(some (sl 115)), none, (.bld [(.string ⟨#[]⟩), (.int .i64 0), (.bool false), (.int .u64 0)] []), none⟩, ⟨(some (sl 16)), none, (.new [(.string ⟨#[]⟩), (.int .i64 0), (.bool false), (.int .u64 0)]), none⟩, ⟨none, none, (.ini 1 (.s (sl 16)) (.s (sl 115)) 4), none⟩])
  (.seq (.reg [⟨(some (sl 117)), none, (.ld false (.s (sl 5)) (some 2)), none⟩, ⟨(some (sl 118)), none, (.call false (.f 42) [(.s (sl 117))]), none⟩, ⟨(some (sl 116)), none, (.mv (.s (sl 118))), none⟩, ⟨(some (sl 119)), none, (.ext (.s (sl 116)) 0), none⟩, ⟨(some (sl 120)), none, (.ext (.s (sl 116)) 1), none⟩, ⟨none, none, (.st (.s (sl 5)) (.s (sl 119)) 2), none⟩, ⟨(some (sl 121)), none, (.fld (.s (sl 16)) 0), none⟩, ⟨none, none, (.st (.s (sl 121)) (.s (sl 120)) 1), none⟩])
  (.seq (.reg [⟨(some (sl 123)), none, (.ld false (.s (sl 5)) (some 2)), none⟩, ⟨(some (sl 124)), none, (.call false (.f 43) [(.s (sl 123))]), none⟩, ⟨(some (sl 122)), none, (.mv (.s (sl 124))), none⟩, ⟨(some (sl 125)), none, (.ext (.s (sl 122)) 0), none⟩, ⟨(some (sl 126)), none, (.ext (.s (sl 122)) 1), none⟩, ⟨none, none, (.st (.s (sl 5)) (.s (sl 125)) 2), none⟩, ⟨(some (sl 127)), none, (.fld (.s (sl 16)) 1), none⟩, ⟨none, none, (.st (.s (sl 127)) (.s (sl 126)) 1), none⟩])
  (.seq (.seq (.reg [⟨(some (sl 129)), none, (.ld false (.s (sl 5)) (some 2)), none⟩, ⟨(some (sl 130)), none, (.call false (.f 43) [(.s (sl 129))]), none⟩, ⟨(some (sl 128)), none, (.mv (.s (sl 130))), none⟩, ⟨(some (sl 131)), none, (.ext (.s (sl 128)) 0), none⟩, ⟨(some (sl 132)), none, (.ext (.s (sl 128)) 1), none⟩, ⟨(some (sl 17)), none, (.new [(.string ⟨#[]⟩), (.int .i64 0)]), none⟩, ⟨none, none, (.ini 1 (.s (sl 17)) (.s (sl 131)) 2), none⟩, ⟨(some (sl 18)), none, (.mv (.s (sl 132))), none⟩])
  (.frz (sl 17)))
  (.seq (.reg [⟨(some (sl 133)), none, (.ld true (.s (sl 17)) (some 2)), none⟩, ⟨none, none, (.st (.s (sl 5)) (.s (sl 133)) 2), none⟩])
  (.seq (.seq (.reg [⟨(some (sl 134)), none, (.fld (.s (sl 5)) 1), none⟩, ⟨(some (sl 135)), none, (.ld false (.s (sl 134)) none), none⟩, ⟨(some (sl 136)), none, (.bin .eql (.s (sl 135)) (.c (.int .i64 0))), none⟩, ⟨(some (sl 137)), none, (.mv (.s (sl 136))), none⟩, ⟨(some (sl 138)), (some ((sl 137), true)), (.mv (.s (sl 18))), none⟩, ⟨(some (sl 139)), (some ((sl 137), true)), (.bin .gtr (.s (sl 138)) (.c (.int .i64 1))), none⟩, ⟨(some (sl 140)), none, (.pick (.s (sl 137)) (.s (sl 139)) (.c (.bool false))), none⟩])
  (.cond (.s (sl 140))
  (.reg [⟨(some (sl 141)), none, (.bld [(.string ⟨#[]⟩), (.int .i64 0)] [(1, 1, (.c (.int .i64 3)))]), none⟩, ⟨none, none, (.st (.s (sl 5)) (.s (sl 141)) 2), none⟩])
  .skip))
  (.seq (.reg [⟨(some (sl 142)), none, (.mv (.s (sl 18))), none⟩, ⟨(some (sl 143)), none, (.bin .eql (.s (sl 142)) (.c (.int .i64 1))), none⟩, ⟨(some (sl 144)), none, (.fld (.s (sl 16)) 2), none⟩, ⟨none, none, (.st (.s (sl 144)) (.s (sl 143)) 1), none⟩])
  (.seq (.reg [⟨(some (sl 146)), none, (.ld false (.s (sl 5)) (some 2)), none⟩, ⟨(some (sl 147)), none, (.call false (.f 45) [(.s (sl 146))]), none⟩, ⟨(some (sl 145)), none, (.mv (.s (sl 147))), none⟩, ⟨(some (sl 148)), none, (.ext (.s (sl 145)) 0), none⟩, ⟨(some (sl 149)), none, (.ext (.s (sl 145)) 1), none⟩, ⟨none, none, (.st (.s (sl 5)) (.s (sl 148)) 2), none⟩, ⟨(some (sl 150)), none, (.fld (.s (sl 16)) 3), none⟩, ⟨none, none, (.st (.s (sl 150)) (.s (sl 149)) 1), none⟩])
  (.reg [⟨(some (sl 151)), none, (.fld (.s (sl 4)) 1), none⟩, ⟨(some (sl 152)), none, (.ld false (.s (sl 151)) none), none⟩, ⟨(some (sl 153)), none, (.ld false (.s (sl 16)) (some 4)), none⟩, ⟨(some (sl 154)), none, (.mksl 4 1 [(.string ⟨#[]⟩), (.int .i64 0), (.bool false), (.int .u64 0)] [(0, 4, (.s (sl 153)))]), none⟩, ⟨(some (sl 155)), none, (.app 73 4 40 (.s (sl 152)) (.s (sl 154))), none⟩, ⟨(some (sl 156)), none, (.fld (.s (sl 4)) 1), none⟩, ⟨none, none, (.st (.s (sl 156)) (.s (sl 155)) 1), none⟩]))))))))))
  (.reg [⟨(some (sl 113)), none, (.mv (.s (sl 15))), none⟩, ⟨(some (sl 114)), none, (.bin .add (.s (sl 113)) (.c (.int .i64 1))), none⟩, ⟨(some (sl 15)), none, (.mv (.s (sl 114))), none⟩]))))))
  (.seq (.seq (.reg [⟨(some (sl 157)), none, (.fld (.s (sl 5)) 1), none⟩, ⟨(some (sl 158)), none, (.ld false (.s (sl 157)) none), none⟩, ⟨(some (sl 159)), none, (.bin .neq (.s (sl 158)) (.c (.int .i64 0))), none⟩])
  (.cond (.s (sl 159))
  (.seq (.reg [⟨(some (sl 160)), none, (.bld [(.slice none 0 0), (.slice none 0 0)] []), (some (0, [(sl 2)]))⟩, ⟨(some (sl 161)), none, (.fld (.s (sl 5)) 1), (some (1, [(sl 2)]))⟩, ⟨(some (sl 162)), none, (.ld false (.s (sl 161)) none), (some (2, [(sl 2)]))⟩, ⟨none, none, (.st (.s (sl 2)) (.s (sl 160)) 2), (some (3, [(sl 2)]))⟩, ⟨(some (sl 3)), none, (.mv (.s (sl 162))), (some (4, [(sl 2)]))⟩])
  .ret)
  .skip))
  (.seq (.seq (.reg [⟨(some (sl 163)), none, (.fld (.s (sl 5)) 0), none⟩, ⟨(some (sl 164)), none, (.ld false (.s (sl 163)) none), none⟩, ⟨(some (sl 165)), none, (.len true (.s (sl 164))), none⟩, ⟨(some (sl 166)), none, (.bin .gtr (.s (sl 165)) (.c (.int .i64 0))), none⟩])
  (.cond (.s (sl 166))
  (.seq (.reg [⟨(some (sl 167)), none, (.bld [(.slice none 0 0), (.slice none 0 0)] []), none⟩, ⟨none, none, (.st (.s (sl 2)) (.s (sl 167)) 2), none⟩, ⟨(some (sl 3)), none, (.mv (.c (.int .i64 3))), none⟩])
  .ret)
  .skip))
  (.seq (.seq (.frz (sl 4))
  (.reg [⟨(some (sl 168)), none, (.ld false (.s (sl 4)) (some 2)), none⟩, ⟨(some (sl 169)), none, (.call false (.f 14) [(.s (sl 168))]), none⟩, ⟨(some (sl 19)), none, (.mv (.s (sl 169))), none⟩]))
  (.seq (.seq (.reg [⟨(some (sl 170)), none, (.mv (.s (sl 19))), none⟩, ⟨(some (sl 171)), none, (.bin .neq (.s (sl 170)) (.c (.int .i64 0))), none⟩])
  (.cond (.s (sl 171))
  (.seq (.reg [⟨(some (sl 172)), none, (.bld [(.slice none 0 0), (.slice none 0 0)] []), none⟩, ⟨(some (sl 173)), none, (.mv (.s (sl 19))), none⟩, ⟨none, none, (.st (.s (sl 2)) (.s (sl 172)) 2), none⟩, ⟨(some (sl 3)), none, (.mv (.s (sl 173))), none⟩])
  .ret)
  .skip))
  (.seq (.seq (.reg [⟨(some (sl 174)), none, (.mv (.s (sl 0))), none⟩, ⟨(some (sl 175)), none, (.len true (.s (sl 174))), none⟩, ⟨(some (sl 176)), none, (.bin .gtr (.s (sl 175)) (.c (.int .i64 65535))), none⟩])
  (.cond (.s (sl 176))
  (.seq (.reg [⟨(some (sl 177)), none, (.bld [(.slice none 0 0), (.slice none 0 0)] []), none⟩, ⟨none, none, (.st (.s (sl 2)) (.s (sl 177)) 2), none⟩, ⟨(some (sl 3)), none, (.mv (.c (.int .i64 4))), none⟩])
  .ret)
  .skip))
  (.seq (.seq (.frz (sl 4))
  (.reg [⟨(some (sl 178)), none, (.ld false (.s (sl 4)) (some 2)), none⟩, ⟨none, none, (.st (.s (sl 2)) (.s (sl 178)) 2), none⟩, ⟨(some (sl 3)), none, (.mv (.c (.int .i64 0))), none⟩]))
  .ret)))))))))))))
def r_marlineref06_Take : List ARes := [(.cell (sl 2) (some 2)), (.tmp (sl 3))]
theorem t_marlineref06_Take : (Try.f13).body.bind (trCode Try.prog 8 (Try.f13).ntmps [2, 3, 4, 5, 8, 16, 41, 42, 49, 53, 55, 59, 61, 65, 67, 76, 77, 83, 88, 89, 92, 93, 94, 95, 96, 97, 98, 99, 101, 109, 110, 117, 121, 123, 127, 129, 134, 135, 144, 146, 150, 151, 152, 153, 154, 155, 156, 157, 158, 161, 162, 163, 164, 168, 178] [(4000004, 0, 1), (4000008, 0, 1)] (drOk 8)) = some c_marlineref06_Take := by kernel_rfl
theorem u_marlineref06_Take : trRess Try.prog 8 (Try.f13).results.toList = some r_marlineref06_Take := by kernel_rfl

end Go.Proofs.Ytciihchbiifgkaa
