/- Some texts of one kind, one behind the other. -/
import Derived.Test.YtciihchbiifgkaaKE
/- The bodies of some functions, as the evaluator has them (printed by program), and that they are the program's own. -/
namespace Go.Proofs.Ytciihchbiifgkaa
open Go.RowKit

/-- (*marline/bit.reader).odd -/
def c___bit_reader__odd : ACode :=
  (.seq (.reg [⟨(some (sl 4)), none, (.mv (.s (sl 0))), none⟩, ⟨(some (sl 5)), none, (.nck (.s (sl 4))), none⟩, ⟨(some (sl 6)), none, (.fld (.s (sl 5)) 1), none⟩, ⟨(some (sl 7)), none, (.ld false (.s (sl 6)) none), none⟩, ⟨(some (sl 8)), none, (.bin .eql (.s (sl 7)) (.c (.int .i64 0))), none⟩])
  (.cond (.s (sl 8))
  (.reg [⟨(some (sl 9)), none, (.mv (.s (sl 0))), none⟩, ⟨(some (sl 10)), none, (.mv (.s (sl 1))), none⟩, ⟨(some (sl 11)), none, (.nck (.s (sl 9))), none⟩, ⟨(some (sl 12)), none, (.fld (.s (sl 11)) 1), none⟩, ⟨none, none, (.st (.s (sl 12)) (.s (sl 10)) 1), none⟩])
  .skip))
def r___bit_reader__odd : List ARes := []
theorem t___bit_reader__odd : (Try.f40).body.bind (trCode Try.prog 8 (Try.f40).ntmps [0, 4, 5, 6, 7, 9, 11, 12] [(40, 0, 0), (66, 0, 0), (63, 0, 0), (61, 0, 0), (62, 0, 0), (84, 0, 0), (83, 0, 0), (65, 0, 0), (37, 0, 0), (39, 0, 0), (36, 0, 0), (38, 0, 0), (64, 0, 0), (82, 0, 0), (92, 0, 0)] (drOk 8)) = some c___bit_reader__odd := by kernel_rfl
theorem u___bit_reader__odd : trRess Try.prog 8 (Try.f40).results.toList = some r___bit_reader__odd := by kernel_rfl

/-- (*marline/bit.reader).wide -/
def c___bit_reader__wide : ACode :=
  (.seq (.reg [⟨(some (sl 2)), none, (.mv (.c (.int .u64 0))), none⟩])
  (.seq (.seq (.reg [⟨(some (sl 6)), none, (.mv (.s (sl 0))), none⟩, ⟨(some (sl 7)), none, (.nck (.s (sl 6))), none⟩, ⟨(some (sl 8)), none, (.fld (.s (sl 7)) 1), none⟩, ⟨(some (sl 9)), none, (.ld false (.s (sl 8)) none), none⟩, ⟨(some (sl 10)), none, (.bin .neq (.s (sl 9)) (.c (.int .i64 0))), none⟩])
  (.cond (.s (sl 10))
  (.seq (.reg [⟨(some (sl 2)), none, (.mv (.c (.int .u64 0))), none⟩])
  .ret)
  .skip))
  (.seq (.reg [⟨(some (sl 12)), none, (.mv (.s (sl 0))), none⟩, ⟨(some (sl 13)), none, (.nck (.s (sl 12))), none⟩, ⟨(some (sl 14)), none, (.fld (.s (sl 13)) 0), none⟩, ⟨(some (sl 15)), none, (.ld false (.s (sl 14)) none), none⟩, ⟨(some (sl 16)), none, (.call false (.f 15) [(.s (sl 15))]), none⟩, ⟨(some (sl 11)), none, (.mv (.s (sl 16))), none⟩, ⟨(some (sl 17)), none, (.ext (.s (sl 11)) 0), none⟩, ⟨(some (sl 18)), none, (.ext (.s (sl 11)) 1), none⟩, ⟨(some (sl 19)), none, (.ext (.s (sl 11)) 2), none⟩, ⟨(some (sl 3)), none, (.mv (.s (sl 17))), none⟩, ⟨(some (sl 4)), none, (.mv (.s (sl 18))), none⟩, ⟨(some (sl 5)), none, (.mv (.s (sl 19))), none⟩])
  (.seq (.seq (.reg [⟨(some (sl 20)), none, (.mv (.s (sl 5))), none⟩, ⟨(some (sl 21)), none, (.bin .neq (.s (sl 20)) (.c (.int .i64 0))), none⟩])
  (.cond (.s (sl 21))
  (.seq (.reg [⟨(some (sl 22)), none, (.mv (.s (sl 0))), none⟩, ⟨(some (sl 23)), none, (.mv (.s (sl 5))), none⟩, ⟨(some (sl 24)), none, (.calle (.f 40) [(.s (sl 22)), (.s (sl 23))]), none⟩])
  (.seq (.reg [⟨(some (sl 2)), none, (.mv (.c (.int .u64 0))), none⟩])
  .ret))
  .skip))
  (.seq (.reg [⟨(some (sl 25)), none, (.mv (.s (sl 0))), none⟩, ⟨(some (sl 26)), none, (.mv (.s (sl 4))), none⟩, ⟨(some (sl 27)), none, (.nck (.s (sl 25))), none⟩, ⟨(some (sl 28)), none, (.fld (.s (sl 27)) 0), none⟩, ⟨none, none, (.st (.s (sl 28)) (.s (sl 26)) 1), none⟩])
  (.seq (.reg [⟨(some (sl 29)), none, (.mv (.s (sl 3))), none⟩, ⟨(some (sl 2)), none, (.mv (.s (sl 29))), none⟩])
  .ret))))))
def r___bit_reader__wide : List ARes := [(.tmp (sl 2))]
theorem t___bit_reader__wide : (Try.f66).body.bind (trCode Try.prog 8 (Try.f66).ntmps [0, 6, 7, 8, 9, 12, 13, 14, 15, 22, 24, 25, 27, 28] [(40, 0, 0), (66, 0, 0), (63, 0, 0), (61, 0, 0), (62, 0, 0), (84, 0, 0), (83, 0, 0), (65, 0, 0), (37, 0, 0), (39, 0, 0), (36, 0, 0), (38, 0, 0), (64, 0, 0), (82, 0, 0), (92, 0, 0)] (drOk 8)) = some c___bit_reader__wide := by kernel_rfl
theorem u___bit_reader__wide : trRess Try.prog 8 (Try.f66).results.toList = some r___bit_reader__wide := by kernel_rfl

/-- (*marline/bit.reader).num -/
def c___bit_reader__num : ACode :=
  (.seq (.reg [⟨(some (sl 2)), none, (.mv (.c (.int .i64 0))), none⟩])
  (.seq (.reg [⟨(some (sl 3)), none, (.mv (.s (sl 0))), none⟩, ⟨(some (sl 4)), none, (.calle (.f 61) [(.s (sl 3)), (.c (.int .u64 4294967295))]), none⟩, ⟨(some (sl 2)), none, (.mv (.s (sl 4))), none⟩])
  .ret))
def r___bit_reader__num : List ARes := [(.tmp (sl 2))]
theorem t___bit_reader__num : (Try.f63).body.bind (trCode Try.prog 8 (Try.f63).ntmps [0, 2, 3, 4] [(40, 0, 0), (66, 0, 0), (63, 0, 0), (61, 0, 0), (62, 0, 0), (84, 0, 0), (83, 0, 0), (65, 0, 0), (37, 0, 0), (39, 0, 0), (36, 0, 0), (38, 0, 0), (64, 0, 0), (82, 0, 0), (92, 0, 0)] (drOk 8)) = some c___bit_reader__num := by kernel_rfl
theorem u___bit_reader__num : trRess Try.prog 8 (Try.f63).results.toList = some r___bit_reader__num := by kernel_rfl

/-- (*marline/bit.reader).most -/
def c___bit_reader__most : ACode :=
  (.seq (.reg [⟨(some (sl 4)), none, (.mv (.c (.int .i64 0))), none⟩])
  (.seq (.reg [⟨(some (sl 6)), none, (.mv (.s (sl 0))), none⟩, ⟨(some (sl 7)), none, (.calle (.f 66) [(.s (sl 6))]), none⟩, ⟨(some (sl 5)), none, (.mv (.s (sl 7))), none⟩])
  (.seq (.seq (.reg [⟨(some (sl 8)), none, (.mv (.s (sl 5))), none⟩, ⟨(some (sl 9)), none, (.mv (.s (sl 1))), none⟩, ⟨(some (sl 10)), none, (.bin .gtr (.s (sl 8)) (.s (sl 9))), none⟩])
  (.cond (.s (sl 10))
  (.seq (.reg [⟨(some (sl 11)), none, (.mv (.s (sl 0))), none⟩, ⟨(some (sl 12)), none, (.calle (.f 40) [(.s (sl 11)), (.c (.int .i64 4))]), none⟩])
  (.seq (.reg [⟨(some (sl 4)), none, (.mv (.c (.int .i64 0))), none⟩])
  .ret))
  .skip))
  (.seq (.reg [⟨(some (sl 13)), none, (.mv (.s (sl 5))), none⟩, ⟨(some (sl 14)), none, (.cnv .i64 (.s (sl 13))), none⟩, ⟨(some (sl 4)), none, (.mv (.s (sl 14))), none⟩])
  .ret))))
def r___bit_reader__most : List ARes := [(.tmp (sl 4))]
theorem t___bit_reader__most : (Try.f61).body.bind (trCode Try.prog 8 (Try.f61).ntmps [0, 5, 6, 7, 8, 11, 12, 13] [(40, 0, 0), (66, 0, 0), (63, 0, 0), (61, 0, 0), (62, 0, 0), (84, 0, 0), (83, 0, 0), (65, 0, 0), (37, 0, 0), (39, 0, 0), (36, 0, 0), (38, 0, 0), (64, 0, 0), (82, 0, 0), (92, 0, 0)] (drOk 8)) = some c___bit_reader__most := by kernel_rfl
theorem u___bit_reader__most : trRess Try.prog 8 (Try.f61).results.toList = some r___bit_reader__most := by kernel_rfl

/-- (*marline/bit.reader).text -/
def c___bit_reader__text : ACode :=
  (.seq (.reg [⟨(some (sl 2)), none, (.mv (.c (.string ⟨#[]⟩))), none⟩])
  (.seq (.reg [⟨(some (sl 5)), none, (.mv (.s (sl 0))), none⟩, ⟨(some (sl 6)), none, (.calle (.f 61) [(.s (sl 5)), (.c (.int .u64 16))]), none⟩, ⟨(some (sl 3)), none, (.mv (.s (sl 6))), none⟩])
  (.seq (.seq (.reg [⟨(some (sl 7)), none, (.mv (.s (sl 3))), none⟩, ⟨(some (sl 8)), none, (.mv (.s (sl 0))), none⟩, ⟨(some (sl 9)), none, (.nck (.s (sl 8))), none⟩, ⟨(some (sl 10)), none, (.fld (.s (sl 9)) 0), none⟩, ⟨(some (sl 11)), none, (.ld false (.s (sl 10)) none), none⟩, ⟨(some (sl 12)), none, (.len true (.s (sl 11))), none⟩, ⟨(some (sl 13)), none, (.bin .gtr (.s (sl 7)) (.s (sl 12))), none⟩])
  (.cond (.s (sl 13))
  (.reg [⟨(some (sl 14)), none, (.mv (.s (sl 0))), none⟩, ⟨(some (sl 15)), none, (.calle (.f 40) [(.s (sl 14)), (.c (.int .i64 2))]), none⟩])
  .skip))
  (.seq (.seq (.reg [⟨(some (sl 16)), none, (.mv (.s (sl 0))), none⟩, ⟨(some (sl 17)), none, (.nck (.s (sl 16))), none⟩, ⟨(some (sl 18)), none, (.fld (.s (sl 17)) 1), none⟩, ⟨(some (sl 19)), none, (.ld false (.s (sl 18)) none), none⟩, ⟨(some (sl 20)), none, (.bin .neq (.s (sl 19)) (.c (.int .i64 0))), none⟩])
  (.cond (.s (sl 20))
  (.seq (.reg [⟨(some (sl 2)), none, (.mv (.c (.string ⟨#[]⟩))), none⟩])
  .ret)
  .skip))
  (.seq (.reg [⟨(some (sl 21)), none, (.mv (.s (sl 0))), none⟩, ⟨(some (sl 22)), none, (.nck (.s (sl 21))), none⟩, ⟨(some (sl 23)), none, (.fld (.s (sl 22)) 0), none⟩, ⟨(some (sl 24)), none, (.ld false (.s (sl 23)) none), none⟩, ⟨(some (sl 25)), none, (.mv (.s (sl 3))), none⟩, ⟨(some (sl 26)), none, (.sslc (.s (sl 24)) none (some (.s (sl 25)))), none⟩, ⟨(some (sl 4)), none, (.mv (.s (sl 26))), none⟩])
  (.seq (.reg [⟨(some (sl 27)), none, (.mv (.s (sl 0))), none⟩, ⟨(some (sl 28)), none, (.mv (.s (sl 0))), none⟩, ⟨(some (sl 29)), none, (.nck (.s (sl 28))), none⟩, ⟨(some (sl 30)), none, (.fld (.s (sl 29)) 0), none⟩, ⟨(some (sl 31)), none, (.ld false (.s (sl 30)) none), none⟩, ⟨(some (sl 32)), none, (.mv (.s (sl 3))), none⟩, ⟨(some (sl 33)), none, (.sslc (.s (sl 31)) (some (.s (sl 32))) none), none⟩, ⟨(some (sl 34)), none, (.nck (.s (sl 27))), none⟩, ⟨(some (sl 35)), none, (.fld (.s (sl 34)) 0), none⟩, ⟨none, none, (.st (.s (sl 35)) (.s (sl 33)) 1), none⟩])
  (.seq (.reg [⟨(some (sl 36)), none, (.mv (.s (sl 4))), none⟩, ⟨(some (sl 2)), none, (.mv (.s (sl 36))), none⟩])
  .ret)))))))
def r___bit_reader__text : List ARes := [(.tmp (sl 2))]
theorem t___bit_reader__text : (Try.f62).body.bind (trCode Try.prog 8 (Try.f62).ntmps [0, 2, 3, 4, 5, 6, 7, 8, 9, 10, 11, 14, 15, 16, 17, 18, 19, 21, 22, 23, 24, 25, 26, 27, 28, 29, 30, 31, 32, 33, 34, 35, 36] [(40, 0, 0), (66, 0, 0), (63, 0, 0), (61, 0, 0), (62, 0, 0), (84, 0, 0), (83, 0, 0), (65, 0, 0), (37, 0, 0), (39, 0, 0), (36, 0, 0), (38, 0, 0), (64, 0, 0), (82, 0, 0), (92, 0, 0)] (drOk 8)) = some c___bit_reader__text := by kernel_rfl
theorem u___bit_reader__text : trRess Try.prog 8 (Try.f62).results.toList = some r___bit_reader__text := by kernel_rfl

/-- (*marline/bit.reader).args -/
def c___bit_reader__args : ACode :=
  (.seq (.reg [⟨(some (sl 2)), none, (.mv (.c (.slice none 0 0))), none⟩])
  (.seq (.reg [⟨(some (sl 3)), none, (.mv (.s (sl 0))), none⟩, ⟨(some (sl 4)), none, (.mv (.s (sl 0))), none⟩, ⟨(some (sl 5)), none, (.mkbm 63 (.s (sl 4))), none⟩, ⟨(some (sl 6)), none, (.calle (.f 92) [(.s (sl 3)), (.c (.int .u64 6)), (.s (sl 5))]), none⟩, ⟨(some (sl 2)), none, (.mv (.s (sl 6))), none⟩])
  .ret))
def r___bit_reader__args : List ARes := [(.tmp (sl 2))]
theorem t___bit_reader__args : (Try.f84).body.bind (trCode Try.prog 8 (Try.f84).ntmps [0, 2, 3, 4, 5, 6] [(40, 0, 0), (66, 0, 0), (63, 0, 0), (61, 0, 0), (62, 0, 0), (84, 0, 0), (83, 0, 0), (65, 0, 0), (37, 0, 0), (39, 0, 0), (36, 0, 0), (38, 0, 0), (64, 0, 0), (82, 0, 0), (92, 0, 0)] (drOk 8)) = some c___bit_reader__args := by kernel_rfl
theorem u___bit_reader__args : trRess Try.prog 8 (Try.f84).results.toList = some r___bit_reader__args := by kernel_rfl

/-- (*marline/bit.reader).inst -/
def c___bit_reader__inst : ACode :=
  (.seq (.reg [⟨(some (sl 2)), none, (.new [(.int .i64 0), (.int .i64 0), (.int .i64 0), (.int .u64 0), (.string ⟨#[]⟩), (.slice none 0 0)]), none⟩])
  (.seq (.reg [⟨(some (sl 4)), none, (.mv (.s (sl 0))), none⟩, ⟨(some (sl 5)), none, (.calle (.f 63) [(.s (sl 4))]), none⟩, ⟨(some (sl 6)), none, (.bld [(.int .i64 0), (.int .i64 0), (.int .i64 0), (.int .u64 0), (.string ⟨#[]⟩), (.slice none 0 0)] [(0, 1, (.s (sl 5)))]), none⟩, ⟨(some (sl 3)), none, (.new [(.int .i64 0), (.int .i64 0), (.int .i64 0), (.int .u64 0), (.string ⟨#[]⟩), (.slice none 0 0)]), none⟩, ⟨none, none, (.ini 1 (.s (sl 3)) (.s (sl 6)) 6), none⟩])
  (.seq (.block 0
  (.seq (.reg [⟨(some (sl 8)), none, (.fld (.s (sl 3)) 0), none⟩, ⟨(some (sl 9)), none, (.ld false (.s (sl 8)) none), none⟩, ⟨(some (sl 10)), none, (.bin .lss (.s (sl 9)) (.c (.int .i64 1))), none⟩, ⟨(some (sl 11)), none, (.mv (.s (sl 10))), none⟩, ⟨(some (sl 12)), (some ((sl 11), false)), (.fld (.s (sl 3)) 0), none⟩, ⟨(some (sl 13)), (some ((sl 11), false)), (.ld false (.s (sl 12)) none), none⟩, ⟨(some (sl 14)), (some ((sl 11), false)), (.bin .gtr (.s (sl 13)) (.c (.int .i64 16))), none⟩, ⟨(some (sl 15)), none, (.pick (.s (sl 11)) (.c (.bool true)) (.s (sl 14))), none⟩, ⟨(some (sl 7)), none, (.mv (.s (sl 15))), none⟩])
  (.cond (.s (sl 7))
  (.reg [⟨(some (sl 16)), none, (.mv (.s (sl 0))), none⟩, ⟨(some (sl 17)), none, (.calle (.f 40) [(.s (sl 16)), (.c (.int .i64 3))]), none⟩])
  (.seq (.reg [⟨(some (sl 19)), none, (.fld (.s (sl 3)) 0), none⟩, ⟨(some (sl 20)), none, (.ld false (.s (sl 19)) none), none⟩, ⟨(some (sl 21)), none, (.bin .eql (.s (sl 20)) (.c (.int .i64 1))), none⟩, ⟨(some (sl 18)), none, (.mv (.s (sl 21))), none⟩])
  (.cond (.s (sl 18))
  (.reg [⟨(some (sl 22)), none, (.mv (.s (sl 0))), none⟩, ⟨(some (sl 23)), none, (.calle (.f 66) [(.s (sl 22))]), none⟩, ⟨(some (sl 24)), none, (.fld (.s (sl 3)) 3), none⟩, ⟨none, none, (.st (.s (sl 24)) (.s (sl 23)) 1), none⟩])
  (.seq (.reg [⟨(some (sl 26)), none, (.fld (.s (sl 3)) 0), none⟩, ⟨(some (sl 27)), none, (.ld false (.s (sl 26)) none), none⟩, ⟨(some (sl 28)), none, (.bin .leq (.s (sl 27)) (.c (.int .i64 11))), none⟩, ⟨(some (sl 25)), none, (.mv (.s (sl 28))), none⟩])
  (.cond (.s (sl 25))
  (.seq (.reg [⟨(some (sl 29)), none, (.mv (.s (sl 0))), none⟩, ⟨(some (sl 30)), none, (.calle (.f 63) [(.s (sl 29))]), none⟩, ⟨(some (sl 31)), none, (.fld (.s (sl 3)) 1), none⟩, ⟨none, none, (.st (.s (sl 31)) (.s (sl 30)) 1), none⟩])
  (.reg [⟨(some (sl 32)), none, (.mv (.s (sl 0))), none⟩, ⟨(some (sl 33)), none, (.calle (.f 63) [(.s (sl 32))]), none⟩, ⟨(some (sl 34)), none, (.fld (.s (sl 3)) 2), none⟩, ⟨none, none, (.st (.s (sl 34)) (.s (sl 33)) 1), none⟩]))
  (.seq (.reg [⟨(some (sl 36)), none, (.fld (.s (sl 3)) 0), none⟩, ⟨(some (sl 37)), none, (.ld false (.s (sl 36)) none), none⟩, ⟨(some (sl 38)), none, (.bin .eql (.s (sl 37)) (.c (.int .i64 12))), none⟩, ⟨(some (sl 35)), none, (.mv (.s (sl 38))), none⟩])
  (.cond (.s (sl 35))
  (.reg [⟨(some (sl 39)), none, (.mv (.s (sl 0))), none⟩, ⟨(some (sl 40)), none, (.calle (.f 62) [(.s (sl 39))]), none⟩, ⟨(some (sl 41)), none, (.fld (.s (sl 3)) 4), none⟩, ⟨none, none, (.st (.s (sl 41)) (.s (sl 40)) 1), none⟩])
  (.seq (.reg [⟨(some (sl 43)), none, (.fld (.s (sl 3)) 0), none⟩, ⟨(some (sl 44)), none, (.ld false (.s (sl 43)) none), none⟩, ⟨(some (sl 45)), none, (.bin .eql (.s (sl 44)) (.c (.int .i64 13))), none⟩, ⟨(some (sl 42)), none, (.mv (.s (sl 45))), none⟩])
  (.cond (.s (sl 42))
  (.seq (.reg [⟨(some (sl 46)), none, (.mv (.s (sl 0))), none⟩, ⟨(some (sl 47)), none, (.calle (.f 63) [(.s (sl 46))]), none⟩, ⟨(some (sl 48)), none, (.fld (.s (sl 3)) 1), none⟩, ⟨none, none, (.st (.s (sl 48)) (.s (sl 47)) 1), none⟩])
  (.reg [⟨(some (sl 49)), none, (.mv (.s (sl 0))), none⟩, ⟨(some (sl 50)), none, (.calle (.f 62) [(.s (sl 49))]), none⟩, ⟨(some (sl 51)), none, (.fld (.s (sl 3)) 4), none⟩, ⟨none, none, (.st (.s (sl 51)) (.s (sl 50)) 1), none⟩]))
  (.seq (.reg [⟨(some (sl 53)), none, (.fld (.s (sl 3)) 0), none⟩, ⟨(some (sl 54)), none, (.ld false (.s (sl 53)) none), none⟩, ⟨(some (sl 55)), none, (.bin .eql (.s (sl 54)) (.c (.int .i64 14))), none⟩, ⟨(some (sl 52)), none, (.mv (.s (sl 55))), none⟩])
  (.cond (.s (sl 52))
  (.seq (.reg [⟨(some (sl 56)), none, (.mv (.s (sl 0))), none⟩, ⟨(some (sl 57)), none, (.calle (.f 62) [(.s (sl 56))]), none⟩, ⟨(some (sl 58)), none, (.fld (.s (sl 3)) 4), none⟩, ⟨none, none, (.st (.s (sl 58)) (.s (sl 57)) 1), none⟩])
  (.reg [⟨(some (sl 59)), none, (.mv (.s (sl 0))), none⟩, ⟨(some (sl 60)), none, (.calle (.f 84) [(.s (sl 59))]), none⟩, ⟨(some (sl 61)), none, (.fld (.s (sl 3)) 5), none⟩, ⟨none, none, (.st (.s (sl 61)) (.s (sl 60)) 1), none⟩]))
  (.seq (.reg [⟨(some (sl 63)), none, (.fld (.s (sl 3)) 0), none⟩, ⟨(some (sl 64)), none, (.ld false (.s (sl 63)) none), none⟩, ⟨(some (sl 65)), none, (.bin .eql (.s (sl 64)) (.c (.int .i64 16))), none⟩, ⟨(some (sl 62)), none, (.mv (.s (sl 65))), none⟩])
  (.cond (.s (sl 62))
  (.reg [⟨(some (sl 66)), none, (.mv (.s (sl 0))), none⟩, ⟨(some (sl 67)), none, (.calle (.f 63) [(.s (sl 66))]), none⟩, ⟨(some (sl 68)), none, (.fld (.s (sl 3)) 1), none⟩, ⟨none, none, (.st (.s (sl 68)) (.s (sl 67)) 1), none⟩])
  .skip)))))))))))))))
  (.seq (.reg [⟨(some (sl 69)), none, (.ld false (.s (sl 3)) (some 6)), none⟩, ⟨none, none, (.st (.s (sl 2)) (.s (sl 69)) 6), none⟩])
  .ret))))
def r___bit_reader__inst : List ARes := [(.cell (sl 2) (some 6))]
theorem t___bit_reader__inst : (Try.f83).body.bind (trCode Try.prog 8 (Try.f83).ntmps [0, 2, 3, 4, 5, 6, 8, 9, 12, 13, 16, 17, 19, 20, 22, 23, 24, 26, 27, 29, 30, 31, 32, 33, 34, 36, 37, 39, 40, 41, 43, 44, 46, 47, 48, 49, 50, 51, 53, 54, 56, 57, 58, 59, 60, 61, 63, 64, 66, 67, 68, 69] [(40, 0, 0), (66, 0, 0), (63, 0, 0), (61, 0, 0), (62, 0, 0), (84, 0, 0), (83, 0, 0), (65, 0, 0), (37, 0, 0), (39, 0, 0), (36, 0, 0), (38, 0, 0), (64, 0, 0), (82, 0, 0), (92, 0, 0)] (drOk 8)) = some c___bit_reader__inst := by kernel_rfl
theorem u___bit_reader__inst : trRess Try.prog 8 (Try.f83).results.toList = some r___bit_reader__inst := by kernel_rfl

/-- (*marline/bit.reader).block -/
def c___bit_reader__block : ACode :=
  (.seq (.reg [⟨(some (sl 2)), none, (.new [(.int .i64 0), (.slice none 0 0), (.int .i64 0), (.int .i64 0), (.int .i64 0), (.slice none 0 0), (.int .i64 0), (.slice none 0 0)]), none⟩])
  (.seq (.reg [⟨(some (sl 5)), none, (.mv (.s (sl 0))), none⟩, ⟨(some (sl 6)), none, (.calle (.f 63) [(.s (sl 5))]), none⟩, ⟨(some (sl 7)), none, (.bld [(.int .i64 0), (.slice none 0 0), (.int .i64 0), (.int .i64 0), (.int .i64 0), (.slice none 0 0), (.int .i64 0), (.slice none 0 0)] [(0, 1, (.s (sl 6)))]), none⟩, ⟨(some (sl 3)), none, (.new [(.int .i64 0), (.slice none 0 0), (.int .i64 0), (.int .i64 0), (.int .i64 0), (.slice none 0 0), (.int .i64 0), (.slice none 0 0)]), none⟩, ⟨none, none, (.ini 1 (.s (sl 3)) (.s (sl 7)) 8), none⟩])
  (.seq (.reg [⟨(some (sl 8)), none, (.mv (.s (sl 0))), none⟩, ⟨(some (sl 9)), none, (.mv (.s (sl 0))), none⟩, ⟨(some (sl 10)), none, (.mkbm 83 (.s (sl 9))), none⟩, ⟨(some (sl 11)), none, (.calle (.f 82) [(.s (sl 8)), (.c (.int .u64 32)), (.s (sl 10))]), none⟩, ⟨(some (sl 12)), none, (.fld (.s (sl 3)) 1), none⟩, ⟨none, none, (.st (.s (sl 12)) (.s (sl 11)) 1), none⟩])
  (.seq (.reg [⟨(some (sl 13)), none, (.mv (.s (sl 0))), none⟩, ⟨(some (sl 14)), none, (.calle (.f 63) [(.s (sl 13))]), none⟩, ⟨(some (sl 15)), none, (.bld [(.int .i64 0), (.int .i64 0), (.int .i64 0), (.slice none 0 0), (.int .i64 0), (.slice none 0 0)] [(0, 1, (.s (sl 14)))]), none⟩, ⟨(some (sl 4)), none, (.new [(.int .i64 0), (.int .i64 0), (.int .i64 0), (.slice none 0 0), (.int .i64 0), (.slice none 0 0)]), none⟩, ⟨none, none, (.ini 1 (.s (sl 4)) (.s (sl 15)) 6), none⟩])
  (.seq (.seq (.reg [⟨(some (sl 16)), none, (.fld (.s (sl 4)) 0), none⟩, ⟨(some (sl 17)), none, (.ld false (.s (sl 16)) none), none⟩])
  (.block 0
  (.seq (.reg [⟨(some (sl 21)), none, (.bin .eql (.s (sl 17)) (.c (.int .i64 1))), none⟩, ⟨(some (sl 20)), none, (.mv (.s (sl 21))), none⟩])
  (.cond (.s (sl 20))
  (.seq (.reg [⟨(some (sl 22)), none, (.mv (.s (sl 0))), none⟩, ⟨(some (sl 23)), none, (.calle (.f 63) [(.s (sl 22))]), none⟩, ⟨(some (sl 24)), none, (.fld (.s (sl 4)) 2), none⟩, ⟨none, none, (.st (.s (sl 24)) (.s (sl 23)) 1), none⟩])
  (.reg [⟨(some (sl 25)), none, (.mv (.s (sl 0))), none⟩, ⟨(some (sl 26)), none, (.calle (.f 84) [(.s (sl 25))]), none⟩, ⟨(some (sl 27)), none, (.fld (.s (sl 4)) 3), none⟩, ⟨none, none, (.st (.s (sl 27)) (.s (sl 26)) 1), none⟩]))
  (.seq (.reg [⟨(some (sl 29)), none, (.bin .eql (.s (sl 17)) (.c (.int .i64 2))), none⟩, ⟨(some (sl 28)), none, (.mv (.s (sl 29))), none⟩])
  (.cond (.s (sl 28))
  (.seq (.reg [⟨(some (sl 30)), none, (.mv (.s (sl 0))), none⟩, ⟨(some (sl 31)), none, (.calle (.f 63) [(.s (sl 30))]), none⟩, ⟨(some (sl 32)), none, (.fld (.s (sl 4)) 1), none⟩, ⟨none, none, (.st (.s (sl 32)) (.s (sl 31)) 1), none⟩])
  (.seq (.reg [⟨(some (sl 33)), none, (.mv (.s (sl 0))), none⟩, ⟨(some (sl 34)), none, (.calle (.f 63) [(.s (sl 33))]), none⟩, ⟨(some (sl 35)), none, (.fld (.s (sl 4)) 2), none⟩, ⟨none, none, (.st (.s (sl 35)) (.s (sl 34)) 1), none⟩])
  (.seq (.reg [⟨(some (sl 36)), none, (.mv (.s (sl 0))), none⟩, ⟨(some (sl 37)), none, (.calle (.f 84) [(.s (sl 36))]), none⟩, ⟨(some (sl 38)), none, (.fld (.s (sl 4)) 3), none⟩, ⟨none, none, (.st (.s (sl 38)) (.s (sl 37)) 1), none⟩])
  (.seq (.reg [⟨(some (sl 39)), none, (.mv (.s (sl 0))), none⟩, ⟨(some (sl 40)), none, (.calle (.f 63) [(.s (sl 39))]), none⟩, ⟨(some (sl 41)), none, (.fld (.s (sl 4)) 4), none⟩, ⟨none, none, (.st (.s (sl 41)) (.s (sl 40)) 1), none⟩])
  (.reg [⟨(some (sl 42)), none, (.mv (.s (sl 0))), none⟩, ⟨(some (sl 43)), none, (.calle (.f 84) [(.s (sl 42))]), none⟩, ⟨(some (sl 44)), none, (.fld (.s (sl 4)) 5), none⟩, ⟨none, none, (.st (.s (sl 44)) (.s (sl 43)) 1), none⟩])))))
  (.seq (.reg [⟨(some (sl 46)), none, (.bin .eql (.s (sl 17)) (.c (.int .i64 3))), none⟩, ⟨(some (sl 45)), none, (.mv (.s (sl 46))), none⟩])
  (.cond (.s (sl 45))
  (.reg [⟨(some (sl 47)), none, (.mv (.s (sl 0))), none⟩, ⟨(some (sl 48)), none, (.calle (.f 63) [(.s (sl 47))]), none⟩, ⟨(some (sl 49)), none, (.fld (.s (sl 4)) 1), none⟩, ⟨none, none, (.st (.s (sl 49)) (.s (sl 48)) 1), none⟩])
  (.reg [⟨(some (sl 18)), none, (.mv (.s (sl 0))), none⟩, ⟨(some (sl 19)), none, (.calle (.f 40) [(.s (sl 18)), (.c (.int .i64 3))]), none⟩])))))))))
  (.seq (.reg [⟨(some (sl 50)), none, (.ld false (.s (sl 4)) (some 6)), none⟩, ⟨(some (sl 51)), none, (.fld (.s (sl 3)) 2), none⟩, ⟨none, none, (.st (.s (sl 51)) (.s (sl 50)) 6), none⟩])
  (.seq (.reg [⟨(some (sl 52)), none, (.ld false (.s (sl 3)) (some 8)), none⟩, ⟨none, none, (.st (.s (sl 2)) (.s (sl 52)) 8), none⟩])
  .ret)))))))
def r___bit_reader__block : List ARes := [(.cell (sl 2) (some 8))]
theorem t___bit_reader__block : (Try.f65).body.bind (trCode Try.prog 8 (Try.f65).ntmps [0, 2, 3, 4, 5, 6, 7, 8, 9, 10, 11, 12, 13, 14, 15, 16, 17, 18, 19, 22, 23, 24, 25, 26, 27, 30, 31, 32, 33, 34, 35, 36, 37, 38, 39, 40, 41, 42, 43, 44, 47, 48, 49, 50, 51, 52] [(40, 0, 0), (66, 0, 0), (63, 0, 0), (61, 0, 0), (62, 0, 0), (84, 0, 0), (83, 0, 0), (65, 0, 0), (37, 0, 0), (39, 0, 0), (36, 0, 0), (38, 0, 0), (64, 0, 0), (82, 0, 0), (92, 0, 0)] (drOk 8)) = some c___bit_reader__block := by kernel_rfl
theorem u___bit_reader__block : trRess Try.prog 8 (Try.f65).results.toList = some r___bit_reader__block := by kernel_rfl

/-- (*marline/bit.reader).fun -/
def c___bit_reader__fun : ACode :=
  (.seq (.reg [⟨(some (sl 2)), none, (.new [(.string ⟨#[]⟩), (.int .i64 0), (.int .i64 0), (.slice none 0 0)]), none⟩])
  (.seq (.reg [⟨(some (sl 4)), none, (.mv (.s (sl 0))), none⟩, ⟨(some (sl 5)), none, (.calle (.f 62) [(.s (sl 4))]), none⟩, ⟨(some (sl 6)), none, (.bld [(.string ⟨#[]⟩), (.int .i64 0), (.int .i64 0), (.slice none 0 0)] [(0, 1, (.s (sl 5)))]), none⟩, ⟨(some (sl 3)), none, (.new [(.string ⟨#[]⟩), (.int .i64 0), (.int .i64 0), (.slice none 0 0)]), none⟩, ⟨none, none, (.ini 1 (.s (sl 3)) (.s (sl 6)) 4), none⟩])
  (.seq (.reg [⟨(some (sl 7)), none, (.mv (.s (sl 0))), none⟩, ⟨(some (sl 8)), none, (.calle (.f 63) [(.s (sl 7))]), none⟩, ⟨(some (sl 9)), none, (.fld (.s (sl 3)) 1), none⟩, ⟨none, none, (.st (.s (sl 9)) (.s (sl 8)) 1), none⟩])
  (.seq (.reg [⟨(some (sl 10)), none, (.mv (.s (sl 0))), none⟩, ⟨(some (sl 11)), none, (.calle (.f 63) [(.s (sl 10))]), none⟩, ⟨(some (sl 12)), none, (.fld (.s (sl 3)) 2), none⟩, ⟨none, none, (.st (.s (sl 12)) (.s (sl 11)) 1), none⟩])
  (.seq (.reg [⟨(some (sl 13)), none, (.mv (.s (sl 0))), none⟩, ⟨(some (sl 14)), none, (.mv (.s (sl 0))), none⟩, ⟨(some (sl 15)), none, (.mkbm 65 (.s (sl 14))), none⟩, ⟨(some (sl 16)), none, (.calle (.f 64) [(.s (sl 13)), (.c (.int .u64 16)), (.s (sl 15))]), none⟩, ⟨(some (sl 17)), none, (.fld (.s (sl 3)) 3), none⟩, ⟨none, none, (.st (.s (sl 17)) (.s (sl 16)) 1), none⟩])
  (.seq (.reg [⟨(some (sl 18)), none, (.ld false (.s (sl 3)) (some 4)), none⟩, ⟨none, none, (.st (.s (sl 2)) (.s (sl 18)) 4), none⟩])
  .ret))))))
def r___bit_reader__fun : List ARes := [(.cell (sl 2) (some 4))]
theorem t___bit_reader__fun : (Try.f37).body.bind (trCode Try.prog 8 (Try.f37).ntmps [0, 2, 3, 4, 5, 6, 7, 8, 9, 10, 11, 12, 13, 14, 15, 16, 17, 18] [(40, 0, 0), (66, 0, 0), (63, 0, 0), (61, 0, 0), (62, 0, 0), (84, 0, 0), (83, 0, 0), (65, 0, 0), (37, 0, 0), (39, 0, 0), (36, 0, 0), (38, 0, 0), (64, 0, 0), (82, 0, 0), (92, 0, 0)] (drOk 8)) = some c___bit_reader__fun := by kernel_rfl
theorem u___bit_reader__fun : trRess Try.prog 8 (Try.f37).results.toList = some r___bit_reader__fun := by kernel_rfl

/-- (*marline/bit.reader).glob -/
def c___bit_reader__glob : ACode :=
  (.seq (.reg [⟨(some (sl 2)), none, (.new [(.string ⟨#[]⟩), (.int .i64 0), (.bool false), (.int .u64 0)]), none⟩])
  (.seq (.reg [⟨(some (sl 5)), none, (.mv (.s (sl 0))), none⟩, ⟨(some (sl 6)), none, (.calle (.f 62) [(.s (sl 5))]), none⟩, ⟨(some (sl 7)), none, (.bld [(.string ⟨#[]⟩), (.int .i64 0), (.bool false), (.int .u64 0)] [(0, 1, (.s (sl 6)))]), none⟩, ⟨(some (sl 3)), none, (.new [(.string ⟨#[]⟩), (.int .i64 0), (.bool false), (.int .u64 0)]), none⟩, ⟨none, none, (.ini 1 (.s (sl 3)) (.s (sl 7)) 4), none⟩])
  (.seq (.reg [⟨(some (sl 8)), none, (.mv (.s (sl 0))), none⟩, ⟨(some (sl 9)), none, (.calle (.f 63) [(.s (sl 8))]), none⟩, ⟨(some (sl 10)), none, (.fld (.s (sl 3)) 1), none⟩, ⟨none, none, (.st (.s (sl 10)) (.s (sl 9)) 1), none⟩])
  (.seq (.reg [⟨(some (sl 11)), none, (.mv (.s (sl 0))), none⟩, ⟨(some (sl 12)), none, (.calle (.f 63) [(.s (sl 11))]), none⟩, ⟨(some (sl 4)), none, (.mv (.s (sl 12))), none⟩])
  (.seq (.seq (.reg [⟨(some (sl 13)), none, (.mv (.s (sl 4))), none⟩, ⟨(some (sl 14)), none, (.bin .gtr (.s (sl 13)) (.c (.int .i64 1))), none⟩])
  (.cond (.s (sl 14))
  (.reg [⟨(some (sl 15)), none, (.mv (.s (sl 0))), none⟩, ⟨(some (sl 16)), none, (.calle (.f 40) [(.s (sl 15)), (.c (.int .i64 3))]), none⟩])
  .skip))
  (.seq (.reg [⟨(some (sl 17)), none, (.mv (.s (sl 4))), none⟩, ⟨(some (sl 18)), none, (.bin .eql (.s (sl 17)) (.c (.int .i64 1))), none⟩, ⟨(some (sl 19)), none, (.mv (.s (sl 0))), none⟩, ⟨(some (sl 20)), none, (.calle (.f 66) [(.s (sl 19))]), none⟩, ⟨(some (sl 21)), none, (.fld (.s (sl 3)) 2), none⟩, ⟨none, none, (.st (.s (sl 21)) (.s (sl 18)) 1), none⟩, ⟨(some (sl 22)), none, (.fld (.s (sl 3)) 3), none⟩, ⟨none, none, (.st (.s (sl 22)) (.s (sl 20)) 1), none⟩])
  (.seq (.reg [⟨(some (sl 23)), none, (.ld false (.s (sl 3)) (some 4)), none⟩, ⟨none, none, (.st (.s (sl 2)) (.s (sl 23)) 4), none⟩])
  .ret)))))))
def r___bit_reader__glob : List ARes := [(.cell (sl 2) (some 4))]
theorem t___bit_reader__glob : (Try.f39).body.bind (trCode Try.prog 8 (Try.f39).ntmps [0, 2, 3, 4, 5, 6, 7, 8, 9, 10, 11, 12, 13, 15, 16, 17, 19, 20, 21, 22, 23] [(40, 0, 0), (66, 0, 0), (63, 0, 0), (61, 0, 0), (62, 0, 0), (84, 0, 0), (83, 0, 0), (65, 0, 0), (37, 0, 0), (39, 0, 0), (36, 0, 0), (38, 0, 0), (64, 0, 0), (82, 0, 0), (92, 0, 0)] (drOk 8)) = some c___bit_reader__glob := by kernel_rfl
theorem u___bit_reader__glob : trRess Try.prog 8 (Try.f39).results.toList = some r___bit_reader__glob := by kernel_rfl

/-- marline/bit.Take -/
def c_bit_Take : ACode :=
  (.seq (.reg [⟨(some (sl 2)), none, (.new [(.slice none 0 0), (.slice none 0 0)]), none⟩, ⟨(some (sl 3)), none, (.mv (.c (.int .i64 0))), none⟩])
  (.seq (.reg [⟨(some (sl 9)), none, (.mv (.s (sl 0))), none⟩, ⟨(some (sl 10)), none, (.call true (.f 35) [(.s (sl 9)), (.c (.string ⟨#[77, 73, 82, 49]⟩))]), none⟩, ⟨(some (sl 8)), none, (.mv (.s (sl 10))), none⟩, ⟨(some (sl 11)), none, (.ext (.s (sl 8)) 0), none⟩, ⟨(some (sl 12)), none, (.ext (.s (sl 8)) 1), none⟩, ⟨(some (sl 4)), none, (.mv (.s (sl 11))), none⟩, ⟨(some (sl 5)), none, (.mv (.s (sl 12))), none⟩])
  (.seq (.seq (.reg [⟨(some (sl 13)), none, (.mv (.s (sl 5))), none⟩, ⟨(some (sl 14)), none, (.not (.s (sl 13))), none⟩])
  (.cond (.s (sl 14))
  (.seq (.reg [⟨(some (sl 15)), none, (.bld [(.slice none 0 0), (.slice none 0 0)] []), none⟩, ⟨none, none, (.st (.s (sl 2)) (.s (sl 15)) 2), none⟩, ⟨(some (sl 3)), none, (.mv (.c (.int .i64 3))), none⟩])
  .ret)
  .skip))
  (.seq (.reg [⟨(some (sl 16)), none, (.mv (.s (sl 4))), none⟩, ⟨(some (sl 17)), none, (.bld [(.string ⟨#[]⟩), (.int .i64 0)] [(0, 1, (.s (sl 16)))]), none⟩, ⟨(some (sl 18)), none, (.box false (.s (sl 17))), none⟩, ⟨(some (sl 6)), none, (.mv (.s (sl 18))), none⟩])
  (.seq (.reg [⟨(some (sl 7)), none, (.new [(.slice none 0 0), (.slice none 0 0)]), none⟩])
  (.seq (.reg [⟨(some (sl 19)), none, (.mv (.s (sl 6))), none⟩, ⟨(some (sl 20)), none, (.mv (.s (sl 6))), none⟩, ⟨(some (sl 21)), none, (.mkbm 37 (.s (sl 20))), none⟩, ⟨(some (sl 22)), none, (.calle (.f 36) [(.s (sl 19)), (.c (.int .u64 16)), (.s (sl 21))]), none⟩, ⟨(some (sl 23)), none, (.fld (.s (sl 7)) 0), none⟩, ⟨none, none, (.st (.s (sl 23)) (.s (sl 22)) 1), none⟩])
  (.seq (.reg [⟨(some (sl 24)), none, (.mv (.s (sl 6))), none⟩, ⟨(some (sl 25)), none, (.mv (.s (sl 6))), none⟩, ⟨(some (sl 26)), none, (.mkbm 39 (.s (sl 25))), none⟩, ⟨(some (sl 27)), none, (.calle (.f 38) [(.s (sl 24)), (.c (.int .u64 16)), (.s (sl 26))]), none⟩, ⟨(some (sl 28)), none, (.fld (.s (sl 7)) 1), none⟩, ⟨none, none, (.st (.s (sl 28)) (.s (sl 27)) 1), none⟩])
  (.seq (.seq (.reg [⟨(some (sl 29)), none, (.mv (.s (sl 6))), none⟩, ⟨(some (sl 30)), none, (.nck (.s (sl 29))), none⟩, ⟨(some (sl 31)), none, (.fld (.s (sl 30)) 0), none⟩, ⟨(some (sl 32)), none, (.ld false (.s (sl 31)) none), none⟩, ⟨(some (sl 33)), none, (.bin .neq (.s (sl 32)) (.c (.string ⟨#[]⟩))), none⟩])
  (.cond (.s (sl 33))
  (.reg [⟨(some (sl 34)), none, (.mv (.s (sl 6))), none⟩, ⟨(some (sl 35)), none, (.calle (.f 40) [(.s (sl 34)), (.c (.int .i64 3))]), none⟩])
  .skip))
  (.seq (.seq (.reg [⟨(some (sl 36)), none, (.mv (.s (sl 6))), none⟩, ⟨(some (sl 37)), none, (.nck (.s (sl 36))), none⟩, ⟨(some (sl 38)), none, (.fld (.s (sl 37)) 1), none⟩, ⟨(some (sl 39)), none, (.ld false (.s (sl 38)) none), none⟩, ⟨(some (sl 40)), none, (.bin .eql (.s (sl 39)) (.c (.int .i64 0))), none⟩])
  (.cond (.s (sl 40))
  (.reg [⟨(some (sl 41)), none, (.mv (.s (sl 6))), none⟩, ⟨(some (sl 42)), none, (.ld false (.s (sl 7)) (some 2)), none⟩, ⟨(some (sl 43)), none, (.call false (.f 17) [(.s (sl 42))]), none⟩, ⟨(some (sl 44)), none, (.calle (.f 40) [(.s (sl 41)), (.s (sl 43))]), none⟩])
  .skip))
  (.seq (.seq (.reg [⟨(some (sl 45)), none, (.mv (.s (sl 0))), none⟩, ⟨(some (sl 46)), none, (.len true (.s (sl 45))), none⟩, ⟨(some (sl 47)), none, (.bin .gtr (.s (sl 46)) (.c (.int .i64 65535))), none⟩])
  (.cond (.s (sl 47))
  (.reg [⟨(some (sl 48)), none, (.mv (.s (sl 6))), none⟩, ⟨(some (sl 49)), none, (.calle (.f 40) [(.s (sl 48)), (.c (.int .i64 4))]), none⟩])
  .skip))
  (.seq (.seq (.reg [⟨(some (sl 50)), none, (.mv (.s (sl 6))), none⟩, ⟨(some (sl 51)), none, (.nck (.s (sl 50))), none⟩, ⟨(some (sl 52)), none, (.fld (.s (sl 51)) 1), none⟩, ⟨(some (sl 53)), none, (.ld false (.s (sl 52)) none), none⟩, ⟨(some (sl 54)), none, (.bin .neq (.s (sl 53)) (.c (.int .i64 0))), none⟩])
  (.cond (.s (sl 54))
  (.seq (.reg [⟨(some (sl 55)), none, (.bld [(.slice none 0 0), (.slice none 0 0)] []), (some (0, [(sl 2)]))⟩, ⟨(some (sl 56)), none, (.mv (.s (sl 6))), (some (1, [(sl 2)]))⟩, ⟨(some (sl 57)), none, (.nck (.s (sl 56))), (some (2, [(sl 2)]))⟩, ⟨(some (sl 58)), none, (.fld (.s (sl 57)) 1), (some (3, [(sl 2)]))⟩, ⟨(some (sl 59)), none, (.ld false (.s (sl 58)) none), (some (4, [(sl 2)]))⟩, ⟨none, none, (.st (.s (sl 2)) (.s (sl 55)) 2), (some (5, [(sl 2)]))⟩, ⟨(some (sl 3)), none, (.mv (.s (sl 59))), (some (6, [(sl 2)]))⟩])
  .ret)
  .skip))
  (.seq (.reg [⟨(some (sl 60)), none, (.ld false (.s (sl 7)) (some 2)), none⟩, ⟨none, none, (.st (.s (sl 2)) (.s (sl 60)) 2), none⟩, ⟨(some (sl 3)), none, (.mv (.c (.int .i64 0))), none⟩])
  .ret))))))))))))
def r_bit_Take : List ARes := [(.cell (sl 2) (some 2)), (.tmp (sl 3))]
theorem t_bit_Take : (Try.f12).body.bind (trCode Try.prog 8 (Try.f12).ntmps [2, 3, 6, 7, 18, 19, 20, 21, 22, 23, 24, 25, 26, 27, 28, 29, 30, 31, 32, 34, 35, 36, 37, 38, 39, 41, 42, 44, 48, 49, 50, 51, 52, 53, 56, 57, 58, 59, 60] [(40, 0, 0), (66, 0, 0), (63, 0, 0), (61, 0, 0), (62, 0, 0), (84, 0, 0), (83, 0, 0), (65, 0, 0), (37, 0, 0), (39, 0, 0), (36, 0, 0), (38, 0, 0), (64, 0, 0), (82, 0, 0), (92, 0, 0)] (drOk 8)) = some c_bit_Take := by kernel_rfl
theorem u_bit_Take : trRess Try.prog 8 (Try.f12).results.toList = some r_bit_Take := by kernel_rfl

/-- strings.CutPrefix -/
def c_strings_CutPrefix : ACode :=
  (.seq (.reg [⟨(some (sl 4)), none, (.mv (.c (.string ⟨#[]⟩))), none⟩, ⟨(some (sl 5)), none, (.mv (.c (.bool false))), none⟩])
  (.seq (.reg [⟨(some (sl 6)), none, (.mv (.s (sl 0))), none⟩, ⟨(some (sl 7)), none, (.mv (.s (sl 1))), none⟩, ⟨(some (sl 8)), none, (.call true (.f 60) [(.s (sl 6)), (.s (sl 7))]), none⟩, ⟨(some (sl 9)), none, (.ext (.s (sl 8)) 0), none⟩, ⟨(some (sl 10)), none, (.ext (.s (sl 8)) 1), none⟩, ⟨(some (sl 4)), none, (.mv (.s (sl 9))), none⟩, ⟨(some (sl 5)), none, (.mv (.s (sl 10))), none⟩])
  .ret))
def r_strings_CutPrefix : List ARes := [(.tmp (sl 4)), (.tmp (sl 5))]
theorem t_strings_CutPrefix : (Try.f35).body.bind (trCode Try.prog 8 (Try.f35).ntmps [] [(40, 0, 0), (66, 0, 0), (63, 0, 0), (61, 0, 0), (62, 0, 0), (84, 0, 0), (83, 0, 0), (65, 0, 0), (37, 0, 0), (39, 0, 0), (36, 0, 0), (38, 0, 0), (64, 0, 0), (82, 0, 0), (92, 0, 0)] (drOk 8)) = some c_strings_CutPrefix := by kernel_rfl
theorem u_strings_CutPrefix : trRess Try.prog 8 (Try.f35).results.toList = some r_strings_CutPrefix := by kernel_rfl

/-- internal/stringslite.CutPrefix -/
def c_internal_stringslite_CutPrefix : ACode :=
  (.seq (.reg [⟨(some (sl 4)), none, (.mv (.c (.string ⟨#[]⟩))), none⟩, ⟨(some (sl 5)), none, (.mv (.c (.bool false))), none⟩])
  (.seq (.seq (.reg [⟨(some (sl 6)), none, (.mv (.s (sl 0))), none⟩, ⟨(some (sl 7)), none, (.mv (.s (sl 1))), none⟩, ⟨(some (sl 8)), none, (.call true (.f 81) [(.s (sl 6)), (.s (sl 7))]), none⟩, ⟨(some (sl 9)), none, (.not (.s (sl 8))), none⟩])
  (.cond (.s (sl 9))
  (.seq (.reg [⟨(some (sl 10)), none, (.mv (.s (sl 0))), none⟩, ⟨(some (sl 4)), none, (.mv (.s (sl 10))), none⟩, ⟨(some (sl 5)), none, (.mv (.c (.bool false))), none⟩])
  .ret)
  .skip))
  (.seq (.reg [⟨(some (sl 11)), none, (.mv (.s (sl 0))), none⟩, ⟨(some (sl 12)), none, (.mv (.s (sl 1))), none⟩, ⟨(some (sl 13)), none, (.len true (.s (sl 12))), none⟩, ⟨(some (sl 14)), none, (.sslc (.s (sl 11)) (some (.s (sl 13))) none), none⟩, ⟨(some (sl 4)), none, (.mv (.s (sl 14))), none⟩, ⟨(some (sl 5)), none, (.mv (.c (.bool true))), none⟩])
  .ret)))
def r_internal_stringslite_CutPrefix : List ARes := [(.tmp (sl 4)), (.tmp (sl 5))]
theorem t_internal_stringslite_CutPrefix : (Try.f60).body.bind (trCode Try.prog 8 (Try.f60).ntmps [] [(40, 0, 0), (66, 0, 0), (63, 0, 0), (61, 0, 0), (62, 0, 0), (84, 0, 0), (83, 0, 0), (65, 0, 0), (37, 0, 0), (39, 0, 0), (36, 0, 0), (38, 0, 0), (64, 0, 0), (82, 0, 0), (92, 0, 0)] (drOk 8)) = some c_internal_stringslite_CutPrefix := by kernel_rfl
theorem u_internal_stringslite_CutPrefix : trRess Try.prog 8 (Try.f60).results.toList = some r_internal_stringslite_CutPrefix := by kernel_rfl

/-- internal/stringslite.HasPrefix -/
def c_internal_stringslite_HasPrefix : ACode :=
  (.seq (.reg [⟨(some (sl 4)), none, (.mv (.c (.bool false))), none⟩])
  (.seq (.reg [⟨(some (sl 5)), none, (.mv (.s (sl 0))), none⟩, ⟨(some (sl 6)), none, (.len true (.s (sl 5))), none⟩, ⟨(some (sl 7)), none, (.mv (.s (sl 1))), none⟩, ⟨(some (sl 8)), none, (.len true (.s (sl 7))), none⟩, ⟨(some (sl 9)), none, (.bin .geq (.s (sl 6)) (.s (sl 8))), none⟩, ⟨(some (sl 10)), none, (.mv (.s (sl 9))), none⟩, ⟨(some (sl 11)), (some ((sl 10), true)), (.mv (.s (sl 0))), none⟩, ⟨(some (sl 12)), (some ((sl 10), true)), (.mv (.s (sl 1))), none⟩, ⟨(some (sl 13)), (some ((sl 10), true)), (.len true (.s (sl 12))), none⟩, ⟨(some (sl 14)), (some ((sl 10), true)), (.sslc (.s (sl 11)) none (some (.s (sl 13)))), none⟩, ⟨(some (sl 15)), (some ((sl 10), true)), (.mv (.s (sl 1))), none⟩, ⟨(some (sl 16)), (some ((sl 10), true)), (.bin .eql (.s (sl 14)) (.s (sl 15))), none⟩, ⟨(some (sl 17)), none, (.pick (.s (sl 10)) (.s (sl 16)) (.c (.bool false))), none⟩, ⟨(some (sl 4)), none, (.mv (.s (sl 17))), none⟩])
  .ret))
def r_internal_stringslite_HasPrefix : List ARes := [(.tmp (sl 4))]
theorem t_internal_stringslite_HasPrefix : (Try.f81).body.bind (trCode Try.prog 8 (Try.f81).ntmps [] [(40, 0, 0), (66, 0, 0), (63, 0, 0), (61, 0, 0), (62, 0, 0), (84, 0, 0), (83, 0, 0), (65, 0, 0), (37, 0, 0), (39, 0, 0), (36, 0, 0), (38, 0, 0), (64, 0, 0), (82, 0, 0), (92, 0, 0)] (drOk 8)) = some c_internal_stringslite_HasPrefix := by kernel_rfl
theorem u_internal_stringslite_HasPrefix : trRess Try.prog 8 (Try.f81).results.toList = some r_internal_stringslite_HasPrefix := by kernel_rfl

end Go.Proofs.Ytciihchbiifgkaa
/- The bodies of some functions, as the evaluator has them (printed by program), and that they are the program's own. -/
namespace Go.Proofs.Ytciihchbiifgkaa
open Go.RowKit

/-- marline/bit.several[marline/api.Func] -/
def c_bit_several_api_Func_ : ACode :=
  (.seq (.reg [⟨(some (sl 6)), none, (.mv (.c (.slice none 0 0))), none⟩])
  (.seq (.reg [⟨(some (sl 7)), none, (.mv (.c (.slice none 0 0))), none⟩])
  (.seq (.seq (.reg [⟨(some (sl 9)), none, (.mv (.s (sl 0))), none⟩, ⟨(some (sl 10)), none, (.mv (.s (sl 1))), none⟩, ⟨(some (sl 11)), none, (.calle (.f 61) [(.s (sl 9)), (.s (sl 10))]), none⟩, ⟨(some (sl 12)), none, (.mv (.c (.int .i64 0))), none⟩])
  (.block 0
  (.loop (.seq (.reg [⟨(some (sl 13)), none, (.bin .lss (.s (sl 12)) (.s (sl 11))), none⟩])
  (.seq (.cond (.s (sl 13))
  .skip
  (.exit 0))
  (.seq (.block 1
  (.seq (.seq (.reg [⟨(some (sl 14)), none, (.mv (.s (sl 2))), none⟩, ⟨(some (sl 15)), none, (.calle (.s (sl 14)) []), none⟩, ⟨(some (sl 8)), none, (.new [(.string ⟨#[]⟩), (.int .i64 0), (.int .i64 0), (.slice none 0 0)]), none⟩, ⟨none, none, (.ini 1 (.s (sl 8)) (.s (sl 15)) 4), none⟩])
  (.frz (sl 8)))
  (.seq (.seq (.reg [⟨(some (sl 16)), none, (.mv (.s (sl 0))), none⟩, ⟨(some (sl 17)), none, (.nck (.s (sl 16))), none⟩, ⟨(some (sl 18)), none, (.fld (.s (sl 17)) 1), none⟩, ⟨(some (sl 19)), none, (.ld false (.s (sl 18)) none), none⟩, ⟨(some (sl 20)), none, (.bin .neq (.s (sl 19)) (.c (.int .i64 0))), none⟩])
  (.cond (.s (sl 20))
  (.seq (.reg [⟨(some (sl 6)), none, (.mv (.c (.slice none 0 0))), none⟩])
  .ret)
  .skip))
  (.reg [⟨(some (sl 21)), none, (.mv (.s (sl 7))), none⟩, ⟨(some (sl 22)), none, (.ld true (.s (sl 8)) (some 4)), none⟩, ⟨(some (sl 23)), none, (.mksl 4 1 [(.string ⟨#[]⟩), (.int .i64 0), (.int .i64 0), (.slice none 0 0)] [(0, 4, (.s (sl 22)))]), none⟩, ⟨(some (sl 24)), none, (.app 59 4 56 (.s (sl 21)) (.s (sl 23))), none⟩, ⟨(some (sl 7)), none, (.mv (.s (sl 24))), none⟩]))))
  (.reg [⟨(some (sl 25)), none, (.bin .add (.s (sl 12)) (.c (.int .i64 1))), none⟩, ⟨(some (sl 12)), none, (.mv (.s (sl 25))), none⟩])))))))
  (.seq (.reg [⟨(some (sl 26)), none, (.mv (.s (sl 7))), none⟩, ⟨(some (sl 6)), none, (.mv (.s (sl 26))), none⟩])
  .ret))))
def r_bit_several_api_Func_ : List ARes := [(.tmp (sl 6))]
theorem t_bit_several_api_Func_ : (Try.f36).body.bind (trCode Try.prog 8 (Try.f36).ntmps [0, 2, 6, 7, 9, 11, 14, 16, 17, 18, 19, 21, 24, 26] [(40, 0, 0), (66, 0, 0), (63, 0, 0), (61, 0, 0), (62, 0, 0), (84, 0, 0), (83, 0, 0), (65, 0, 0), (37, 0, 0), (39, 0, 0), (36, 0, 0), (38, 0, 0), (64, 0, 0), (82, 0, 0), (92, 0, 0), (1000014, 0, 0)] (drOk 8)) = some c_bit_several_api_Func_ := by kernel_rfl
theorem u_bit_several_api_Func_ : trRess Try.prog 8 (Try.f36).results.toList = some r_bit_several_api_Func_ := by kernel_rfl

/-- marline/bit.several[marline/api.Glob] -/
def c_bit_several_api_Glob_ : ACode :=
  (.seq (.reg [⟨(some (sl 6)), none, (.mv (.c (.slice none 0 0))), none⟩])
  (.seq (.reg [⟨(some (sl 7)), none, (.mv (.c (.slice none 0 0))), none⟩])
  (.seq (.seq (.reg [⟨(some (sl 9)), none, (.mv (.s (sl 0))), none⟩, ⟨(some (sl 10)), none, (.mv (.s (sl 1))), none⟩, ⟨(some (sl 11)), none, (.calle (.f 61) [(.s (sl 9)), (.s (sl 10))]), none⟩, ⟨(some (sl 12)), none, (.mv (.c (.int .i64 0))), none⟩])
  (.block 0
  (.loop (.seq (.reg [⟨(some (sl 13)), none, (.bin .lss (.s (sl 12)) (.s (sl 11))), none⟩])
  (.seq (.cond (.s (sl 13))
  .skip
  (.exit 0))
  (.seq (.block 1
  (.seq (.seq (.reg [⟨(some (sl 14)), none, (.mv (.s (sl 2))), none⟩, ⟨(some (sl 15)), none, (.calle (.s (sl 14)) []), none⟩, ⟨(some (sl 8)), none, (.new [(.string ⟨#[]⟩), (.int .i64 0), (.bool false), (.int .u64 0)]), none⟩, ⟨none, none, (.ini 1 (.s (sl 8)) (.s (sl 15)) 4), none⟩])
  (.frz (sl 8)))
  (.seq (.seq (.reg [⟨(some (sl 16)), none, (.mv (.s (sl 0))), none⟩, ⟨(some (sl 17)), none, (.nck (.s (sl 16))), none⟩, ⟨(some (sl 18)), none, (.fld (.s (sl 17)) 1), none⟩, ⟨(some (sl 19)), none, (.ld false (.s (sl 18)) none), none⟩, ⟨(some (sl 20)), none, (.bin .neq (.s (sl 19)) (.c (.int .i64 0))), none⟩])
  (.cond (.s (sl 20))
  (.seq (.reg [⟨(some (sl 6)), none, (.mv (.c (.slice none 0 0))), none⟩])
  .ret)
  .skip))
  (.reg [⟨(some (sl 21)), none, (.mv (.s (sl 7))), none⟩, ⟨(some (sl 22)), none, (.ld true (.s (sl 8)) (some 4)), none⟩, ⟨(some (sl 23)), none, (.mksl 4 1 [(.string ⟨#[]⟩), (.int .i64 0), (.bool false), (.int .u64 0)] [(0, 4, (.s (sl 22)))]), none⟩, ⟨(some (sl 24)), none, (.app 73 4 40 (.s (sl 21)) (.s (sl 23))), none⟩, ⟨(some (sl 7)), none, (.mv (.s (sl 24))), none⟩]))))
  (.reg [⟨(some (sl 25)), none, (.bin .add (.s (sl 12)) (.c (.int .i64 1))), none⟩, ⟨(some (sl 12)), none, (.mv (.s (sl 25))), none⟩])))))))
  (.seq (.reg [⟨(some (sl 26)), none, (.mv (.s (sl 7))), none⟩, ⟨(some (sl 6)), none, (.mv (.s (sl 26))), none⟩])
  .ret))))
def r_bit_several_api_Glob_ : List ARes := [(.tmp (sl 6))]
theorem t_bit_several_api_Glob_ : (Try.f38).body.bind (trCode Try.prog 8 (Try.f38).ntmps [0, 2, 6, 7, 9, 11, 14, 16, 17, 18, 19, 21, 24, 26] [(40, 0, 0), (66, 0, 0), (63, 0, 0), (61, 0, 0), (62, 0, 0), (84, 0, 0), (83, 0, 0), (65, 0, 0), (37, 0, 0), (39, 0, 0), (36, 0, 0), (38, 0, 0), (64, 0, 0), (82, 0, 0), (92, 0, 0), (1000014, 0, 0)] (drOk 8)) = some c_bit_several_api_Glob_ := by kernel_rfl
theorem u_bit_several_api_Glob_ : trRess Try.prog 8 (Try.f38).results.toList = some r_bit_several_api_Glob_ := by kernel_rfl

/-- marline/bit.several[marline/api.Block] -/
def c_bit_several_api_Block_ : ACode :=
  (.seq (.reg [⟨(some (sl 6)), none, (.mv (.c (.slice none 0 0))), none⟩])
  (.seq (.reg [⟨(some (sl 7)), none, (.mv (.c (.slice none 0 0))), none⟩])
  (.seq (.seq (.reg [⟨(some (sl 9)), none, (.mv (.s (sl 0))), none⟩, ⟨(some (sl 10)), none, (.mv (.s (sl 1))), none⟩, ⟨(some (sl 11)), none, (.calle (.f 61) [(.s (sl 9)), (.s (sl 10))]), none⟩, ⟨(some (sl 12)), none, (.mv (.c (.int .i64 0))), none⟩])
  (.block 0
  (.loop (.seq (.reg [⟨(some (sl 13)), none, (.bin .lss (.s (sl 12)) (.s (sl 11))), none⟩])
  (.seq (.cond (.s (sl 13))
  .skip
  (.exit 0))
  (.seq (.block 1
  (.seq (.seq (.reg [⟨(some (sl 14)), none, (.mv (.s (sl 2))), none⟩, ⟨(some (sl 15)), none, (.calle (.s (sl 14)) []), none⟩, ⟨(some (sl 8)), none, (.new [(.int .i64 0), (.slice none 0 0), (.int .i64 0), (.int .i64 0), (.int .i64 0), (.slice none 0 0), (.int .i64 0), (.slice none 0 0)]), none⟩, ⟨none, none, (.ini 1 (.s (sl 8)) (.s (sl 15)) 8), none⟩])
  (.frz (sl 8)))
  (.seq (.seq (.reg [⟨(some (sl 16)), none, (.mv (.s (sl 0))), none⟩, ⟨(some (sl 17)), none, (.nck (.s (sl 16))), none⟩, ⟨(some (sl 18)), none, (.fld (.s (sl 17)) 1), none⟩, ⟨(some (sl 19)), none, (.ld false (.s (sl 18)) none), none⟩, ⟨(some (sl 20)), none, (.bin .neq (.s (sl 19)) (.c (.int .i64 0))), none⟩])
  (.cond (.s (sl 20))
  (.seq (.reg [⟨(some (sl 6)), none, (.mv (.c (.slice none 0 0))), none⟩])
  .ret)
  .skip))
  (.reg [⟨(some (sl 21)), none, (.mv (.s (sl 7))), none⟩, ⟨(some (sl 22)), none, (.ld true (.s (sl 8)) (some 8)), none⟩, ⟨(some (sl 23)), none, (.mksl 8 1 [(.int .i64 0), (.slice none 0 0), (.int .i64 0), (.int .i64 0), (.int .i64 0), (.slice none 0 0), (.int .i64 0), (.slice none 0 0)] [(0, 8, (.s (sl 22)))]), none⟩, ⟨(some (sl 24)), none, (.app 68 8 112 (.s (sl 21)) (.s (sl 23))), none⟩, ⟨(some (sl 7)), none, (.mv (.s (sl 24))), none⟩]))))
  (.reg [⟨(some (sl 25)), none, (.bin .add (.s (sl 12)) (.c (.int .i64 1))), none⟩, ⟨(some (sl 12)), none, (.mv (.s (sl 25))), none⟩])))))))
  (.seq (.reg [⟨(some (sl 26)), none, (.mv (.s (sl 7))), none⟩, ⟨(some (sl 6)), none, (.mv (.s (sl 26))), none⟩])
  .ret))))
def r_bit_several_api_Block_ : List ARes := [(.tmp (sl 6))]
theorem t_bit_several_api_Block_ : (Try.f64).body.bind (trCode Try.prog 8 (Try.f64).ntmps [0, 2, 6, 7, 9, 11, 14, 16, 17, 18, 19, 21, 24, 26] [(40, 0, 0), (66, 0, 0), (63, 0, 0), (61, 0, 0), (62, 0, 0), (84, 0, 0), (83, 0, 0), (65, 0, 0), (37, 0, 0), (39, 0, 0), (36, 0, 0), (38, 0, 0), (64, 0, 0), (82, 0, 0), (92, 0, 0), (1000014, 0, 0)] (drOk 8)) = some c_bit_several_api_Block_ := by kernel_rfl
theorem u_bit_several_api_Block_ : trRess Try.prog 8 (Try.f64).results.toList = some r_bit_several_api_Block_ := by kernel_rfl

/-- marline/bit.several[marline/api.Inst] -/
def c_bit_several_api_Inst_ : ACode :=
  (.seq (.reg [⟨(some (sl 6)), none, (.mv (.c (.slice none 0 0))), none⟩])
  (.seq (.reg [⟨(some (sl 7)), none, (.mv (.c (.slice none 0 0))), none⟩])
  (.seq (.seq (.reg [⟨(some (sl 9)), none, (.mv (.s (sl 0))), none⟩, ⟨(some (sl 10)), none, (.mv (.s (sl 1))), none⟩, ⟨(some (sl 11)), none, (.calle (.f 61) [(.s (sl 9)), (.s (sl 10))]), none⟩, ⟨(some (sl 12)), none, (.mv (.c (.int .i64 0))), none⟩])
  (.block 0
  (.loop (.seq (.reg [⟨(some (sl 13)), none, (.bin .lss (.s (sl 12)) (.s (sl 11))), none⟩])
  (.seq (.cond (.s (sl 13))
  .skip
  (.exit 0))
  (.seq (.block 1
  (.seq (.seq (.reg [⟨(some (sl 14)), none, (.mv (.s (sl 2))), none⟩, ⟨(some (sl 15)), none, (.calle (.s (sl 14)) []), none⟩, ⟨(some (sl 8)), none, (.new [(.int .i64 0), (.int .i64 0), (.int .i64 0), (.int .u64 0), (.string ⟨#[]⟩), (.slice none 0 0)]), none⟩, ⟨none, none, (.ini 1 (.s (sl 8)) (.s (sl 15)) 6), none⟩])
  (.frz (sl 8)))
  (.seq (.seq (.reg [⟨(some (sl 16)), none, (.mv (.s (sl 0))), none⟩, ⟨(some (sl 17)), none, (.nck (.s (sl 16))), none⟩, ⟨(some (sl 18)), none, (.fld (.s (sl 17)) 1), none⟩, ⟨(some (sl 19)), none, (.ld false (.s (sl 18)) none), none⟩, ⟨(some (sl 20)), none, (.bin .neq (.s (sl 19)) (.c (.int .i64 0))), none⟩])
  (.cond (.s (sl 20))
  (.seq (.reg [⟨(some (sl 6)), none, (.mv (.c (.slice none 0 0))), none⟩])
  .ret)
  .skip))
  (.reg [⟨(some (sl 21)), none, (.mv (.s (sl 7))), none⟩, ⟨(some (sl 22)), none, (.ld true (.s (sl 8)) (some 6)), none⟩, ⟨(some (sl 23)), none, (.mksl 6 1 [(.int .i64 0), (.int .i64 0), (.int .i64 0), (.int .u64 0), (.string ⟨#[]⟩), (.slice none 0 0)] [(0, 6, (.s (sl 22)))]), none⟩, ⟨(some (sl 24)), none, (.app 82 6 72 (.s (sl 21)) (.s (sl 23))), none⟩, ⟨(some (sl 7)), none, (.mv (.s (sl 24))), none⟩]))))
  (.reg [⟨(some (sl 25)), none, (.bin .add (.s (sl 12)) (.c (.int .i64 1))), none⟩, ⟨(some (sl 12)), none, (.mv (.s (sl 25))), none⟩])))))))
  (.seq (.reg [⟨(some (sl 26)), none, (.mv (.s (sl 7))), none⟩, ⟨(some (sl 6)), none, (.mv (.s (sl 26))), none⟩])
  .ret))))
def r_bit_several_api_Inst_ : List ARes := [(.tmp (sl 6))]
theorem t_bit_several_api_Inst_ : (Try.f82).body.bind (trCode Try.prog 8 (Try.f82).ntmps [0, 2, 6, 7, 9, 11, 14, 16, 17, 18, 19, 21, 24, 26] [(40, 0, 0), (66, 0, 0), (63, 0, 0), (61, 0, 0), (62, 0, 0), (84, 0, 0), (83, 0, 0), (65, 0, 0), (37, 0, 0), (39, 0, 0), (36, 0, 0), (38, 0, 0), (64, 0, 0), (82, 0, 0), (92, 0, 0), (1000014, 0, 0)] (drOk 8)) = some c_bit_several_api_Inst_ := by kernel_rfl
theorem u_bit_several_api_Inst_ : trRess Try.prog 8 (Try.f82).results.toList = some r_bit_several_api_Inst_ := by kernel_rfl

/-- marline/bit.several[int] -/
def c_bit_several_int_ : ACode :=
  (.seq (.reg [⟨(some (sl 6)), none, (.mv (.c (.slice none 0 0))), none⟩])
  (.seq (.reg [⟨(some (sl 7)), none, (.mv (.c (.slice none 0 0))), none⟩])
  (.seq (.seq (.reg [⟨(some (sl 9)), none, (.mv (.s (sl 0))), none⟩, ⟨(some (sl 10)), none, (.mv (.s (sl 1))), none⟩, ⟨(some (sl 11)), none, (.calle (.f 61) [(.s (sl 9)), (.s (sl 10))]), none⟩, ⟨(some (sl 12)), none, (.mv (.c (.int .i64 0))), none⟩])
  (.block 0
  (.loop (.seq (.reg [⟨(some (sl 13)), none, (.bin .lss (.s (sl 12)) (.s (sl 11))), none⟩])
  (.seq (.cond (.s (sl 13))
  .skip
  (.exit 0))
  (.seq (.block 1
  (.seq (.reg [⟨(some (sl 14)), none, (.mv (.s (sl 2))), none⟩, ⟨(some (sl 15)), none, (.calle (.s (sl 14)) []), none⟩, ⟨(some (sl 8)), none, (.mv (.s (sl 15))), none⟩])
  (.seq (.seq (.reg [⟨(some (sl 16)), none, (.mv (.s (sl 0))), none⟩, ⟨(some (sl 17)), none, (.nck (.s (sl 16))), none⟩, ⟨(some (sl 18)), none, (.fld (.s (sl 17)) 1), none⟩, ⟨(some (sl 19)), none, (.ld false (.s (sl 18)) none), none⟩, ⟨(some (sl 20)), none, (.bin .neq (.s (sl 19)) (.c (.int .i64 0))), none⟩])
  (.cond (.s (sl 20))
  (.seq (.reg [⟨(some (sl 6)), none, (.mv (.c (.slice none 0 0))), none⟩])
  .ret)
  .skip))
  (.reg [⟨(some (sl 21)), none, (.mv (.s (sl 7))), none⟩, ⟨(some (sl 22)), none, (.mv (.s (sl 8))), none⟩, ⟨(some (sl 23)), none, (.mksl 1 1 [(.int .i64 0)] [(0, 1, (.s (sl 22)))]), none⟩, ⟨(some (sl 24)), none, (.app 3 1 8 (.s (sl 21)) (.s (sl 23))), none⟩, ⟨(some (sl 7)), none, (.mv (.s (sl 24))), none⟩]))))
  (.reg [⟨(some (sl 25)), none, (.bin .add (.s (sl 12)) (.c (.int .i64 1))), none⟩, ⟨(some (sl 12)), none, (.mv (.s (sl 25))), none⟩])))))))
  (.seq (.reg [⟨(some (sl 26)), none, (.mv (.s (sl 7))), none⟩, ⟨(some (sl 6)), none, (.mv (.s (sl 26))), none⟩])
  .ret))))
def r_bit_several_int_ : List ARes := [(.tmp (sl 6))]
theorem t_bit_several_int_ : (Try.f92).body.bind (trCode Try.prog 8 (Try.f92).ntmps [0, 2, 6, 7, 9, 11, 14, 16, 17, 18, 19, 21, 24, 26] [(40, 0, 0), (66, 0, 0), (63, 0, 0), (61, 0, 0), (62, 0, 0), (84, 0, 0), (83, 0, 0), (65, 0, 0), (37, 0, 0), (39, 0, 0), (36, 0, 0), (38, 0, 0), (64, 0, 0), (82, 0, 0), (92, 0, 0), (1000014, 0, 0)] (drOk 8)) = some c_bit_several_int_ := by kernel_rfl
theorem u_bit_several_int_ : trRess Try.prog 8 (Try.f92).results.toList = some r_bit_several_int_ := by kernel_rfl

end Go.Proofs.Ytciihchbiifgkaa
