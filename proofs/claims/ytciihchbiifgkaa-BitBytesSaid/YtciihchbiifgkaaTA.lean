/- Some texts of one kind, one behind the other. -/
import Derived.Test.YtciihchbiifgkaaKE
/- The bodies of some functions, as the evaluator has them (printed by program), and that they are the program's own. -/
namespace Go.Proofs.Ytciihchbiifgkaa
open Go.RowKit

/-- (*strings.Builder).WriteString -/
def c___strings_Builder__WriteString : ACode :=
  (.seq (.reg [⟨(some (sl 4)), none, (.mv (.c (.int .i64 0))), none⟩, ⟨(some (sl 5)), none, (.mv (.c .nilIface)), none⟩])
  (.seq (.reg [⟨(some (sl 6)), none, (.mv (.s (sl 0))), none⟩, ⟨(some (sl 7)), none, (.calle (.f 54) [(.s (sl 6))]), none⟩])
  (.seq (.reg [⟨(some (sl 8)), none, (.mv (.s (sl 0))), none⟩, ⟨(some (sl 9)), none, (.mv (.s (sl 0))), none⟩, ⟨(some (sl 10)), none, (.nck (.s (sl 9))), none⟩, ⟨(some (sl 11)), none, (.fld (.s (sl 10)) 1), none⟩, ⟨(some (sl 12)), none, (.ld false (.s (sl 11)) none), none⟩, ⟨(some (sl 13)), none, (.mv (.s (sl 1))), none⟩, ⟨(some (sl 14)), none, (.appo true 5 1 1 (.s (sl 12)) (.s (sl 13))), none⟩, ⟨(some (sl 15)), none, (.nck (.s (sl 8))), none⟩, ⟨(some (sl 16)), none, (.fld (.s (sl 15)) 1), none⟩, ⟨none, none, (.st (.s (sl 16)) (.s (sl 14)) 1), none⟩])
  (.seq (.reg [⟨(some (sl 17)), none, (.mv (.s (sl 1))), none⟩, ⟨(some (sl 18)), none, (.len true (.s (sl 17))), none⟩, ⟨(some (sl 4)), none, (.mv (.s (sl 18))), none⟩, ⟨(some (sl 5)), none, (.mv (.c .nilIface)), none⟩])
  .ret))))
def r___strings_Builder__WriteString : List ARes := [(.tmp (sl 4)), (.tmp (sl 5))]
theorem t___strings_Builder__WriteString : (Try.f18).body.bind (trCode Try.prog 8 (Try.f18).ntmps [0, 6, 7, 8, 9, 10, 11, 12, 14, 15, 16] [(18, 0, 0), (54, 0, 0), (27, 0, 0), (28, 0, 0), (22, 0, 0), (21, 0, 0), (24, 0, 0), (56, 0, 0), (57, 0, 0), (78, 0, 0), (19, 0, 0), (23, 0, 0), (25, 0, 0), (55, 0, 0), (77, 0, 0), (20, 0, 0), (26, 0, 0)] (drOk 8)) = some c___strings_Builder__WriteString := by kernel_rfl
theorem u___strings_Builder__WriteString : trRess Try.prog 8 (Try.f18).results.toList = some r___strings_Builder__WriteString := by kernel_rfl

/-- (*strings.Builder).Len -/
def c___strings_Builder__Len : ACode :=
  (.seq (.reg [⟨(some (sl 2)), none, (.mv (.c (.int .i64 0))), none⟩])
  (.seq (.reg [⟨(some (sl 3)), none, (.mv (.s (sl 0))), none⟩, ⟨(some (sl 4)), none, (.nck (.s (sl 3))), none⟩, ⟨(some (sl 5)), none, (.fld (.s (sl 4)) 1), none⟩, ⟨(some (sl 6)), none, (.ld false (.s (sl 5)) none), none⟩, ⟨(some (sl 7)), none, (.len false (.s (sl 6))), none⟩, ⟨(some (sl 2)), none, (.mv (.s (sl 7))), none⟩])
  .ret))
def r___strings_Builder__Len : List ARes := [(.tmp (sl 2))]
theorem t___strings_Builder__Len : (Try.f27).body.bind (trCode Try.prog 8 (Try.f27).ntmps [0, 3, 4, 5, 6] [(18, 0, 0), (54, 0, 0), (27, 0, 0), (28, 0, 0), (22, 0, 0), (21, 0, 0), (24, 0, 0), (56, 0, 0), (57, 0, 0), (78, 0, 0), (19, 0, 0), (23, 0, 0), (25, 0, 0), (55, 0, 0), (77, 0, 0), (20, 0, 0), (26, 0, 0)] (drOk 8)) = some c___strings_Builder__Len := by kernel_rfl
theorem u___strings_Builder__Len : trRess Try.prog 8 (Try.f27).results.toList = some r___strings_Builder__Len := by kernel_rfl

/-- (*marline/bit.writer).nums -/
def c___bit_writer__nums : ACode :=
  (.seq (.reg [⟨(some (sl 6)), none, (.mv (.s (sl 1))), none⟩, ⟨(some (sl 7)), none, (.len false (.s (sl 6))), none⟩, ⟨(some (sl 8)), none, (.mv (.c (.int .i64 0))), none⟩])
  (.block 0
  (.loop (.seq (.reg [⟨(some (sl 9)), none, (.bin .lss (.s (sl 8)) (.s (sl 7))), none⟩])
  (.seq (.cond (.s (sl 9))
  .skip
  (.exit 0))
  (.seq (.block 1
  (.seq (.reg [⟨(some (sl 10)), none, (.idx true (.s (sl 6)) (.s (sl 8)) 1), none⟩, ⟨(some (sl 11)), none, (.ld true (.s (sl 10)) none), none⟩, ⟨(some (sl 5)), none, (.mv (.s (sl 11))), none⟩])
  (.reg [⟨(some (sl 12)), none, (.mv (.s (sl 0))), (some (0, []))⟩, ⟨(some (sl 13)), none, (.nck (.s (sl 12))), (some (1, []))⟩, ⟨(some (sl 14)), none, (.fld (.s (sl 13)) 0), (some (2, []))⟩, ⟨(some (sl 15)), none, (.mv (.s (sl 5))), (some (3, []))⟩, ⟨(some (sl 16)), none, (.cnv .u64 (.s (sl 15))), (some (4, []))⟩, ⟨(some (sl 17)), none, (.call true (.f 16) [(.s (sl 16))]), (some (5, []))⟩, ⟨(some (sl 18)), none, (.calle (.f 18) [(.s (sl 14)), (.s (sl 17))]), (some (6, []))⟩])))
  (.reg [⟨(some (sl 19)), none, (.bin .add (.s (sl 8)) (.c (.int .i64 1))), none⟩, ⟨(some (sl 8)), none, (.mv (.s (sl 19))), none⟩])))))))
def r___bit_writer__nums : List ARes := []
theorem t___bit_writer__nums : (Try.f22).body.bind (trCode Try.prog 8 (Try.f22).ntmps [0, 12, 13, 14, 18] [(18, 0, 0), (54, 0, 0), (27, 0, 0), (28, 0, 0), (22, 0, 0), (21, 0, 0), (24, 0, 0), (56, 0, 0), (57, 0, 0), (78, 0, 0), (19, 0, 0), (23, 0, 0), (25, 0, 0), (55, 0, 0), (77, 0, 0), (20, 0, 0), (26, 0, 0)] (drOk 8)) = some c___bit_writer__nums := by kernel_rfl
theorem u___bit_writer__nums : trRess Try.prog 8 (Try.f22).results.toList = some r___bit_writer__nums := by kernel_rfl

/-- (*marline/bit.writer).text -/
def c___bit_writer__text : ACode :=
  (.seq (.reg [⟨(some (sl 4)), none, (.mv (.s (sl 0))), none⟩, ⟨(some (sl 5)), none, (.mv (.s (sl 1))), none⟩, ⟨(some (sl 6)), none, (.len true (.s (sl 5))), none⟩, ⟨(some (sl 7)), none, (.mksl 1 1 [(.int .i64 0)] [(0, 1, (.s (sl 6)))]), none⟩, ⟨(some (sl 8)), none, (.calle (.f 22) [(.s (sl 4)), (.s (sl 7))]), none⟩])
  (.reg [⟨(some (sl 9)), none, (.mv (.s (sl 0))), none⟩, ⟨(some (sl 10)), none, (.nck (.s (sl 9))), none⟩, ⟨(some (sl 11)), none, (.fld (.s (sl 10)) 0), none⟩, ⟨(some (sl 12)), none, (.mv (.s (sl 1))), none⟩, ⟨(some (sl 13)), none, (.calle (.f 18) [(.s (sl 11)), (.s (sl 12))]), none⟩]))
def r___bit_writer__text : List ARes := []
theorem t___bit_writer__text : (Try.f21).body.bind (trCode Try.prog 8 (Try.f21).ntmps [0, 4, 8, 9, 10, 11, 13] [(18, 0, 0), (54, 0, 0), (27, 0, 0), (28, 0, 0), (22, 0, 0), (21, 0, 0), (24, 0, 0), (56, 0, 0), (57, 0, 0), (78, 0, 0), (19, 0, 0), (23, 0, 0), (25, 0, 0), (55, 0, 0), (77, 0, 0), (20, 0, 0), (26, 0, 0)] (drOk 8)) = some c___bit_writer__text := by kernel_rfl
theorem u___bit_writer__text : trRess Try.prog 8 (Try.f21).results.toList = some r___bit_writer__text := by kernel_rfl

/-- (*marline/bit.writer).inst -/
def c___bit_writer__inst : ACode :=
  (.seq (.reg [⟨(some (sl 3)), none, (.box true (.s (sl 1))), none⟩])
  (.seq (.reg [⟨(some (sl 4)), none, (.mv (.s (sl 0))), none⟩, ⟨(some (sl 5)), none, (.fld (.s (sl 3)) 0), none⟩, ⟨(some (sl 6)), none, (.ld true (.s (sl 5)) none), none⟩, ⟨(some (sl 7)), none, (.mksl 1 1 [(.int .i64 0)] [(0, 1, (.s (sl 6)))]), none⟩, ⟨(some (sl 8)), none, (.calle (.f 22) [(.s (sl 4)), (.s (sl 7))]), none⟩])
  (.block 0
  (.seq (.reg [⟨(some (sl 10)), none, (.fld (.s (sl 3)) 0), none⟩, ⟨(some (sl 11)), none, (.ld true (.s (sl 10)) none), none⟩, ⟨(some (sl 12)), none, (.bin .eql (.s (sl 11)) (.c (.int .i64 1))), none⟩, ⟨(some (sl 9)), none, (.mv (.s (sl 12))), none⟩])
  (.cond (.s (sl 9))
  (.reg [⟨(some (sl 13)), none, (.mv (.s (sl 0))), (some (0, []))⟩, ⟨(some (sl 14)), none, (.nck (.s (sl 13))), (some (1, []))⟩, ⟨(some (sl 15)), none, (.fld (.s (sl 14)) 0), (some (2, []))⟩, ⟨(some (sl 16)), none, (.fld (.s (sl 3)) 3), (some (3, []))⟩, ⟨(some (sl 17)), none, (.ld true (.s (sl 16)) none), (some (4, []))⟩, ⟨(some (sl 18)), none, (.call true (.f 16) [(.s (sl 17))]), (some (5, []))⟩, ⟨(some (sl 19)), none, (.calle (.f 18) [(.s (sl 15)), (.s (sl 18))]), (some (6, []))⟩])
  (.seq (.reg [⟨(some (sl 21)), none, (.fld (.s (sl 3)) 0), none⟩, ⟨(some (sl 22)), none, (.ld true (.s (sl 21)) none), none⟩, ⟨(some (sl 23)), none, (.bin .leq (.s (sl 22)) (.c (.int .i64 11))), none⟩, ⟨(some (sl 20)), none, (.mv (.s (sl 23))), none⟩])
  (.cond (.s (sl 20))
  (.reg [⟨(some (sl 24)), none, (.mv (.s (sl 0))), none⟩, ⟨(some (sl 25)), none, (.fld (.s (sl 3)) 1), none⟩, ⟨(some (sl 26)), none, (.ld true (.s (sl 25)) none), none⟩, ⟨(some (sl 27)), none, (.fld (.s (sl 3)) 2), none⟩, ⟨(some (sl 28)), none, (.ld true (.s (sl 27)) none), none⟩, ⟨(some (sl 29)), none, (.mksl 1 2 [(.int .i64 0), (.int .i64 0)] [(0, 1, (.s (sl 26))), (1, 1, (.s (sl 28)))]), none⟩, ⟨(some (sl 30)), none, (.calle (.f 22) [(.s (sl 24)), (.s (sl 29))]), none⟩])
  (.seq (.reg [⟨(some (sl 32)), none, (.fld (.s (sl 3)) 0), none⟩, ⟨(some (sl 33)), none, (.ld true (.s (sl 32)) none), none⟩, ⟨(some (sl 34)), none, (.bin .eql (.s (sl 33)) (.c (.int .i64 12))), none⟩, ⟨(some (sl 31)), none, (.mv (.s (sl 34))), none⟩])
  (.cond (.s (sl 31))
  (.reg [⟨(some (sl 35)), none, (.mv (.s (sl 0))), none⟩, ⟨(some (sl 36)), none, (.fld (.s (sl 3)) 4), none⟩, ⟨(some (sl 37)), none, (.ld true (.s (sl 36)) none), none⟩, ⟨(some (sl 38)), none, (.calle (.f 21) [(.s (sl 35)), (.s (sl 37))]), none⟩])
  (.seq (.reg [⟨(some (sl 40)), none, (.fld (.s (sl 3)) 0), none⟩, ⟨(some (sl 41)), none, (.ld true (.s (sl 40)) none), none⟩, ⟨(some (sl 42)), none, (.bin .eql (.s (sl 41)) (.c (.int .i64 13))), none⟩, ⟨(some (sl 39)), none, (.mv (.s (sl 42))), none⟩])
  (.cond (.s (sl 39))
  (.seq (.reg [⟨(some (sl 43)), none, (.mv (.s (sl 0))), none⟩, ⟨(some (sl 44)), none, (.fld (.s (sl 3)) 1), none⟩, ⟨(some (sl 45)), none, (.ld true (.s (sl 44)) none), none⟩, ⟨(some (sl 46)), none, (.mksl 1 1 [(.int .i64 0)] [(0, 1, (.s (sl 45)))]), none⟩, ⟨(some (sl 47)), none, (.calle (.f 22) [(.s (sl 43)), (.s (sl 46))]), none⟩])
  (.reg [⟨(some (sl 48)), none, (.mv (.s (sl 0))), none⟩, ⟨(some (sl 49)), none, (.fld (.s (sl 3)) 4), none⟩, ⟨(some (sl 50)), none, (.ld true (.s (sl 49)) none), none⟩, ⟨(some (sl 51)), none, (.calle (.f 21) [(.s (sl 48)), (.s (sl 50))]), none⟩]))
  (.seq (.reg [⟨(some (sl 53)), none, (.fld (.s (sl 3)) 0), none⟩, ⟨(some (sl 54)), none, (.ld true (.s (sl 53)) none), none⟩, ⟨(some (sl 55)), none, (.bin .eql (.s (sl 54)) (.c (.int .i64 14))), none⟩, ⟨(some (sl 52)), none, (.mv (.s (sl 55))), none⟩])
  (.cond (.s (sl 52))
  (.seq (.reg [⟨(some (sl 56)), none, (.mv (.s (sl 0))), none⟩, ⟨(some (sl 57)), none, (.fld (.s (sl 3)) 4), none⟩, ⟨(some (sl 58)), none, (.ld true (.s (sl 57)) none), none⟩, ⟨(some (sl 59)), none, (.calle (.f 21) [(.s (sl 56)), (.s (sl 58))]), none⟩])
  (.reg [⟨(some (sl 60)), none, (.mv (.s (sl 0))), none⟩, ⟨(some (sl 61)), none, (.fld (.s (sl 3)) 5), none⟩, ⟨(some (sl 62)), none, (.ld true (.s (sl 61)) none), none⟩, ⟨(some (sl 63)), none, (.calle (.f 57) [(.s (sl 60)), (.s (sl 62))]), none⟩]))
  (.seq (.reg [⟨(some (sl 65)), none, (.fld (.s (sl 3)) 0), none⟩, ⟨(some (sl 66)), none, (.ld true (.s (sl 65)) none), none⟩, ⟨(some (sl 67)), none, (.bin .eql (.s (sl 66)) (.c (.int .i64 16))), none⟩, ⟨(some (sl 64)), none, (.mv (.s (sl 67))), none⟩])
  (.cond (.s (sl 64))
  (.reg [⟨(some (sl 68)), none, (.mv (.s (sl 0))), none⟩, ⟨(some (sl 69)), none, (.fld (.s (sl 3)) 1), none⟩, ⟨(some (sl 70)), none, (.ld true (.s (sl 69)) none), none⟩, ⟨(some (sl 71)), none, (.mksl 1 1 [(.int .i64 0)] [(0, 1, (.s (sl 70)))]), none⟩, ⟨(some (sl 72)), none, (.calle (.f 22) [(.s (sl 68)), (.s (sl 71))]), none⟩])
  .skip)))))))))))))))
def r___bit_writer__inst : List ARes := []
theorem t___bit_writer__inst : (Try.f56).body.bind (trCode Try.prog 8 (Try.f56).ntmps [0, 4, 8, 13, 14, 15, 19, 24, 30, 35, 38, 43, 47, 48, 51, 56, 59, 60, 63, 68, 72] [(18, 0, 0), (54, 0, 0), (27, 0, 0), (28, 0, 0), (22, 0, 0), (21, 0, 0), (24, 0, 0), (56, 0, 0), (57, 0, 0), (78, 0, 0), (19, 0, 0), (23, 0, 0), (25, 0, 0), (55, 0, 0), (77, 0, 0), (20, 0, 0), (26, 0, 0)] (drOk 8)) = some c___bit_writer__inst := by kernel_rfl
theorem u___bit_writer__inst : trRess Try.prog 8 (Try.f56).results.toList = some r___bit_writer__inst := by kernel_rfl

/-- (*marline/bit.writer).block -/
def c___bit_writer__block : ACode :=
  (.seq (.reg [⟨(some (sl 3)), none, (.box true (.s (sl 1))), none⟩])
  (.seq (.reg [⟨(some (sl 5)), none, (.mv (.s (sl 0))), none⟩, ⟨(some (sl 6)), none, (.fld (.s (sl 3)) 0), none⟩, ⟨(some (sl 7)), none, (.ld true (.s (sl 6)) none), none⟩, ⟨(some (sl 8)), none, (.mksl 1 1 [(.int .i64 0)] [(0, 1, (.s (sl 7)))]), none⟩, ⟨(some (sl 9)), none, (.calle (.f 22) [(.s (sl 5)), (.s (sl 8))]), none⟩])
  (.seq (.reg [⟨(some (sl 10)), none, (.mv (.s (sl 0))), none⟩, ⟨(some (sl 11)), none, (.fld (.s (sl 3)) 1), none⟩, ⟨(some (sl 12)), none, (.ld true (.s (sl 11)) none), none⟩, ⟨(some (sl 13)), none, (.mv (.s (sl 0))), none⟩, ⟨(some (sl 14)), none, (.mkbm 56 (.s (sl 13))), none⟩, ⟨(some (sl 15)), none, (.calle (.f 55) [(.s (sl 10)), (.s (sl 12)), (.s (sl 14))]), none⟩])
  (.seq (.seq (.reg [⟨(some (sl 16)), none, (.fld (.s (sl 3)) 2), none⟩, ⟨(some (sl 17)), none, (.ld true (.s (sl 16)) (some 6)), none⟩, ⟨(some (sl 4)), none, (.new [(.int .i64 0), (.int .i64 0), (.int .i64 0), (.slice none 0 0), (.int .i64 0), (.slice none 0 0)]), none⟩, ⟨none, none, (.ini 1 (.s (sl 4)) (.s (sl 17)) 6), none⟩])
  (.frz (sl 4)))
  (.seq (.reg [⟨(some (sl 18)), none, (.mv (.s (sl 0))), none⟩, ⟨(some (sl 19)), none, (.fld (.s (sl 4)) 0), none⟩, ⟨(some (sl 20)), none, (.ld true (.s (sl 19)) none), none⟩, ⟨(some (sl 21)), none, (.mksl 1 1 [(.int .i64 0)] [(0, 1, (.s (sl 20)))]), none⟩, ⟨(some (sl 22)), none, (.calle (.f 22) [(.s (sl 18)), (.s (sl 21))]), none⟩])
  (.seq (.reg [⟨(some (sl 23)), none, (.fld (.s (sl 4)) 0), none⟩, ⟨(some (sl 24)), none, (.ld true (.s (sl 23)) none), none⟩])
  (.block 0
  (.seq (.reg [⟨(some (sl 26)), none, (.bin .eql (.s (sl 24)) (.c (.int .i64 1))), none⟩, ⟨(some (sl 25)), none, (.mv (.s (sl 26))), none⟩])
  (.cond (.s (sl 25))
  (.seq (.reg [⟨(some (sl 27)), none, (.mv (.s (sl 0))), none⟩, ⟨(some (sl 28)), none, (.fld (.s (sl 4)) 2), none⟩, ⟨(some (sl 29)), none, (.ld true (.s (sl 28)) none), none⟩, ⟨(some (sl 30)), none, (.mksl 1 1 [(.int .i64 0)] [(0, 1, (.s (sl 29)))]), none⟩, ⟨(some (sl 31)), none, (.calle (.f 22) [(.s (sl 27)), (.s (sl 30))]), none⟩])
  (.reg [⟨(some (sl 32)), none, (.mv (.s (sl 0))), none⟩, ⟨(some (sl 33)), none, (.fld (.s (sl 4)) 3), none⟩, ⟨(some (sl 34)), none, (.ld true (.s (sl 33)) none), none⟩, ⟨(some (sl 35)), none, (.calle (.f 57) [(.s (sl 32)), (.s (sl 34))]), none⟩]))
  (.seq (.reg [⟨(some (sl 37)), none, (.bin .eql (.s (sl 24)) (.c (.int .i64 2))), none⟩, ⟨(some (sl 36)), none, (.mv (.s (sl 37))), none⟩])
  (.cond (.s (sl 36))
  (.seq (.reg [⟨(some (sl 38)), none, (.mv (.s (sl 0))), none⟩, ⟨(some (sl 39)), none, (.fld (.s (sl 4)) 1), none⟩, ⟨(some (sl 40)), none, (.ld true (.s (sl 39)) none), none⟩, ⟨(some (sl 41)), none, (.fld (.s (sl 4)) 2), none⟩, ⟨(some (sl 42)), none, (.ld true (.s (sl 41)) none), none⟩, ⟨(some (sl 43)), none, (.mksl 1 2 [(.int .i64 0), (.int .i64 0)] [(0, 1, (.s (sl 40))), (1, 1, (.s (sl 42)))]), none⟩, ⟨(some (sl 44)), none, (.calle (.f 22) [(.s (sl 38)), (.s (sl 43))]), none⟩])
  (.seq (.reg [⟨(some (sl 45)), none, (.mv (.s (sl 0))), none⟩, ⟨(some (sl 46)), none, (.fld (.s (sl 4)) 3), none⟩, ⟨(some (sl 47)), none, (.ld true (.s (sl 46)) none), none⟩, ⟨(some (sl 48)), none, (.calle (.f 57) [(.s (sl 45)), (.s (sl 47))]), none⟩])
  (.seq (.reg [⟨(some (sl 49)), none, (.mv (.s (sl 0))), none⟩, ⟨(some (sl 50)), none, (.fld (.s (sl 4)) 4), none⟩, ⟨(some (sl 51)), none, (.ld true (.s (sl 50)) none), none⟩, ⟨(some (sl 52)), none, (.mksl 1 1 [(.int .i64 0)] [(0, 1, (.s (sl 51)))]), none⟩, ⟨(some (sl 53)), none, (.calle (.f 22) [(.s (sl 49)), (.s (sl 52))]), none⟩])
  (.reg [⟨(some (sl 54)), none, (.mv (.s (sl 0))), none⟩, ⟨(some (sl 55)), none, (.fld (.s (sl 4)) 5), none⟩, ⟨(some (sl 56)), none, (.ld true (.s (sl 55)) none), none⟩, ⟨(some (sl 57)), none, (.calle (.f 57) [(.s (sl 54)), (.s (sl 56))]), none⟩]))))
  (.seq (.reg [⟨(some (sl 59)), none, (.bin .eql (.s (sl 24)) (.c (.int .i64 3))), none⟩, ⟨(some (sl 58)), none, (.mv (.s (sl 59))), none⟩])
  (.cond (.s (sl 58))
  (.reg [⟨(some (sl 60)), none, (.mv (.s (sl 0))), none⟩, ⟨(some (sl 61)), none, (.fld (.s (sl 4)) 1), none⟩, ⟨(some (sl 62)), none, (.ld true (.s (sl 61)) none), none⟩, ⟨(some (sl 63)), none, (.mksl 1 1 [(.int .i64 0)] [(0, 1, (.s (sl 62)))]), none⟩, ⟨(some (sl 64)), none, (.calle (.f 22) [(.s (sl 60)), (.s (sl 63))]), none⟩])
  .skip)))))))))))))
def r___bit_writer__block : List ARes := []
theorem t___bit_writer__block : (Try.f24).body.bind (trCode Try.prog 8 (Try.f24).ntmps [0, 5, 9, 10, 13, 14, 15, 18, 22, 27, 31, 32, 35, 38, 44, 45, 48, 49, 53, 54, 57, 60, 64] [(18, 0, 0), (54, 0, 0), (27, 0, 0), (28, 0, 0), (22, 0, 0), (21, 0, 0), (24, 0, 0), (56, 0, 0), (57, 0, 0), (78, 0, 0), (19, 0, 0), (23, 0, 0), (25, 0, 0), (55, 0, 0), (77, 0, 0), (20, 0, 0), (26, 0, 0)] (drOk 8)) = some c___bit_writer__block := by kernel_rfl
theorem u___bit_writer__block : trRess Try.prog 8 (Try.f24).results.toList = some r___bit_writer__block := by kernel_rfl

/-- (*marline/bit.writer).row$1 -/
def c___bit_writer__row_1 : ACode :=
  (.reg [⟨(some (sl 3)), none, (.ld false (.s (sl 1)) none), none⟩, ⟨(some (sl 4)), none, (.mv (.s (sl 0))), none⟩, ⟨(some (sl 5)), none, (.mksl 1 1 [(.int .i64 0)] [(0, 1, (.s (sl 4)))]), none⟩, ⟨(some (sl 6)), none, (.calle (.f 22) [(.s (sl 3)), (.s (sl 5))]), none⟩])
def r___bit_writer__row_1 : List ARes := []
theorem t___bit_writer__row_1 : (Try.f78).body.bind (trCode Try.prog 8 (Try.f78).ntmps [1, 3, 6] [(18, 0, 0), (54, 0, 0), (27, 0, 0), (28, 0, 0), (22, 0, 0), (21, 0, 0), (24, 0, 0), (56, 0, 0), (57, 0, 0), (78, 0, 0), (19, 0, 0), (23, 0, 0), (25, 0, 0), (55, 0, 0), (77, 0, 0), (20, 0, 0), (26, 0, 0)] (drOk 8)) = some c___bit_writer__row_1 := by kernel_rfl
theorem u___bit_writer__row_1 : trRess Try.prog 8 (Try.f78).results.toList = some r___bit_writer__row_1 := by kernel_rfl

/-- marline/bit.Bytes$1 -/
def c_bit_Bytes_1 : ACode :=
  (.seq (.reg [⟨(some (sl 2)), none, (.box true (.s (sl 0))), none⟩])
  (.seq (.reg [⟨(some (sl 3)), none, (.ld false (.s (sl 1)) none), none⟩, ⟨(some (sl 4)), none, (.fld (.s (sl 2)) 0), none⟩, ⟨(some (sl 5)), none, (.ld true (.s (sl 4)) none), none⟩, ⟨(some (sl 6)), none, (.calle (.f 21) [(.s (sl 3)), (.s (sl 5))]), none⟩])
  (.seq (.reg [⟨(some (sl 7)), none, (.ld false (.s (sl 1)) none), none⟩, ⟨(some (sl 8)), none, (.fld (.s (sl 2)) 1), none⟩, ⟨(some (sl 9)), none, (.ld true (.s (sl 8)) none), none⟩, ⟨(some (sl 10)), none, (.fld (.s (sl 2)) 2), none⟩, ⟨(some (sl 11)), none, (.ld true (.s (sl 10)) none), none⟩, ⟨(some (sl 12)), none, (.mksl 1 2 [(.int .i64 0), (.int .i64 0)] [(0, 1, (.s (sl 9))), (1, 1, (.s (sl 11)))]), none⟩, ⟨(some (sl 13)), none, (.calle (.f 22) [(.s (sl 7)), (.s (sl 12))]), none⟩])
  (.reg [⟨(some (sl 14)), none, (.ld false (.s (sl 1)) none), none⟩, ⟨(some (sl 15)), none, (.fld (.s (sl 2)) 3), none⟩, ⟨(some (sl 16)), none, (.ld true (.s (sl 15)) none), none⟩, ⟨(some (sl 17)), none, (.ld false (.s (sl 1)) none), none⟩, ⟨(some (sl 18)), none, (.mkbm 24 (.s (sl 17))), none⟩, ⟨(some (sl 19)), none, (.calle (.f 23) [(.s (sl 14)), (.s (sl 16)), (.s (sl 18))]), none⟩]))))
def r_bit_Bytes_1 : List ARes := []
theorem t_bit_Bytes_1 : (Try.f20).body.bind (trCode Try.prog 8 (Try.f20).ntmps [1, 3, 6, 7, 13, 14, 17, 18, 19] [(18, 0, 0), (54, 0, 0), (27, 0, 0), (28, 0, 0), (22, 0, 0), (21, 0, 0), (24, 0, 0), (56, 0, 0), (57, 0, 0), (78, 0, 0), (19, 0, 0), (23, 0, 0), (25, 0, 0), (55, 0, 0), (77, 0, 0), (20, 0, 0), (26, 0, 0)] (drOk 8)) = some c_bit_Bytes_1 := by kernel_rfl
theorem u_bit_Bytes_1 : trRess Try.prog 8 (Try.f20).results.toList = some r_bit_Bytes_1 := by kernel_rfl

/-- marline/bit.Bytes$2 -/
def c_bit_Bytes_2 : ACode :=
  (.seq (.reg [⟨(some (sl 2)), none, (.box true (.s (sl 0))), none⟩])
  (.seq (.reg [⟨(some (sl 3)), none, (.mv (.c (.int .i64 0))), none⟩])
  (.seq (.seq (.reg [⟨(some (sl 4)), none, (.fld (.s (sl 2)) 2), none⟩, ⟨(some (sl 5)), none, (.ld true (.s (sl 4)) none), none⟩])
  (.cond (.s (sl 5))
  (.reg [⟨(some (sl 3)), none, (.mv (.c (.int .i64 1))), none⟩])
  .skip))
  (.seq (.reg [⟨(some (sl 6)), none, (.ld false (.s (sl 1)) none), none⟩, ⟨(some (sl 7)), none, (.fld (.s (sl 2)) 0), none⟩, ⟨(some (sl 8)), none, (.ld true (.s (sl 7)) none), none⟩, ⟨(some (sl 9)), none, (.calle (.f 21) [(.s (sl 6)), (.s (sl 8))]), none⟩])
  (.seq (.reg [⟨(some (sl 10)), none, (.ld false (.s (sl 1)) none), none⟩, ⟨(some (sl 11)), none, (.fld (.s (sl 2)) 1), none⟩, ⟨(some (sl 12)), none, (.ld true (.s (sl 11)) none), none⟩, ⟨(some (sl 13)), none, (.mv (.s (sl 3))), none⟩, ⟨(some (sl 14)), none, (.mksl 1 2 [(.int .i64 0), (.int .i64 0)] [(0, 1, (.s (sl 12))), (1, 1, (.s (sl 13)))]), none⟩, ⟨(some (sl 15)), none, (.calle (.f 22) [(.s (sl 10)), (.s (sl 14))]), none⟩])
  (.reg [⟨(some (sl 16)), none, (.ld false (.s (sl 1)) none), (some (0, []))⟩, ⟨(some (sl 17)), none, (.nck (.s (sl 16))), (some (1, []))⟩, ⟨(some (sl 18)), none, (.fld (.s (sl 17)) 0), (some (2, []))⟩, ⟨(some (sl 19)), none, (.fld (.s (sl 2)) 3), (some (3, []))⟩, ⟨(some (sl 20)), none, (.ld true (.s (sl 19)) none), (some (4, []))⟩, ⟨(some (sl 21)), none, (.call true (.f 16) [(.s (sl 20))]), (some (5, []))⟩, ⟨(some (sl 22)), none, (.calle (.f 18) [(.s (sl 18)), (.s (sl 21))]), (some (6, []))⟩]))))))
def r_bit_Bytes_2 : List ARes := []
theorem t_bit_Bytes_2 : (Try.f26).body.bind (trCode Try.prog 8 (Try.f26).ntmps [1, 6, 9, 10, 15, 16, 17, 18, 22] [(18, 0, 0), (54, 0, 0), (27, 0, 0), (28, 0, 0), (22, 0, 0), (21, 0, 0), (24, 0, 0), (56, 0, 0), (57, 0, 0), (78, 0, 0), (19, 0, 0), (23, 0, 0), (25, 0, 0), (55, 0, 0), (77, 0, 0), (20, 0, 0), (26, 0, 0)] (drOk 8)) = some c_bit_Bytes_2 := by kernel_rfl
theorem u_bit_Bytes_2 : trRess Try.prog 8 (Try.f26).results.toList = some r_bit_Bytes_2 := by kernel_rfl

end Go.Proofs.Ytciihchbiifgkaa
/- The bodies of some functions, as the evaluator has them (printed by program), and that they are the program's own. -/
namespace Go.Proofs.Ytciihchbiifgkaa
open Go.RowKit

/-- marline/bit.row[marline/api.Func] -/
def c_bit_row_api_Func_ : ACode :=
  (.seq (.reg [⟨(some (sl 8)), none, (.mv (.s (sl 0))), none⟩, ⟨(some (sl 9)), none, (.mv (.s (sl 1))), none⟩, ⟨(some (sl 10)), none, (.len false (.s (sl 9))), none⟩, ⟨(some (sl 11)), none, (.mksl 1 1 [(.int .i64 0)] [(0, 1, (.s (sl 10)))]), none⟩, ⟨(some (sl 12)), none, (.calle (.f 22) [(.s (sl 8)), (.s (sl 11))]), none⟩])
  (.seq (.reg [⟨(some (sl 13)), none, (.mv (.s (sl 1))), none⟩, ⟨(some (sl 14)), none, (.len false (.s (sl 13))), none⟩, ⟨(some (sl 15)), none, (.mv (.c (.int .i64 0))), none⟩])
  (.block 0
  (.loop (.seq (.reg [⟨(some (sl 16)), none, (.bin .lss (.s (sl 15)) (.s (sl 14))), none⟩])
  (.seq (.cond (.s (sl 16))
  .skip
  (.exit 0))
  (.seq (.block 1
  (.seq (.seq (.reg [⟨(some (sl 17)), none, (.idx true (.s (sl 13)) (.s (sl 15)) 4), none⟩, ⟨(some (sl 18)), none, (.ld true (.s (sl 17)) (some 4)), none⟩, ⟨(some (sl 7)), none, (.new [(.string ⟨#[]⟩), (.int .i64 0), (.int .i64 0), (.slice none 0 0)]), none⟩, ⟨none, none, (.ini 1 (.s (sl 7)) (.s (sl 18)) 4), none⟩])
  (.frz (sl 7)))
  (.reg [⟨(some (sl 19)), none, (.mv (.s (sl 2))), none⟩, ⟨(some (sl 20)), none, (.ld true (.s (sl 7)) (some 4)), none⟩, ⟨(some (sl 21)), none, (.calle (.s (sl 19)) [(.s (sl 20))]), none⟩])))
  (.reg [⟨(some (sl 22)), none, (.bin .add (.s (sl 15)) (.c (.int .i64 1))), none⟩, ⟨(some (sl 15)), none, (.mv (.s (sl 22))), none⟩]))))))))
def r_bit_row_api_Func_ : List ARes := []
theorem t_bit_row_api_Func_ : (Try.f19).body.bind (trCode Try.prog 8 (Try.f19).ntmps [0, 2, 8, 12, 19] [(18, 0, 0), (54, 0, 0), (27, 0, 0), (28, 0, 0), (22, 0, 0), (21, 0, 0), (24, 0, 0), (56, 0, 0), (57, 0, 0), (78, 0, 0), (19, 0, 0), (23, 0, 0), (25, 0, 0), (55, 0, 0), (77, 0, 0), (20, 0, 0), (26, 0, 0), (1000019, 0, 0)] (drOk 8)) = some c_bit_row_api_Func_ := by kernel_rfl
theorem u_bit_row_api_Func_ : trRess Try.prog 8 (Try.f19).results.toList = some r_bit_row_api_Func_ := by kernel_rfl

/-- marline/bit.row[marline/api.Block] -/
def c_bit_row_api_Block_ : ACode :=
  (.seq (.reg [⟨(some (sl 8)), none, (.mv (.s (sl 0))), none⟩, ⟨(some (sl 9)), none, (.mv (.s (sl 1))), none⟩, ⟨(some (sl 10)), none, (.len false (.s (sl 9))), none⟩, ⟨(some (sl 11)), none, (.mksl 1 1 [(.int .i64 0)] [(0, 1, (.s (sl 10)))]), none⟩, ⟨(some (sl 12)), none, (.calle (.f 22) [(.s (sl 8)), (.s (sl 11))]), none⟩])
  (.seq (.reg [⟨(some (sl 13)), none, (.mv (.s (sl 1))), none⟩, ⟨(some (sl 14)), none, (.len false (.s (sl 13))), none⟩, ⟨(some (sl 15)), none, (.mv (.c (.int .i64 0))), none⟩])
  (.block 0
  (.loop (.seq (.reg [⟨(some (sl 16)), none, (.bin .lss (.s (sl 15)) (.s (sl 14))), none⟩])
  (.seq (.cond (.s (sl 16))
  .skip
  (.exit 0))
  (.seq (.block 1
  (.seq (.seq (.reg [⟨(some (sl 17)), none, (.idx true (.s (sl 13)) (.s (sl 15)) 8), none⟩, ⟨(some (sl 18)), none, (.ld true (.s (sl 17)) (some 8)), none⟩, ⟨(some (sl 7)), none, (.new [(.int .i64 0), (.slice none 0 0), (.int .i64 0), (.int .i64 0), (.int .i64 0), (.slice none 0 0), (.int .i64 0), (.slice none 0 0)]), none⟩, ⟨none, none, (.ini 1 (.s (sl 7)) (.s (sl 18)) 8), none⟩])
  (.frz (sl 7)))
  (.reg [⟨(some (sl 19)), none, (.mv (.s (sl 2))), none⟩, ⟨(some (sl 20)), none, (.ld true (.s (sl 7)) (some 8)), none⟩, ⟨(some (sl 21)), none, (.calle (.s (sl 19)) [(.s (sl 20))]), none⟩])))
  (.reg [⟨(some (sl 22)), none, (.bin .add (.s (sl 15)) (.c (.int .i64 1))), none⟩, ⟨(some (sl 15)), none, (.mv (.s (sl 22))), none⟩]))))))))
def r_bit_row_api_Block_ : List ARes := []
theorem t_bit_row_api_Block_ : (Try.f23).body.bind (trCode Try.prog 8 (Try.f23).ntmps [0, 2, 8, 12, 19] [(18, 0, 0), (54, 0, 0), (27, 0, 0), (28, 0, 0), (22, 0, 0), (21, 0, 0), (24, 0, 0), (56, 0, 0), (57, 0, 0), (78, 0, 0), (19, 0, 0), (23, 0, 0), (25, 0, 0), (55, 0, 0), (77, 0, 0), (20, 0, 0), (26, 0, 0), (1000019, 0, 0)] (drOk 8)) = some c_bit_row_api_Block_ := by kernel_rfl
theorem u_bit_row_api_Block_ : trRess Try.prog 8 (Try.f23).results.toList = some r_bit_row_api_Block_ := by kernel_rfl

/-- marline/bit.row[marline/api.Glob] -/
def c_bit_row_api_Glob_ : ACode :=
  (.seq (.reg [⟨(some (sl 8)), none, (.mv (.s (sl 0))), none⟩, ⟨(some (sl 9)), none, (.mv (.s (sl 1))), none⟩, ⟨(some (sl 10)), none, (.len false (.s (sl 9))), none⟩, ⟨(some (sl 11)), none, (.mksl 1 1 [(.int .i64 0)] [(0, 1, (.s (sl 10)))]), none⟩, ⟨(some (sl 12)), none, (.calle (.f 22) [(.s (sl 8)), (.s (sl 11))]), none⟩])
  (.seq (.reg [⟨(some (sl 13)), none, (.mv (.s (sl 1))), none⟩, ⟨(some (sl 14)), none, (.len false (.s (sl 13))), none⟩, ⟨(some (sl 15)), none, (.mv (.c (.int .i64 0))), none⟩])
  (.block 0
  (.loop (.seq (.reg [⟨(some (sl 16)), none, (.bin .lss (.s (sl 15)) (.s (sl 14))), none⟩])
  (.seq (.cond (.s (sl 16))
  .skip
  (.exit 0))
  (.seq (.block 1
  (.seq (.seq (.reg [⟨(some (sl 17)), none, (.idx true (.s (sl 13)) (.s (sl 15)) 4), none⟩, ⟨(some (sl 18)), none, (.ld true (.s (sl 17)) (some 4)), none⟩, ⟨(some (sl 7)), none, (.new [(.string ⟨#[]⟩), (.int .i64 0), (.bool false), (.int .u64 0)]), none⟩, ⟨none, none, (.ini 1 (.s (sl 7)) (.s (sl 18)) 4), none⟩])
  (.frz (sl 7)))
  (.reg [⟨(some (sl 19)), none, (.mv (.s (sl 2))), none⟩, ⟨(some (sl 20)), none, (.ld true (.s (sl 7)) (some 4)), none⟩, ⟨(some (sl 21)), none, (.calle (.s (sl 19)) [(.s (sl 20))]), none⟩])))
  (.reg [⟨(some (sl 22)), none, (.bin .add (.s (sl 15)) (.c (.int .i64 1))), none⟩, ⟨(some (sl 15)), none, (.mv (.s (sl 22))), none⟩]))))))))
def r_bit_row_api_Glob_ : List ARes := []
theorem t_bit_row_api_Glob_ : (Try.f25).body.bind (trCode Try.prog 8 (Try.f25).ntmps [0, 2, 8, 12, 19] [(18, 0, 0), (54, 0, 0), (27, 0, 0), (28, 0, 0), (22, 0, 0), (21, 0, 0), (24, 0, 0), (56, 0, 0), (57, 0, 0), (78, 0, 0), (19, 0, 0), (23, 0, 0), (25, 0, 0), (55, 0, 0), (77, 0, 0), (20, 0, 0), (26, 0, 0), (1000019, 0, 0)] (drOk 8)) = some c_bit_row_api_Glob_ := by kernel_rfl
theorem u_bit_row_api_Glob_ : trRess Try.prog 8 (Try.f25).results.toList = some r_bit_row_api_Glob_ := by kernel_rfl

/-- marline/bit.row[marline/api.Inst] -/
def c_bit_row_api_Inst_ : ACode :=
  (.seq (.reg [⟨(some (sl 8)), none, (.mv (.s (sl 0))), none⟩, ⟨(some (sl 9)), none, (.mv (.s (sl 1))), none⟩, ⟨(some (sl 10)), none, (.len false (.s (sl 9))), none⟩, ⟨(some (sl 11)), none, (.mksl 1 1 [(.int .i64 0)] [(0, 1, (.s (sl 10)))]), none⟩, ⟨(some (sl 12)), none, (.calle (.f 22) [(.s (sl 8)), (.s (sl 11))]), none⟩])
  (.seq (.reg [⟨(some (sl 13)), none, (.mv (.s (sl 1))), none⟩, ⟨(some (sl 14)), none, (.len false (.s (sl 13))), none⟩, ⟨(some (sl 15)), none, (.mv (.c (.int .i64 0))), none⟩])
  (.block 0
  (.loop (.seq (.reg [⟨(some (sl 16)), none, (.bin .lss (.s (sl 15)) (.s (sl 14))), none⟩])
  (.seq (.cond (.s (sl 16))
  .skip
  (.exit 0))
  (.seq (.block 1
  (.seq (.seq (.reg [⟨(some (sl 17)), none, (.idx true (.s (sl 13)) (.s (sl 15)) 6), none⟩, ⟨(some (sl 18)), none, (.ld true (.s (sl 17)) (some 6)), none⟩, ⟨(some (sl 7)), none, (.new [(.int .i64 0), (.int .i64 0), (.int .i64 0), (.int .u64 0), (.string ⟨#[]⟩), (.slice none 0 0)]), none⟩, ⟨none, none, (.ini 1 (.s (sl 7)) (.s (sl 18)) 6), none⟩])
  (.frz (sl 7)))
  (.reg [⟨(some (sl 19)), none, (.mv (.s (sl 2))), none⟩, ⟨(some (sl 20)), none, (.ld true (.s (sl 7)) (some 6)), none⟩, ⟨(some (sl 21)), none, (.calle (.s (sl 19)) [(.s (sl 20))]), none⟩])))
  (.reg [⟨(some (sl 22)), none, (.bin .add (.s (sl 15)) (.c (.int .i64 1))), none⟩, ⟨(some (sl 15)), none, (.mv (.s (sl 22))), none⟩]))))))))
def r_bit_row_api_Inst_ : List ARes := []
theorem t_bit_row_api_Inst_ : (Try.f55).body.bind (trCode Try.prog 8 (Try.f55).ntmps [0, 2, 8, 12, 19] [(18, 0, 0), (54, 0, 0), (27, 0, 0), (28, 0, 0), (22, 0, 0), (21, 0, 0), (24, 0, 0), (56, 0, 0), (57, 0, 0), (78, 0, 0), (19, 0, 0), (23, 0, 0), (25, 0, 0), (55, 0, 0), (77, 0, 0), (20, 0, 0), (26, 0, 0), (1000019, 0, 0)] (drOk 8)) = some c_bit_row_api_Inst_ := by kernel_rfl
theorem u_bit_row_api_Inst_ : trRess Try.prog 8 (Try.f55).results.toList = some r_bit_row_api_Inst_ := by kernel_rfl

/-- marline/bit.row[int] -/
def c_bit_row_int_ : ACode :=
  (.seq (.reg [⟨(some (sl 8)), none, (.mv (.s (sl 0))), none⟩, ⟨(some (sl 9)), none, (.mv (.s (sl 1))), none⟩, ⟨(some (sl 10)), none, (.len false (.s (sl 9))), none⟩, ⟨(some (sl 11)), none, (.mksl 1 1 [(.int .i64 0)] [(0, 1, (.s (sl 10)))]), none⟩, ⟨(some (sl 12)), none, (.calle (.f 22) [(.s (sl 8)), (.s (sl 11))]), none⟩])
  (.seq (.reg [⟨(some (sl 13)), none, (.mv (.s (sl 1))), none⟩, ⟨(some (sl 14)), none, (.len false (.s (sl 13))), none⟩, ⟨(some (sl 15)), none, (.mv (.c (.int .i64 0))), none⟩])
  (.block 0
  (.loop (.seq (.reg [⟨(some (sl 16)), none, (.bin .lss (.s (sl 15)) (.s (sl 14))), none⟩])
  (.seq (.cond (.s (sl 16))
  .skip
  (.exit 0))
  (.seq (.block 1
  (.seq (.reg [⟨(some (sl 17)), none, (.idx true (.s (sl 13)) (.s (sl 15)) 1), none⟩, ⟨(some (sl 18)), none, (.ld true (.s (sl 17)) none), none⟩, ⟨(some (sl 7)), none, (.mv (.s (sl 18))), none⟩])
  (.reg [⟨(some (sl 19)), none, (.mv (.s (sl 2))), none⟩, ⟨(some (sl 20)), none, (.mv (.s (sl 7))), none⟩, ⟨(some (sl 21)), none, (.calle (.s (sl 19)) [(.s (sl 20))]), none⟩])))
  (.reg [⟨(some (sl 22)), none, (.bin .add (.s (sl 15)) (.c (.int .i64 1))), none⟩, ⟨(some (sl 15)), none, (.mv (.s (sl 22))), none⟩]))))))))
def r_bit_row_int_ : List ARes := []
theorem t_bit_row_int_ : (Try.f77).body.bind (trCode Try.prog 8 (Try.f77).ntmps [0, 2, 8, 12, 19] [(18, 0, 0), (54, 0, 0), (27, 0, 0), (28, 0, 0), (22, 0, 0), (21, 0, 0), (24, 0, 0), (56, 0, 0), (57, 0, 0), (78, 0, 0), (19, 0, 0), (23, 0, 0), (25, 0, 0), (55, 0, 0), (77, 0, 0), (20, 0, 0), (26, 0, 0), (1000019, 0, 0)] (drOk 8)) = some c_bit_row_int_ := by kernel_rfl
theorem u_bit_row_int_ : trRess Try.prog 8 (Try.f77).results.toList = some r_bit_row_int_ := by kernel_rfl

end Go.Proofs.Ytciihchbiifgkaa
/- The bodies of some functions, as the evaluator has them (printed by program), and that they are the program's own. -/
namespace Go.Proofs.Ytciihchbiifgkaa
open Go.RowKit

/-- marline/bit.Bytes -/
def c_bit_Bytes : ACode :=
  (.seq (.reg [⟨(some (sl 1)), none, (.box true (.s (sl 0))), none⟩, ⟨(some (sl 2)), none, (.mv (.c (.string ⟨#[]⟩))), none⟩, ⟨(some (sl 3)), none, (.mv (.c (.int .i64 0))), none⟩])
  (.seq (.seq (.reg [⟨(some (sl 6)), none, (.ld true (.s (sl 1)) (some 2)), none⟩, ⟨(some (sl 7)), none, (.call true (.f 17) [(.s (sl 6))]), none⟩, ⟨(some (sl 4)), none, (.mv (.s (sl 7))), none⟩])
  (.seq (.reg [⟨(some (sl 8)), none, (.mv (.s (sl 4))), none⟩, ⟨(some (sl 9)), none, (.bin .neq (.s (sl 8)) (.c (.int .i64 0))), none⟩])
  (.cond (.s (sl 9))
  (.seq (.reg [⟨(some (sl 10)), none, (.mv (.s (sl 4))), none⟩, ⟨(some (sl 2)), none, (.mv (.c (.string ⟨#[]⟩))), none⟩, ⟨(some (sl 3)), none, (.mv (.s (sl 10))), none⟩])
  .ret)
  .skip)))
  (.seq (.reg [⟨(some (sl 11)), none, (.bld [(.pointer none), (.slice none 0 0)] []), none⟩, ⟨(some (sl 12)), none, (.boxo false (some 51) (.s (sl 11))), none⟩, ⟨(some (sl 5)), none, (.new [(.pointer none)]), none⟩, ⟨none, none, (.ini 1 (.s (sl 5)) (.s (sl 12)) 1), none⟩])
  (.seq (.reg [⟨(some (sl 13)), none, (.ld false (.s (sl 5)) none), none⟩, ⟨(some (sl 14)), none, (.nck (.s (sl 13))), none⟩, ⟨(some (sl 15)), none, (.fld (.s (sl 14)) 0), none⟩, ⟨(some (sl 16)), none, (.calle (.f 18) [(.s (sl 15)), (.c (.string ⟨#[77, 73, 82, 49]⟩))]), none⟩])
  (.seq (.reg [⟨(some (sl 17)), none, (.ld false (.s (sl 5)) none), none⟩, ⟨(some (sl 18)), none, (.fld (.s (sl 1)) 0), none⟩, ⟨(some (sl 19)), none, (.ld true (.s (sl 18)) none), none⟩, ⟨(some (sl 20)), none, (.mkfn 20 [(.s (sl 5))]), none⟩, ⟨(some (sl 21)), none, (.calle (.f 19) [(.s (sl 17)), (.s (sl 19)), (.s (sl 20))]), none⟩])
  (.seq (.reg [⟨(some (sl 22)), none, (.ld false (.s (sl 5)) none), none⟩, ⟨(some (sl 23)), none, (.fld (.s (sl 1)) 1), none⟩, ⟨(some (sl 24)), none, (.ld true (.s (sl 23)) none), none⟩, ⟨(some (sl 25)), none, (.mkfn 26 [(.s (sl 5))]), none⟩, ⟨(some (sl 26)), none, (.calle (.f 25) [(.s (sl 22)), (.s (sl 24)), (.s (sl 25))]), none⟩])
  (.seq (.seq (.reg [⟨(some (sl 27)), none, (.ld false (.s (sl 5)) none), none⟩, ⟨(some (sl 28)), none, (.nck (.s (sl 27))), none⟩, ⟨(some (sl 29)), none, (.fld (.s (sl 28)) 0), none⟩, ⟨(some (sl 30)), none, (.calle (.f 27) [(.s (sl 29))]), none⟩, ⟨(some (sl 31)), none, (.bin .gtr (.s (sl 30)) (.c (.int .i64 65535))), none⟩])
  (.cond (.s (sl 31))
  (.seq (.reg [⟨(some (sl 2)), none, (.mv (.c (.string ⟨#[]⟩))), none⟩, ⟨(some (sl 3)), none, (.mv (.c (.int .i64 4))), none⟩])
  .ret)
  .skip))
  (.seq (.reg [⟨(some (sl 32)), none, (.ld false (.s (sl 5)) none), none⟩, ⟨(some (sl 33)), none, (.nck (.s (sl 32))), none⟩, ⟨(some (sl 34)), none, (.fld (.s (sl 33)) 0), none⟩, ⟨(some (sl 35)), none, (.calle (.f 28) [(.s (sl 34))]), none⟩, ⟨(some (sl 2)), none, (.mv (.s (sl 35))), none⟩, ⟨(some (sl 3)), none, (.mv (.c (.int .i64 0))), none⟩])
  .ret))))))))
def r_bit_Bytes : List ARes := [(.tmp (sl 2)), (.tmp (sl 3))]
theorem t_bit_Bytes : (Try.f9).body.bind (trCode Try.prog 8 (Try.f9).ntmps [2, 5, 12, 13, 14, 15, 16, 17, 20, 21, 22, 25, 26, 27, 28, 29, 30, 32, 33, 34, 35] [(18, 0, 0), (54, 0, 0), (27, 0, 0), (28, 0, 0), (22, 0, 0), (21, 0, 0), (24, 0, 0), (56, 0, 0), (57, 0, 0), (78, 0, 0), (19, 0, 0), (23, 0, 0), (25, 0, 0), (55, 0, 0), (77, 0, 0), (20, 0, 0), (26, 0, 0), (5000012, 0, 0)] (drOk 8)) = some c_bit_Bytes := by kernel_rfl
theorem u_bit_Bytes : trRess Try.prog 8 (Try.f9).results.toList = some r_bit_Bytes := by kernel_rfl

/-- (*marline/bit.writer).row -/
def c___bit_writer__row : ACode :=
  (.seq (.reg [⟨(some (sl 2)), none, (.box false (.s (sl 0))), none⟩])
  (.reg [⟨(some (sl 4)), none, (.ld false (.s (sl 2)) none), none⟩, ⟨(some (sl 5)), none, (.mv (.s (sl 1))), none⟩, ⟨(some (sl 6)), none, (.mkfn 78 [(.s (sl 2))]), none⟩, ⟨(some (sl 7)), none, (.calle (.f 77) [(.s (sl 4)), (.s (sl 5)), (.s (sl 6))]), none⟩]))
def r___bit_writer__row : List ARes := []
theorem t___bit_writer__row : (Try.f57).body.bind (trCode Try.prog 8 (Try.f57).ntmps [0, 2, 4, 6, 7] [(18, 0, 0), (54, 0, 0), (27, 0, 0), (28, 0, 0), (22, 0, 0), (21, 0, 0), (24, 0, 0), (56, 0, 0), (57, 0, 0), (78, 0, 0), (19, 0, 0), (23, 0, 0), (25, 0, 0), (55, 0, 0), (77, 0, 0), (20, 0, 0), (26, 0, 0), (5000012, 0, 0)] (drOk 8)) = some c___bit_writer__row := by kernel_rfl
theorem u___bit_writer__row : trRess Try.prog 8 (Try.f57).results.toList = some r___bit_writer__row := by kernel_rfl

end Go.Proofs.Ytciihchbiifgkaa
