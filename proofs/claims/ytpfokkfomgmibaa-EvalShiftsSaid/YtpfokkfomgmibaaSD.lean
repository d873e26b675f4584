/- The bodies of some functions, as the evaluator has them (printed by program), and that they are the program's own. -/
import Derived.Test.YtpfokkfomgmibaaKE
namespace Go.Proofs.Ytpfokkfomgmibaa
open Go.RowKit

/-- marline/eval.Run -/
def c_eval_Run : ACode :=
  (.seq (.reg [⟨(some (sl 4)), none, (.box true (.s (sl 0))), none⟩, ⟨(some (sl 8)), none, (.new [(.bool false), (.int .u64 0), (.string ⟨#[]⟩), (.int .i64 0), (.int .i64 0), (.int .i64 0)]), none⟩, ⟨(some (sl 9)), none, (.mv (.c (.int .i64 0))), none⟩])
  (.seq (.seq (.reg [⟨(some (sl 18)), none, (.mv (.s (sl 2))), none⟩, ⟨(some (sl 19)), none, (.bin .lss (.s (sl 18)) (.c (.int .i64 0))), none⟩, ⟨(some (sl 20)), none, (.mv (.s (sl 19))), none⟩, ⟨(some (sl 21)), (some ((sl 20), false)), (.mv (.s (sl 2))), none⟩, ⟨(some (sl 22)), (some ((sl 20), false)), (.bin .gtr (.s (sl 21)) (.c (.int .i64 100000))), none⟩, ⟨(some (sl 23)), none, (.pick (.s (sl 20)) (.c (.bool true)) (.s (sl 22))), none⟩, ⟨(some (sl 24)), none, (.mv (.s (sl 23))), none⟩, ⟨(some (sl 25)), (some ((sl 24), false)), (.mv (.s (sl 3))), none⟩, ⟨(some (sl 26)), (some ((sl 24), false)), (.bin .lss (.s (sl 25)) (.c (.int .i64 1))), none⟩, ⟨(some (sl 27)), none, (.pick (.s (sl 24)) (.c (.bool true)) (.s (sl 26))), none⟩, ⟨(some (sl 28)), none, (.mv (.s (sl 27))), none⟩, ⟨(some (sl 29)), (some ((sl 28), false)), (.mv (.s (sl 3))), none⟩, ⟨(some (sl 30)), (some ((sl 28), false)), (.bin .gtr (.s (sl 29)) (.c (.int .i64 64))), none⟩, ⟨(some (sl 31)), none, (.pick (.s (sl 28)) (.c (.bool true)) (.s (sl 30))), none⟩])
  (.cond (.s (sl 31))
  (.seq (.reg [⟨(some (sl 32)), none, (.bld [(.bool false), (.int .u64 0), (.string ⟨#[]⟩), (.int .i64 0), (.int .i64 0), (.int .i64 0)] []), none⟩, ⟨none, none, (.st (.s (sl 8)) (.s (sl 32)) 6), none⟩, ⟨(some (sl 9)), none, (.mv (.c (.int .i64 1))), none⟩])
  .ret)
  .skip))
  (.seq (.seq (.reg [⟨(some (sl 33)), none, (.ld true (.s (sl 4)) (some 2)), none⟩, ⟨(some (sl 34)), none, (.call true (.f 15) [(.s (sl 33))]), none⟩, ⟨(some (sl 10)), none, (.mv (.s (sl 34))), none⟩])
  (.seq (.reg [⟨(some (sl 35)), none, (.mv (.s (sl 10))), none⟩, ⟨(some (sl 36)), none, (.bin .neq (.s (sl 35)) (.c (.int .i64 0))), none⟩])
  (.cond (.s (sl 36))
  (.seq (.reg [⟨(some (sl 37)), none, (.bld [(.bool false), (.int .u64 0), (.string ⟨#[]⟩), (.int .i64 0), (.int .i64 0), (.int .i64 0)] []), none⟩, ⟨(some (sl 38)), none, (.mv (.s (sl 10))), none⟩, ⟨none, none, (.st (.s (sl 8)) (.s (sl 37)) 6), none⟩, ⟨(some (sl 9)), none, (.mv (.s (sl 38))), none⟩])
  .ret)
  .skip)))
  (.seq (.reg [⟨(some (sl 39)), none, (.ld true (.s (sl 4)) (some 2)), none⟩, ⟨(some (sl 40)), none, (.mv (.s (sl 1))), none⟩, ⟨(some (sl 41)), none, (.mmk .string), none⟩, ⟨(some (sl 42)), none, (.bld [(.slice none 0 0), (.slice none 0 0), (.string ⟨#[]⟩), (.map none), (.slice none 0 0), (.bool false), (.int .u64 0), (.string ⟨#[]⟩), (.int .i64 0), (.int .i64 0), (.int .i64 0)] [(0, 2, (.s (sl 39))), (2, 1, (.s (sl 40))), (3, 1, (.s (sl 41)))]), none⟩, ⟨(some (sl 43)), none, (.box false (.s (sl 42))), none⟩, ⟨(some (sl 11)), none, (.new [(.pointer none)]), none⟩, ⟨none, none, (.ini 1 (.s (sl 11)) (.s (sl 43)) 1), none⟩])
  (.seq (.seq (.reg [⟨(some (sl 44)), none, (.fld (.s (sl 4)) 1), none⟩, ⟨(some (sl 45)), none, (.ld true (.s (sl 44)) none), none⟩, ⟨(some (sl 46)), none, (.len false (.s (sl 45))), none⟩, ⟨(some (sl 47)), none, (.mv (.c (.int .i64 0))), none⟩])
  (.block 0
  (.loop (.seq (.reg [⟨(some (sl 48)), none, (.bin .lss (.s (sl 47)) (.s (sl 46))), none⟩])
  (.seq (.cond (.s (sl 48))
  .skip
  (.exit 0))
  (.seq (.block 1
  (.seq (.seq (.reg [⟨(some (sl 49)), none, (.idx true (.s (sl 45)) (.s (sl 47)) 4), none⟩, ⟨(some (sl 50)), none, (.ld true (.s (sl 49)) (some 4)), none⟩, ⟨(some (sl 13)), none, (.new [(.string ⟨#[]⟩), (.int .i64 0), (.bool false), (.int .u64 0)]), none⟩, ⟨none, none, (.ini 1 (.s (sl 13)) (.s (sl 50)) 4), none⟩])
  (.frz (sl 13)))
  (.reg [⟨(some (sl 51)), none, (.ld false (.s (sl 11)) none), (some (0, []))⟩, ⟨(some (sl 52)), none, (.nck (.s (sl 51))), (some (1, []))⟩, ⟨(some (sl 53)), none, (.fld (.s (sl 52)) 3), (some (2, []))⟩, ⟨(some (sl 54)), none, (.ld false (.s (sl 53)) none), (some (3, []))⟩, ⟨(some (sl 55)), none, (.fld (.s (sl 13)) 0), (some (4, []))⟩, ⟨(some (sl 56)), none, (.ld true (.s (sl 55)) none), (some (5, []))⟩, ⟨(some (sl 57)), none, (.fld (.s (sl 13)) 3), (some (6, []))⟩, ⟨(some (sl 58)), none, (.ld true (.s (sl 57)) none), (some (7, []))⟩, ⟨none, none, (.mset false (.s (sl 54)) (.s (sl 56)) (.s (sl 58)) .string), (some (8, []))⟩])))
  (.reg [⟨(some (sl 59)), none, (.bin .add (.s (sl 47)) (.c (.int .i64 1))), none⟩, ⟨(some (sl 47)), none, (.mv (.s (sl 59))), none⟩])))))))
  (.seq (.reg [⟨(some (sl 60)), none, (.ld false (.s (sl 11)) none), none⟩, ⟨(some (sl 61)), none, (.calle (.f 19) [(.s (sl 60)), (.c (.string ⟨#[109, 97, 105, 110]⟩)), (.c (.slice none 0 0))]), none⟩])
  (.seq (.reg [⟨(some (sl 62)), none, (.mkfn 20 [(.s (sl 11))]), none⟩, ⟨(some (sl 14)), none, (.mv (.s (sl 62))), none⟩])
  (.seq .skip
  (.seq (.block 2
  (.loop (.block 3
  (.seq (.seq (.reg [⟨(some (sl 63)), none, (.ld false (.s (sl 11)) none), none⟩, ⟨(some (sl 64)), none, (.nck (.s (sl 63))), none⟩, ⟨(some (sl 65)), none, (.fld (.s (sl 64)) 5), none⟩, ⟨(some (sl 66)), none, (.fld (.s (sl 65)) 4), none⟩, ⟨(some (sl 67)), none, (.ld false (.s (sl 66)) none), none⟩, ⟨(some (sl 68)), none, (.mv (.s (sl 2))), none⟩, ⟨(some (sl 69)), none, (.bin .eql (.s (sl 67)) (.s (sl 68))), none⟩])
  (.cond (.s (sl 69))
  (.seq (.reg [⟨(some (sl 70)), none, (.ld false (.s (sl 11)) none), none⟩, ⟨(some (sl 71)), none, (.nck (.s (sl 70))), none⟩, ⟨(some (sl 72)), none, (.fld (.s (sl 71)) 5), none⟩, ⟨(some (sl 73)), none, (.ld false (.s (sl 72)) (some 6)), none⟩, ⟨none, none, (.st (.s (sl 8)) (.s (sl 73)) 6), none⟩, ⟨(some (sl 9)), none, (.mv (.c (.int .i64 12))), none⟩])
  .ret)
  .skip))
  (.seq (.reg [⟨(some (sl 74)), none, (.ld false (.s (sl 11)) none), none⟩, ⟨(some (sl 75)), none, (.nck (.s (sl 74))), none⟩, ⟨(some (sl 76)), none, (.fld (.s (sl 75)) 5), none⟩, ⟨(some (sl 77)), none, (.fld (.s (sl 76)) 4), none⟩, ⟨(some (sl 78)), none, (.ld false (.s (sl 77)) none), none⟩, ⟨(some (sl 79)), none, (.bin .add (.s (sl 78)) (.c (.int .i64 1))), none⟩, ⟨(some (sl 80)), none, (.nck (.s (sl 74))), none⟩, ⟨(some (sl 81)), none, (.fld (.s (sl 80)) 5), none⟩, ⟨(some (sl 82)), none, (.fld (.s (sl 81)) 4), none⟩, ⟨none, none, (.st (.s (sl 82)) (.s (sl 79)) 1), none⟩])
  (.seq (.reg [⟨(some (sl 83)), none, (.ld false (.s (sl 11)) none), (some (0, []))⟩, ⟨(some (sl 84)), none, (.nck (.s (sl 83))), (some (1, []))⟩, ⟨(some (sl 85)), none, (.fld (.s (sl 84)) 4), (some (2, []))⟩, ⟨(some (sl 86)), none, (.ld false (.s (sl 85)) none), (some (3, []))⟩, ⟨(some (sl 87)), none, (.ld false (.s (sl 11)) none), (some (4, []))⟩, ⟨(some (sl 88)), none, (.nck (.s (sl 87))), (some (5, []))⟩, ⟨(some (sl 89)), none, (.fld (.s (sl 88)) 4), (some (6, []))⟩, ⟨(some (sl 90)), none, (.ld false (.s (sl 89)) none), (some (7, []))⟩, ⟨(some (sl 91)), none, (.len false (.s (sl 90))), (some (8, []))⟩, ⟨(some (sl 92)), none, (.bin .sub (.s (sl 91)) (.c (.int .i64 1))), (some (9, []))⟩, ⟨(some (sl 93)), none, (.idx false (.s (sl 86)) (.s (sl 92)) 1), (some (10, []))⟩, ⟨(some (sl 94)), none, (.ld false (.s (sl 93)) none), (some (11, []))⟩, ⟨(some (sl 15)), none, (.mv (.s (sl 94))), (some (12, []))⟩])
  (.seq (.seq (.reg [⟨(some (sl 95)), none, (.mv (.s (sl 15))), (some (0, []))⟩, ⟨(some (sl 96)), none, (.nck (.s (sl 95))), (some (1, []))⟩, ⟨(some (sl 97)), none, (.fld (.s (sl 96)) 0), (some (2, []))⟩, ⟨(some (sl 98)), none, (.fld (.s (sl 97)) 3), (some (3, []))⟩, ⟨(some (sl 99)), none, (.ld false (.s (sl 98)) none), (some (4, []))⟩, ⟨(some (sl 100)), none, (.mv (.s (sl 15))), (some (5, []))⟩, ⟨(some (sl 101)), none, (.nck (.s (sl 100))), (some (6, []))⟩, ⟨(some (sl 102)), none, (.fld (.s (sl 101)) 4), (some (7, []))⟩, ⟨(some (sl 103)), none, (.ld false (.s (sl 102)) none), (some (8, []))⟩, ⟨(some (sl 104)), none, (.idx false (.s (sl 99)) (.s (sl 103)) 8), (some (9, []))⟩, ⟨(some (sl 105)), none, (.ld false (.s (sl 104)) (some 8)), (some (10, []))⟩, ⟨(some (sl 16)), none, (.new [(.int .i64 0), (.slice none 0 0), (.int .i64 0), (.int .i64 0), (.int .i64 0), (.slice none 0 0), (.int .i64 0), (.slice none 0 0)]), (some (11, []))⟩, ⟨none, none, (.ini 1 (.s (sl 16)) (.s (sl 105)) 8), none⟩])
  (.frz (sl 16)))
  (.seq (.seq (.reg [⟨(some (sl 106)), none, (.mv (.s (sl 15))), (some (0, []))⟩, ⟨(some (sl 107)), none, (.nck (.s (sl 106))), (some (1, []))⟩, ⟨(some (sl 108)), none, (.fld (.s (sl 107)) 5), (some (2, []))⟩, ⟨(some (sl 109)), none, (.ld false (.s (sl 108)) none), (some (3, []))⟩, ⟨(some (sl 110)), none, (.fld (.s (sl 16)) 1), (some (4, []))⟩, ⟨(some (sl 111)), none, (.ld true (.s (sl 110)) none), (some (5, []))⟩, ⟨(some (sl 112)), none, (.len false (.s (sl 111))), (some (6, []))⟩, ⟨(some (sl 113)), none, (.bin .eql (.s (sl 109)) (.s (sl 112))), (some (7, []))⟩])
  (.cond (.s (sl 113))
  (.seq (.seq (.reg [⟨(some (sl 114)), none, (.mv (.s (sl 14))), none⟩, ⟨(some (sl 115)), none, (.mv (.s (sl 15))), none⟩, ⟨(some (sl 116)), none, (.fld (.s (sl 16)) 2), none⟩, ⟨(some (sl 117)), none, (.ld true (.s (sl 116)) (some 6)), none⟩, ⟨(some (sl 118)), none, (.calle (.s (sl 114)) [(.s (sl 115)), (.s (sl 117))]), none⟩, ⟨(some (sl 119)), none, (.not (.s (sl 118))), none⟩])
  (.cond (.s (sl 119))
  (.exit 2)
  .skip))
  (.exit 3))
  .skip))
  (.seq (.seq (.reg [⟨(some (sl 120)), none, (.fld (.s (sl 16)) 1), (some (0, []))⟩, ⟨(some (sl 121)), none, (.ld true (.s (sl 120)) none), (some (1, []))⟩, ⟨(some (sl 122)), none, (.mv (.s (sl 15))), (some (2, []))⟩, ⟨(some (sl 123)), none, (.nck (.s (sl 122))), (some (3, []))⟩, ⟨(some (sl 124)), none, (.fld (.s (sl 123)) 5), (some (4, []))⟩, ⟨(some (sl 125)), none, (.ld false (.s (sl 124)) none), (some (5, []))⟩, ⟨(some (sl 126)), none, (.idx true (.s (sl 121)) (.s (sl 125)) 6), (some (6, []))⟩, ⟨(some (sl 127)), none, (.ld false (.s (sl 126)) (some 6)), (some (7, []))⟩, ⟨(some (sl 17)), none, (.new [(.int .i64 0), (.int .i64 0), (.int .i64 0), (.int .u64 0), (.string ⟨#[]⟩), (.slice none 0 0)]), (some (8, []))⟩, ⟨none, none, (.ini 1 (.s (sl 17)) (.s (sl 127)) 6), none⟩])
  (.frz (sl 17)))
  (.seq (.reg [⟨(some (sl 128)), none, (.mv (.s (sl 15))), none⟩, ⟨(some (sl 129)), none, (.nck (.s (sl 128))), none⟩, ⟨(some (sl 130)), none, (.fld (.s (sl 129)) 5), none⟩, ⟨(some (sl 131)), none, (.ld false (.s (sl 130)) none), none⟩, ⟨(some (sl 132)), none, (.bin .add (.s (sl 131)) (.c (.int .i64 1))), none⟩, ⟨(some (sl 133)), none, (.nck (.s (sl 128))), none⟩, ⟨(some (sl 134)), none, (.fld (.s (sl 133)) 5), none⟩, ⟨none, none, (.st (.s (sl 134)) (.s (sl 132)) 1), none⟩])
  (.seq (.seq (.reg [⟨(some (sl 135)), none, (.fld (.s (sl 17)) 0), none⟩, ⟨(some (sl 136)), none, (.ld true (.s (sl 135)) none), none⟩, ⟨(some (sl 137)), none, (.bin .neq (.s (sl 136)) (.c (.int .i64 14))), none⟩])
  (.cond (.s (sl 137))
  (.seq (.reg [⟨(some (sl 138)), none, (.mv (.s (sl 15))), (some (0, []))⟩, ⟨(some (sl 139)), none, (.mv (.s (sl 15))), (some (1, []))⟩, ⟨(some (sl 140)), none, (.nck (.s (sl 139))), (some (2, []))⟩, ⟨(some (sl 141)), none, (.fld (.s (sl 140)) 6), (some (3, []))⟩, ⟨(some (sl 142)), none, (.ldk 3 (.s (sl 141)) none), (some (4, []))⟩, ⟨(some (sl 143)), none, (.ld false (.s (sl 11)) none), (some (5, []))⟩, ⟨(some (sl 144)), none, (.mv (.s (sl 15))), (some (6, []))⟩, ⟨(some (sl 145)), none, (.ld true (.s (sl 17)) (some 6)), (some (7, []))⟩, ⟨(some (sl 146)), none, (.callk 3 (.f 23) [(.s (sl 143)), (.s (sl 144)), (.s (sl 145))]), (some (8, []))⟩, ⟨(some (sl 147)), none, (.mksl 1 1 [(.int .u64 0)] [(0, 1, (.s (sl 146)))]), (some (9, []))⟩, ⟨(some (sl 148)), none, (.app 29 1 8 (.s (sl 142)) (.s (sl 147))), (some (10, []))⟩, ⟨(some (sl 149)), none, (.nck (.s (sl 138))), (some (11, []))⟩, ⟨(some (sl 150)), none, (.fld (.s (sl 149)) 6), (some (12, []))⟩, ⟨none, none, (.st (.s (sl 150)) (.s (sl 148)) 1), (some (13, []))⟩])
  (.exit 3))
  .skip))
  (.seq (.seq (.reg [⟨(some (sl 151)), none, (.ld false (.s (sl 11)) none), none⟩, ⟨(some (sl 152)), none, (.nck (.s (sl 151))), none⟩, ⟨(some (sl 153)), none, (.fld (.s (sl 152)) 4), none⟩, ⟨(some (sl 154)), none, (.ld false (.s (sl 153)) none), none⟩, ⟨(some (sl 155)), none, (.len false (.s (sl 154))), none⟩, ⟨(some (sl 156)), none, (.mv (.s (sl 3))), none⟩, ⟨(some (sl 157)), none, (.bin .eql (.s (sl 155)) (.s (sl 156))), none⟩])
  (.cond (.s (sl 157))
  (.seq (.reg [⟨(some (sl 158)), none, (.ld false (.s (sl 11)) none), none⟩, ⟨(some (sl 159)), none, (.nck (.s (sl 158))), none⟩, ⟨(some (sl 160)), none, (.fld (.s (sl 159)) 5), none⟩, ⟨(some (sl 161)), none, (.ld false (.s (sl 160)) (some 6)), none⟩, ⟨none, none, (.st (.s (sl 8)) (.s (sl 161)) 6), none⟩, ⟨(some (sl 9)), none, (.mv (.c (.int .i64 13))), none⟩])
  .ret)
  .skip))
  (.reg [⟨(some (sl 162)), none, (.ld false (.s (sl 11)) none), (some (0, []))⟩, ⟨(some (sl 163)), none, (.fld (.s (sl 17)) 4), (some (1, []))⟩, ⟨(some (sl 164)), none, (.ld true (.s (sl 163)) none), (some (2, []))⟩, ⟨(some (sl 165)), none, (.mv (.s (sl 15))), (some (3, []))⟩, ⟨(some (sl 166)), none, (.fld (.s (sl 17)) 5), (some (4, []))⟩, ⟨(some (sl 167)), none, (.ld true (.s (sl 166)) none), (some (5, []))⟩, ⟨(some (sl 168)), none, (.callo 29 1 (.f 24) [(.s (sl 165)), (.s (sl 167))]), (some (6, []))⟩, ⟨(some (sl 169)), none, (.calle (.f 19) [(.s (sl 162)), (.s (sl 164)), (.s (sl 168))]), (some (7, []))⟩])))))))))))))
  (.seq (.reg [⟨(some (sl 170)), none, (.ld false (.s (sl 11)) none), none⟩, ⟨(some (sl 171)), none, (.nck (.s (sl 170))), none⟩, ⟨(some (sl 172)), none, (.fld (.s (sl 171)) 5), none⟩, ⟨(some (sl 173)), none, (.ld false (.s (sl 172)) (some 6)), none⟩, ⟨none, none, (.st (.s (sl 8)) (.s (sl 173)) 6), none⟩, ⟨(some (sl 9)), none, (.mv (.c (.int .i64 0))), none⟩])
  .ret))))))))))
def r_eval_Run : List ARes := [(.cell (sl 8) (some 6)), (.tmp (sl 9))]
theorem t_eval_Run : (Try.f12).body.bind (trCode Try.prog 8 (Try.f12).ntmps [8, 11, 14, 15, 43, 51, 52, 53, 54, 60, 61, 62, 63, 64, 65, 66, 67, 70, 71, 72, 73, 74, 75, 76, 77, 78, 80, 81, 82, 83, 84, 85, 86, 87, 88, 89, 90, 93, 94, 95, 96, 97, 98, 99, 100, 101, 102, 103, 104, 105, 106, 107, 108, 109, 114, 115, 122, 123, 124, 125, 126, 127, 128, 129, 130, 131, 133, 134, 138, 139, 140, 141, 142, 143, 144, 146, 147, 148, 149, 150, 151, 152, 153, 154, 158, 159, 160, 161, 162, 165, 168, 169, 170, 171, 172, 173] [(24, 29, 1), (19, 0, 0), (20, 0, 0), (21, 0, 0), (22, 0, 0), (23, 0, 0), (1000114, 0, 0), (7000142, 0, 3), (7000146, 0, 3)] (drOk 8)) = some c_eval_Run := by kernel_rfl
theorem u_eval_Run : trRess Try.prog 8 (Try.f12).results.toList = some r_eval_Run := by kernel_rfl

end Go.Proofs.Ytpfokkfomgmibaa
