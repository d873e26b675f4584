/- Texts of one kind, one behind the other (merged by program; the bodies of functions are printed by program). -/
import Derived.Test.YtgadlpdbkohlbaaGreatPMD
import Derived.WalkKit
/- The bodies of some functions, as the evaluator has them (printed by program), and that they are the program's own. -/
namespace Go.Proofs.YtgadlpdbkohlbaaGreat
open Go.RowKit
def q8i : ACode :=
 (.seq (.reg [Ro 2 (.mv (.c (.bool false)))])
 (.seq (.reg [Ro 3 (Mv 0), Ro 4 (.len true (Sv 3)), Ro 5 (.bin .geq (Sv 4) (Ci 1)), Ro 6 (Mv 5), Rg 7 6 true (Mv 0), Rg 8 6 true (.len true (Sv 7)), Rg 9 6 true (.bin .leq (Sv 8) (Ci 16)), Ro 10 (.pick (Sv 6) (Sv 9) (.c (.bool false))), Ro 2 (Mv 10)])
 .ret))
def q98 : List ARes := [(.tmp (sl 2))]
theorem qfm : (Tryz.f19).body.bind (q9 Tryz.prog 8 (Tryz.f19).ntmps [] [] (drOk 8)) = some q8i := by kernel_rfl
theorem qg4 : qa Tryz.prog 8 (Tryz.f19).results.toList = some q98 := by kernel_rfl
def q8g : ACode :=
 (.seq (.reg [Ro 1 (.box true (Sv 0)), Ro 2 (.mv (.c (.slice none 0 0)))])
 (.seq (.seq (.reg [Ro 3 (Fd 1 0), Ro 4 (Ld 3), Ro 5 (.bin .geq (Sv 4) (Ci 2)), Ro 6 (Mv 5), Rg 7 6 true (Fd 1 0), Rg 8 6 true (Ld 7), Rg 9 6 true (.bin .leq (Sv 8) (Ci 11)), Ro 10 (.pick (Sv 6) (Sv 9) (.c (.bool false)))])
 (.cond (Sv 10)
 (.seq (.reg [Ro 11 (Fd 1 1), Ro 12 (Ld 11), Ro 13 (Fd 1 2), Ro 14 (Ld 13), Ro 15 (.mksl 1 2 [(.int .i64 0), (.int .i64 0)] [(0, 1, (Sv 12)), (1, 1, (Sv 14))]), Ro 2 (Mv 15)])
 .ret)
 .skip))
 (.seq (.seq (.reg [Ro 16 (Fd 1 0), Ro 17 (Ld 16), Ro 18 (.bin .eql (Sv 17) (Ci 13)), Ro 19 (Mv 18), Rg 20 19 false (Fd 1 0), Rg 21 19 false (Ld 20), Rg 22 19 false (.bin .eql (Sv 21) (Ci 16)), Ro 23 (.pick (Sv 19) (.c (.bool true)) (Sv 22))])
 (.cond (Sv 23)
 (.seq (.reg [Ro 24 (Fd 1 1), Ro 25 (Ld 24), Ro 26 (.mksl 1 1 [(.int .i64 0)] [(0, 1, (Sv 25))]), Ro 2 (Mv 26)])
 .ret)
 .skip))
 (.seq (.seq (.reg [Ro 27 (Fd 1 0), Ro 28 (Ld 27), Ro 29 (.bin .eql (Sv 28) (Ci 14))])
 (.cond (Sv 29)
 (.seq (.reg [Ro 30 (.nrow 3 1), Ro 31 (Fd 1 5), Ro 32 (Ld 31), Ro 33 (.app 3 1 8 (Sv 30) (Sv 32)), Ro 2 (Mv 33)])
 .ret)
 .skip))
 (.seq (.reg [Ro 2 (.mv (.c (.slice none 0 0)))])
 .ret)))))
def q96 : List ARes := [(.tmp (sl 2))]
theorem qfk : (Tryz.f85).body.bind (q9 Tryz.prog 8 (Tryz.f85).ntmps [2, 33] [] (drOk 8)) = some q8g := by kernel_rfl
theorem qg2 : qa Tryz.prog 8 (Tryz.f85).results.toList = some q96 := by kernel_rfl
def q7b : ACode :=
 (.seq (.reg [Ro 4 (.mv (.c (.bool false)))])
 (.seq (.seq (.reg [Ro 5 (.mv (Ci 0))])
 (.block 0
 (.loop (.seq (.seq (.reg [Ro 6 (Mv 5), Ro 7 (Mv 0), Ro 8 (.len false (Sv 7)), Ro 9 (.bin .lss (Sv 6) (Sv 8))])
 (.cond (Sv 9)
 .skip
 (.exit 0)))
 (.seq (.block 1
 (.seq (.reg [Ro 12 (Mv 0), Ro 13 (Mv 5), Ro 14 (.idx true (Sv 12) (Sv 13) 1), Ro 15 (Ld 14), Ro 16 (.bin .lss (Sv 15) (Ci 0)), Ro 17 (Mv 16), Rg 18 17 false (Mv 0), Rg 19 17 false (Mv 5), Rg 20 17 false (.idx true (Sv 18) (Sv 19) 1), Rg 21 17 false (Ld 20), Rg 22 17 false (Mv 1), Rg 23 17 false (.bin .geq (Sv 21) (Sv 22)), Ro 24 (.pick (Sv 17) (.c (.bool true)) (Sv 23))])
 (.cond (Sv 24)
 (.seq (.reg [Ro 4 (.mv (.c (.bool false)))])
 .ret)
 .skip)))
 (.reg [Ro 10 (Mv 5), Ro 11 (.bin .add (Sv 10) (Ci 1)), Ro 5 (Mv 11)]))))))
 (.seq (.reg [Ro 4 (.mv (.c (.bool true)))])
 .ret)))
def q7o : List ARes := [(.tmp (sl 4))]
theorem qds : (Tryz.f84).body.bind (q9 Tryz.prog 8 (Tryz.f84).ntmps [] [] (drOk 8)) = some q7b := by kernel_rfl
theorem qe5 : qa Tryz.prog 8 (Tryz.f84).results.toList = some q7o := by kernel_rfl
def q7a : ACode :=
 (.seq (.reg [Ro 1 (.box true (Sv 0)), Ro 2 (.mv (.c (.bool false)))])
 (.seq (.reg [Ro 3 (Fd 1 0), Ro 4 (Ld 3), Ro 5 (.bin .eql (Sv 4) (Ci 12)), Ro 6 (Mv 5), Rg 7 6 false (Fd 1 0), Rg 8 6 false (Ld 7), Rg 9 6 false (.bin .eql (Sv 8) (Ci 13)), Ro 10 (.pick (Sv 6) (.c (.bool true)) (Sv 9)), Ro 11 (Mv 10), Rg 12 11 false (Fd 1 0), Rg 13 11 false (Ld 12), Rg 14 11 false (.bin .eql (Sv 13) (Ci 14)), Ro 15 (.pick (Sv 11) (.c (.bool true)) (Sv 14)), Ro 2 (Mv 15)])
 .ret))
def q7n : List ARes := [(.tmp (sl 2))]
theorem qdr : (Tryz.f51).body.bind (q9 Tryz.prog 8 (Tryz.f51).ntmps [] [] (drOk 8)) = some q7a := by kernel_rfl
theorem qe4 : qa Tryz.prog 8 (Tryz.f51).results.toList = some q7n := by kernel_rfl
def q8c : ACode :=
 (.seq (.reg [Ro 2 (.box true (Sv 0)), Ro 4 (.mv (.c (.bool false)))])
 (.seq (.reg [Ro 9 (Lk 2 6), Ro 10 (.call true (.f 85) [Sv 9]), Ro 11 (Mv 1), Ro 12 (.call true (.f 84) [Sv 10, Sv 11]), Ro 5 (Mv 12)])
 (.seq (.seq (.reg [Ro 13 (Fd 2 0), Ro 14 (Ld 13), Ro 15 (.bin .lss (Sv 14) (Ci 1)), Ro 16 (Mv 15), Rg 17 16 false (Fd 2 0), Rg 18 16 false (Ld 17), Rg 19 16 false (.bin .gtr (Sv 18) (Ci 16)), Ro 20 (.pick (Sv 16) (.c (.bool true)) (Sv 19)), Ro 21 (Mv 20), Rg 22 21 false (Mv 5), Rg 23 21 false (.not (Sv 22)), Ro 24 (.pick (Sv 21) (.c (.bool true)) (Sv 23)), Ro 25 (Mv 24), Rg 26 25 false (Fd 2 5), Rg 27 25 false (Ld 26), Rg 28 25 false (.len false (Sv 27)), Rg 29 25 false (.bin .gtr (Sv 28) (Ci 6)), Ro 30 (.pick (Sv 25) (.c (.bool true)) (Sv 29))])
 (.cond (Sv 30)
 (.seq (.reg [Ro 4 (.mv (.c (.bool false)))])
 .ret)
 .skip))
 (.seq (.reg [Ro 31 (Fd 2 0), Ro 32 (Ld 31), Ro 33 (.bin .geq (Sv 32) (Ci 2)), Ro 34 (Mv 33), Rg 35 34 true (Fd 2 0), Rg 36 34 true (Ld 35), Rg 37 34 true (.bin .leq (Sv 36) (Ci 11)), Ro 38 (.pick (Sv 34) (Sv 37) (.c (.bool false))), Ro 39 (Mv 38), Rg 40 39 false (Fd 2 0), Rg 41 39 false (Ld 40), Rg 42 39 false (.bin .eql (Sv 41) (Ci 13)), Ro 43 (.pick (Sv 39) (.c (.bool true)) (Sv 42)), Ro 44 (Mv 43), Rg 45 44 false (Fd 2 0), Rg 46 44 false (Ld 45), Rg 47 44 false (.bin .eql (Sv 46) (Ci 16)), Ro 48 (.pick (Sv 44) (.c (.bool true)) (Sv 47)), Ro 6 (Mv 48)])
 (.seq (.reg [Ro 49 (Fd 2 0), Ro 50 (Ld 49), Ro 51 (.bin .geq (Sv 50) (Ci 2)), Ro 52 (Mv 51), Rg 53 52 true (Fd 2 0), Rg 54 52 true (Ld 53), Rg 55 52 true (.bin .leq (Sv 54) (Ci 11)), Ro 56 (.pick (Sv 52) (Sv 55) (.c (.bool false))), Ro 7 (Mv 56)])
 (.seq (.seq (.reg [Ro 57 (Mv 6), Ro 58 (.not (Sv 57)), Ro 59 (Mv 58), Rg 60 59 true (Fd 2 1), Rg 61 59 true (Ld 60), Rg 62 59 true (.bin .neq (Sv 61) (Ci 0)), Ro 63 (.pick (Sv 59) (Sv 62) (.c (.bool false))), Ro 64 (Mv 63), Rg 65 64 false (Mv 7), Rg 66 64 false (.not (Sv 65)), Rg 67 64 false (Mv 66), Rg 68 67 true (Fd 2 2), Rg 69 67 true (Ld 68), Rg 70 67 true (.bin .neq (Sv 69) (Ci 0)), Rg 71 64 false (.pick (Sv 67) (Sv 70) (.c (.bool false))), Ro 72 (.pick (Sv 64) (.c (.bool true)) (Sv 71)), Ro 73 (Mv 72), Rg 74 73 false (Fd 2 0), Rg 75 73 false (Ld 74), Rg 76 73 false (.bin .neq (Sv 75) (Ci 1)), Rg 77 73 false (Mv 76), Rg 78 77 true (Fd 2 3), Rg 79 77 true (Ld 78), Rg 80 77 true (.bin .neq (Sv 79) (.c (.int .u64 0))), Rg 81 73 false (.pick (Sv 77) (Sv 80) (.c (.bool false))), Ro 82 (.pick (Sv 73) (.c (.bool true)) (Sv 81)), Ro 83 (Mv 82), Rg 84 83 false (Fd 2 0), Rg 85 83 false (Ld 84), Rg 86 83 false (.bin .neq (Sv 85) (Ci 14)), Rg 87 83 false (Mv 86), Rg 88 87 true (Fd 2 5), Rg 89 87 true (Ld 88), Rg 90 87 true (.len false (Sv 89)), Rg 91 87 true (.bin .gtr (Sv 90) (Ci 0)), Rg 92 83 false (.pick (Sv 87) (Sv 91) (.c (.bool false))), Ro 93 (.pick (Sv 83) (.c (.bool true)) (Sv 92))])
 (.cond (Sv 93)
 (.seq (.reg [Ro 4 (.mv (.c (.bool false)))])
 .ret)
 .skip))
 (.seq (.reg [Ro 94 (Lk 2 6), Ro 95 (.call true (.f 51) [Sv 94]), Ro 8 (Mv 95)])
 (.seq (.seq (.reg [Ro 96 (Mv 8)])
 (.cond (Sv 96)
 (.seq (.reg [Ro 97 (Fd 2 4), Ro 98 (Ld 97), Ro 99 (.call true (.f 19) [Sv 98]), Ro 4 (Mv 99)])
 .ret)
 .skip))
 (.seq (.reg [Ro 100 (Fd 2 4), Ro 101 (Ld 100), Ro 102 (.bin .eql (Sv 101) (.c (.string ⟨#[]⟩))), Ro 4 (Mv 102)])
 .ret)))))))))
def q92 : List ARes := [(.tmp (sl 4))]
theorem qfg : (Tryz.f55).body.bind (q9 Tryz.prog 8 (Tryz.f55).ntmps [] [] (drOk 8)) = some q8c := by kernel_rfl
theorem qfy : qa Tryz.prog 8 (Tryz.f55).results.toList = some q92 := by kernel_rfl
def q8h : ACode :=
 (.seq (.reg [Ro 4 (.box true (Sv 0)), Ro 8 (.mv (.c (.bool false)))])
 (.seq (.seq (.reg [Ro 9 (Mv 1), Ro 10 (.bin .lss (Sv 9) (Ci 0)), Ro 11 (Mv 10), Rg 12 11 false (Mv 1), Rg 13 11 false (Fd 4 3), Rg 14 11 false (Ld 13), Rg 15 11 false (.len false (Sv 14)), Rg 16 11 false (.bin .geq (Sv 12) (Sv 15)), Ro 17 (.pick (Sv 11) (.c (.bool true)) (Sv 16)), Ro 18 (Mv 17), Rg 19 18 false (Mv 2), Rg 20 18 false (.len false (Sv 19)), Rg 21 18 false (Fd 4 3), Rg 22 18 false (Ld 21), Rg 23 18 false (Mv 1), Rg 24 18 false (.idx true (Sv 22) (Sv 23) 8), Rg 25 18 false (Fd 24 0), Rg 26 18 false (Ld 25), Rg 27 18 false (.bin .neq (Sv 20) (Sv 26)), Ro 28 (.pick (Sv 18) (.c (.bool true)) (Sv 27))])
 (.cond (Sv 28)
 (.seq (.reg [Ro 8 (.mv (.c (.bool false)))])
 .ret)
 .skip))
 (.seq (.reg [Ro 29 (Mv 2), Ro 30 (Mv 3), Ro 31 (.call true (.f 84) [Sv 29, Sv 30]), Ro 8 (Mv 31)])
 .ret)))
def q97 : List ARes := [(.tmp (sl 8))]
theorem qfl : (Tryz.f56).body.bind (q9 Tryz.prog 8 (Tryz.f56).ntmps [] [] (drOk 8)) = some q8h := by kernel_rfl
theorem qg3 : qa Tryz.prog 8 (Tryz.f56).results.toList = some q97 := by kernel_rfl
def q7c : ACode :=
 (.seq (.reg [Ro 2 (.box true (Sv 0)), Ro 4 (.mv (.c (.bool false)))])
 (.seq (.seq (.reg [Ro 14 (Fd 2 3), Ro 15 (Ld 14), Ro 16 (Mv 1), Ro 17 (.idx true (Sv 15) (Sv 16) 8), Ro 18 (Lk 17 8), Ro 5 (.new [(.int .i64 0), (.slice none 0 0), (.int .i64 0), (.int .i64 0), (.int .i64 0), (.slice none 0 0), (.int .i64 0), (.slice none 0 0)]), Rn (.ini 1 (Sv 5) (Sv 18) 8)])
 (.frz (sl 5)))
 (.seq (.seq (.reg [Ro 19 (Fd 5 0), Ro 20 (Ld 19), Ro 21 (.bin .lss (Sv 20) (Ci 0)), Ro 22 (Mv 21), Rg 23 22 false (Fd 5 0), Rg 24 22 false (Ld 23), Rg 25 22 false (.bin .gtr (Sv 24) (Ci 6)), Ro 26 (.pick (Sv 22) (.c (.bool true)) (Sv 25)), Ro 27 (Mv 26), Rg 28 27 false (Fd 5 1), Rg 29 27 false (Ld 28), Rg 30 27 false (.len false (Sv 29)), Rg 31 27 false (.bin .gtr (Sv 30) (Ci 32)), Ro 32 (.pick (Sv 27) (.c (.bool true)) (Sv 31))])
 (.cond (Sv 32)
 (.seq (.reg [Ro 4 (.mv (.c (.bool false)))])
 .ret)
 .skip))
 (.seq (.seq (.reg [Ro 6 (.mv (Ci 0))])
 (.block 0
 (.loop (.seq (.seq (.reg [Ro 33 (Mv 6), Ro 34 (Fd 5 1), Ro 35 (Ld 34), Ro 36 (.len false (Sv 35)), Ro 37 (.bin .lss (Sv 33) (Sv 36))])
 (.cond (Sv 37)
 .skip
 (.exit 0)))
 (.seq (.block 1
 (.seq (.reg [Rl 40 (Fd 5 1) 0, Rl 41 (Ld 40) 1, Rl 42 (Mv 6) 2, Rl 43 (.idx true (Sv 41) (Sv 42) 6) 3, Rl 44 (Lk 43 6) 4, Rl 45 (Fd 5 0) 5, Rl 46 (Ld 45) 6, Rl 47 (Mv 6) 7, Rl 48 (.bin .add (Sv 46) (Sv 47)) 8, Rl 49 (.call true (.f 55) [Sv 44, Sv 48]) 9, Rl 7 (Mv 49) 10])
 (.seq (.reg [Ro 50 (Mv 7), Ro 51 (.not (Sv 50))])
 (.cond (Sv 51)
 (.seq (.reg [Ro 4 (.mv (.c (.bool false)))])
 .ret)
 .skip))))
 (.reg [Ro 38 (Mv 6), Ro 39 (.bin .add (Sv 38) (Ci 1)), Ro 6 (Mv 39)]))))))
 (.seq (.seq (.reg [Ro 52 (Fd 5 2), Ro 53 (Lk 52 6), Ro 8 (.new [(.int .i64 0), (.int .i64 0), (.int .i64 0), (.slice none 0 0), (.int .i64 0), (.slice none 0 0)]), Rn (.ini 1 (Sv 8) (Sv 53) 6)])
 (.frz (sl 8)))
 (.seq (.reg [Ro 54 (Fd 5 0), Ro 55 (Ld 54), Ro 56 (Fd 5 1), Ro 57 (Ld 56), Ro 58 (.len false (Sv 57)), Ro 59 (.bin .add (Sv 55) (Sv 58)), Ro 9 (Mv 59)])
 (.seq (.seq (.reg [Ro 60 (Fd 8 0), Ro 61 (Ld 60), Ro 62 (.bin .eql (Sv 61) (Ci 1))])
 (.cond (Sv 62)
 (.seq (.reg [Ro 63 (Lk 2 4), Ro 64 (Fd 8 2), Ro 65 (Ld 64), Ro 66 (Fd 8 3), Ro 67 (Ld 66), Ro 68 (Mv 9), Ro 69 (.call true (.f 56) [Sv 63, Sv 65, Sv 67, Sv 68]), Ro 10 (Mv 69)])
 (.seq (.reg [Ro 70 (Mv 10), Ro 71 (Mv 70), Rg 72 71 true (Fd 8 1), Rg 73 71 true (Ld 72), Rg 74 71 true (.bin .eql (Sv 73) (Ci 0)), Ro 75 (.pick (Sv 71) (Sv 74) (.c (.bool false))), Ro 76 (Mv 75), Rg 77 76 true (Fd 8 4), Rg 78 76 true (Ld 77), Rg 79 76 true (.bin .eql (Sv 78) (Ci 0)), Ro 80 (.pick (Sv 76) (Sv 79) (.c (.bool false))), Ro 81 (Mv 80), Rg 82 81 true (Fd 8 5), Rg 83 81 true (Ld 82), Rg 84 81 true (.len false (Sv 83)), Rg 85 81 true (.bin .eql (Sv 84) (Ci 0)), Ro 86 (.pick (Sv 81) (Sv 85) (.c (.bool false))), Ro 4 (Mv 86)])
 .ret))
 .skip))
 (.seq (.reg [Ro 87 (Fd 8 1), Ro 88 (Ld 87), Ro 89 (.bin .geq (Sv 88) (Ci 0)), Ro 90 (Mv 89), Rg 91 90 true (Fd 8 1), Rg 92 90 true (Ld 91), Rg 93 90 true (Mv 9), Rg 94 90 true (.bin .lss (Sv 92) (Sv 93)), Ro 95 (.pick (Sv 90) (Sv 94) (.c (.bool false))), Ro 11 (Mv 95)])
 (.seq (.seq (.reg [Ro 96 (Fd 8 0), Ro 97 (Ld 96), Ro 98 (.bin .eql (Sv 97) (Ci 2))])
 (.cond (Sv 98)
 (.seq (.reg [Ro 99 (Lk 2 4), Ro 100 (Fd 8 2), Ro 101 (Ld 100), Ro 102 (Fd 8 3), Ro 103 (Ld 102), Ro 104 (Mv 9), Ro 105 (.call true (.f 56) [Sv 99, Sv 101, Sv 103, Sv 104]), Ro 12 (Mv 105)])
 (.seq (.reg [Ro 106 (Lk 2 4), Ro 107 (Fd 8 4), Ro 108 (Ld 107), Ro 109 (Fd 8 5), Ro 110 (Ld 109), Ro 111 (Mv 9), Ro 112 (.call true (.f 56) [Sv 106, Sv 108, Sv 110, Sv 111]), Ro 13 (Mv 112)])
 (.seq (.reg [Ro 113 (Mv 11), Ro 114 (Mv 113), Rg 115 114 true (Mv 12), Ro 116 (.pick (Sv 114) (Sv 115) (.c (.bool false))), Ro 117 (Mv 116), Rg 118 117 true (Mv 13), Ro 119 (.pick (Sv 117) (Sv 118) (.c (.bool false))), Ro 4 (Mv 119)])
 .ret)))
 .skip))
 (.seq (.reg [Ro 120 (Fd 8 0), Ro 121 (Ld 120), Ro 122 (.bin .eql (Sv 121) (Ci 3)), Ro 123 (Mv 122), Rg 124 123 true (Mv 11), Ro 125 (.pick (Sv 123) (Sv 124) (.c (.bool false))), Ro 126 (Mv 125), Rg 127 126 true (Fd 8 2), Rg 128 126 true (Ld 127), Rg 129 126 true (.bin .eql (Sv 128) (Ci 0)), Ro 130 (.pick (Sv 126) (Sv 129) (.c (.bool false))), Ro 131 (Mv 130), Rg 132 131 true (Fd 8 3), Rg 133 131 true (Ld 132), Rg 134 131 true (.len false (Sv 133)), Rg 135 131 true (.bin .eql (Sv 134) (Ci 0)), Ro 136 (.pick (Sv 131) (Sv 135) (.c (.bool false))), Ro 137 (Mv 136), Rg 138 137 true (Fd 8 4), Rg 139 137 true (Ld 138), Rg 140 137 true (.bin .eql (Sv 139) (Ci 0)), Ro 141 (.pick (Sv 137) (Sv 140) (.c (.bool false))), Ro 142 (Mv 141), Rg 143 142 true (Fd 8 5), Rg 144 142 true (Ld 143), Rg 145 142 true (.len false (Sv 144)), Rg 146 142 true (.bin .eql (Sv 145) (Ci 0)), Ro 147 (.pick (Sv 142) (Sv 146) (.c (.bool false))), Ro 4 (Mv 147)])
 .ret))))))))))
def q7p : List ARes := [(.tmp (sl 4))]
theorem qdt : (Tryz.f33).body.bind (q9 Tryz.prog 8 (Tryz.f33).ntmps [] [] (drOk 8)) = some q7c := by kernel_rfl
theorem qe6 : qa Tryz.prog 8 (Tryz.f33).results.toList = some q7p := by kernel_rfl
def q8b : ACode :=
 (.seq (.reg [Ro 1 (.box true (Sv 0)), Ro 2 (.mv (.c (.bool false)))])
 (.seq (.reg [Ro 6 (Fd 1 0), Ro 7 (Ld 6), Ro 8 (.call true (.f 19) [Sv 7]), Ro 3 (Mv 8)])
 (.seq (.seq (.reg [Ro 9 (Mv 3), Ro 10 (.not (Sv 9)), Ro 11 (Mv 10), Rg 12 11 false (Fd 1 1), Rg 13 11 false (Ld 12), Rg 14 11 false (.bin .lss (Sv 13) (Ci 1)), Ro 15 (.pick (Sv 11) (.c (.bool true)) (Sv 14)), Ro 16 (Mv 15), Rg 17 16 false (Fd 1 1), Rg 18 16 false (Ld 17), Rg 19 16 false (.bin .gtr (Sv 18) (Ci 3)), Ro 20 (.pick (Sv 16) (.c (.bool true)) (Sv 19)), Ro 21 (Mv 20), Rg 22 21 false (Fd 1 2), Rg 23 21 false (Ld 22), Rg 24 21 false (.bin .lss (Sv 23) (Ci 0)), Ro 25 (.pick (Sv 21) (.c (.bool true)) (Sv 24)), Ro 26 (Mv 25), Rg 27 26 false (Fd 1 2), Rg 28 26 false (Ld 27), Rg 29 26 false (.bin .gtr (Sv 28) (Ci 6)), Ro 30 (.pick (Sv 26) (.c (.bool true)) (Sv 29)), Ro 31 (Mv 30), Rg 32 31 false (Fd 1 3), Rg 33 31 false (Ld 32), Rg 34 31 false (.len false (Sv 33)), Rg 35 31 false (.bin .gtr (Sv 34) (Ci 16)), Ro 36 (.pick (Sv 31) (.c (.bool true)) (Sv 35))])
 (.cond (Sv 36)
 (.seq (.reg [Ro 2 (.mv (.c (.bool false)))])
 .ret)
 .skip))
 (.seq (.seq (.reg [Ro 37 (Fd 1 3), Ro 38 (Ld 37), Ro 39 (.len false (Sv 38)), Ro 40 (.bin .eql (Sv 39) (Ci 0))])
 (.cond (Sv 40)
 (.seq (.reg [Ro 41 (Fd 1 1), Ro 42 (Ld 41), Ro 43 (.bin .neq (Sv 42) (Ci 1)), Ro 2 (Mv 43)])
 .ret)
 .skip))
 (.seq (.seq (.reg [Rl 44 (Fd 1 3) 0, Rl 45 (Ld 44) 1, Rl 46 (.idx true (Sv 45) (Ci 0) 8) 2, Rl 47 (Fd 46 0) 3, Rl 48 (Ld 47) 4, Rl 49 (Fd 1 2) 5, Rl 50 (Ld 49) 6, Rl 51 (.bin .neq (Sv 48) (Sv 50)) 7])
 (.cond (Sv 51)
 (.seq (.reg [Ro 2 (.mv (.c (.bool false)))])
 .ret)
 .skip))
 (.seq (.seq (.reg [Ro 4 (.mv (Ci 0))])
 (.block 0
 (.loop (.seq (.seq (.reg [Ro 52 (Mv 4), Ro 53 (Fd 1 3), Ro 54 (Ld 53), Ro 55 (.len false (Sv 54)), Ro 56 (.bin .lss (Sv 52) (Sv 55))])
 (.cond (Sv 56)
 .skip
 (.exit 0)))
 (.seq (.block 1
 (.seq (.reg [Ro 59 (Lk 1 4), Ro 60 (Mv 4), Ro 61 (.call true (.f 33) [Sv 59, Sv 60]), Ro 5 (Mv 61)])
 (.seq (.reg [Ro 62 (Mv 5), Ro 63 (.not (Sv 62))])
 (.cond (Sv 63)
 (.seq (.reg [Ro 2 (.mv (.c (.bool false)))])
 .ret)
 .skip))))
 (.reg [Ro 57 (Mv 4), Ro 58 (.bin .add (Sv 57) (Ci 1)), Ro 4 (Mv 58)]))))))
 (.seq (.reg [Ro 2 (.mv (.c (.bool true)))])
 .ret)))))))
def q91 : List ARes := [(.tmp (sl 2))]
theorem qff : (Tryz.f18).body.bind (q9 Tryz.prog 8 (Tryz.f18).ntmps [] [] (drOk 8)) = some q8b := by kernel_rfl
theorem qfx : qa Tryz.prog 8 (Tryz.f18).results.toList = some q91 := by kernel_rfl
def q8d : ACode :=
 (.seq (.reg [Ro 4 (.mv (.c (.bool false)))])
 (.seq (.seq (.reg [Ro 6 (Mv 0), Ro 7 (.len false (Sv 6)), Ro 8 (Mv 1), Ro 9 (.len false (Sv 8)), Ro 10 (.bin .neq (Sv 7) (Sv 9))])
 (.cond (Sv 10)
 (.seq (.reg [Ro 4 (.mv (.c (.bool false)))])
 .ret)
 .skip))
 (.seq (.seq (.reg [Ro 5 (.mv (Ci 0))])
 (.block 0
 (.loop (.seq (.seq (.reg [Ro 11 (Mv 5), Ro 12 (Mv 0), Ro 13 (.len false (Sv 12)), Ro 14 (.bin .lss (Sv 11) (Sv 13))])
 (.cond (Sv 14)
 .skip
 (.exit 0)))
 (.seq (.block 1
 (.seq (.reg [Rl 17 (Mv 0) 0, Rl 18 (Mv 5) 1, Rl 19 (.idx true (Sv 17) (Sv 18) 1) 2, Rl 20 (Ld 19) 3, Rl 21 (Mv 1) 4, Rl 22 (Mv 5) 5, Rl 23 (.idx true (Sv 21) (Sv 22) 1) 6, Rl 24 (Ld 23) 7, Rl 25 (.bin .neq (Sv 20) (Sv 24)) 8])
 (.cond (Sv 25)
 (.seq (.reg [Ro 4 (.mv (.c (.bool false)))])
 .ret)
 .skip)))
 (.reg [Ro 15 (Mv 5), Ro 16 (.bin .add (Sv 15) (Ci 1)), Ro 5 (Mv 16)]))))))
 (.seq (.reg [Ro 4 (.mv (.c (.bool true)))])
 .ret))))
def q93 : List ARes := [(.tmp (sl 4))]
theorem qfh : (Tryz.f81).body.bind (q9 Tryz.prog 8 (Tryz.f81).ntmps [] [] (drOk 8)) = some q8d := by kernel_rfl
theorem qfz : qa Tryz.prog 8 (Tryz.f81).results.toList = some q93 := by kernel_rfl
def q52 : ACode :=
 (.seq (.reg [Ro 2 (.box true (Sv 0)), Ro 3 (.box true (Sv 1)), Ro 4 (.mv (.c (.bool false)))])
 (.seq (.reg [Ro 6 (Fd 2 5), Ro 7 (Ld 6), Ro 8 (Fd 3 5), Ro 9 (Ld 8), Ro 10 (.call true (.f 81) [Sv 7, Sv 9]), Ro 5 (Mv 10)])
 (.seq (.reg [Ro 11 (Mv 5), Ro 12 (Mv 11), Rg 13 12 true (Fd 2 0), Rg 14 12 true (Ld 13), Rg 15 12 true (Fd 3 0), Rg 16 12 true (Ld 15), Rg 17 12 true (.bin .eql (Sv 14) (Sv 16)), Ro 18 (.pick (Sv 12) (Sv 17) (.c (.bool false))), Ro 19 (Mv 18), Rg 20 19 true (Fd 2 1), Rg 21 19 true (Ld 20), Rg 22 19 true (Fd 3 1), Rg 23 19 true (Ld 22), Rg 24 19 true (.bin .eql (Sv 21) (Sv 23)), Ro 25 (.pick (Sv 19) (Sv 24) (.c (.bool false))), Ro 26 (Mv 25), Rg 27 26 true (Fd 2 2), Rg 28 26 true (Ld 27), Rg 29 26 true (Fd 3 2), Rg 30 26 true (Ld 29), Rg 31 26 true (.bin .eql (Sv 28) (Sv 30)), Ro 32 (.pick (Sv 26) (Sv 31) (.c (.bool false))), Ro 33 (Mv 32), Rg 34 33 true (Fd 2 3), Rg 35 33 true (Ld 34), Rg 36 33 true (Fd 3 3), Rg 37 33 true (Ld 36), Rg 38 33 true (.bin .eql (Sv 35) (Sv 37)), Ro 39 (.pick (Sv 33) (Sv 38) (.c (.bool false))), Ro 40 (Mv 39), Rg 41 40 true (Fd 2 4), Rg 42 40 true (Ld 41), Rg 43 40 true (Fd 3 4), Rg 44 40 true (Ld 43), Rg 45 40 true (.bin .eql (Sv 42) (Sv 44)), Ro 46 (.pick (Sv 40) (Sv 45) (.c (.bool false))), Ro 4 (Mv 46)])
 .ret)))
def q5j : List ARes := [(.tmp (sl 4))]
theorem qb9 : (Tryz.f82).body.bind (q9 Tryz.prog 8 (Tryz.f82).ntmps [] [] (drOk 8)) = some q52 := by kernel_rfl
theorem qbh : qa Tryz.prog 8 (Tryz.f82).results.toList = some q5j := by kernel_rfl
def q4p : ACode :=
 (.seq (.reg [Ro 2 (.box true (Sv 0)), Ro 3 (.box true (Sv 1)), Ro 4 (.mv (.c (.bool false)))])
 (.seq (.reg [Ro 8 (Fd 2 2), Ro 9 (Fd 8 3), Ro 10 (Ld 9), Ro 11 (Fd 3 2), Ro 12 (Fd 11 3), Ro 13 (Ld 12), Ro 14 (.call true (.f 81) [Sv 10, Sv 13]), Ro 15 (Mv 14), Rg 16 15 true (Fd 2 2), Rg 17 15 true (Fd 16 5), Rg 18 15 true (Ld 17), Rg 19 15 true (Fd 3 2), Rg 20 15 true (Fd 19 5), Rg 21 15 true (Ld 20), Rg 22 15 true (.call true (.f 81) [Sv 18, Sv 21]), Ro 23 (.pick (Sv 15) (Sv 22) (.c (.bool false))), Ro 5 (Mv 23)])
 (.seq (.seq (.reg [Ro 24 (Mv 5), Ro 25 (.not (Sv 24)), Ro 26 (Mv 25), Rg 27 26 false (Fd 2 0), Rg 28 26 false (Ld 27), Rg 29 26 false (Fd 3 0), Rg 30 26 false (Ld 29), Rg 31 26 false (.bin .neq (Sv 28) (Sv 30)), Ro 32 (.pick (Sv 26) (.c (.bool true)) (Sv 31)), Ro 33 (Mv 32), Rg 34 33 false (Fd 2 1), Rg 35 33 false (Ld 34), Rg 36 33 false (.len false (Sv 35)), Rg 37 33 false (Fd 3 1), Rg 38 33 false (Ld 37), Rg 39 33 false (.len false (Sv 38)), Rg 40 33 false (.bin .neq (Sv 36) (Sv 39)), Ro 41 (.pick (Sv 33) (.c (.bool true)) (Sv 40)), Ro 42 (Mv 41), Rg 43 42 false (Fd 2 2), Rg 44 42 false (Fd 43 0), Rg 45 42 false (Ld 44), Rg 46 42 false (Fd 3 2), Rg 47 42 false (Fd 46 0), Rg 48 42 false (Ld 47), Rg 49 42 false (.bin .neq (Sv 45) (Sv 48)), Ro 50 (.pick (Sv 42) (.c (.bool true)) (Sv 49)), Ro 51 (Mv 50), Rg 52 51 false (Fd 2 2), Rg 53 51 false (Fd 52 1), Rg 54 51 false (Ld 53), Rg 55 51 false (Fd 3 2), Rg 56 51 false (Fd 55 1), Rg 57 51 false (Ld 56), Rg 58 51 false (.bin .neq (Sv 54) (Sv 57)), Ro 59 (.pick (Sv 51) (.c (.bool true)) (Sv 58)), Ro 60 (Mv 59), Rg 61 60 false (Fd 2 2), Rg 62 60 false (Fd 61 2), Rg 63 60 false (Ld 62), Rg 64 60 false (Fd 3 2), Rg 65 60 false (Fd 64 2), Rg 66 60 false (Ld 65), Rg 67 60 false (.bin .neq (Sv 63) (Sv 66)), Ro 68 (.pick (Sv 60) (.c (.bool true)) (Sv 67)), Ro 69 (Mv 68), Rg 70 69 false (Fd 2 2), Rg 71 69 false (Fd 70 4), Rg 72 69 false (Ld 71), Rg 73 69 false (Fd 3 2), Rg 74 69 false (Fd 73 4), Rg 75 69 false (Ld 74), Rg 76 69 false (.bin .neq (Sv 72) (Sv 75)), Ro 77 (.pick (Sv 69) (.c (.bool true)) (Sv 76))])
 (.cond (Sv 77)
 (.seq (.reg [Ro 4 (.mv (.c (.bool false)))])
 .ret)
 .skip))
 (.seq (.seq (.reg [Ro 6 (.mv (Ci 0))])
 (.block 0
 (.loop (.seq (.seq (.reg [Ro 78 (Mv 6), Ro 79 (Fd 2 1), Ro 80 (Ld 79), Ro 81 (.len false (Sv 80)), Ro 82 (.bin .lss (Sv 78) (Sv 81))])
 (.cond (Sv 82)
 .skip
 (.exit 0)))
 (.seq (.block 1
 (.seq (.reg [Rl 85 (Fd 2 1) 0, Rl 86 (Ld 85) 1, Rl 87 (Mv 6) 2, Rl 88 (.idx true (Sv 86) (Sv 87) 6) 3, Rl 89 (Lk 88 6) 4, Rl 90 (Fd 3 1) 5, Rl 91 (Ld 90) 6, Rl 92 (Mv 6) 7, Rl 93 (.idx true (Sv 91) (Sv 92) 6) 8, Rl 94 (Lk 93 6) 9, Rl 95 (.call true (.f 82) [Sv 89, Sv 94]) 10, Rl 7 (Mv 95) 11])
 (.seq (.reg [Ro 96 (Mv 7), Ro 97 (.not (Sv 96))])
 (.cond (Sv 97)
 (.seq (.reg [Ro 4 (.mv (.c (.bool false)))])
 .ret)
 .skip))))
 (.reg [Ro 83 (Mv 6), Ro 84 (.bin .add (Sv 83) (Ci 1)), Ro 6 (Mv 84)]))))))
 (.seq (.reg [Ro 4 (.mv (.c (.bool true)))])
 .ret)))))
def q4u : List ARes := [(.tmp (sl 4))]
theorem qao : (Tryz.f50).body.bind (q9 Tryz.prog 8 (Tryz.f50).ntmps [] [] (drOk 8)) = some q4p := by kernel_rfl
theorem qas : qa Tryz.prog 8 (Tryz.f50).results.toList = some q4u := by kernel_rfl
end Go.Proofs.YtgadlpdbkohlbaaGreat
/- The bodies of some functions, as the evaluator has them (printed by program), and that they are the program's own. -/
namespace Go.Proofs.YtgadlpdbkohlbaaGreat
open Go.RowKit
def qu4 : ACode :=
 (.seq (.reg [Ro 1 (.box true (Sv 0)), Ro 2 (.mv (.c (.slice none 0 0)))])
 (.seq (.block 0
 (.seq (.block 4
 (.seq (.block 3
 (.block 2
 (.seq (.block 1
 (.seq (.seq (.seq (.reg [Ro 4 (Fd 1 0), Ro 5 (Ld 4), Ro 6 (.bin .geq (Sv 5) (Ci 2)), Ro 7 (Mv 6), Rg 8 7 true (Fd 1 0), Rg 9 7 true (Ld 8), Rg 10 7 true (.bin .leq (Sv 9) (Ci 11)), Ro 11 (.pick (Sv 7) (Sv 10) (.c (.bool false))), Ro 3 (Mv 11)])
 (.cond (Sv 3)
 (.exit 1)
 .skip))
 (.seq (.seq (.reg [Ro 13 (Fd 1 0), Ro 14 (Ld 13), Ro 15 (.bin .eql (Sv 14) (Ci 13)), Ro 12 (Mv 15)])
 (.cond (Sv 12)
 (.exit 2)
 .skip))
 (.seq (.seq (.reg [Ro 17 (Fd 1 0), Ro 18 (Ld 17), Ro 19 (.bin .eql (Sv 18) (Ci 16)), Ro 16 (Mv 19)])
 (.cond (Sv 16)
 (.exit 3)
 .skip))
 (.seq (.reg [Ro 21 (Fd 1 0), Ro 22 (Ld 21), Ro 23 (.bin .eql (Sv 22) (Ci 14)), Ro 20 (Mv 23)])
 (.cond (Sv 20)
 (.exit 4)
 .skip)))))
 (.exit 0)))
 (.seq (.seq (.reg [Ro 24 (Fd 1 1), Ro 25 (Ld 24), Ro 26 (Fd 1 2), Ro 27 (Ld 26), Ro 28 (.mksl 1 2 [(.int .i64 0), (.int .i64 0)] [(0, 1, (Sv 25)), (1, 1, (Sv 27))]), Ro 2 (Mv 28)])
 .ret)
 (.exit 0)))))
 (.seq (.seq (.reg [Ro 29 (Fd 1 1), Ro 30 (Ld 29), Ro 31 (.mksl 1 1 [(.int .i64 0)] [(0, 1, (Sv 30))]), Ro 2 (Mv 31)])
 .ret)
 (.exit 0))))
 (.seq (.seq (.reg [Ro 32 (Fd 1 5), Ro 33 (Ld 32), Ro 34 (.call true (.f 137) [Sv 33]), Ro 2 (Mv 34)])
 .ret)
 (.exit 0))))
 (.seq (.reg [Ro 2 (.mv (.c (.slice none 0 0)))])
 .ret)))
def qvs : List ARes := [(.tmp (sl 2))]
theorem z7r : (Tryz.f117).body.bind (q9 Tryz.prog 8 (Tryz.f117).ntmps [] [] (drOk 8)) = some qu4 := by kernel_rfl
theorem z86 : qa Tryz.prog 8 (Tryz.f117).results.toList = some qvs := by kernel_rfl
def qu2 : ACode :=
 (.seq (.reg [Ro 2 (.box true (Sv 0)), Ro 4 (.mv (.c (.bool false)))])
 (.seq (.seq (.reg [Ro 7 (Fd 2 0), Ro 8 (Ld 7), Ro 9 (.bin .lss (Sv 8) (Ci 1)), Ro 10 (Mv 9), Rg 11 10 false (Fd 2 0), Rg 12 10 false (Ld 11), Rg 13 10 false (.bin .gtr (Sv 12) (Ci 16)), Ro 14 (.pick (Sv 10) (.c (.bool true)) (Sv 13)), Ro 15 (Mv 14), Rg 16 15 false (Lk 2 6), Rg 17 15 false (.call true (.f 117) [Sv 16]), Rg 18 15 false (Mv 1), Rg 19 15 false (.call true (.f 129) [Sv 17, Sv 18]), Rg 20 15 false (.not (Sv 19)), Ro 21 (.pick (Sv 15) (.c (.bool true)) (Sv 20))])
 (.cond (Sv 21)
 (.seq (.reg [Ro 4 (.mv (.c (.bool false)))])
 .ret)
 .skip))
 (.seq (.reg [Ro 22 (Fd 2 0), Ro 23 (Ld 22), Ro 24 (.bin .geq (Sv 23) (Ci 2)), Ro 25 (Mv 24), Rg 26 25 true (Fd 2 0), Rg 27 25 true (Ld 26), Rg 28 25 true (.bin .leq (Sv 27) (Ci 11)), Ro 29 (.pick (Sv 25) (Sv 28) (.c (.bool false))), Ro 5 (Mv 29)])
 (.seq (.reg [Ro 30 (Mv 5), Ro 31 (Mv 30), Rg 32 31 false (Fd 2 0), Rg 33 31 false (Ld 32), Rg 34 31 false (.bin .eql (Sv 33) (Ci 13)), Ro 35 (.pick (Sv 31) (.c (.bool true)) (Sv 34)), Ro 36 (Mv 35), Rg 37 36 false (Fd 2 0), Rg 38 36 false (Ld 37), Rg 39 36 false (.bin .eql (Sv 38) (Ci 16)), Ro 40 (.pick (Sv 36) (.c (.bool true)) (Sv 39)), Ro 6 (Mv 40)])
 (.seq (.block 0
 (.seq (.reg [Ro 42 (Mv 6), Ro 43 (.not (Sv 42)), Ro 44 (Mv 43), Rg 45 44 true (Fd 2 1), Rg 46 44 true (Ld 45), Rg 47 44 true (.bin .neq (Sv 46) (Ci 0)), Ro 48 (.pick (Sv 44) (Sv 47) (.c (.bool false))), Ro 49 (Mv 48), Rg 50 49 false (Mv 5), Rg 51 49 false (.not (Sv 50)), Rg 52 49 false (Mv 51), Rg 53 52 true (Fd 2 2), Rg 54 52 true (Ld 53), Rg 55 52 true (.bin .neq (Sv 54) (Ci 0)), Rg 56 49 false (.pick (Sv 52) (Sv 55) (.c (.bool false))), Ro 57 (.pick (Sv 49) (.c (.bool true)) (Sv 56)), Ro 41 (Mv 57)])
 (.cond (Sv 41)
 (.seq (.reg [Ro 4 (.mv (.c (.bool false)))])
 .ret)
 (.seq (.reg [Ro 59 (Fd 2 0), Ro 60 (Ld 59), Ro 61 (.bin .neq (Sv 60) (Ci 1)), Ro 62 (Mv 61), Rg 63 62 true (Fd 2 3), Rg 64 62 true (Ld 63), Rg 65 62 true (.bin .neq (Sv 64) (.c (.int .u64 0))), Ro 66 (.pick (Sv 62) (Sv 65) (.c (.bool false))), Ro 58 (Mv 66)])
 (.cond (Sv 58)
 (.seq (.reg [Ro 4 (.mv (.c (.bool false)))])
 .ret)
 (.seq (.reg [Ro 68 (Fd 2 0), Ro 69 (Ld 68), Ro 70 (.bin .neq (Sv 69) (Ci 14)), Ro 71 (Mv 70), Rg 72 71 true (Fd 2 5), Rg 73 71 true (Ld 72), Rg 74 71 true (.len false (Sv 73)), Rg 75 71 true (.bin .gtr (Sv 74) (Ci 0)), Ro 76 (.pick (Sv 71) (Sv 75) (.c (.bool false))), Ro 77 (Mv 76), Rg 78 77 false (Fd 2 5), Rg 79 77 false (Ld 78), Rg 80 77 false (.len false (Sv 79)), Rg 81 77 false (.bin .gtr (Sv 80) (Ci 6)), Ro 82 (.pick (Sv 77) (.c (.bool true)) (Sv 81)), Ro 67 (Mv 82)])
 (.cond (Sv 67)
 (.seq (.reg [Ro 4 (.mv (.c (.bool false)))])
 .ret)
 .skip)))))))
 (.seq (.seq (.reg [Ro 83 (Lk 2 6), Ro 84 (.call true (.f 64) [Sv 83])])
 (.cond (Sv 84)
 (.seq (.reg [Ro 85 (Fd 2 4), Ro 86 (Ld 85), Ro 87 (.call true (.f 86) [Sv 86]), Ro 4 (Mv 87)])
 .ret)
 .skip))
 (.seq (.reg [Ro 88 (Fd 2 4), Ro 89 (Ld 88), Ro 90 (.bin .eql (Sv 89) (.c (.string ⟨#[]⟩))), Ro 4 (Mv 90)])
 .ret)))))))
def qvq : List ARes := [(.tmp (sl 4))]
theorem z7p : (Tryz.f110).body.bind (q9 Tryz.prog 8 (Tryz.f110).ntmps [] [] (drOk 8)) = some qu2 := by kernel_rfl
theorem z84 : qa Tryz.prog 8 (Tryz.f110).results.toList = some qvq := by kernel_rfl
def qlu : ACode :=
 (.seq (.reg [Ro 1 (.box true (Sv 0)), Ro 2 (.mv (Ci 0))])
 (.seq (.reg [Ro 3 (Fd 1 0), Ro 4 (Ld 3), Ro 5 (Fd 1 1), Ro 6 (Ld 5), Ro 7 (.len false (Sv 6)), Ro 8 (.bin .add (Sv 4) (Sv 7)), Ro 2 (Mv 8)])
 .ret))
def qnb : List ARes := [(.tmp (sl 2))]
theorem qyy : (Tryz.f130).body.bind (q9 Tryz.prog 8 (Tryz.f130).ntmps [] [] (drOk 8)) = some qlu := by kernel_rfl
theorem qze : qa Tryz.prog 8 (Tryz.f130).results.toList = some qnb := by kernel_rfl
def qu1 : ACode :=
 (.seq (.reg [Ro 1 (.box true (Sv 0)), Ro 2 (.mv (.c (.bool false)))])
 (.seq (.seq (.reg [Ro 3 (Fd 1 0), Ro 4 (Ld 3), Ro 5 (.call true (.f 86) [Sv 4]), Ro 6 (.not (Sv 5)), Ro 7 (Mv 6), Rg 8 7 false (Fd 1 1), Rg 9 7 false (Ld 8), Rg 10 7 false (.bin .lss (Sv 9) (Ci 1)), Ro 11 (.pick (Sv 7) (.c (.bool true)) (Sv 10)), Ro 12 (Mv 11), Rg 13 12 false (Fd 1 1), Rg 14 12 false (Ld 13), Rg 15 12 false (.bin .gtr (Sv 14) (Ci 3)), Ro 16 (.pick (Sv 12) (.c (.bool true)) (Sv 15)), Ro 17 (Mv 16), Rg 18 17 false (Fd 1 2), Rg 19 17 false (Ld 18), Rg 20 17 false (.bin .lss (Sv 19) (Ci 0)), Ro 21 (.pick (Sv 17) (.c (.bool true)) (Sv 20)), Ro 22 (Mv 21), Rg 23 22 false (Fd 1 2), Rg 24 22 false (Ld 23), Rg 25 22 false (.bin .gtr (Sv 24) (Ci 6)), Ro 26 (.pick (Sv 22) (.c (.bool true)) (Sv 25)), Ro 27 (Mv 26), Rg 28 27 false (Fd 1 3), Rg 29 27 false (Ld 28), Rg 30 27 false (.len false (Sv 29)), Rg 31 27 false (.bin .gtr (Sv 30) (Ci 16)), Ro 32 (.pick (Sv 27) (.c (.bool true)) (Sv 31))])
 (.cond (Sv 32)
 (.seq (.reg [Ro 2 (.mv (.c (.bool false)))])
 .ret)
 .skip))
 (.seq (.seq (.reg [Ro 33 (Fd 1 3), Ro 34 (Ld 33), Ro 35 (.len false (Sv 34)), Ro 36 (.bin .eql (Sv 35) (Ci 0))])
 (.cond (Sv 36)
 (.seq (.reg [Ro 37 (Fd 1 1), Ro 38 (Ld 37), Ro 39 (.bin .neq (Sv 38) (Ci 1)), Ro 2 (Mv 39)])
 .ret)
 .skip))
 (.seq (.reg [Rl 40 (Fd 1 3) 0, Rl 41 (Ld 40) 1, Rl 42 (.idx true (Sv 41) (Ci 0) 8) 2, Rl 43 (Fd 42 0) 3, Rl 44 (Ld 43) 4, Rl 45 (Fd 1 2) 5, Rl 46 (Ld 45) 6, Rl 47 (.bin .eql (Sv 44) (Sv 46)) 7, Rl 48 (Mv 47) 8, Rh 49 48 true (Fd 1 3) 9, Rh 50 48 true (Ld 49) 10, Rh 51 48 true (.mkfn 88 [Sv 1]) 11, Rh 52 48 true (.call true (.f 87) [Sv 50, Sv 51]) 12, Rh 53 48 true (.not (Sv 52)) 13, Rl 54 (.pick (Sv 48) (Sv 53) (.c (.bool false))) 14, Rl 2 (Mv 54) 15])
 .ret))))
def qvp : List ARes := [(.tmp (sl 2))]
theorem z7o : (Tryz.f57).body.bind (q9 Tryz.prog 8 (Tryz.f57).ntmps [] [] (drOk 8)) = some qu1 := by kernel_rfl
theorem z83 : qa Tryz.prog 8 (Tryz.f57).results.toList = some qvp := by kernel_rfl
def qv : ACode :=
 (.seq (.reg [Ro 2 (.mv (.c (.slice none 0 0)))])
 (.seq (.seq (.reg [Ro 3 (Mv 0), Ro 4 (.isnil false (Sv 3))])
 (.cond (Sv 4)
 (.seq (.reg [Ro 2 (.mv (.c (.slice none 0 0)))])
 .ret)
 .skip))
 (.seq (.reg [Ro 5 (.nrow 3 1), Ro 6 (Mv 0), Ro 7 (.app 3 1 8 (Sv 5) (Sv 6)), Ro 2 (Mv 7)])
 .ret)))
def qx : List ARes := [(.tmp (sl 2))]
theorem q1i : (Tryz.f137).body.bind (q9 Tryz.prog 8 (Tryz.f137).ntmps [2, 7] [] (drOk 8)) = some qv := by kernel_rfl
theorem q1j : qa Tryz.prog 8 (Tryz.f137).results.toList = some qx := by kernel_rfl
def qzt : ACode :=
 (.seq (.reg [Ro 3 (.box true (Sv 1)), Ro 4 (.mv (.c (.bool false)))])
 (.seq (.reg [Ro 5 (Mv 0), Ro 6 (.mkfn 144 [Sv 3]), Ro 7 (.call true (.f 143) [Sv 5, Sv 6]), Ro 8 (.not (Sv 7)), Ro 4 (Mv 8)])
 .ret))
def z0v : List ARes := [(.tmp (sl 4))]
theorem t_ir_all : (Tryz.f129).body.bind (q9 Tryz.prog 8 (Tryz.f129).ntmps [] [] (drOk 8)) = some qzt := by kernel_rfl
theorem u_ir_all : qa Tryz.prog 8 (Tryz.f129).results.toList = some z0v := by kernel_rfl
def qph : ACode :=
 (.seq (.reg [Ro 1 (.box true (Sv 0)), Ro 2 (.mv (.c (.bool false)))])
 (.seq (.reg [Ro 3 (Fd 1 0), Ro 4 (Ld 3), Ro 5 (.bin .eql (Sv 4) (Ci 12)), Ro 6 (Mv 5), Rg 7 6 false (Fd 1 0), Rg 8 6 false (Ld 7), Rg 9 6 false (.bin .eql (Sv 8) (Ci 13)), Ro 10 (.pick (Sv 6) (.c (.bool true)) (Sv 9)), Ro 11 (Mv 10), Rg 12 11 false (Fd 1 0), Rg 13 11 false (Ld 12), Rg 14 11 false (.bin .eql (Sv 13) (Ci 14)), Ro 15 (.pick (Sv 11) (.c (.bool true)) (Sv 14)), Ro 2 (Mv 15)])
 .ret))
def qqu : List ARes := [(.tmp (sl 2))]
theorem z3i : (Tryz.f64).body.bind (q9 Tryz.prog 8 (Tryz.f64).ntmps [] [] (drOk 8)) = some qph := by kernel_rfl
theorem z40 : qa Tryz.prog 8 (Tryz.f64).results.toList = some qqu := by kernel_rfl
def qu6 : ACode :=
 (.seq (.reg [Ro 2 (.mv (.c (.bool false)))])
 (.seq (.reg [Ro 3 (Mv 0), Ro 4 (.bin .neq (Sv 3) (.c (.string ⟨#[]⟩))), Ro 5 (Mv 4), Rg 6 5 true (Mv 0), Rg 7 5 true (.len true (Sv 6)), Rg 8 5 true (.bin .leq (Sv 7) (Ci 16)), Ro 9 (.pick (Sv 5) (Sv 8) (.c (.bool false))), Ro 2 (Mv 9)])
 .ret))
def qvu : List ARes := [(.tmp (sl 2))]
theorem z7t : (Tryz.f86).body.bind (q9 Tryz.prog 8 (Tryz.f86).ntmps [] [] (drOk 8)) = some qu6 := by kernel_rfl
theorem z88 : qa Tryz.prog 8 (Tryz.f86).results.toList = some qvu := by kernel_rfl
def qpe : ACode :=
 (.seq (.reg [Ro 2 (.box true (Sv 0)), Ro 3 (.box true (Sv 1)), Ro 4 (.mv (.c (.bool false)))])
 (.seq (.seq (.reg [Ro 7 (Fd 3 0), Ro 8 (Ld 7), Ro 9 (.bin .lss (Sv 8) (Ci 0)), Ro 10 (Mv 9), Rg 11 10 false (Fd 3 0), Rg 12 10 false (Ld 11), Rg 13 10 false (.bin .gtr (Sv 12) (Ci 6)), Ro 14 (.pick (Sv 10) (.c (.bool true)) (Sv 13)), Ro 15 (Mv 14), Rg 16 15 false (Fd 3 1), Rg 17 15 false (Ld 16), Rg 18 15 false (.len false (Sv 17)), Rg 19 15 false (.bin .gtr (Sv 18) (Ci 32)), Ro 20 (.pick (Sv 15) (.c (.bool true)) (Sv 19))])
 (.cond (Sv 20)
 (.seq (.reg [Ro 4 (.mv (.c (.bool false)))])
 .ret)
 .skip))
 (.seq (.seq (.reg [Ro 21 (Fd 3 1), Ro 22 (Ld 21), Ro 23 (.len false (Sv 22)), Ro 24 (.mv (Ci 0))])
 (.block 0
 (.loop (.seq (.reg [Ro 25 (.bin .lss (Sv 24) (Sv 23))])
 (.seq (.cond (Sv 25)
 .skip
 (.exit 0))
 (.seq (.block 1
 (.seq (.seq (.reg [Ro 26 (Mv 24), Ro 27 (.idx true (Sv 22) (Sv 24) 6), Ro 28 (Lk 27 6), Ro 6 (.new [(.int .i64 0), (.int .i64 0), (.int .i64 0), (.int .u64 0), (.string ⟨#[]⟩), (.slice none 0 0)]), Ro 5 (Mv 26), Rn (.ini 2 (Sv 6) (Sv 28) 6)])
 (.frz (sl 6)))
 (.seq (.reg [Ro 29 (Lk 6 6), Ro 30 (Fd 3 0), Ro 31 (Ld 30), Ro 32 (Mv 5), Ro 33 (.bin .add (Sv 31) (Sv 32)), Ro 34 (.call true (.f 110) [Sv 29, Sv 33]), Ro 35 (.not (Sv 34))])
 (.cond (Sv 35)
 (.seq (.reg [Ro 4 (.mv (.c (.bool false)))])
 .ret)
 .skip))))
 (.reg [Ro 36 (.bin .add (Sv 24) (Ci 1)), Ro 24 (Mv 36)])))))))
 (.seq (.reg [Ro 37 (Lk 2 4), Ro 38 (Lk 3 8), Ro 39 (.call true (.f 111) [Sv 37, Sv 38]), Ro 4 (Mv 39)])
 .ret))))
def qqr : List ARes := [(.tmp (sl 4))]
theorem z3f : (Tryz.f89).body.bind (q9 Tryz.prog 8 (Tryz.f89).ntmps [] [] (drOk 8)) = some qpe := by kernel_rfl
theorem z3x : qa Tryz.prog 8 (Tryz.f89).results.toList = some qqr := by kernel_rfl
def q2o : ACode :=
 (.seq (.reg [Ro 4 (.mv (.c (.bool false)))])
 (.seq (.reg [Ro 5 (Mv 0), Ro 6 (Mv 1), Ro 7 (.call true (.f 148) [Sv 5, Sv 6]), Ro 8 (.bin .geq (Sv 7) (Ci 0)), Ro 4 (Mv 8)])
 .ret))
def q2q : List ARes := [(.tmp (sl 4))]
theorem q5r : (Tryz.f143).body.bind (q9 Tryz.prog 8 (Tryz.f143).ntmps [] [] (drOk 8)) = some q2o := by kernel_rfl
theorem q5t : qa Tryz.prog 8 (Tryz.f143).results.toList = some q2q := by kernel_rfl
def qpd : ACode :=
 (.seq (.reg [Ro 3 (.mv (.c (.bool false)))])
 (.seq (.reg [Ro 4 (Mv 0), Ro 5 (.bin .lss (Sv 4) (Ci 0)), Ro 6 (Mv 5), Rg 7 6 false (Mv 0), Rg 8 6 false (Ld 1), Rg 9 6 false (.bin .geq (Sv 7) (Sv 8)), Ro 10 (.pick (Sv 6) (.c (.bool true)) (Sv 9)), Ro 3 (Mv 10)])
 .ret))
def qqq : List ARes := [(.tmp (sl 3))]
theorem z3e : (Tryz.f144).body.bind (q9 Tryz.prog 8 (Tryz.f144).ntmps [] [] (drOk 8)) = some qpd := by kernel_rfl
theorem z3w : qa Tryz.prog 8 (Tryz.f144).results.toList = some qqq := by kernel_rfl
def q1b : ACode :=
 (.seq (.reg [Ro 4 (.mv (Ci 0))])
 (.seq (.seq (.reg [Ro 6 (Mv 0), Ro 7 (.len false (Sv 6)), Ro 8 (.mv (Ci 0))])
 (.block 0
 (.loop (.seq (.reg [Ro 9 (.bin .lss (Sv 8) (Sv 7))])
 (.seq (.cond (Sv 9)
 .skip
 (.exit 0))
 (.seq (.block 1
 (.seq (.reg [Ro 10 (Mv 8), Ro 5 (Mv 10)])
 (.seq (.reg [Ro 11 (Mv 1), Ro 12 (Mv 0), Ro 13 (Mv 5), Ro 14 (.idx true (Sv 12) (Sv 13) 8), Ro 15 (Lk 14 8), Ro 16 (.call true (Sv 11) [Sv 15])])
 (.cond (Sv 16)
 (.seq (.reg [Ro 17 (Mv 5), Ro 4 (Mv 17)])
 .ret)
 .skip))))
 (.reg [Ro 18 (.bin .add (Sv 8) (Ci 1)), Ro 8 (Mv 18)])))))))
 (.seq (.reg [Ro 4 (.mv (Ci (-1)))])
 .ret)))
def q1c : List ARes := [(.tmp (sl 4))]
theorem q3l : (Tryz.f109).body.bind (q9 Tryz.prog 8 (Tryz.f109).ntmps [] [] (drOk 8)) = some q1b := by kernel_rfl
theorem q3m : qa Tryz.prog 8 (Tryz.f109).results.toList = some q1c := by kernel_rfl
def qzu : ACode :=
 (.seq (.reg [Ro 2 (.box true (Sv 0)), Ro 3 (.box true (Sv 1)), Ro 4 (.mv (.c (.bool false)))])
 (.seq (.seq (.reg [Ro 9 (Lk 3 8), Ro 10 (.call true (.f 130) [Sv 9]), Ro 5 (.new [(.int .i64 0)]), Rn (.ini 1 (Sv 5) (Sv 10) 1)])
 (.frz (sl 5)))
 (.seq (.reg [Ro 11 (.mkfn 131 [Sv 2, Sv 5]), Ro 6 (Mv 11)])
 (.seq (.seq (.reg [Ro 12 (Fd 3 2), Ro 13 (Lk 12 6), Ro 7 (.new [(.int .i64 0), (.int .i64 0), (.int .i64 0), (.slice none 0 0), (.int .i64 0), (.slice none 0 0)]), Rn (.ini 1 (Sv 7) (Sv 13) 6)])
 (.frz (sl 7)))
 (.seq (.reg [Ro 14 (Fd 7 4), Ro 15 (Ld 14), Ro 16 (.bin .eql (Sv 15) (Ci 0)), Ro 17 (Mv 16), Rg 18 17 true (Fd 7 5), Rg 19 17 true (Ld 18), Rg 20 17 true (.len false (Sv 19)), Rg 21 17 true (.bin .eql (Sv 20) (Ci 0)), Ro 22 (.pick (Sv 17) (Sv 21) (.c (.bool false))), Ro 8 (Mv 22)])
 (.seq (.seq (.reg [Ro 23 (Fd 7 0), Ro 24 (Ld 23)])
 (.block 0
 (.seq (.reg [Ro 26 (.bin .eql (Sv 24) (Ci 1)), Ro 25 (Mv 26)])
 (.cond (Sv 25)
 (.seq (.reg [Ro 27 (Fd 7 1), Ro 28 (Ld 27), Ro 29 (.bin .eql (Sv 28) (Ci 0)), Ro 30 (Mv 29), Rg 31 30 true (Mv 8), Ro 32 (.pick (Sv 30) (Sv 31) (.c (.bool false))), Ro 33 (Mv 32), Rg 34 33 true (Mv 6), Rg 35 33 true (Fd 7 2), Rg 36 33 true (Ld 35), Rg 37 33 true (Fd 7 3), Rg 38 33 true (Ld 37), Rg 39 33 true (.call true (Sv 34) [Sv 36, Sv 38]), Ro 40 (.pick (Sv 33) (Sv 39) (.c (.bool false))), Ro 4 (Mv 40)])
 .ret)
 (.seq (.reg [Ro 42 (.bin .eql (Sv 24) (Ci 2)), Ro 41 (Mv 42)])
 (.cond (Sv 41)
 (.seq (.reg [Ro 43 (Fd 7 1), Ro 44 (Ld 43), Ro 45 (.mksl 1 1 [(.int .i64 0)] [(0, 1, (Sv 44))]), Ro 46 (Ld 5), Ro 47 (.call true (.f 129) [Sv 45, Sv 46]), Ro 48 (Mv 47), Rg 49 48 true (Mv 6), Rg 50 48 true (Fd 7 2), Rg 51 48 true (Ld 50), Rg 52 48 true (Fd 7 3), Rg 53 48 true (Ld 52), Rg 54 48 true (.call true (Sv 49) [Sv 51, Sv 53]), Ro 55 (.pick (Sv 48) (Sv 54) (.c (.bool false))), Ro 56 (Mv 55), Rg 57 56 true (Mv 6), Rg 58 56 true (Fd 7 4), Rg 59 56 true (Ld 58), Rg 60 56 true (Fd 7 5), Rg 61 56 true (Ld 60), Rg 62 56 true (.call true (Sv 57) [Sv 59, Sv 61]), Ro 63 (.pick (Sv 56) (Sv 62) (.c (.bool false))), Ro 4 (Mv 63)])
 .ret)
 (.seq (.reg [Ro 65 (.bin .eql (Sv 24) (Ci 3)), Ro 64 (Mv 65)])
 (.cond (Sv 64)
 (.seq (.reg [Ro 66 (Fd 7 1), Ro 67 (Ld 66), Ro 68 (.mksl 1 1 [(.int .i64 0)] [(0, 1, (Sv 67))]), Ro 69 (Ld 5), Ro 70 (.call true (.f 129) [Sv 68, Sv 69]), Ro 71 (Mv 70), Rg 72 71 true (Mv 8), Ro 73 (.pick (Sv 71) (Sv 72) (.c (.bool false))), Ro 74 (Mv 73), Rg 75 74 true (Fd 7 2), Rg 76 74 true (Ld 75), Rg 77 74 true (.bin .eql (Sv 76) (Ci 0)), Ro 78 (.pick (Sv 74) (Sv 77) (.c (.bool false))), Ro 79 (Mv 78), Rg 80 79 true (Fd 7 3), Rg 81 79 true (Ld 80), Rg 82 79 true (.len false (Sv 81)), Rg 83 79 true (.bin .eql (Sv 82) (Ci 0)), Ro 84 (.pick (Sv 79) (Sv 83) (.c (.bool false))), Ro 4 (Mv 84)])
 .ret)
 .skip))))))))
 (.seq (.reg [Ro 4 (.mv (.c (.bool false)))])
 .ret)))))))
def z0w : List ARes := [(.tmp (sl 4))]
theorem t_ir_end : (Tryz.f111).body.bind (q9 Tryz.prog 8 (Tryz.f111).ntmps [] [] (drOk 8)) = some qzu := by kernel_rfl
theorem u_ir_end : qa Tryz.prog 8 (Tryz.f111).results.toList = some z0w := by kernel_rfl
def q39 : ACode :=
 (.seq (.reg [Ro 4 (.mv (Ci 0))])
 (.seq (.seq (.reg [Ro 6 (Mv 0), Ro 7 (.len false (Sv 6)), Ro 8 (.mv (Ci 0))])
 (.block 0
 (.loop (.seq (.reg [Ro 9 (.bin .lss (Sv 8) (Sv 7))])
 (.seq (.cond (Sv 9)
 .skip
 (.exit 0))
 (.seq (.block 1
 (.seq (.reg [Ro 10 (Mv 8), Ro 5 (Mv 10)])
 (.seq (.reg [Ro 11 (Mv 1), Ro 12 (Mv 0), Ro 13 (Mv 5), Ro 14 (.idx true (Sv 12) (Sv 13) 1), Ro 15 (Ld 14), Ro 16 (.call true (Sv 11) [Sv 15])])
 (.cond (Sv 16)
 (.seq (.reg [Ro 17 (Mv 5), Ro 4 (Mv 17)])
 .ret)
 .skip))))
 (.reg [Ro 18 (.bin .add (Sv 8) (Ci 1)), Ro 8 (Mv 18)])))))))
 (.seq (.reg [Ro 4 (.mv (Ci (-1)))])
 .ret)))
def q3e : List ARes := [(.tmp (sl 4))]
theorem q74 : (Tryz.f148).body.bind (q9 Tryz.prog 8 (Tryz.f148).ntmps [] [] (drOk 8)) = some q39 := by kernel_rfl
theorem q75 : qa Tryz.prog 8 (Tryz.f148).results.toList = some q3e := by kernel_rfl
def qpf : ACode :=
 (.seq (.reg [Ro 6 (.mv (.c (.bool false)))])
 (.seq (.reg [Ro 7 (Mv 0), Ro 8 (.bin .geq (Sv 7) (Ci 0)), Ro 9 (Mv 8), Rg 10 9 true (Mv 0), Rg 11 9 true (Fd 2 3), Rg 12 9 true (Ld 11), Rg 13 9 true (.len false (Sv 12)), Rg 14 9 true (.bin .lss (Sv 10) (Sv 13)), Ro 15 (.pick (Sv 9) (Sv 14) (.c (.bool false))), Ro 16 (Mv 15), Rg 17 16 true (Mv 1), Rg 18 16 true (.len false (Sv 17)), Rg 19 16 true (Fd 2 3), Rg 20 16 true (Ld 19), Rg 21 16 true (Mv 0), Rg 22 16 true (.idx true (Sv 20) (Sv 21) 8), Rg 23 16 true (Fd 22 0), Rg 24 16 true (Ld 23), Rg 25 16 true (.bin .eql (Sv 18) (Sv 24)), Ro 26 (.pick (Sv 16) (Sv 25) (.c (.bool false))), Ro 27 (Mv 26), Rg 28 27 true (Mv 1), Rg 29 27 true (Ld 3), Rg 30 27 true (.call true (.f 129) [Sv 28, Sv 29]), Ro 31 (.pick (Sv 27) (Sv 30) (.c (.bool false))), Ro 6 (Mv 31)])
 .ret))
def qqs : List ARes := [(.tmp (sl 6))]
theorem z3g : (Tryz.f131).body.bind (q9 Tryz.prog 8 (Tryz.f131).ntmps [] [] (drOk 8)) = some qpf := by kernel_rfl
theorem z3y : qa Tryz.prog 8 (Tryz.f131).results.toList = some qqs := by kernel_rfl
def q15 : ACode :=
 (.seq (.reg [Ro 4 (.mv (.c (.bool false)))])
 (.seq (.reg [Ro 5 (Mv 0), Ro 6 (Mv 1), Ro 7 (.call true (.f 109) [Sv 5, Sv 6]), Ro 8 (.bin .geq (Sv 7) (Ci 0)), Ro 4 (Mv 8)])
 .ret))
def q16 : List ARes := [(.tmp (sl 4))]
theorem q2y : (Tryz.f87).body.bind (q9 Tryz.prog 8 (Tryz.f87).ntmps [] [] (drOk 8)) = some q15 := by kernel_rfl
theorem q2z : qa Tryz.prog 8 (Tryz.f87).results.toList = some q16 := by kernel_rfl
def qlt : ACode :=
 (.seq (.reg [Ro 2 (.box true (Sv 0)), Ro 3 (.mv (.c (.bool false)))])
 (.seq (.reg [Ro 4 (Lk 1 4), Ro 5 (Lk 2 8), Ro 6 (.call true (.f 89) [Sv 4, Sv 5]), Ro 7 (.not (Sv 6)), Ro 3 (Mv 7)])
 .ret))
def qna : List ARes := [(.tmp (sl 3))]
theorem qyx : (Tryz.f88).body.bind (q9 Tryz.prog 8 (Tryz.f88).ntmps [] [] (drOk 8)) = some qlt := by kernel_rfl
theorem qzd : qa Tryz.prog 8 (Tryz.f88).results.toList = some qna := by kernel_rfl
def qu5 : ACode :=
 (.seq (.reg [Ro 1 (.box true (Sv 0)), Ro 2 (.mv (.c (.bool false)))])
 (.seq (.reg [Ro 3 (Fd 1 0), Ro 4 (Ld 3), Ro 5 (.call true (.f 86) [Sv 4]), Ro 6 (Mv 5), Rg 7 6 true (Fd 1 1), Rg 8 6 true (Ld 7), Rg 9 6 true (.bin .geq (Sv 8) (Ci 1)), Ro 10 (.pick (Sv 6) (Sv 9) (.c (.bool false))), Ro 11 (Mv 10), Rg 12 11 true (Fd 1 1), Rg 13 11 true (Ld 12), Rg 14 11 true (.bin .leq (Sv 13) (Ci 3)), Ro 15 (.pick (Sv 11) (Sv 14) (.c (.bool false))), Ro 16 (Mv 15), Rg 17 16 true (Fd 1 2), Rg 18 16 true (Ld 17), Rg 19 16 true (Mv 18), Rg 20 19 false (Fd 1 3), Rg 21 19 false (Ld 20), Rg 22 19 false (.bin .eql (Sv 21) (.c (.int .u64 0))), Rg 23 19 false (Mv 22), Rg 24 23 true (Fd 1 1), Rg 25 23 true (Ld 24), Rg 26 23 true (.bin .neq (Sv 25) (Ci 1)), Rg 27 19 false (.pick (Sv 23) (Sv 26) (.c (.bool false))), Rg 28 16 true (.pick (Sv 19) (.c (.bool true)) (Sv 27)), Ro 29 (.pick (Sv 16) (Sv 28) (.c (.bool false))), Ro 2 (Mv 29)])
 .ret))
def qvt : List ARes := [(.tmp (sl 2))]
theorem z7s : (Tryz.f58).body.bind (q9 Tryz.prog 8 (Tryz.f58).ntmps [] [] (drOk 8)) = some qu5 := by kernel_rfl
theorem z87 : qa Tryz.prog 8 (Tryz.f58).results.toList = some qvt := by kernel_rfl
def qpg : ACode :=
 (.seq (.reg [Ro 1 (.box true (Sv 0)), Ro 2 (.mv (.c .nilFunc))])
 (.seq (.reg [Ro 3 (.mkfn 90 [Sv 1]), Ro 2 (Mv 3)])
 .ret))
def qqt : List ARes := [(.tmp (sl 2))]
theorem z3h : (Tryz.f63).body.bind (q9 Tryz.prog 8 (Tryz.f63).ntmps [] [] (drOk 8)) = some qpg := by kernel_rfl
theorem z3z : qa Tryz.prog 8 (Tryz.f63).results.toList = some qqt := by kernel_rfl
end Go.Proofs.YtgadlpdbkohlbaaGreat
/- The bodies of some functions, as the evaluator has them (printed by program), and that they are the program's own. -/
namespace Go.Proofs.YtgadlpdbkohlbaaGreat
open Go.RowKit
def qpc : ACode :=
 (.seq (.reg [Ro 1 (.box true (Sv 0)), Ro 2 (.mv (Ci 0))])
 (.seq (.seq (.reg [Ro 8 (Fd 1 0), Ro 9 (Ld 8), Ro 10 (.len false (Sv 9)), Ro 11 (.bin .gtr (Sv 10) (Ci 16)), Ro 12 (Mv 11), Rg 13 12 false (Fd 1 1), Rg 14 12 false (Ld 13), Rg 15 12 false (.len false (Sv 14)), Rg 16 12 false (.bin .gtr (Sv 15) (Ci 16)), Ro 17 (.pick (Sv 12) (.c (.bool true)) (Sv 16))])
 (.cond (Sv 17)
 (.seq (.reg [Ro 2 (.mv (Ci 4))])
 .ret)
 .skip))
 (.seq (.reg [Ro 18 (.mmk .string), Ro 3 (Mv 18)])
 (.seq (.seq (.reg [Ro 19 (Fd 1 0), Ro 20 (Ld 19), Ro 21 (.len false (Sv 20)), Ro 22 (.mv (Ci 0))])
 (.block 0
 (.loop (.seq (.reg [Ro 23 (.bin .lss (Sv 22) (Sv 21))])
 (.seq (.cond (Sv 23)
 .skip
 (.exit 0))
 (.seq (.block 1
 (.seq (.seq (.reg [Ro 24 (.idx true (Sv 20) (Sv 22) 4), Ro 25 (Lk 24 4), Ro 5 (.new [(.string ⟨#[]⟩), (.int .i64 0), (.int .i64 0), (.slice none 0 0)]), Rn (.ini 1 (Sv 5) (Sv 25) 4)])
 (.frz (sl 5)))
 (.seq (.seq (.reg [Ro 26 (Lk 5 4), Ro 27 (.call true (.f 57) [Sv 26]), Ro 28 (.not (Sv 27))])
 (.cond (Sv 28)
 (.seq (.reg [Ro 2 (.mv (Ci 10))])
 .ret)
 .skip))
 (.reg [Ro 29 (Mv 3), Ro 30 (Fd 5 0), Ro 31 (Ld 30), Rn (.mset false (Sv 29) (Sv 31) (.c (.bool true)) .string)]))))
 (.reg [Ro 32 (.bin .add (Sv 22) (Ci 1)), Ro 22 (Mv 32)])))))))
 (.seq (.seq (.reg [Ro 33 (Fd 1 1), Ro 34 (Ld 33), Ro 35 (.len false (Sv 34)), Ro 36 (.mv (Ci 0))])
 (.block 2
 (.loop (.seq (.reg [Ro 37 (.bin .lss (Sv 36) (Sv 35))])
 (.seq (.cond (Sv 37)
 .skip
 (.exit 2))
 (.seq (.block 3
 (.seq (.seq (.reg [Ro 38 (.idx true (Sv 34) (Sv 36) 4), Ro 39 (Lk 38 4), Ro 7 (.new [(.string ⟨#[]⟩), (.int .i64 0), (.bool false), (.int .u64 0)]), Rn (.ini 1 (Sv 7) (Sv 39) 4)])
 (.frz (sl 7)))
 (.seq (.seq (.reg [Ro 40 (Lk 7 4), Ro 41 (.call true (.f 58) [Sv 40]), Ro 42 (.not (Sv 41))])
 (.cond (Sv 42)
 (.seq (.reg [Ro 2 (.mv (Ci 10))])
 .ret)
 .skip))
 (.reg [Ro 43 (Mv 3), Ro 44 (Fd 7 0), Ro 45 (Ld 44), Rn (.mset false (Sv 43) (Sv 45) (.c (.bool true)) .string)]))))
 (.reg [Ro 46 (.bin .add (Sv 36) (Ci 1)), Ro 36 (Mv 46)])))))))
 (.seq (.seq (.reg [Ro 47 (Mv 3), Ro 48 (.mlen (Sv 47)), Ro 49 (Fd 1 0), Ro 50 (Ld 49), Ro 51 (.len false (Sv 50)), Ro 52 (Fd 1 1), Ro 53 (Ld 52), Ro 54 (.len false (Sv 53)), Ro 55 (.bin .add (Sv 51) (Sv 54)), Ro 56 (.bin .lss (Sv 48) (Sv 55))])
 (.cond (Sv 56)
 (.seq (.reg [Ro 2 (.mv (Ci 9))])
 .ret)
 .skip))
 (.seq (.reg [Ro 57 (Lk 1 2), Ro 58 (.call true (.f 59) [Sv 57]), Ro 2 (Mv 58)])
 .ret)))))))
def qqp : List ARes := [(.tmp (sl 2))]
theorem z3d : (Tryz.f34).body.bind (q9 Tryz.prog 8 (Tryz.f34).ntmps [] [] (drOk 8)) = some qpc := by kernel_rfl
theorem z3v : qa Tryz.prog 8 (Tryz.f34).results.toList = some qqp := by kernel_rfl
def qu3 : ACode :=
 (.seq (.reg [Ro 1 (.box true (Sv 0)), Ro 2 (.mv (.c (.slice none 0 0)))])
 (.seq (.reg [Ro 3 (.new [(.slice none 0 0)])])
 (.seq (.seq (.reg [Ro 5 (Lk 1 4), Ro 6 (.call true (.f 63) [Sv 5])])
 (.block 0
 (.rng (Sv 6)
 [(sl 7)]
 (.seq (.reg [Ro 4 (.new [(.int .i64 0), (.int .i64 0), (.int .i64 0), (.int .u64 0), (.string ⟨#[]⟩), (.slice none 0 0)]), Rn (.ini 1 (Sv 4) (Sv 7) 6)])
 (.frz (sl 4)))
 (.block 1
 (.seq (.reg [Ro 8 (Lk 4 6), Ro 9 (.call true (.f 64) [Sv 8])])
 (.cond (Sv 9)
 (.reg [Ro 10 (.ld false (Sv 3) none), Ro 11 (Fd 4 4), Ro 12 (Ld 11), Ro 13 (.mksl 1 1 [(.string ⟨#[]⟩)] [(0, 1, (Sv 12))]), Ro 14 (.app 9 1 16 (Sv 10) (Sv 13)), Rn (.st (Sv 3) (Sv 14) 1)])
 .skip))))))
 (.seq (.reg [Ro 15 (.ld false (Sv 3) none), Ro 2 (Mv 15)])
 .ret))))
def qvr : List ARes := [(.tmp (sl 2))]
theorem z7q : (Tryz.f37).body.bind (q9 Tryz.prog 8 (Tryz.f37).ntmps [2, 3, 10, 14, 15] [] (drOk 8)) = some qu3 := by kernel_rfl
theorem z85 : qa Tryz.prog 8 (Tryz.f37).results.toList = some qvr := by kernel_rfl
def qu7 : ACode :=
 (.seq (.reg [Ro 1 (.box true (Sv 0)), Ro 2 (.new [(.int .i64 0)])])
 (.seq (.reg [Ro 15 (.mmk .string), Ro 16 (.mmk .string), Ro 3 (.new [(.map none)]), Ro 4 (.new [(.map none)]), Rn (.ini 2 (Sv 3) (Sv 15) 1), Rn (.ini 2 (Sv 4) (Sv 16) 1)])
 (.seq (.seq (.reg [Ro 17 (Fd 1 0), Ro 18 (Ld 17), Ro 19 (.len false (Sv 18)), Ro 20 (.mv (Ci 0))])
 (.block 0
 (.loop (.seq (.reg [Ro 21 (.bin .lss (Sv 20) (Sv 19))])
 (.seq (.cond (Sv 21)
 .skip
 (.exit 0))
 (.seq (.block 1
 (.seq (.seq (.reg [Ro 22 (.idx true (Sv 18) (Sv 20) 4), Ro 23 (Lk 22 4), Ro 6 (.new [(.string ⟨#[]⟩), (.int .i64 0), (.int .i64 0), (.slice none 0 0)]), Rn (.ini 1 (Sv 6) (Sv 23) 4)])
 (.frz (sl 6)))
 (.reg [Ro 24 (.ld false (Sv 3) none), Ro 25 (Fd 6 0), Ro 26 (Ld 25), Ro 27 (Fd 6 2), Ro 28 (Ld 27), Rn (.mset false (Sv 24) (Sv 26) (Sv 28) .string)])))
 (.reg [Ro 29 (.bin .add (Sv 20) (Ci 1)), Ro 20 (Mv 29)])))))))
 (.seq (.seq (.reg [Ro 30 (Fd 1 1), Ro 31 (Ld 30), Ro 32 (.len false (Sv 31)), Ro 33 (.mv (Ci 0))])
 (.block 2
 (.loop (.seq (.reg [Ro 34 (.bin .lss (Sv 33) (Sv 32))])
 (.seq (.cond (Sv 34)
 .skip
 (.exit 2))
 (.seq (.block 3
 (.seq (.seq (.reg [Ro 35 (.idx true (Sv 31) (Sv 33) 4), Ro 36 (Lk 35 4), Ro 8 (.new [(.string ⟨#[]⟩), (.int .i64 0), (.bool false), (.int .u64 0)]), Rn (.ini 1 (Sv 8) (Sv 36) 4)])
 (.frz (sl 8)))
 (.reg [Ro 37 (.ld false (Sv 4) none), Ro 38 (Fd 8 0), Ro 39 (Ld 38), Rn (.mset false (Sv 37) (Sv 39) (.c (.bool true)) .string)])))
 (.reg [Ro 40 (.bin .add (Sv 33) (Ci 1)), Ro 33 (Mv 40)])))))))
 (.seq (.reg [Ro 9 (.new [(.bool false)]), Rn (.ini 1 (Sv 9) (.c (.bool false)) 1)])
 (.seq (.seq (.reg [Ro 41 (Fd 1 0), Ro 42 (Ld 41), Ro 43 (.len false (Sv 42)), Ro 44 (.mv (Ci 0))])
 (.block 4
 (.loop (.seq (.reg [Ro 45 (.bin .lss (Sv 44) (Sv 43))])
 (.seq (.cond (Sv 45)
 .skip
 (.exit 4))
 (.seq (.block 5
 (.seq (.seq (.reg [Ro 46 (.idx true (Sv 42) (Sv 44) 4), Ro 47 (Lk 46 4), Ro 11 (.new [(.string ⟨#[]⟩), (.int .i64 0), (.int .i64 0), (.slice none 0 0)]), Rn (.ini 1 (Sv 11) (Sv 47) 4)])
 (.frz (sl 11)))
 (.seq (.reg [Ro 48 (Lk 11 4), Ro 49 (.call true (.f 63) [Sv 48])])
 (.block 6
 (.rng (Sv 49)
 [(sl 50)]
 (.seq (.reg [Ro 12 (.new [(.int .i64 0), (.int .i64 0), (.int .i64 0), (.int .u64 0), (.string ⟨#[]⟩), (.slice none 0 0)]), Rn (.ini 1 (Sv 12) (Sv 50) 6)])
 (.frz (sl 12)))
 (.block 7
 (.seq (.reg [Ro 52 (.ld false (Sv 3) none), Ro 53 (Fd 12 4), Ro 54 (Ld 53), Ro 55 (.mget (Sv 52) (Sv 54) true .string (.int .i64 0)), Ro 51 (Mv 55), Ro 56 (.ext (Sv 51) 0), Ro 57 (.ext (Sv 51) 1), Ro 13 (Mv 56), Ro 14 (Mv 57)])
 (.seq (.seq (.reg [Ro 58 (Fd 12 0), Ro 59 (Ld 58), Ro 60 (.bin .eql (Sv 59) (Ci 14)), Ro 61 (Mv 60), Rg 62 61 true (Mv 14), Rg 63 61 true (.not (Sv 62)), Ro 64 (.pick (Sv 61) (Sv 63) (.c (.bool false))), Ro 65 (Mv 64), Rg 66 65 false (Fd 12 0), Rg 67 65 false (Ld 66), Rg 68 65 false (.bin .eql (Sv 67) (Ci 12)), Rg 69 65 false (Mv 68), Rg 70 69 false (Fd 12 0), Rg 71 69 false (Ld 70), Rg 72 69 false (.bin .eql (Sv 71) (Ci 13)), Rg 73 65 false (.pick (Sv 69) (.c (.bool true)) (Sv 72)), Rg 74 65 false (Mv 73), Rg 75 74 true (.ld false (Sv 4) none), Rg 76 74 true (Fd 12 4), Rg 77 74 true (Ld 76), Rg 78 74 true (.mget (Sv 75) (Sv 77) false .string (.bool false)), Rg 79 74 true (.not (Sv 78)), Rg 80 65 false (.pick (Sv 74) (Sv 79) (.c (.bool false))), Ro 81 (.pick (Sv 65) (.c (.bool true)) (Sv 80))])
 (.cond (Sv 81)
 (.seq (.reg [Rn (.st (Sv 2) (Ci 8) 1)])
 .ret)
 .skip))
 (.reg [Ro 82 (.ld false (Sv 9) none), Ro 83 (Mv 82), Rg 84 83 false (Fd 12 0), Rg 85 83 false (Ld 84), Rg 86 83 false (.bin .eql (Sv 85) (Ci 14)), Rg 87 83 false (Mv 86), Rg 88 87 true (Mv 13), Rg 89 87 true (Fd 12 5), Rg 90 87 true (Ld 89), Rg 91 87 true (.len false (Sv 90)), Rg 92 87 true (.bin .neq (Sv 88) (Sv 91)), Rg 93 83 false (.pick (Sv 87) (Sv 92) (.c (.bool false))), Ro 94 (.pick (Sv 83) (.c (.bool true)) (Sv 93)), Rn (.st (Sv 9) (Sv 94) 1)])))))))))
 (.reg [Ro 95 (.bin .add (Sv 44) (Ci 1)), Ro 44 (Mv 95)])))))))
 (.seq (.seq (.reg [Ro 96 (.ld false (Sv 9) none)])
 (.cond (Sv 96)
 (.seq (.reg [Rn (.st (Sv 2) (Ci 1) 1)])
 .ret)
 .skip))
 (.seq (.reg [Rn (.st (Sv 2) (Ci 0) 1)])
 .ret))))))))
def qvv : List ARes := [(.cell (sl 2) none)]
theorem z7u : (Tryz.f59).body.bind (q9 Tryz.prog 8 (Tryz.f59).ntmps [2, 3, 4, 9, 24, 37, 52, 75, 82, 83, 94, 96] [] (drOk 8)) = some qu7 := by kernel_rfl
theorem z89 : qa Tryz.prog 8 (Tryz.f59).results.toList = some qvv := by kernel_rfl
end Go.Proofs.YtgadlpdbkohlbaaGreat
/- The bodies of some functions, as the evaluator has them (printed by program), and that they are the program's own. -/
namespace Go.Proofs.YtgadlpdbkohlbaaGreat
open Go.RowKit
def q4z : ACode :=
 (.seq (.reg [Ro 2 (.box true (Sv 0)), Ro 4 (.mv (Ci 0))])
 (.seq (.seq (.reg [Ro 5 (.mv (Ci 0))])
 (.block 0
 (.loop (.seq (.seq (.reg [Ro 6 (Mv 5), Ro 7 (Fd 2 0), Ro 8 (Ld 7), Ro 9 (.len false (Sv 8)), Ro 10 (.bin .lss (Sv 6) (Sv 9))])
 (.cond (Sv 10)
 .skip
 (.exit 0)))
 (.seq (.block 1
 (.seq (.reg [Ro 13 (Fd 2 0), Ro 14 (Ld 13), Ro 15 (Mv 5), Ro 16 (.idx true (Sv 14) (Sv 15) 4), Ro 17 (Fd 16 0), Ro 18 (Ld 17), Ro 19 (Mv 1), Ro 20 (.bin .eql (Sv 18) (Sv 19))])
 (.cond (Sv 20)
 (.seq (.reg [Ro 21 (Mv 5), Ro 4 (Mv 21)])
 .ret)
 .skip)))
 (.reg [Ro 11 (Mv 5), Ro 12 (.bin .add (Sv 11) (Ci 1)), Ro 5 (Mv 12)]))))))
 (.seq (.reg [Ro 4 (.mv (Ci (-1)))])
 .ret)))
def q5g : List ARes := [(.tmp (sl 4))]
theorem qb6 : (Tryz.f21).body.bind (q9 Tryz.prog 8 (Tryz.f21).ntmps [] [] (drOk 8)) = some q4z := by kernel_rfl
theorem qbe : qa Tryz.prog 8 (Tryz.f21).results.toList = some q5g := by kernel_rfl
def q50 : ACode :=
 (.seq (.reg [Ro 2 (.box true (Sv 0)), Ro 4 (.mv (Ci 0))])
 (.seq (.seq (.reg [Ro 5 (.mv (Ci 0))])
 (.block 0
 (.loop (.seq (.seq (.reg [Ro 6 (Mv 5), Ro 7 (Fd 2 1), Ro 8 (Ld 7), Ro 9 (.len false (Sv 8)), Ro 10 (.bin .lss (Sv 6) (Sv 9))])
 (.cond (Sv 10)
 .skip
 (.exit 0)))
 (.seq (.block 1
 (.seq (.reg [Ro 13 (Fd 2 1), Ro 14 (Ld 13), Ro 15 (Mv 5), Ro 16 (.idx true (Sv 14) (Sv 15) 4), Ro 17 (Fd 16 0), Ro 18 (Ld 17), Ro 19 (Mv 1), Ro 20 (.bin .eql (Sv 18) (Sv 19))])
 (.cond (Sv 20)
 (.seq (.reg [Ro 21 (Mv 5), Ro 4 (Mv 21)])
 .ret)
 .skip)))
 (.reg [Ro 11 (Mv 5), Ro 12 (.bin .add (Sv 11) (Ci 1)), Ro 5 (Mv 12)]))))))
 (.seq (.reg [Ro 4 (.mv (Ci (-1)))])
 .ret)))
def q5h : List ARes := [(.tmp (sl 4))]
theorem qb7 : (Tryz.f22).body.bind (q9 Tryz.prog 8 (Tryz.f22).ntmps [] [] (drOk 8)) = some q50 := by kernel_rfl
theorem qbf : qa Tryz.prog 8 (Tryz.f22).results.toList = some q5h := by kernel_rfl
def q8e : ACode :=
 (.seq (.reg [Ro 1 (.box true (Sv 0)), Ro 2 (.mv (.c (.slice none 0 0)))])
 (.seq (.reg [Ro 3 (.mv (.c (.slice none 0 0)))])
 (.seq (.seq (.reg [Ro 4 (.mv (Ci 0))])
 (.block 0
 (.loop (.seq (.seq (.reg [Ro 7 (Mv 4), Ro 8 (Fd 1 3), Ro 9 (Ld 8), Ro 10 (.len false (Sv 9)), Ro 11 (.bin .lss (Sv 7) (Sv 10))])
 (.cond (Sv 11)
 .skip
 (.exit 0)))
 (.seq (.block 1
 (.seq (.reg [Ro 5 (.mv (Ci 0))])
 (.block 2
 (.loop (.seq (.seq (.reg [Ro 14 (Mv 5), Ro 15 (Fd 1 3), Ro 16 (Ld 15), Ro 17 (Mv 4), Ro 18 (.idx true (Sv 16) (Sv 17) 8), Ro 19 (Fd 18 1), Ro 20 (Ld 19), Ro 21 (.len false (Sv 20)), Ro 22 (.bin .lss (Sv 14) (Sv 21))])
 (.cond (Sv 22)
 .skip
 (.exit 2)))
 (.seq (.block 3
 (.seq (.reg [Ro 25 (Fd 1 3), Ro 26 (Ld 25), Ro 27 (Mv 4), Ro 28 (.idx true (Sv 26) (Sv 27) 8), Ro 29 (Fd 28 1), Ro 30 (Ld 29), Ro 31 (Mv 5), Ro 32 (.idx true (Sv 30) (Sv 31) 6), Ro 33 (Lk 32 6), Ro 34 (.call true (.f 51) [Sv 33]), Ro 6 (Mv 34)])
 (.seq (.reg [Ro 35 (Mv 6)])
 (.cond (Sv 35)
 (.reg [Ro 36 (Mv 3), Ro 37 (Fd 1 3), Ro 38 (Ld 37), Ro 39 (Mv 4), Ro 40 (.idx true (Sv 38) (Sv 39) 8), Ro 41 (Fd 40 1), Ro 42 (Ld 41), Ro 43 (Mv 5), Ro 44 (.idx true (Sv 42) (Sv 43) 6), Ro 45 (Fd 44 4), Ro 46 (Ld 45), Ro 47 (.mksl 1 1 [(.string ⟨#[]⟩)] [(0, 1, (Sv 46))]), Ro 48 (.app 9 1 16 (Sv 36) (Sv 47)), Ro 3 (Mv 48)])
 .skip))))
 (.reg [Ro 23 (Mv 5), Ro 24 (.bin .add (Sv 23) (Ci 1)), Ro 5 (Mv 24)])))))))
 (.reg [Ro 12 (Mv 4), Ro 13 (.bin .add (Sv 12) (Ci 1)), Ro 4 (Mv 13)]))))))
 (.seq (.reg [Ro 49 (Mv 3), Ro 2 (Mv 49)])
 .ret))))
def q94 : List ARes := [(.tmp (sl 2))]
theorem qfi : (Tryz.f31).body.bind (q9 Tryz.prog 8 (Tryz.f31).ntmps [2, 3, 36, 48, 49] [] (drOk 8)) = some q8e := by kernel_rfl
theorem qg0 : qa Tryz.prog 8 (Tryz.f31).results.toList = some q94 := by kernel_rfl
def q79 : ACode :=
 (.seq (.reg [Ro 1 (.box true (Sv 0)), Ro 2 (.mv (Ci 0))])
 (.seq (.seq (.reg [Ro 17 (Fd 1 0), Ro 18 (Ld 17), Ro 19 (.len false (Sv 18)), Ro 20 (.bin .gtr (Sv 19) (Ci 16)), Ro 21 (Mv 20), Rg 22 21 false (Fd 1 1), Rg 23 21 false (Ld 22), Rg 24 21 false (.len false (Sv 23)), Rg 25 21 false (.bin .gtr (Sv 24) (Ci 16)), Ro 26 (.pick (Sv 21) (.c (.bool true)) (Sv 25))])
 (.cond (Sv 26)
 (.seq (.reg [Ro 2 (.mv (Ci 4))])
 .ret)
 .skip))
 (.seq (.seq (.reg [Ro 3 (.mv (Ci 0))])
 (.block 0
 (.loop (.seq (.seq (.reg [Ro 27 (Mv 3), Ro 28 (Fd 1 0), Ro 29 (Ld 28), Ro 30 (.len false (Sv 29)), Ro 31 (.bin .lss (Sv 27) (Sv 30))])
 (.cond (Sv 31)
 .skip
 (.exit 0)))
 (.seq (.block 1
 (.seq (.reg [Ro 34 (Fd 1 0), Ro 35 (Ld 34), Ro 36 (Mv 3), Ro 37 (.idx true (Sv 35) (Sv 36) 4), Ro 38 (Lk 37 4), Ro 39 (.call true (.f 18) [Sv 38]), Ro 4 (Mv 39)])
 (.seq (.reg [Ro 40 (Mv 4), Ro 41 (.not (Sv 40))])
 (.cond (Sv 41)
 (.seq (.reg [Ro 2 (.mv (Ci 10))])
 .ret)
 .skip))))
 (.reg [Ro 32 (Mv 3), Ro 33 (.bin .add (Sv 32) (Ci 1)), Ro 3 (Mv 33)]))))))
 (.seq (.seq (.reg [Ro 5 (.mv (Ci 0))])
 (.block 2
 (.loop (.seq (.seq (.reg [Ro 42 (Mv 5), Ro 43 (Fd 1 1), Ro 44 (Ld 43), Ro 45 (.len false (Sv 44)), Ro 46 (.bin .lss (Sv 42) (Sv 45))])
 (.cond (Sv 46)
 .skip
 (.exit 2)))
 (.seq (.block 3
 (.seq (.seq (.reg [Ro 49 (Fd 1 1), Ro 50 (Ld 49), Ro 51 (Mv 5), Ro 52 (.idx true (Sv 50) (Sv 51) 4), Ro 53 (Lk 52 4), Ro 6 (.new [(.string ⟨#[]⟩), (.int .i64 0), (.bool false), (.int .u64 0)]), Rn (.ini 1 (Sv 6) (Sv 53) 4)])
 (.frz (sl 6)))
 (.seq (.reg [Ro 54 (Fd 6 0), Ro 55 (Ld 54), Ro 56 (.call true (.f 19) [Sv 55]), Ro 7 (Mv 56)])
 (.seq (.reg [Ro 57 (Mv 7), Ro 58 (.not (Sv 57)), Ro 59 (Mv 58), Rg 60 59 false (Fd 6 1), Rg 61 59 false (Ld 60), Rg 62 59 false (.bin .lss (Sv 61) (Ci 1)), Ro 63 (.pick (Sv 59) (.c (.bool true)) (Sv 62)), Ro 64 (Mv 63), Rg 65 64 false (Fd 6 1), Rg 66 64 false (Ld 65), Rg 67 64 false (.bin .gtr (Sv 66) (Ci 3)), Ro 68 (.pick (Sv 64) (.c (.bool true)) (Sv 67)), Ro 69 (Mv 68), Rg 70 69 false (Fd 6 2), Rg 71 69 false (Ld 70), Rg 72 69 false (.not (Sv 71)), Rg 73 69 false (Mv 72), Rg 74 73 true (Fd 6 3), Rg 75 73 true (Ld 74), Rg 76 73 true (.bin .neq (Sv 75) (.c (.int .u64 0))), Rg 77 73 true (Mv 76), Rg 78 77 false (Fd 6 1), Rg 79 77 false (Ld 78), Rg 80 77 false (.bin .eql (Sv 79) (Ci 1)), Rg 81 73 true (.pick (Sv 77) (.c (.bool true)) (Sv 80)), Rg 82 69 false (.pick (Sv 73) (Sv 81) (.c (.bool false))), Ro 83 (.pick (Sv 69) (.c (.bool true)) (Sv 82))])
 (.cond (Sv 83)
 (.seq (.reg [Ro 2 (.mv (Ci 10))])
 .ret)
 .skip)))))
 (.reg [Ro 47 (Mv 5), Ro 48 (.bin .add (Sv 47) (Ci 1)), Ro 5 (Mv 48)]))))))
 (.seq (.reg [Ro 84 (Lk 1 2), Ro 85 (.call true (.f 20) [Sv 84]), Ro 8 (Mv 85)])
 (.seq (.seq (.reg [Ro 9 (.mv (Ci 0))])
 (.block 4
 (.loop (.seq (.seq (.reg [Ro 86 (Mv 9), Ro 87 (Mv 8), Ro 88 (.len false (Sv 87)), Ro 89 (.bin .lss (Sv 86) (Sv 88))])
 (.cond (Sv 89)
 .skip
 (.exit 4)))
 (.seq (.block 5
 (.seq (.reg [Ro 10 (.mv (Ci 0))])
 (.block 6
 (.loop (.seq (.seq (.reg [Ro 92 (Mv 10), Ro 93 (Mv 9), Ro 94 (.bin .lss (Sv 92) (Sv 93))])
 (.cond (Sv 94)
 .skip
 (.exit 6)))
 (.seq (.block 7
 (.seq (.reg [Rl 97 (Mv 8) 0, Rl 98 (Mv 9) 1, Rl 99 (.idx true (Sv 97) (Sv 98) 1) 2, Rl 100 (Ld 99) 3, Rl 101 (Mv 8) 4, Rl 102 (Mv 10) 5, Rl 103 (.idx true (Sv 101) (Sv 102) 1) 6, Rl 104 (Ld 103) 7, Rl 105 (.bin .eql (Sv 100) (Sv 104)) 8])
 (.cond (Sv 105)
 (.seq (.reg [Ro 2 (.mv (Ci 9))])
 .ret)
 .skip)))
 (.reg [Ro 95 (Mv 10), Ro 96 (.bin .add (Sv 95) (Ci 1)), Ro 10 (Mv 96)])))))))
 (.reg [Ro 90 (Mv 9), Ro 91 (.bin .add (Sv 90) (Ci 1)), Ro 9 (Mv 91)]))))))
 (.seq (.reg [Ro 11 (.mv (.c (.bool false)))])
 (.seq (.seq (.reg [Ro 12 (.mv (Ci 0))])
 (.block 8
 (.loop (.seq (.seq (.reg [Ro 106 (Mv 12), Ro 107 (Fd 1 0), Ro 108 (Ld 107), Ro 109 (.len false (Sv 108)), Ro 110 (.bin .lss (Sv 106) (Sv 109))])
 (.cond (Sv 110)
 .skip
 (.exit 8)))
 (.seq (.block 9
 (.seq (.reg [Ro 13 (.mv (Ci 0))])
 (.block 10
 (.loop (.seq (.seq (.reg [Ro 113 (Mv 13), Ro 114 (Fd 1 0), Ro 115 (Ld 114), Ro 116 (Mv 12), Ro 117 (.idx true (Sv 115) (Sv 116) 4), Ro 118 (Fd 117 3), Ro 119 (Ld 118), Ro 120 (.len false (Sv 119)), Ro 121 (.bin .lss (Sv 113) (Sv 120))])
 (.cond (Sv 121)
 .skip
 (.exit 10)))
 (.seq (.block 11
 (.seq (.reg [Ro 14 (.mv (Ci 0))])
 (.block 12
 (.loop (.seq (.seq (.reg [Ro 124 (Mv 14), Ro 125 (Fd 1 0), Ro 126 (Ld 125), Ro 127 (Mv 12), Ro 128 (.idx true (Sv 126) (Sv 127) 4), Ro 129 (Fd 128 3), Ro 130 (Ld 129), Ro 131 (Mv 13), Ro 132 (.idx true (Sv 130) (Sv 131) 8), Ro 133 (Fd 132 1), Ro 134 (Ld 133), Ro 135 (.len false (Sv 134)), Ro 136 (.bin .lss (Sv 124) (Sv 135))])
 (.cond (Sv 136)
 .skip
 (.exit 12)))
 (.seq (.block 13
 (.seq (.seq (.reg [Ro 139 (Fd 1 0), Ro 140 (Ld 139), Ro 141 (Mv 12), Ro 142 (.idx true (Sv 140) (Sv 141) 4), Ro 143 (Fd 142 3), Ro 144 (Ld 143), Ro 145 (Mv 13), Ro 146 (.idx true (Sv 144) (Sv 145) 8), Ro 147 (Fd 146 1), Ro 148 (Ld 147), Ro 149 (Mv 14), Ro 150 (.idx true (Sv 148) (Sv 149) 6), Ro 151 (Lk 150 6), Ro 15 (.new [(.int .i64 0), (.int .i64 0), (.int .i64 0), (.int .u64 0), (.string ⟨#[]⟩), (.slice none 0 0)]), Rn (.ini 1 (Sv 15) (Sv 151) 6)])
 (.frz (sl 15)))
 (.seq (.seq (.reg [Ro 152 (Fd 15 0), Ro 153 (Ld 152), Ro 154 (.bin .eql (Sv 153) (Ci 14))])
 (.cond (Sv 154)
 (.seq (.reg [Ro 155 (Lk 1 2), Ro 156 (Fd 15 4), Ro 157 (Ld 156), Ro 158 (.call true (.f 21) [Sv 155, Sv 157]), Ro 16 (Mv 158)])
 (.seq (.seq (.reg [Ro 159 (Mv 16), Ro 160 (.bin .lss (Sv 159) (Ci 0))])
 (.cond (Sv 160)
 (.seq (.reg [Ro 2 (.mv (Ci 8))])
 .ret)
 .skip))
 (.reg [Rl 161 (Mv 11) 0, Rl 162 (Mv 161) 1, Rh 163 162 false (Fd 1 0) 2, Rh 164 162 false (Ld 163) 3, Rh 165 162 false (Mv 16) 4, Rh 166 162 false (.idx true (Sv 164) (Sv 165) 4) 5, Rh 167 162 false (Fd 166 2) 6, Rh 168 162 false (Ld 167) 7, Rh 169 162 false (Fd 15 5) 8, Rh 170 162 false (Ld 169) 9, Rh 171 162 false (.len false (Sv 170)) 10, Rh 172 162 false (.bin .neq (Sv 168) (Sv 171)) 11, Rl 173 (.pick (Sv 162) (.c (.bool true)) (Sv 172)) 12, Rl 11 (Mv 173) 13])))
 .skip))
 (.seq (.reg [Ro 174 (Fd 15 0), Ro 175 (Ld 174), Ro 176 (.bin .eql (Sv 175) (Ci 12)), Ro 177 (Mv 176), Rg 178 177 false (Fd 15 0), Rg 179 177 false (Ld 178), Rg 180 177 false (.bin .eql (Sv 179) (Ci 13)), Ro 181 (.pick (Sv 177) (.c (.bool true)) (Sv 180)), Ro 182 (Mv 181), Rg 183 182 true (Lk 1 2), Rg 184 182 true (Fd 15 4), Rg 185 182 true (Ld 184), Rg 186 182 true (.call true (.f 22) [Sv 183, Sv 185]), Rg 187 182 true (.bin .lss (Sv 186) (Ci 0)), Ro 188 (.pick (Sv 182) (Sv 187) (.c (.bool false)))])
 (.cond (Sv 188)
 (.seq (.reg [Ro 2 (.mv (Ci 8))])
 .ret)
 .skip)))))
 (.reg [Ro 137 (Mv 14), Ro 138 (.bin .add (Sv 137) (Ci 1)), Ro 14 (Mv 138)])))))))
 (.reg [Ro 122 (Mv 13), Ro 123 (.bin .add (Sv 122) (Ci 1)), Ro 13 (Mv 123)])))))))
 (.reg [Ro 111 (Mv 12), Ro 112 (.bin .add (Sv 111) (Ci 1)), Ro 12 (Mv 112)]))))))
 (.seq (.seq (.reg [Ro 189 (Mv 11)])
 (.cond (Sv 189)
 (.seq (.reg [Ro 2 (.mv (Ci 1))])
 .ret)
 .skip))
 (.seq (.reg [Ro 2 (.mv (Ci 0))])
 .ret))))))))))
def q7m : List ARes := [(.tmp (sl 2))]
theorem qdq : (Tryz.f8).body.bind (q9 Tryz.prog 8 (Tryz.f8).ntmps [] [] (drOk 8)) = some q79 := by kernel_rfl
theorem qe3 : qa Tryz.prog 8 (Tryz.f8).results.toList = some q7m := by kernel_rfl
def q8f : ACode :=
 (.seq (.reg [Ro 2 (.box true (Sv 0)), Ro 3 (.box true (Sv 1)), Ro 4 (.mv (.c (.bool false)))])
 (.seq (.seq (.reg [Ro 8 (Fd 2 0), Ro 9 (Ld 8), Ro 10 (.len false (Sv 9)), Ro 11 (Fd 3 0), Ro 12 (Ld 11), Ro 13 (.len false (Sv 12)), Ro 14 (.bin .neq (Sv 10) (Sv 13)), Ro 15 (Mv 14), Rg 16 15 false (Fd 2 1), Rg 17 15 false (Ld 16), Rg 18 15 false (.len false (Sv 17)), Rg 19 15 false (Fd 3 1), Rg 20 15 false (Ld 19), Rg 21 15 false (.len false (Sv 20)), Rg 22 15 false (.bin .neq (Sv 18) (Sv 21)), Ro 23 (.pick (Sv 15) (.c (.bool true)) (Sv 22))])
 (.cond (Sv 23)
 (.seq (.reg [Ro 4 (.mv (.c (.bool false)))])
 .ret)
 .skip))
 (.seq (.seq (.reg [Ro 5 (.mv (Ci 0))])
 (.block 0
 (.loop (.seq (.seq (.reg [Ro 24 (Mv 5), Ro 25 (Fd 2 0), Ro 26 (Ld 25), Ro 27 (.len false (Sv 26)), Ro 28 (.bin .lss (Sv 24) (Sv 27))])
 (.cond (Sv 28)
 .skip
 (.exit 0)))
 (.seq (.block 1
 (.seq (.reg [Rl 31 (Fd 2 0) 0, Rl 32 (Ld 31) 1, Rl 33 (Mv 5) 2, Rl 34 (.idx true (Sv 32) (Sv 33) 4) 3, Rl 35 (Lk 34 4) 4, Rl 36 (Fd 3 0) 5, Rl 37 (Ld 36) 6, Rl 38 (Mv 5) 7, Rl 39 (.idx true (Sv 37) (Sv 38) 4) 8, Rl 40 (Lk 39 4) 9, Rl 41 (.call true (.f 30) [Sv 35, Sv 40]) 10, Rl 6 (Mv 41) 11])
 (.seq (.reg [Ro 42 (Mv 6), Ro 43 (.not (Sv 42))])
 (.cond (Sv 43)
 (.seq (.reg [Ro 4 (.mv (.c (.bool false)))])
 .ret)
 .skip))))
 (.reg [Ro 29 (Mv 5), Ro 30 (.bin .add (Sv 29) (Ci 1)), Ro 5 (Mv 30)]))))))
 (.seq (.seq (.reg [Ro 7 (.mv (Ci 0))])
 (.block 2
 (.loop (.seq (.seq (.reg [Ro 44 (Mv 7), Ro 45 (Fd 2 1), Ro 46 (Ld 45), Ro 47 (.len false (Sv 46)), Ro 48 (.bin .lss (Sv 44) (Sv 47))])
 (.cond (Sv 48)
 .skip
 (.exit 2)))
 (.seq (.block 3
 (.seq (.reg [Rl 51 (Fd 2 1) 0, Rl 52 (Ld 51) 1, Rl 53 (Mv 7) 2, Rl 54 (.idx true (Sv 52) (Sv 53) 4) 3, Rl 55 (Lk 54 4) 4, Rl 56 (Fd 3 1) 5, Rl 57 (Ld 56) 6, Rl 58 (Mv 7) 7, Rl 59 (.idx true (Sv 57) (Sv 58) 4) 8, Rl 60 (Lk 59 4) 9, Rl 61 (.eqs true (Sv 55) (Sv 60) [.string, (.int .i64), .bool, (.int .u64)]) 10])
 (.cond (Sv 61)
 (.seq (.reg [Ro 4 (.mv (.c (.bool false)))])
 .ret)
 .skip)))
 (.reg [Ro 49 (Mv 7), Ro 50 (.bin .add (Sv 49) (Ci 1)), Ro 7 (Mv 50)]))))))
 (.seq (.reg [Ro 4 (.mv (.c (.bool true)))])
 .ret)))))
def q95 : List ARes := [(.tmp (sl 4))]
theorem qfj : (Tryz.f13).body.bind (q9 Tryz.prog 8 (Tryz.f13).ntmps [] [] (drOk 8)) = some q8f := by kernel_rfl
theorem qg1 : qa Tryz.prog 8 (Tryz.f13).results.toList = some q95 := by kernel_rfl
def q7d : ACode :=
 (.seq (.reg [Ro 1 (.box true (Sv 0)), Ro 2 (.mv (.c (.slice none 0 0)))])
 (.seq (.reg [Ro 3 (.mv (.c (.slice none 0 0)))])
 (.seq (.seq (.reg [Ro 4 (.mv (Ci 0))])
 (.block 0
 (.loop (.seq (.seq (.reg [Ro 6 (Mv 4), Ro 7 (Fd 1 0), Ro 8 (Ld 7), Ro 9 (.len false (Sv 8)), Ro 10 (.bin .lss (Sv 6) (Sv 9))])
 (.cond (Sv 10)
 .skip
 (.exit 0)))
 (.seq (.block 1
 (.reg [Ro 13 (Mv 3), Ro 14 (Fd 1 0), Ro 15 (Ld 14), Ro 16 (Mv 4), Ro 17 (.idx true (Sv 15) (Sv 16) 4), Ro 18 (Fd 17 0), Ro 19 (Ld 18), Ro 20 (.mksl 1 1 [(.string ⟨#[]⟩)] [(0, 1, (Sv 19))]), Ro 21 (.app 9 1 16 (Sv 13) (Sv 20)), Ro 3 (Mv 21)]))
 (.reg [Ro 11 (Mv 4), Ro 12 (.bin .add (Sv 11) (Ci 1)), Ro 4 (Mv 12)]))))))
 (.seq (.seq (.reg [Ro 5 (.mv (Ci 0))])
 (.block 2
 (.loop (.seq (.seq (.reg [Ro 22 (Mv 5), Ro 23 (Fd 1 1), Ro 24 (Ld 23), Ro 25 (.len false (Sv 24)), Ro 26 (.bin .lss (Sv 22) (Sv 25))])
 (.cond (Sv 26)
 .skip
 (.exit 2)))
 (.seq (.block 3
 (.reg [Ro 29 (Mv 3), Ro 30 (Fd 1 1), Ro 31 (Ld 30), Ro 32 (Mv 5), Ro 33 (.idx true (Sv 31) (Sv 32) 4), Ro 34 (Fd 33 0), Ro 35 (Ld 34), Ro 36 (.mksl 1 1 [(.string ⟨#[]⟩)] [(0, 1, (Sv 35))]), Ro 37 (.app 9 1 16 (Sv 29) (Sv 36)), Ro 3 (Mv 37)]))
 (.reg [Ro 27 (Mv 5), Ro 28 (.bin .add (Sv 27) (Ci 1)), Ro 5 (Mv 28)]))))))
 (.seq (.reg [Ro 38 (Mv 3), Ro 2 (Mv 38)])
 .ret)))))
def q7q : List ARes := [(.tmp (sl 2))]
theorem qdu : (Tryz.f20).body.bind (q9 Tryz.prog 8 (Tryz.f20).ntmps [2, 3, 13, 21, 29, 37, 38] [] (drOk 8)) = some q7d := by kernel_rfl
theorem qe7 : qa Tryz.prog 8 (Tryz.f20).results.toList = some q7q := by kernel_rfl
def q51 : ACode :=
 (.seq (.reg [Ro 2 (.box true (Sv 0)), Ro 3 (.box true (Sv 1)), Ro 4 (.mv (.c (.bool false)))])
 (.seq (.seq (.reg [Ro 7 (Fd 2 0), Ro 8 (Ld 7), Ro 9 (Fd 3 0), Ro 10 (Ld 9), Ro 11 (.bin .neq (Sv 8) (Sv 10)), Ro 12 (Mv 11), Rg 13 12 false (Fd 2 1), Rg 14 12 false (Ld 13), Rg 15 12 false (Fd 3 1), Rg 16 12 false (Ld 15), Rg 17 12 false (.bin .neq (Sv 14) (Sv 16)), Ro 18 (.pick (Sv 12) (.c (.bool true)) (Sv 17)), Ro 19 (Mv 18), Rg 20 19 false (Fd 2 2), Rg 21 19 false (Ld 20), Rg 22 19 false (Fd 3 2), Rg 23 19 false (Ld 22), Rg 24 19 false (.bin .neq (Sv 21) (Sv 23)), Ro 25 (.pick (Sv 19) (.c (.bool true)) (Sv 24)), Ro 26 (Mv 25), Rg 27 26 false (Fd 2 3), Rg 28 26 false (Ld 27), Rg 29 26 false (.len false (Sv 28)), Rg 30 26 false (Fd 3 3), Rg 31 26 false (Ld 30), Rg 32 26 false (.len false (Sv 31)), Rg 33 26 false (.bin .neq (Sv 29) (Sv 32)), Ro 34 (.pick (Sv 26) (.c (.bool true)) (Sv 33))])
 (.cond (Sv 34)
 (.seq (.reg [Ro 4 (.mv (.c (.bool false)))])
 .ret)
 .skip))
 (.seq (.seq (.reg [Ro 5 (.mv (Ci 0))])
 (.block 0
 (.loop (.seq (.seq (.reg [Ro 35 (Mv 5), Ro 36 (Fd 2 3), Ro 37 (Ld 36), Ro 38 (.len false (Sv 37)), Ro 39 (.bin .lss (Sv 35) (Sv 38))])
 (.cond (Sv 39)
 .skip
 (.exit 0)))
 (.seq (.block 1
 (.seq (.reg [Rl 42 (Fd 2 3) 0, Rl 43 (Ld 42) 1, Rl 44 (Mv 5) 2, Rl 45 (.idx true (Sv 43) (Sv 44) 8) 3, Rl 46 (Lk 45 8) 4, Rl 47 (Fd 3 3) 5, Rl 48 (Ld 47) 6, Rl 49 (Mv 5) 7, Rl 50 (.idx true (Sv 48) (Sv 49) 8) 8, Rl 51 (Lk 50 8) 9, Rl 52 (.call true (.f 50) [Sv 46, Sv 51]) 10, Rl 6 (Mv 52) 11])
 (.seq (.reg [Ro 53 (Mv 6), Ro 54 (.not (Sv 53))])
 (.cond (Sv 54)
 (.seq (.reg [Ro 4 (.mv (.c (.bool false)))])
 .ret)
 .skip))))
 (.reg [Ro 40 (Mv 5), Ro 41 (.bin .add (Sv 40) (Ci 1)), Ro 5 (Mv 41)]))))))
 (.seq (.reg [Ro 4 (.mv (.c (.bool true)))])
 .ret))))
def q5i : List ARes := [(.tmp (sl 4))]
theorem qb8 : (Tryz.f30).body.bind (q9 Tryz.prog 8 (Tryz.f30).ntmps [] [] (drOk 8)) = some q51 := by kernel_rfl
theorem qbg : qa Tryz.prog 8 (Tryz.f30).results.toList = some q5i := by kernel_rfl
end Go.Proofs.YtgadlpdbkohlbaaGreat
/- The evaluator's own rules, for simp. -/
namespace Go.Proofs.YtgadlpdbkohlbaaGreat
open Go.RowKit
@[simp] theorem cell_lit (v : Value) : DV.cell (.lit v) = v.oneCell' := rfl
@[simp] theorem cell_sl (n len : Nat) (row : Nat → List DV) : DV.cell (.sl n len row) = true := rfl
@[simp] theorem cell_cref (cs : List DV) (off : Nat) : DV.cell (.cref cs off) = true := rfl
@[simp] theorem cell_fn (F : FuncId) (cs : List DV) : DV.cell (.fn F cs) = true := rfl
attribute [simp] okS stp setD wrap gval gok mxV mxOk vopG qge z6m mkZs mkDs q76 AV.isP Opd.av AOp.val AOp.ok AV.strip AV.live qcd qkd bits T.get T.set fldV qf6 ldV ldOk idxV z66 binA z1q binV qxc nzV nnV catOk cnvV cnvOk cnvsV z57 bytesOf sidxV z7f sslcV z7i qr5 z3a qol aidxV z4p qs9 notV notOk lenV qhn extV z5h slcV qia bndV qrk qj9 pickV pickOk z2q mkAgg mkTup mkFn allD
 q5f z28 qh9 spl AV.cells AV.cellOk AV.cell AV.there Value.oneCell' q1o q53 mapO frz DV.isLit DV.flat cval cok Res resV ARes.val ARes.ok hget_nil q14 q2c q83 appV qri qgn qbq q5p stH stOk hc ownOf lenOf iniOk qs1 qw7 idxH q6o keyV qq3 qy9 qjw mlenV qvf qq2 qy0 eqsV eqsOk qbk z5j qsg qqa kdOk
end Go.Proofs.YtgadlpdbkohlbaaGreat
/- The evaluator with what is still to come avs data: one rule for each piece of code; calls; loops. -/
namespace Go.Proofs.YtgadlpdbkohlbaaGreat
open Go.RowKit
inductive Kt where
 | code (c : ACode)
 | blk (id : Nat)
mutual
def G (P : Program) : List Kt → (AX → T → Heap → Nat → Prop) → T → Heap → Nat → Prop
 | [], Q, e, H, nx => Q .normal e H nx
 | .blk _ :: ks, Q, e, H, nx => G P ks Q e H nx
 | .code c :: ks, Q, e, H, nx => awp P c (fun x e H nx => match x with | .normal => G P ks Q e H nx | .exit id => Gx P id ks Q e H nx | .ret => Q .ret e H nx) e H nx
def Gx (P : Program) (id : Nat) : List Kt → (AX → T → Heap → Nat → Prop) → T → Heap → Nat → Prop
 | [], Q, e, H, nx => Q (.exit id) e H nx
 | .blk j :: ks, Q, e, H, nx => if id = j then G P ks Q e H nx else Gx P id ks Q e H nx
 | .code _ :: ks, Q, e, H, nx => Gx P id ks Q e H nx
end
def GO (P : Program) (nx n i : Nat) (os : List AOper) (ks : List Kt) (Q : AX → T → Heap → Nat → Prop) (e : T) (H : Heap) : Prop := q2h P nx i os (fun e H => G P ks Q e H n) e H
def z1i (P : Program) (nx n i : Nat) (d : Option Slot) (g : Option (Slot × Bool)) (lo : Option (Nat × List Slot)) (c : Bool) (f : Opd) (args : List Opd) (os : List AOper) (ks : List Kt) (Q : AX → T → Heap → Nat → Prop) (e : T) (H : Heap) : Prop :=
 GO P nx n i (⟨d, g, .call c f args, lo⟩ :: os) ks Q e H
def qzm (P : Program) (nx n i : Nat) (d : Option Slot) (g : Option (Slot × Bool)) (lo : Option (Nat × List Slot)) (te : TypeId) (m : Nat) (f : Opd) (args : List Opd) (os : List AOper) (ks : List Kt) (Q : AX → T → Heap → Nat → Prop) (e : T) (H : Heap) : Prop :=
 GO P nx n i (⟨d, g, .callo te m f args, lo⟩ :: os) ks Q e H
def qzn (P : Program) (nx n i : Nat) (d : Option Slot) (g : Option (Slot × Bool)) (lo : Option (Nat × List Slot)) (te : TypeId) (m : Nat) (f : Opd) (args : List Opd) (os : List AOper) (ks : List Kt) (Q : AX → T → Heap → Nat → Prop) (e : T) (H : Heap) : Prop :=
 GO P nx n i (⟨d, g, .callv te m f args, lo⟩ :: os) ks Q e H
def z47 (P : Program) (nx n i : Nat) (d : Option Slot) (g : Option (Slot × Bool)) (lo : Option (Nat × List Slot)) (f : Opd) (args : List Opd) (os : List AOper) (ks : List Kt) (Q : AX → T → Heap → Nat → Prop) (e : T) (H : Heap) : Prop :=
 GO P nx n i (⟨d, g, .calle f args, lo⟩ :: os) ks Q e H
def z48 (P : Program) (nx n i : Nat) (d : Option Slot) (g : Option (Slot × Bool)) (lo : Option (Nat × List Slot)) (k : Nat) (f : Opd) (args : List Opd) (os : List AOper) (ks : List Kt) (Q : AX → T → Heap → Nat → Prop) (e : T) (H : Heap) : Prop :=
 GO P nx n i (⟨d, g, .callk k f args, lo⟩ :: os) ks Q e H
def CallmK (P : Program) (nx n i : Nat) (d : Option Slot) (g : Option (Slot × Bool)) (lo : Option (Nat × List Slot)) (kd : KD) (f : Opd) (args : List Opd) (os : List AOper) (ks : List Kt) (Q : AX → T → Heap → Nat → Prop) (e : T) (H : Heap) : Prop :=
 GO P nx n i (⟨d, g, .callm kd f args, lo⟩ :: os) ks Q e H
def z4d (P : Program) (b : ACode) (ks : List Kt) (Q : AX → T → Heap → Nat → Prop) (e : T) (H : Heap) (nx : Nat) : Prop := G P (.code (.loop b) :: ks) Q e H nx
def RngK (P : Program) (g : Opd) (ps : List Slot) (asn body : ACode) (ks : List Kt) (Q : AX → T → Heap → Nat → Prop) (e : T) (H : Heap) (nx : Nat) : Prop := G P (.code (.rng g ps asn body) :: ks) Q e H nx
section
variable {P : Program} {Q : AX → T → Heap → Nat → Prop} {e : T} {H : Heap} {nx n i : Nat} {ks : List Kt}
theorem q41 (c : ACode) (h : G P [.code c] Q e H nx) : awp P c Q e H nx := by
 simp only [G, Gx] at h
 have e1 : (fun (x : AX) (e : T) (H : Heap) (nx : Nat) => (match x with | .normal => Q .normal e H nx | .exit id => Q (.exit id) e H nx | .ret => Q .ret e H nx : Prop)) = Q := by
  funext x e H nx
  cases x <;> rfl
 rw [e1] at h
 exact h
theorem G_nil : G P [] Q e H nx = Q .normal e H nx := by simp only [G]
theorem G_blk {id : Nat} : G P (.blk id :: ks) Q e H nx = G P ks Q e H nx := by simp only [G]
theorem G_skip : G P (.code .skip :: ks) Q e H nx = G P ks Q e H nx := by simp only [G, awp]
theorem G_ret : G P (.code .ret :: ks) Q e H nx = Q .ret e H nx := by simp only [G, awp]
theorem G_frz {p : Slot} : G P (.code (.frz p) :: ks) Q e H nx = G P ks Q (frz1 p e H).1 (frz1 p e H).2 nx := by simp only [G, awp]
theorem G_exit {id : Nat} : G P (.code (.exit id) :: ks) Q e H nx = Gx P id ks Q e H nx := by simp only [G, awp]
theorem G_seq {a b : ACode} : G P (.code (.seq a b) :: ks) Q e H nx = G P (.code a :: .code b :: ks) Q e H nx := by
 simp only [G, awp]
 congr 1
 funext x e H nx
 cases x <;> simp only [Gx]
theorem G_block {id : Nat} {b : ACode} : G P (.code (.block id b) :: ks) Q e H nx = G P (.code b :: .blk id :: ks) Q e H nx := by
 simp only [G, awp]
 congr 1
 funext x e H nx
 cases x with
 | exit j => simp only [Gx]
 | _ => rfl
theorem G_cond {c : Opd} {t f : ACode} : G P (.code (.cond c t f) :: ks) Q e H nx = (cok e c ∧ (cval e c = true → G P (.code t :: ks) Q e H nx) ∧ (cval e c = false → G P (.code f :: ks) Q e H nx)) := by
 simp only [G, awp]
theorem G_reg {os : List AOper} : G P (.code (.reg os) :: ks) Q e H nx = (nx + os.length ≤ 500000 ∧ GO P nx (nx + os.length) 0 os ks Q e H) := by
 simp only [G, awp, GO]
theorem G_loop {b : ACode} : G P (.code (.loop b) :: ks) Q e H nx = z4d P b ks Q e H nx := rfl
theorem G_rng {g : Opd} {ps : List Slot} {asn body : ACode} : G P (.code (.rng g ps asn body) :: ks) Q e H nx = RngK P g ps asn body ks Q e H nx := rfl
theorem Gx_nil {id : Nat} : Gx P id [] Q e H nx = Q (.exit id) e H nx := by simp only [Gx]
theorem Gx_blk {id j : Nat} : Gx P id (.blk j :: ks) Q e H nx = if id = j then G P ks Q e H nx else Gx P id ks Q e H nx := by simp only [Gx]
theorem Gx_code {id : Nat} {c : ACode} : Gx P id (.code c :: ks) Q e H nx = Gx P id ks Q e H nx := by simp only [Gx]
theorem GO_nil : GO P nx n i [] ks Q e H = G P ks Q e H n := by simp only [GO, q2h]
theorem GO_call {d : Option Slot} {g : Option (Slot × Bool)} {lo : Option (Nat × List Slot)} {c : Bool} {f : Opd} {args : List Opd} {os : List AOper} : GO P nx n i (⟨d, g, .call c f args, lo⟩ :: os) ks Q e H = z1i P nx n i d g lo c f args os ks Q e H := rfl
theorem GO_callo {d : Option Slot} {g : Option (Slot × Bool)} {lo : Option (Nat × List Slot)} {te : TypeId} {m : Nat} {f : Opd} {args : List Opd} {os : List AOper} : GO P nx n i (⟨d, g, .callo te m f args, lo⟩ :: os) ks Q e H = qzm P nx n i d g lo te m f args os ks Q e H := rfl
theorem GO_callv {d : Option Slot} {g : Option (Slot × Bool)} {lo : Option (Nat × List Slot)} {te : TypeId} {m : Nat} {f : Opd} {args : List Opd} {os : List AOper} : GO P nx n i (⟨d, g, .callv te m f args, lo⟩ :: os) ks Q e H = qzn P nx n i d g lo te m f args os ks Q e H := rfl
theorem GO_calle {d : Option Slot} {g : Option (Slot × Bool)} {lo : Option (Nat × List Slot)} {f : Opd} {args : List Opd} {os : List AOper} : GO P nx n i (⟨d, g, .calle f args, lo⟩ :: os) ks Q e H = z47 P nx n i d g lo f args os ks Q e H := rfl
theorem GO_callk {d : Option Slot} {g : Option (Slot × Bool)} {lo : Option (Nat × List Slot)} {k : Nat} {f : Opd} {args : List Opd} {os : List AOper} : GO P nx n i (⟨d, g, .callk k f args, lo⟩ :: os) ks Q e H = z48 P nx n i d g lo k f args os ks Q e H := rfl
theorem GO_callm {d : Option Slot} {g : Option (Slot × Bool)} {lo : Option (Nat × List Slot)} {kd : KD} {f : Opd} {args : List Opd} {os : List AOper} : GO P nx n i (⟨d, g, .callm kd f args, lo⟩ :: os) ks Q e H = CallmK P nx n i d g lo kd f args os ks Q e H := rfl
variable {d : Option Slot} {g : Option (Slot × Bool)} {lo : Option (Nat × List Slot)} {os : List AOper}
theorem GO_mv {x : Opd} : GO P nx n i (⟨d, g, .mv x, lo⟩ :: os) ks Q e H = (gok e g ∧ (gval e g = true → (x.av e).live) ∧ GO P nx n (i + 1) os ks Q (setD e d (wrap e g (x.av e).strip)) H) := by
 simp only [GO, q2h, okS, stp, AOp.ok, AOp.val, and_assoc]
theorem GO_val {op : AOp} (h : (match op with | .call _ _ _ | .callo _ _ _ _ | .callv _ _ _ _ | .calle _ _ | .callk _ _ _ | .callm _ _ _ | .boxo _ _ _ | .new _ | .nrow _ _ | .st _ _ _ | .appo _ _ _ _ _ _ | .vapp _ _ _ _ _ | .vop _ _ _ _ _ _ | .ini _ _ _ _ | .mmk _ | .mset _ _ _ _ _ | .bad => false | _ => true) = true) :
  GO P nx n i (⟨d, g, op, lo⟩ :: os) ks Q e H = (gok e g ∧ (gval e g = true → op.ok e (lowH lo e (nx + i) H)) ∧ GO P nx n (i + 1) os ks Q (setD e d (wrap e g (op.val e (lowH lo e (nx + i) H)))) H) := by
 cases op <;> first
  | (simp at h; done)
  | simp only [GO, q2h, okS, stp, and_assoc, AOper.hv]
theorem GO_obj {op : AOp} (h : (match op with | .boxo _ _ _ | .new _ | .nrow _ _ | .st _ _ _ | .appo _ _ _ _ _ _ | .vapp _ _ _ _ _ | .vop _ _ _ _ _ _ | .ini _ _ _ _ | .mmk _ | .mset _ _ _ _ _ | .bad => true | _ => false) = true) :
  GO P nx n i (⟨d, g, op, lo⟩ :: os) ks Q e H = (okS P (.d .top) (nx + i) ⟨d, g, op, lo⟩ e H ∧ GO P nx n (i + 1) os ks Q (stp (.d .top) (nx + i) ⟨d, g, op, lo⟩ e H).1 (stp (.d .top) (nx + i) ⟨d, g, op, lo⟩ e H).2) := by
 cases op <;> first
  | (simp at h; done)
  | simp only [GO, q2h]
def qkh (p : Bool) (e : T) (H : Heap) (f : Opd) (args : List Opd) : Option (FuncId × List DV) :=
  match q53 (f.av e).strip (args.map fun x => (x.av e).strip) with
  | some (F, avs) => match mapO (frz p H 5) avs with
    | some ds => some (F, ds)
    | none => none
  | none => none
theorem q4 {c : Bool} {f : Opd} {args : List Opd} {F : FuncId} {ds : List DV} (r : DV) (hg : gok e g) (hl : gval e g = true → q1o e (f :: args)) (hd : gval e g = true → qkh false e (hc c (lowH lo e (nx + i) H)) f args = some (F, ds)) (hF : gval e g = true → APure P F ds r)
  (h : GO P nx n (i + 1) os ks Q (setD e d (wrap e g (.d r))) H) : z1i P nx n i d g lo c f args os ks Q e H := by
 unfold z1i GO
 unfold q2h
 refine ⟨r, ⟨hg, fun hgv => ⟨hl hgv, ?_⟩⟩, h⟩
 have hd := hd hgv
 unfold qkh at hd
 split at hd
 ·rename_i F' avs hca
  split at hd
  ·rename_i ds' hds
   injection hd with hd
   injection hd with h1 h2
   subst h1; subst h2
   exact ⟨_, avs, ds', hca, .inl hds, hF hgv⟩
  ·cases hd
 ·cases hd
theorem qu9 {c : Bool} {f : Opd} {args : List Opd} {F : FuncId} {ds : List DV} (r : DV) (hr : r.flat = true) (hg : gok e g) (hl : gval e g = true → q1o e (f :: args)) (hd : gval e g = true → qkh true e (hc c (lowH lo e (nx + i) H)) f args = some (F, ds)) (hF : gval e g = true → APure P F ds r)
  (h : GO P nx n (i + 1) os ks Q (setD e d (wrap e g (.d r))) H) : z1i P nx n i d g lo c f args os ks Q e H := by
 unfold z1i GO
 unfold q2h
 refine ⟨r, ⟨hg, fun hgv => ⟨hl hgv, ?_⟩⟩, h⟩
 have hd := hd hgv
 unfold qkh at hd
 split at hd
 ·rename_i F' avs hca
  split at hd
  ·rename_i ds' hds
   injection hd with hd
   injection hd with h1 h2
   subst h1; subst h2
   exact ⟨_, avs, ds', hca, .inr ⟨hds, hr⟩, hF hgv⟩
  ·cases hd
 ·cases hd
def srcs : List (Nat × Src) → Nat → Src
 | [], j => if 1000000 ≤ j then .id j else .none
 | (i, s) :: l, j => if j = i then s else srcs l j
theorem qwe {l : List (Nat × Src)} {n : Nat} (h : l.all (fun p => decide (p.1 < n)) = true) (h2 : l.all (fun p => decide (p.1 < 1000000)) = true) : z4l (srcs l) n = True := by
  apply eq_true
  induction l with
  | nil =>
    refine ⟨fun i hi hi2 => ?_, fun i hi => ?_⟩
    · simp only [srcs]; rw [if_neg (by omega)]
    · simp only [srcs]; rw [if_pos hi]
  | cons p l ih =>
    obtain ⟨j, s⟩ := p
    simp at h h2
    obtain ⟨h3, h4⟩ := ih (by simp; exact fun a b hb => h.2 a b hb) (by simp; exact fun a b hb => h2.2 a b hb)
    refine ⟨fun i hi hi2 => ?_, fun i hi => ?_⟩
    · simp only [srcs]
      rw [if_neg (by omega)]
      exact h3 i hi hi2
    · simp only [srcs]
      rw [if_neg (by omega)]
      exact h4 i hi
theorem z34 {n : Nat} : z4l (srcs []) n = True := qwe (by simp) (by simp)
def srcNe : Src → Src → Prop
 | .id j, .id k => j ≠ k
 | _, _ => True
def qp0 (g : Nat → Src) (i : Nat) : List (Nat × AObj) → Prop
 | [] => True
 | (j, _) :: r => (i = j ∨ srcNe (g i) (g j)) ∧ qp0 g i r
theorem qp1 {g : Nat → Src} {i : Nat} : ∀ {r : List (Nat × AObj)}, qp0 g i r ↔ ∀ j o, (j, o) ∈ r → i ≠ j → ∀ k, g i = .id k → g j ≠ .id k
  | [] => by simp [qp0]
  | (j, o) :: r => by
    simp only [qp0, qp1 (r := r), List.mem_cons]
    constructor
    · rintro ⟨h1, h2⟩ j' o' (h3 | h3) hne k hk
      · injection h3 with h3 h4
        subst h3
        rcases h1 with h1 | h1
        · exact absurd h1 hne
        · intro hk'
          rw [hk, hk'] at h1
          exact h1 rfl
      · exact h2 j' o' h3 hne k hk
    · intro h
      refine ⟨?_, fun j' o' h' => h j' o' (.inr h')⟩
      by_cases hne : i = j
      · exact .inl hne
      · right
        have := h j o (.inl rfl) hne
        revert this
        cases g i <;> cases g j <;> simp [srcNe]
        intro h e
        exact h e.symm
theorem qst {g : Nat → Src} {i : Nat} {o : AObj} {r : List (Nat × AObj)} : srcApart g ((i, o) :: r) = (qp0 g i r ∧ srcApart g r) := by
 rw [qp1]; rfl
theorem qwd {g : Nat → Src} : srcApart g [] = True := rfl
def DLes : List DV → List DV → Prop
 | [], [] => True
 | a :: l, b :: r => DLe a b ∧ DLes l r
 | _, _ => False
theorem DLes.arg {F : FuncId} {r : DV} : ∀ {as' bs' : List DV}, DLes as' bs' → as'.length = bs'.length ∧ ∀ i (h : i < as'.length) (h' : i < bs'.length), DLe as'[i] bs'[i]
  | [], [], _ => ⟨rfl, fun i h => by simp at h⟩
  | a :: l, b :: r', h => by
    obtain ⟨h1, h2⟩ := DLes.arg (F := F) (r := r) h.2
    refine ⟨by simp [h1], fun i hi hi' => ?_⟩
    cases i with
    | zero => exact h.1
    | succ i => exact h2 i (by simpa using hi) (by simpa using hi')
  | [], _ :: _, h => h.elim
  | _ :: _, [], h => h.elim
theorem q81 {c : Bool} {f : Opd} {args : List Opd} {F : FuncId} {ds ds' : List DV} {r : DV} (hF : APure P F ds' r) (hg : gok e g) (hl : gval e g = true → q1o e (f :: args)) (hd : gval e g = true → qkh false e (hc c (lowH lo e (nx + i) H)) f args = some (F, ds)) (hle : gval e g = true → DLes ds ds')
  (h : GO P nx n (i + 1) os ks Q (setD e d (wrap e g (.d r))) H) : z1i P nx n i d g lo c f args os ks Q e H :=
 q4 r hg hl hd (fun hv => have h1 := DLes.arg (F := F) (r := r) (hle hv); hF.arg h1.1 h1.2) h
theorem AOwn.arg {F : FuncId} {as' bs' : List DV} {te : TypeId} {m len : Nat} {row : Nat → List DV} (h : AOwn P F bs' te m len row) (hle : DLes as' bs') : AOwn P F as' te m len row := by
 obtain ⟨hl, hle⟩ := DLes.arg (F := F) (r := .top) hle
 refine ⟨h.1, fun X w vs hX hvs => ?_⟩
 exact h.2 X w vs hX ⟨hvs.1.trans hl, fun i hi hi' => hle i (by have := hvs.1; omega) hi' _ _ _ (hvs.2 i hi (by have := hvs.1; omega))⟩
theorem AOwn.rows {F : FuncId} {as' : List DV} {te : TypeId} {m len len' : Nat} {row row' : Nat → List DV} (h : AOwn P F as' te m len row) (hl : len = len') (hr : ∀ i, i < len → row i = row' i) : AOwn P F as' te m len' row' := by
 subst hl
 refine ⟨h.1, fun X w vs hX hvs => (h.2 X w vs hX hvs).mono ?_⟩
 rintro e w' ⟨hx, v, he, xs, hown, hxs⟩
 exact ⟨hx, v, he, xs, hown, fun i hi => ⟨(hxs i hi).1, by rw [← hr i hi]; exact (hxs i hi).2⟩⟩
theorem qro {te : TypeId} {m : Nat} {f : Opd} {args : List Opd} {F : FuncId} {ds : List DV} (len : Nat) (row : Nat → List DV) (hg : g = none) (hl : q1o e (f :: args)) (hd : qkh false e H f args = some (F, ds)) (hF : AOwn P F ds te m len row)
  (h : GO P nx n (i + 1) os ks Q (setD e d (.own (nx + i) len)) (hadd (nx + i) (.row te m len row) H)) : qzm P nx n i d g lo te m f args os ks Q e H := by
 unfold qzm GO
 unfold q2h
 unfold qkh at hd
 split at hd
 ·rename_i F' avs hca
  split at hd
  ·rename_i ds' hds
   injection hd with hd
   injection hd with h1 h2
   subst h1; subst h2
   exact ⟨.sl m len row, ⟨hg, hl, _, avs, ds', len, row, hca, .inl hds, rfl, hF⟩, h⟩
  ·cases hd
 ·cases hd
theorem AOwn.toV {F : FuncId} {ds : List DV} {te : TypeId} {m len : Nat} {row : Nat → List DV} (hF : AOwn P F ds te m len row) (hflat : ∀ i, i < len → (row i).all DV.isLit = true) : AOwnV P F ds te m len row :=
 ⟨hF.1, fun X w vs hX hvs => (hF.2 X w vs hX hvs).mono fun e' w' ⟨hx, v, he, xs, h1, h2⟩ => ⟨hx, v, he, xs, h1, fun i hi => ⟨(h2 i hi).1, (h2 i hi).2.1, fun j hj hj' => by
  have h3 := (h2 i hi).2.2 j hj hj'
  have h4 := List.all_eq_true.1 (hflat i hi) _ (List.getElem_mem hj')
  generalize (row i)[j] = d at h3 h4
  generalize (xs i)[j] = u at h3
  cases d with
  | lit u => cases h3; exact .lit u
  | _ => cases h4⟩⟩⟩
theorem qh1 {te : TypeId} {m : Nat} {f : Opd} {args : List Opd} {F : FuncId} {ds : List DV} (len : Nat) (row : Nat → List DV) (hg : g = none) (hl : q1o e (f :: args)) (hd : qkh false e H f args = some (F, ds)) (hF : AOwnV P F ds te m len row)
  (h : GO P nx n (i + 1) os ks Q (setD e d (.own (nx + i) len)) (hadd (nx + i) (.vec te m len fun i => (row i).map .d) H)) : qzn P nx n i d g lo te m f args os ks Q e H := by
 unfold qzn GO
 unfold q2h
 unfold qkh at hd
 split at hd
 ·rename_i F' avs hca
  split at hd
  ·rename_i ds' hds
   injection hd with hd
   injection hd with h1 h2
   subst h1; subst h2
   exact ⟨.sl m len row, ⟨hg, hl, _, avs, ds', len, row, hca, .inl hds, rfl, hF⟩, h⟩
  ·cases hd
 ·cases hd
theorem callv_k {te : TypeId} {m : Nat} {f : Opd} {args : List Opd} {F : FuncId} {ds : List DV} (len : Nat) (row : Nat → List DV) (hg : g = none) (hl : q1o e (f :: args)) (hd : qkh false e H f args = some (F, ds)) (hF : AOwn P F ds te m len row) (hflat : ∀ i, i < len → (row i).all DV.isLit = true)
  (h : GO P nx n (i + 1) os ks Q (setD e d (.own (nx + i) len)) (hadd (nx + i) (.vec te m len fun i => (row i).map .d) H)) : qzn P nx n i d g lo te m f args os ks Q e H :=
 qh1 len row hg hl hd (hF.toV hflat) h
theorem qm1 {te : TypeId} {m : Nat} {f : Opd} {args : List Opd} {F : FuncId} {ds ds' : List DV} {len : Nat} {row : Nat → List DV} (hF : AOwn P F ds' te m len row) (hg : g = none) (hl : q1o e (f :: args)) (hd : qkh false e H f args = some (F, ds)) (hle : DLes ds ds')
  (h : GO P nx n (i + 1) os ks Q (setD e d (.own (nx + i) len)) (hadd (nx + i) (.row te m len row) H)) : qzm P nx n i d g lo te m f args os ks Q e H :=
 qro len row hg hl hd (hF.arg hle) h
def tau2 (id : Nat) (τ : Nat → Nat) : Nat → Nat := fun i => if i = 999998 then id + 500000 else τ i
theorem q43 {f : Opd} {args : List Opd} {F : FuncId} {as1 : List AV} {L : List (Nat × AObj)} {x : DV} {L' : List (Nat × AObj)} (hF : AEff P F as1 L x L') (τ : Nat → Nat) (hτ : τ 999999 = nx + i) (avs : List AV) (hg : g = none) (hl : q1o e (f :: args)) (hd : q53 (f.av e).strip (args.map fun x => (x.av e).strip) = some (F, avs))
  (ha : cellsLe noR (gOf (tau2 (nx + i) τ) L) avs as1) (hL : HLe noR (gOf (tau2 (nx + i) τ) L) H L) (hap : srcApart (gOf (tau2 (nx + i) τ) L) L) (hids : q2x L L')
  (h : GO P nx n (i + 1) os ks Q (setD e d (.d x)) (hput (tau2 (nx + i) τ) L L' H)) : z47 P nx n i d g lo f args os ks Q e H := by
 unfold z47 GO
 unfold q2h
 exact ⟨.ef x (tau2 (nx + i) τ) L L', ⟨hg, hl, ⟨by simpa [tau2] using hτ, by simp [tau2]⟩, ⟨F, avs, as1, hd, ha, hF⟩, hL, hap, hids⟩, h⟩
theorem z52 {kk : Nat} {f : Opd} {args : List Opd} {F : FuncId} {as1 : List AV} {L : List (Nat × AObj)} {x : DV} {L' : List (Nat × AObj)} (hF : AEff P F as1 L x L') (τ : Nat → Nat) (hτ : τ 999999 = nx + i) (avs : List AV) (hg : g = none) (hl : q1o e (f :: args)) (hd : q53 (f.av e).strip (args.map fun x => (x.av e).strip) = some (F, avs))
  (ha : cellsLe noR (gOf (tau2 (nx + i) τ) L) avs as1) (hL : HLe noR (gOf (tau2 (nx + i) τ) L) H L) (hap : srcApart (gOf (tau2 (nx + i) τ) L) L) (hids : q2x L L') (hkeep : hget (hput (tau2 (nx + i) τ) L L' H) kk = hget H kk)
  (h : GO P nx n (i + 1) os ks Q (setD e d (.d x)) (hput (tau2 (nx + i) τ) L L' H)) : z48 P nx n i d g lo kk f args os ks Q e H := by
 unfold z48 GO
 unfold q2h
 have hEK : effK kk (.ef x (tau2 (nx + i) τ) L L') H = hput (tau2 (nx + i) τ) L L' H := by
  funext q
  unfold effK
  split
  ·rename_i e
   subst e
   exact hkeep.symm
  ·rfl
 exact ⟨.ef x (tau2 (nx + i) τ) L L', ⟨hg, ⟨hl, ⟨by simpa [tau2] using hτ, by simp [tau2]⟩, ⟨F, avs, as1, hd, ha, hF⟩, hL, hap, hids⟩, hkeep⟩, by unfold GO at h; simpa only [stp, hEK, Rz.x] using h⟩
theorem qtu {c : ACode} : ∀ {Q Q' : AX → T → Heap → Nat → Prop} {e : T} {H : Heap} {nx : Nat}, awp P c Q e H nx → (∀ x e H nx, Q x e H nx → Q' x e H nx) → awp P c Q' e H nx := by
  induction c with
  | skip => intro Q Q' e H nx h hq; exact hq _ _ _ _ h
  | reg os => intro Q Q' e H nx h hq; exact ⟨h.1, qx9 (fun e H h => hq _ _ _ _ h) h.2⟩
  | seq a b iha ihb =>
    intro Q Q' e H nx h hq
    refine iha h ?_
    intro x e H nx h
    cases x with
    | normal => exact ihb h hq
    | _ => exact hq _ _ _ _ h
  | cond c t f iht ihf => intro Q Q' e H nx h hq; exact ⟨h.1, fun hc => iht (h.2.1 hc) hq, fun hc => ihf (h.2.2 hc) hq⟩
  | block id b ih =>
    intro Q Q' e H nx h hq
    refine ih h ?_
    intro x e H nx h
    cases x with
    | exit j =>
      simp only at h ⊢
      split
      · rename_i hj; rw [if_pos hj] at h; exact hq _ _ _ _ h
      · rename_i hj; rw [if_neg hj] at h; exact hq _ _ _ _ h
    | _ => exact hq _ _ _ _ h
  | loop b ih =>
    intro Q Q' e H nx h hq
    obtain ⟨I, h0, hb⟩ := h
    refine ⟨I, h0, fun n e L nx hI => ih (hb n e L nx hI) ?_⟩
    intro x e H nx h
    cases x with
    | normal => exact h
    | _ => exact hq _ _ _ _ h
  | exit => intro Q Q' e H nx h hq; exact hq _ _ _ _ h
  | ret => intro Q Q' e H nx h hq; exact hq _ _ _ _ h
  | frz => intro Q Q' e H nx h hq; exact hq _ _ _ _ h
  | rng g ps asn body iha ihb =>
    intro Q Q' e H nx h hq
    obtain ⟨hl, F, caps, xs, e1, pins, I, h1, h2, h3, h4, h5, h6, h7⟩ := h
    refine ⟨hl, F, caps, xs, e1, pins, I, h1, h2, h3, h4, h5, fun k hk L nx hI => iha (h6 k hk L nx hI) ?_, fun L nx hI => hq _ _ _ _ (h7 L nx hI)⟩
    intro x e H nx h
    cases x with
    | normal =>
      refine ihb h ?_
      intro x e H nx h
      cases x with
      | normal => exact h
      | _ => exact hq _ _ _ _ h
    | _ => exact h
  | bad => intro Q Q' e H nx h hq; exact h
def setL (e : T) : List (Slot × AV) → T
 | [] => e
 | (p, x) :: l => setL (e.set p x) l
def T.clean : T → T
 | .leaf (.whn _ _) => .leaf (.d .top)
 | .leaf (.own _ _) => .leaf (.d .top)
 | .leaf x => .leaf x
 | .node a b => .node a.clean b.clean
def z4e (P : Program) (ks : List Kt) (Q : AX → T → Heap → Nat → Prop) {κ : Type} (inv : κ → Prop) (μ : κ → Nat) (S : κ → List (Slot × AV)) (L : κ → List (Nat × AObj)) (nx' : Nat) (e0 : T) (k : κ) : AX → T → Heap → Nat → Prop :=
 fun x e' H' nx1 => match x with | .normal => ∃ k' g, inv k' ∧ μ k' < μ k ∧ SLe g e' H' (setL e0 (S k')) (L k') nx' | .exit id => Gx P id ks Q e' H' nx1 | .ret => Q .ret e' H' nx1
theorem qtn {κ : Type} {inv : κ → Prop} {μ : κ → Nat} {S : κ → List (Slot × AV)} {L : κ → List (Nat × AObj)} {nx' : Nat} {e0 : T} {k : κ} {e' : T} {H' : Heap} {nx1 : Nat} :
  z4e P ks Q inv μ S L nx' e0 k .normal e' H' nx1 = ∃ k' g, inv k' ∧ μ k' < μ k ∧ SLe g e' H' (setL e0 (S k')) (L k') nx' := rfl
theorem z1j {κ : Type} {inv : κ → Prop} {μ : κ → Nat} {S : κ → List (Slot × AV)} {L : κ → List (Nat × AObj)} {nx' : Nat} {e0 : T} {k : κ} {e' : T} {H' : Heap} {nx1 id : Nat} :
  z4e P ks Q inv μ S L nx' e0 k (.exit id) e' H' nx1 = Gx P id ks Q e' H' nx1 := rfl
theorem z4f {κ : Type} {inv : κ → Prop} {μ : κ → Nat} {S : κ → List (Slot × AV)} {L : κ → List (Nat × AObj)} {nx' : Nat} {e0 : T} {k : κ} {e' : T} {H' : Heap} {nx1 : Nat} :
  z4e P ks Q inv μ S L nx' e0 k .ret e' H' nx1 = Q .ret e' H' nx1 := rfl
theorem qel {b : ACode} {κ : Type} (inv : κ → Prop) (μ : κ → Nat) (S : κ → List (Slot × AV)) (L : κ → List (Nat × AObj)) (nx' : Nat) (k0 : κ) (g0 : Nat → Src)
  (h0 : inv k0) (hs : SLe g0 e H (setL e.clean (S k0)) (L k0) nx')
  (hb : ∀ k, inv k → G P [.code b] (z4e P ks Q inv μ S L nx' e.clean k) (setL e.clean (S k)) (hof (L k)) nx') : z4d P b ks Q e H nx := by
 unfold z4d
 simp only [G]
 refine qzr inv μ (fun k => setL e.clean (S k)) L nx' k0 g0 h0 hs (fun k hk => ?_)
 have h := q41 _ (hb k hk)
 have e1 : z4e P ks Q inv μ S L nx' e.clean k =
   (fun x e' H' nx1 => match x with
    | .normal => ∃ k' g, inv k' ∧ μ k' < μ k ∧ SLe g e' H' (setL e.clean (S k')) (L k') nx'
    | x => (match x with | .normal => G P ks Q e' H' nx1 | .exit id => Gx P id ks Q e' H' nx1 | .ret => Q .ret e' H' nx1)) := by
  funext x e' H' nx1
  cases x <;> rfl
 rw [e1] at h
 exact h
def SLeK (g : Nat → Src) (e' : T) (H' : Heap) (e0 : T) {κ : Type} (S : κ → List (Slot × AV)) (L : κ → List (Nat × AObj)) (nx' : Nat) (k' : κ) : Prop := SLe g e' H' (setL e0 (S k')) (L k') nx'
def z4g (P : Program) (ks : List Kt) (Q : AX → T → Heap → Nat → Prop) {κ : Type} (inv : κ → Prop) (μ : κ → Nat) (S : κ → List (Slot × AV)) (L : κ → List (Nat × AObj)) (nx' : Nat) (e0 : T) (k : κ) : AX → T → Heap → Nat → Prop :=
 fun x e' H' nx1 => match x with | .normal => ∃ k' g, inv k' ∧ μ k' < μ k ∧ SLeK g e' H' e0 S L nx' k' | .exit id => Gx P id ks Q e' H' nx1 | .ret => Q .ret e' H' nx1
theorem qto {κ : Type} {inv : κ → Prop} {μ : κ → Nat} {S : κ → List (Slot × AV)} {L : κ → List (Nat × AObj)} {nx' : Nat} {e0 : T} {k : κ} {e' : T} {H' : Heap} {nx1 : Nat} :
  z4g P ks Q inv μ S L nx' e0 k .normal e' H' nx1 = ∃ k' g, inv k' ∧ μ k' < μ k ∧ SLeK g e' H' e0 S L nx' k' := rfl
theorem z1k {κ : Type} {inv : κ → Prop} {μ : κ → Nat} {S : κ → List (Slot × AV)} {L : κ → List (Nat × AObj)} {nx' : Nat} {e0 : T} {k : κ} {e' : T} {H' : Heap} {nx1 id : Nat} :
  z4g P ks Q inv μ S L nx' e0 k (.exit id) e' H' nx1 = Gx P id ks Q e' H' nx1 := rfl
theorem z4h {κ : Type} {inv : κ → Prop} {μ : κ → Nat} {S : κ → List (Slot × AV)} {L : κ → List (Nat × AObj)} {nx' : Nat} {e0 : T} {k : κ} {e' : T} {H' : Heap} {nx1 : Nat} :
  z4g P ks Q inv μ S L nx' e0 k .ret e' H' nx1 = Q .ret e' H' nx1 := rfl
theorem qe {b : ACode} {κ : Type} (inv : κ → Prop) (μ : κ → Nat) (S : κ → List (Slot × AV)) (L : κ → List (Nat × AObj)) (nx' : Nat) (k0 : κ) (g0 : Nat → Src)
  (h0 : inv k0) (hs : SLe g0 e H (setL e.clean (S k0)) (L k0) nx')
  (hb : ∀ k, inv k → G P [.code b] (z4g P ks Q inv μ S L nx' e.clean k) (setL e.clean (S k)) (hof (L k)) nx') : z4d P b ks Q e H nx := by
 unfold z4d
 simp only [G]
 refine qzr inv μ (fun k => setL e.clean (S k)) L nx' k0 g0 h0 hs (fun k hk => ?_)
 have h := q41 _ (hb k hk)
 have e1 : z4g P ks Q inv μ S L nx' e.clean k =
   (fun x e' H' nx1 => match x with
    | .normal => ∃ k' g, inv k' ∧ μ k' < μ k ∧ SLeK g e' H' e.clean S L nx' k'
    | x => (match x with | .normal => G P ks Q e' H' nx1 | .exit id => Gx P id ks Q e' H' nx1 | .ret => Q .ret e' H' nx1)) := by
  funext x e' H' nx1
  cases x <;> rfl
 rw [e1] at h
 exact h
def T.bare : T → T
 | .leaf (.d x) => .leaf (.d x)
 | .leaf (.ptr id o) => .leaf (.ptr id o)
 | .leaf (.mp id) => .leaf (.mp id)
 | .leaf _ => .leaf (.d .top)
 | .node a b => .node a.bare b.bare
def RngE (g : Nat → Src) (e1 : T) (H' : Heap) (L : List (Nat × AObj)) (nx' : Nat) : Prop := SLe g e1 H' e1 L nx'
def RngQ (P : Program) (ks : List Kt) (Q : AX → T → Heap → Nat → Prop) {κ : Type} (inv : Nat → κ → Prop) (L : κ → List (Nat × AObj)) (nx' : Nat) (e1 : T) (k : Nat) : AX → T → Heap → Nat → Prop :=
 fun x _ H' nx1 => match x with | .normal => ∃ s' g, inv (k + 1) s' ∧ RngE g e1 H' (L s') nx' | .exit id => Gx P id ks Q e1 H' nx1 | .ret => Q .ret e1 H' nx1
theorem qx6 {κ : Type} {inv : Nat → κ → Prop} {L : κ → List (Nat × AObj)} {nx' : Nat} {e1 : T} {k : Nat} {e' : T} {H' : Heap} {nx1 : Nat} :
  RngQ P ks Q inv L nx' e1 k .normal e' H' nx1 = ∃ s' g, inv (k + 1) s' ∧ RngE g e1 H' (L s') nx' := rfl
theorem z4k {κ : Type} {inv : Nat → κ → Prop} {L : κ → List (Nat × AObj)} {nx' : Nat} {e1 : T} {k : Nat} {e' : T} {H' : Heap} {nx1 id : Nat} :
  RngQ P ks Q inv L nx' e1 k (.exit id) e' H' nx1 = Gx P id ks Q e1 H' nx1 := rfl
theorem RngQ_ret {κ : Type} {inv : Nat → κ → Prop} {L : κ → List (Nat × AObj)} {nx' : Nat} {e1 : T} {k : Nat} {e' : T} {H' : Heap} {nx1 : Nat} :
  RngQ P ks Q inv L nx' e1 k .ret e' H' nx1 = Q .ret e1 H' nx1 := rfl
def RngA (P : Program) (body : ACode) (Q : AX → T → Heap → Nat → Prop) : AX → T → Heap → Nat → Prop :=
 fun x e H nx => match x with | .normal => G P [.code body] Q e H nx | _ => False
theorem qx5 {body : ACode} : RngA P body Q .normal e H nx = G P [.code body] Q e H nx := rfl
theorem rng_s {gop : Opd} {ps : List Slot} {asn body : ACode} {F : FuncId} {caps : List DV} {xs : List (List DV)} (hseq : ASeq P F caps xs) {κ : Type} (inv : Nat → κ → Prop) (S : List (Slot × AV)) (L : κ → List (Nat × AObj)) (nx' : Nat) (pins : List Nat) (k0 : κ) (g0 : Nat → Src)
    (hl : (gop.av e).live) (hg : (gop.av e).strip = .d (.fn F caps)) (hpin : (setL e.bare S).pinned pins = true) (hlen : ∀ k (hk : k < xs.length), xs[k].length = ps.length) (h0 : inv 0 k0) (hs : SLe g0 e H (setL e.bare S) (L k0) nx')
    (hb : ∀ k (hk : k < xs.length) s, inv k s → G P [.code asn] (RngA P body (RngQ P ks Q inv L nx' (setL e.bare S) k)) (qwb (setL e.bare S) ps xs[k]) (hof (L s)) nx')
    (hd : ∀ s, inv xs.length s → G P ks Q (setL e.bare S) (hof (L s)) nx') : RngK P gop ps asn body ks Q e H nx := by
  unfold RngK
  simp only [G]
  refine ⟨hl, F, caps, xs, setL e.bare S, pins, fun k L' n' => ∃ s, inv k s ∧ L' = L s ∧ n' = nx', hg, hseq, hpin, hlen, ⟨g0, L k0, nx', ⟨k0, h0, rfl, rfl⟩, hs⟩, ?_, ?_⟩
  · rintro k hk L' n' ⟨s, hinv, rfl, rfl⟩
    have h := q41 _ (hb k hk s hinv)
    refine qtu h ?_
    intro x e' H' nx1 hq
    cases x with
    | normal =>
      refine qtu (q41 _ hq) ?_
      intro x e2 H2 nx2 hq
      cases x with
      | normal =>
        obtain ⟨s', g, h1, h2⟩ := hq
        exact ⟨g, L s', _, ⟨s', h1, rfl, rfl⟩, h2⟩
      | exit id => exact hq
      | ret => exact hq
    | _ => exact hq
  · rintro L' n' ⟨s, hinv, rfl, rfl⟩
    exact hd s hinv
end
theorem G_bad {P : Program} {Q : AX → T → Heap → Nat → Prop} {e : T} {H : Heap} {nx : Nat} {ks : List Kt} : G P (.code .bad :: ks) Q e H nx = False := by simp only [G, awp]
attribute [simp ↓] qwe z34
attribute [simp] qmm tau2 qxu hnot appG qjf qmz updR qkt z8c AV.dv qx6 z4k RngQ_ret qx5 G_rng T.bare qwb qto z1k z4h qtn z1j z4f srcNe qp0 qst qwd srcs DLes qtp T.clean frz1 z2m G_frz z64 hset_nil z5x hdel_nil lowH G_bad GO_callo GO_callv GO_calle GO_callk GO_callm mpOf Rz.x vecOf G_nil G_blk G_skip G_ret G_exit G_seq G_block G_cond G_reg G_loop Gx_nil Gx_blk Gx_code GO_nil GO_call GO_mv GO_val GO_obj setL qkh
def ResQ (rs : List ARes) (r : DV) : AX → T → Heap → Nat → Prop := fun x e H _ => Res rs r x e H
def OwnQV (rs : List ARes) (te : TypeId) (n len : Nat) (row : Nat → List DV) : AX → T → Heap → Nat → Prop := fun x e H _ => qlf rs te n len row x e H
theorem z4j {rs : List ARes} {te : TypeId} {n len : Nat} {row : Nat → List DV} {x : AX} {e : T} {H : Heap} {nx : Nat} : OwnQV rs te n len row x e H nx = qlf rs te n len row x e H := rfl
attribute [simp] z4j qlf
def OwnQ (rs : List ARes) (te : TypeId) (n len : Nat) (row : Nat → List DV) : AX → T → Heap → Nat → Prop := fun x e H _ => qtp rs te n len row x e H
theorem ResQ_app {rs : List ARes} {r : DV} {x : AX} {e : T} {H : Heap} {nx : Nat} : ResQ rs r x e H nx = Res rs r x e H := rfl
theorem OwnQ_app {rs : List ARes} {te : TypeId} {n len : Nat} {row : Nat → List DV} {x : AX} {e : T} {H : Heap} {nx : Nat} : OwnQ rs te n len row x e H nx = qtp rs te n len row x e H := rfl
attribute [simp] ResQ_app OwnQ_app
theorem qb {F : FuncId} {fn : Func} {ac : ACode} {vs : List DV} {rs : List ARes} {r : DV} (ms : List Nat) (ows : List (FuncId × TypeId × Nat)) (hf : Tryz.prog.funcs[F]? = some fn) (hn : (fn.name == "runtime.NumGoroutine") = false)
  (ht : fn.body.bind (q9 Tryz.prog 8 fn.ntmps ms ows (drOk 8)) = some ac) (hr : qa Tryz.prog 8 fn.results.toList = some rs) (hN : Nat.ble fn.ntmps 256 = true) (ha : Nat.ble vs.length fn.ntmps = true)
  (h : (∃ X w us, DReps X w us vs) → G Tryz.prog [.code ac] (ResQ rs r) (qcd 8 vs) hnil 0) : APure Tryz.prog F vs r :=
 apureT ms ows hf hn ht hr hN ha fun hx => q41 ac (h hx)
theorem z4s {F : FuncId} {fn : Func} {ac : ACode} {vs : List DV} {rs : List ARes} {te : TypeId} {n len : Nat} {row : Nat → List DV} (ms : List Nat) (ows : List (FuncId × TypeId × Nat)) (hf : Tryz.prog.funcs[F]? = some fn) (hn : (fn.name == "runtime.NumGoroutine") = false)
  (ht : fn.body.bind (q9 Tryz.prog 8 fn.ntmps ms ows (drOk 8)) = some ac) (hr : qa Tryz.prog 8 fn.results.toList = some rs) (hN : Nat.ble fn.ntmps 256 = true) (ha : Nat.ble vs.length fn.ntmps = true)
  (h : (∃ X w us, DReps X w us vs) → G Tryz.prog [.code ac] (OwnQ rs te n len row) (qcd 8 vs) hnil 0) : AOwn Tryz.prog F vs te n len row :=
 aownT ms ows hf hn ht hr hN ha fun hx => q41 ac (h hx)
theorem qts {F : FuncId} {fn : Func} {ac : ACode} {vs : List DV} {rs : List ARes} {te : TypeId} {n len : Nat} {row : Nat → List DV} (ms : List Nat) (ows : List (FuncId × TypeId × Nat)) (hf : Tryz.prog.funcs[F]? = some fn) (hn : (fn.name == "runtime.NumGoroutine") = false)
  (ht : fn.body.bind (q9 Tryz.prog 8 fn.ntmps ms ows (drOk 8)) = some ac) (hr : qa Tryz.prog 8 fn.results.toList = some rs) (hN : Nat.ble fn.ntmps 256 = true) (ha : Nat.ble vs.length fn.ntmps = true)
  (h : (∃ X w us, DReps X w us vs) → G Tryz.prog [.code ac] (OwnQV rs te n len row) (qcd 8 vs) hnil 0) : AOwnV Tryz.prog F vs te n len row :=
 aownVT ms ows hf hn ht hr hN ha fun hx => q41 ac (h hx)
def MapQ (rs : List ARes) (kd : KD) (m : Nat) (fm : Value → Option Value) : AX → T → Heap → Nat → Prop := fun x e H _ => z4i rs kd m fm x e H
theorem MapQ_app {rs : List ARes} {kd : KD} {m : Nat} {fm : Value → Option Value} {x : AX} {e : T} {H : Heap} {nx : Nat} : MapQ rs kd m fm x e H nx = z4i rs kd m fm x e H := rfl
attribute [simp] MapQ_app z4i
def EffQ (rs : List ARes) (x : DV) (L L' : List (Nat × AObj)) : AX → T → Heap → Nat → Prop := fun y e H _ => qtm rs x L L' y e H
theorem EffQ_app {rs : List ARes} {x : DV} {L L' : List (Nat × AObj)} {y : AX} {e : T} {H : Heap} {nx : Nat} : EffQ rs x L L' y e H nx = qtm rs x L L' y e H := rfl
attribute [simp] EffQ_app qtm qxx qcq hput AObj.ren AV.ren AV.ren.renL effH
theorem qx7 {F : FuncId} {fn : Func} {ac : ACode} {vs : List AV} {rs : List ARes} {L L' : List (Nat × AObj)} {x : DV} (ms : List Nat) (ows : List (FuncId × TypeId × Nat)) (hf : Tryz.prog.funcs[F]? = some fn) (hn : (fn.name == "runtime.NumGoroutine") = false)
  (ht : fn.body.bind (q9 Tryz.prog 8 fn.ntmps ms ows (drOk 8)) = some ac) (hr : qa Tryz.prog 8 fn.results.toList = some rs) (hN : Nat.ble fn.ntmps 256 = true) (ha : Nat.ble vs.length fn.ntmps = true)
  (hL : L.all (fun p => decide (1000000 ≤ p.1) && decide (p.1 < 1001000)) = true) (hids : q2x L L')
  (h : (∃ γ X w us, Reps γ X w us vs) → G Tryz.prog [.code ac] (EffQ rs x L L') (qxx 8 vs) (hof L) 0) : AEff Tryz.prog F vs L x L' :=
 aeffT ms ows hf hn ht hr hN ha hL hids fun hx => q41 ac (h hx)
theorem qc1 {n len : Nat} {row row' : Nat → List DV} (h : ∀ i, i < len → DLes (row i) (row' i)) : DLe (.sl n len row) (.sl n len row') := by
  intro X w v hv
  cases hv with
  | nil => exact .nil n row'
  | emp a => exact .emp a n row'
  | sl b off cap n len _ vals h1 h2 hb hX hl hc hr =>
    refine .sl b off cap n len row' vals h1 h2 hb hX (fun i hi => ?_) hc (fun i hi j hj hj' => ?_)
    · have := (DLes.arg (F := 0) (r := .top) (h i hi)).1
      exact ⟨this ▸ (hl i hi).1, (hl i hi).2⟩
    · obtain ⟨e1, e2⟩ := DLes.arg (F := 0) (r := .top) (h i hi)
      exact e2 j (by omega) hj' _ _ _ (hr i hi j hj (by omega))
theorem qle {cs cs' : List DV} (h : DLes cs cs') : DLe (.agg cs) (.agg cs') := have h1 := DLes.arg (F := 0) (r := .top) h; DLe.agg h1.1 h1.2
theorem qx4 {cs cs' : List DV} (h : DLes cs cs') : DLe (.tup cs) (.tup cs') := have h1 := DLes.arg (F := 0) (r := .top) h; DLe.tup h1.1 h1.2
end Go.Proofs.YtgadlpdbkohlbaaGreat
/- Iterators by the evaluator: stretches between two calls of yield; a call of yield. -/
namespace Go.Proofs.YtgadlpdbkohlbaaGreat
open Go.RowKit
def Bs.bare (Y : Nat → Nat → Prop) (w : World) : Bs := ⟨Y, w, fun _ => none, fun _ => False, hnil, 0⟩
def P1 (N : Nat) (Y : Nat → Nat → Prop) (a : Act) (w : World) (e : T) : Prop := FR 8 N Y w (Bs.bare Y w) (fun _ => none) a w e hnil
section
variable {P : Program} {N : Nat} {Y : Nat → Nat → Prop} {a : Act} {w : World} {e : T}
theorem z4m {X0 : Nat → Nat → Prop} {γ : Nat → Option Value} {b q : Nat} (h : XOf X0 γ hnil b q) : X0 b q := by
 rcases h with h | ⟨_, _, _, h, _⟩
 ·exact h
 ·cases h
theorem P1.of (hY : ∀ b o, Y b o → b < w.heap.size) (hE : EnvRep 8 (fun _ => none) Y w a e) (hs : a.tmps.size = N) (hd : a.defers = []) : P1 N Y a w e :=
 ⟨⟨hY, Ext.refl w, (fun id o h => by cases h), (fun id id' o o' v v' b h => by cases h)⟩, fun p hp => (hE p hp).mono (Knows.refl _) (.same fun b q _ h => z4m h), hs, ⟨[], hd, List.nodup_nil, fun K hK => by cases hK⟩, .same fun b q _ h => z4m h, (fun _ _ h => by cases h), fun id kd n f v b h => by cases h⟩
theorem P1.envR (h : P1 N Y a w e) : EnvRep 8 (fun _ => none) Y w a e := fun p hp => (FR.env h p hp).mono (Knows.refl _) (.same fun _ _ _ h => .inl h)
theorem P1.defers (h : P1 N Y a w e) : a.defers = [] := by
 obtain ⟨Ks, h1, _, h2⟩ := FR.marks h
 cases Ks with
 | nil => exact h1
 | cons K Ks => exact (h2 K (by simp)).2.2.2.1.elim
theorem P1.move {Y' : Nat → Nat → Prop} {w' : World} (h : P1 N Y a w e) (hY : ∀ b o, Y' b o → b < w'.heap.size) (k : KB 0 Y Y' w w') : P1 N Y' a w' e :=
 .of hY (fun p hp => (h.envR p hp).monoC (Knows.refl _) k.size k.cells k.sub) (FR.size h) h.defers
theorem TLe.env0 {γ : Nat → Option Value} {X : Nat → Nat → Prop} {e' : T} (h : TLe noR (fun _ => .none) e e') (hE : EnvRep 8 γ X w a e) (hX : ∀ b q, Y b q → X b q) : EnvRep 8 (fun _ => none) Y w a e' := fun p hp =>
 AVLe.rep (γ' := fun _ => none) (fun i k h => by cases h) (fun i h => by cases h) (fun b q _ h => hX b q h) (fun _ _ _ _ _ hM => by cases hM) (TLe.get _ _ h p) (hE p hp)
theorem qct {c : Code} {ac : ACode} {e' : T} {n : Nat} (tr : TrCode P 8 N c ac) (hp : qah ac = true) (h1 : P1 N Y a w e) (h : awp P ac (fun x e2 _ _ => x = .normal ∧ TLe noR (fun _ => .none) e2 e') e hnil 0) :
  c.wpIn Fence.wide n P (fun x a' w' => x = .normal ∧ Ext w w' ∧ P1 N Y a' w' e') a w := by
 refine wpIn_mono (qlk tr none n _ _ (.inl hp) _ _ _ _ _ _ (FZ.top rfl h1 (fun _ _ => rfl)) h) ?_
 rintro x a' w' ⟨y, γ', e2, H2, nx', hy, hF, rfl, hs⟩
 cases x <;> simp only [AX.of] at hy <;> (try cases hy)
 have hF' := hF.untop rfl
 refine ⟨rfl, hF'.st.ext, .of (fun b o hY => Nat.lt_of_lt_of_le ((FR.st h1).hx b o hY) hF'.st.ext.size) (hs.env0 hF'.env (fun b q h => .inl h)) hF'.size ?_⟩
 obtain ⟨Ks, g1, _, g2⟩ := hF'.marks
 cases Ks with
 | nil => exact g1
 | cons K Ks => exact (g2 K (by simp)).2.2.2.1.elim
theorem P1.le {e' : T} (h : P1 N Y a w e) (hs : TLe noR (fun _ => .none) e e') : P1 N Y a w e' :=
 .of (FR.st h).hx (hs.env0 (FR.env h) (fun _ _ h => .inl h)) (FR.size h) h.defers
theorem P1.put (h : P1 N Y a w e) {p : Slot} (hp : p.length = 8) (hN : p.idx < N) {v : Value} {x : AV} (hv : Rep (fun _ => none) Y w v x) : P1 N Y (a.put (some p.idx) v) w (e.set p x) :=
 .of (FR.st h).hx (h.envR.put hp (by rw [FR.size h]; exact hN) hv) ((z0t _ _ _).trans (FR.size h)) ((qqm _ _ _).trans h.defers)
theorem P1.init {ds : List DV} {vs : Array Value} (hY : ∀ b o, Y b o → b < w.heap.size) (hN : N ≤ 2 ^ 8) (hargs : ds.length ≤ N) (hvs : DReps Y w vs.toList ds) : P1 N Y { tmps := vs ++ Array.replicate (N - vs.size) undef, defers := [] } w (qcd 8 ds) := by
 have hvl : vs.size = ds.length := by simpa using hvs.1
 refine .of hY (fun p hp => ?_) (by simp [hvl]; omega) rfl
 rcases qj7 8 hp ds (.leaf (.d .top)) 0 (by omega) with ⟨h1, h2⟩ | ⟨k, hk, h1, h2⟩
 ·unfold qcd
  rw [h1]
  exact .top _
 ·unfold qcd
  rw [h2]
  have hk' : k < vs.size := by omega
  have e1 : (vs ++ Array.replicate (N - vs.size) undef).getD p.idx undef = vs.toList[k]'(by simpa using hk') := by
   rw [h1, Nat.zero_add, Array.getD_eq_getD_getElem?, Array.getElem?_append_left hk', Array.getElem?_eq_getElem hk']
   simp
  show Rep _ _ _ ((vs ++ Array.replicate (N - vs.size) undef).getD p.idx undef) _
  rw [e1]
  exact .d _ _ (hvs.2 k (by simpa using hk') hk)
theorem qtk {ops : Array Oper} {o : Oper} {ao : AOper} {Q : Exit → Act → World → Prop} {i : Nat} {rest : List Nat} {n : Nat} {e' : T} (ho : ops[i]? = some o) (hnd : qf9 ops = true) (hlo : ¬ LetsOut Q) (tr : TrOper P 8 N ops o ao) (h1 : P1 N Y a w e)
  (hok : okS P (.d .top) 0 ao e hnil) (hmk : noMk [ao] = true) (hs : TLe noR (fun _ => .none) (stp (.d .top) 0 ao e hnil).1 e') (h : ∀ a' w', Ext w w' → P1 N Y a' w' e' → wpOpsIn Fence.wide n P ops Q rest a' w') : wpOpsIn Fence.wide n P ops Q (i :: rest) a w := by
 rw [wpOpsIn_cons]
 refine qo8 (ro := none) (qj3 hnd i) hlo ?_
 unfold wpOp
 rw [ho]
 refine z0q tr h1 (id := 0) rfl rfl (.d .top) hok (fun hk b => ?_) (fun γ' a' w' hR hkn hne => ?_)
 ·simp [noMk, hk] at hmk
 refine h a' w' hR.st.ext (.of (fun b o hY => Nat.lt_of_lt_of_le ((FR.st h1).hx b o hY) hR.st.ext.size) (hs.env0 hR.env (fun b q h => .inl h)) hR.size ?_)
 obtain ⟨Ks, g1, _, g2⟩ := hR.marks
 cases Ks with
 | nil => exact g1
 | cons K Ks => exact (g2 K (by simp)).2.2.2.1.elim
theorem qkz {c : Operand} {t f : Code} {p : Slot} {b : Bool} {Q : Exit → Act → World → Prop} {n : Nat} (h1 : P1 N Y a w e) (tr : TrOpd 8 c (.s p)) (he : e.get p = .d (.lit (.bool b))) (ht : b = true → t.wpIn Fence.wide n P Q a w) (hf : b = false → f.wpIn Fence.wide n P Q a w) : (Code.cond c t f).wpIn Fence.wide n P Q a w := by
 have hv : a.eval c = .bool b := by
  have := tr.rep h1.envR
  simp only [Opd.av, he] at this
  exact this.lit
 refine wpIn_cond hv ?_
 cases b with
 | true => rw [if_pos rfl]; exact ht rfl
 | false => rw [if_neg (by simp)]; exact hf rfl
theorem P1.len {p : Slot} {n len : Nat} {row : Nat → List DV} (h : P1 N Y a w e) (hp : p.length = 8) (he : e.get p = .d (.sl n len row)) : len ≤ 9223372036854775807 := by
  have := h.envR p hp
  rw [he] at this
  generalize a.tmps.getD p.idx undef = v at this
  cases this with
  | d _ _ hd =>
    have : len ≤ maxLen := by
      cases hd with
      | nil => exact Nat.zero_le _
      | emp => exact Nat.zero_le _
      | sl b off cap n len row vals h1 h2 => exact Nat.le_trans h1 h2
    simpa [maxLen] using this
theorem z8f {ops : Array Oper} {o : Oper} {f x : Operand} {ts : Array TypeId} {Q : Exit → Act → World → Prop} {i l : Nat} {rest : List Nat} {R : Ending → World → Prop} (ho : ops[i]? = some o) (hg : o.guard = none) (hop : o.op = .call { callee := .value f, args := #[x], argTypes := ts })
  (hf : a.eval f = .func (.yield l) #[] #[]) (hy : YieldAt Fence.wide 0 P l #[a.eval x] w R) (h : ∀ en w', R en w' → ∃ v, en = .returned v ∧ wpOpsIn Fence.wide 0 P ops Q rest (a.put o.dst v) w') : wpOpsIn Fence.wide 0 P ops Q (i :: rest) a w := by
 rw [wpOpsIn_cons]
 unfold wpOpIn
 rw [ho]
 simp only
 rw [if_pos (by simp [Region.wanted, hg])]
 refine ⟨fun _ _ => trivial, ?_⟩
 rw [Oper.semAt_eq _ _ _ (fun c hc => by rw [hop] at hc; cases hc)]
 obtain ⟨fn, tmps, asn, body, hr, hR⟩ := hy
 have hrun : (execOp a.eval o).run P w = .ok (.round l fn tmps asn body) w := by
  unfold execOp
  simp only [hop, resolve, hf]
  simp [Deferred.ofValue, invoke, hr]
 rw [hrun, Oper.uponIn_round]
 refine ⟨fun h => (by cases h), hR.mono ?_⟩
 intro en w' hq
 obtain ⟨v, rfl, hk⟩ := h en w' hq
 exact hk
theorem yieldReg {id l : Nat} {o0 o1 o2 o3 : Oper} {a0 a1 a2 a3 : AOper} {f x : Operand} {fo xo : Opd} {ts : Array TypeId} {p2 : Slot} {e1 e2 e4 f4 : T} {xd : DV} {JT : (Nat → Nat → Prop) → World → Prop} {Jx : World → Prop}
  (hnd : qf9 #[o0, o1, o2, o3] = true) (ht : qnx P 8 N [] [] #[o0, o1, o2, o3] none 0 [o0, o1, o2, o3] = some [a0, a1, a2, a3]) (hop : o2.op = .call { callee := .value f, args := #[x], argTypes := ts }) (hg : o2.guard = none) (hd : o2.dst = some p2.idx) (hp2 : p2.length = 8) (hp2N : p2.idx < N)
  (hf : TrOpd 8 f fo) (hx : TrOpd 8 x xo) (hP : P1 N Y a w e)
  (m0 : noMk [a0] = true) (s0 : okS P (.d .top) 0 a0 e hnil ∧ TLe noR (fun _ => .none) (stp (.d .top) 0 a0 e hnil).1 e1)
  (m1 : noMk [a1] = true) (s1 : okS P (.d .top) 0 a1 e1 hnil ∧ TLe noR (fun _ => .none) (stp (.d .top) 0 a1 e1 hnil).1 e2)
  (hfv : fo.av e2 = .d (.lit (.func (.yield l) #[] #[]))) (hxv : xo.av e2 = .d xd)
  (hy : ∀ W' (vs : Array Value), Ext w W' → DReps Y W' vs.toList [xd] → YieldAt Fence.wide 0 P l vs W' fun en W'' => (en = .returned (.bool true) ∧ ∃ Y', JT Y' W'' ∧ KB 0 Y Y' W' W'') ∨ (en = .returned (.bool false) ∧ Jx W''))
  (hJY : ∀ Y W, JT Y W → ∀ b o, Y b o → b < W.heap.size) (hJe : ∀ Y W W', JT Y W → Ext W W' → JT Y W') (hJxe : ∀ W W', Jx W → Ext W W' → Jx W')
  (m3 : noMk [a3] = true) (s3 : okS P (.d .top) 0 a3 (e2.set p2 (.d (.lit (.bool true)))) hnil ∧ TLe noR (fun _ => .none) (stp (.d .top) 0 a3 (e2.set p2 (.d (.lit (.bool true)))) hnil).1 e4)
  (n3 : okS P (.d .top) 0 a3 ((T.leaf (.d .top)).set p2 (.d (.lit (.bool false)))) hnil ∧ TLe noR (fun _ => .none) (stp (.d .top) 0 a3 ((T.leaf (.d .top)).set p2 (.d (.lit (.bool false)))) hnil).1 f4) :
  (Code.region id #[o0, o1, o2, o3] false).wpIn Fence.wide 0 P (fun x a' W' => x = .normal ∧ ((∃ Y', JT Y' W' ∧ P1 N Y' a' W' e4) ∨ (Jx W' ∧ P1 N (fun _ _ => False) a' W' f4))) a w := by
 have htr := (qbb ht).2
 have hlo : ¬ LetsOut (fun (x : Exit) (a' : Act) (W' : World) => x = .normal ∧ ((∃ Y', JT Y' W' ∧ P1 N Y' a' W' e4) ∨ (Jx W' ∧ P1 N (fun _ _ => False) a' W' f4))) := by rintro ⟨_, _, h, _⟩; cases h
 refine wpIn_region ?_
 show wpOpsIn _ _ _ _ _ [0, 1, 2, 3] a w
 refine qtk (ao := a0) (o := o0) rfl hnd hlo (htr 0 o0 a0 rfl rfl) hP s0.1 m0 s0.2 (fun b1 w1 hx1 hP1 => ?_)
 refine qtk (ao := a1) (o := o1) rfl hnd hlo (htr 1 o1 a1 rfl rfl) hP1 s1.1 m1 s1.2 (fun b2 w2 hx2 hP2 => ?_)
 have hfr := hf.rep hP2.envR
 rw [hfv] at hfr
 have hxr := hx.rep hP2.envR
 rw [hxv] at hxr
 have hxr' : DReps Y w2 #[b2.eval x].toList [xd] := DReps.cons hxr.dv (DReps.nil _ _)
 refine z8f (o := o2) (f := f) (x := x) rfl hg hop hfr.lit (hy w2 _ (hx1.trans hx2) hxr') ?_
 rintro en w3 (⟨rfl, Y', hJ, hK⟩ | ⟨rfl, hJx⟩)
 ·refine ⟨_, rfl, ?_⟩
  rw [hd]
  have hP3 := (hP2.move (hJY _ _ hJ) hK).put (v := .bool true) (x := .d (.lit (.bool true))) hp2 hp2N (.ofLit _)
  refine qtk (ao := a3) (o := o3) rfl hnd hlo (htr 3 o3 a3 rfl rfl) hP3 s3.1 m3 s3.2 (fun b4 w4 hx4 hP4 => ?_)
  exact ⟨rfl, .inl ⟨Y', hJe _ _ _ hJ hx4, hP4⟩⟩
 ·refine ⟨_, rfl, ?_⟩
  rw [hd]
  have hP3 : P1 N (fun _ _ => False) b2 w3 (.leaf (.d .top)) := .of (fun _ _ h => h.elim) (fun p hp => by cases p <;> exact .top _) (FR.size hP2) hP2.defers
  have hP3' := hP3.put (v := .bool false) (x := .d (.lit (.bool false))) hp2 hp2N (.ofLit _)
  refine qtk (ao := a3) (o := o3) rfl hnd hlo (htr 3 o3 a3 rfl rfl) hP3' n3.1 m3 n3.2 (fun b4 w4 hx4 hP4 => ?_)
  exact ⟨rfl, .inr ⟨hJxe _ _ hJx hx4, hP4⟩⟩
end
end Go.Proofs.YtgadlpdbkohlbaaGreat
/- Contracts of functions that turn objects, shown without the evaluator; an object that is used up. -/
namespace Go.Proofs.YtgadlpdbkohlbaaGreat
open Go.RowKit
theorem Reps.uncons {γ : Nat → Option Value} {X : Nat → Nat → Prop} {w : World} {vs : List Value} {a : AV} {as' : List AV} (h : Reps γ X w vs (a :: as')) : ∃ v vs', vs = v :: vs' ∧ Rep γ X w v a ∧ Reps γ X w vs' as' := by
 obtain ⟨hl, hr⟩ := h
 cases vs with
 | nil => simp at hl
 | cons v vs' => exact ⟨v, vs', rfl, hr 0 (by simp) (by simp), by simpa using hl, fun i hi hi' => hr (i + 1) (by simpa using hi) (by simpa using hi')⟩
theorem Reps.unnil {γ : Nat → Option Value} {X : Nat → Nat → Prop} {w : World} {vs : List Value} (h : Reps γ X w vs []) : vs = [] := by
 have := h.1
 simpa using this
section
variable {P : Program} {X0 : Nat → Nat → Prop} {W0 : World} {γ : Nat → Option Value} {w : World} {H : Heap}
theorem aeff_raw {F : FuncId} {args : List AV} {L L' : List (Nat × AObj)} {x : DV} {H' : Heap} (hB : HasBody P F) (hL : L.all (fun p => decide (1000000 ≤ p.1) && decide (p.1 < 1001000)) = true) (hids : q2x L L') (hend : qoz L L' H')
  (h : ∀ X0 W0 γ w Hf (vs : Array Value), St X0 W0 γ w (qg (hof L) Hf) → HOk (hof L) Hf → Reps γ (XOf X0 γ (qg (hof L) Hf)) w vs.toList args →
   Calls P F vs w fun e w' => ∃ v, e = .returned v ∧ St X0 W0 γ w' (qg H' Hf) ∧ HOk H' Hf ∧ Keeps (XOf X0 γ (qg (hof L) Hf)) (XOf X0 γ (qg H' Hf)) w w' ∧ DRep (XOf X0 γ (qg H' Hf)) w' v x) : AEff P F args L x L' := by
 refine ⟨hB, fun X0 W0 γ w H τ vs hS hnew hnew2 hnn hHL hap hvs => ?_⟩
 obtain ⟨ρ, γc, Hf, hE⟩ := que hS hL hHL hap
 have hvs' : Reps γc (XOf X0 γc (qg (hof L) Hf)) w vs.toList args := by
  refine hvs.mono (fun i v hv => ?_) (.same fun b q _ hb => hE.sub b q hb)
  have hv' : (match gOf τ L i with | .none => none | .id k => γ k | .nil => some (.slice none 0 0)) = some v := hv
  unfold gOf at hv'
  split at hv'
  ·cases hv'
  ·rename_i k hk
   split at hk
   ·rename_i hin
    injection hk with hk
    subst hk
    obtain ⟨⟨j, o⟩, hm, he⟩ := List.any_eq_true.1 hin
    simp only [beq_iff_eq] at he
    subst he
    rw [← hE.back j o hm, hE.val]
    exact hv'
   ·cases hk
  ·rename_i hk
   split at hk <;> cases hk
 refine (h X0 W0 γc w Hf vs hE.st hE.ok hvs').mono ?_
 rintro e w' ⟨v, rfl, hS', hO', hK, hd⟩
 obtain ⟨s, hs, hsap⟩ := hend
 obtain ⟨γ', g1, g2, g3, g4⟩ := quf hS hL hHL hE hnew hnew2 hnn hids hS' hO' (fun _ _ _ hv => hv) hK hs hsap
 exact ⟨v, γ', rfl, g1, g2, g3, g4 _ _ hd⟩
theorem St.spend {j : Nat} {o : AObj} {u : Value} {w' : World} (hS : St X0 W0 γ w H) (ho : hget H j = some o) (hu : γ j = some u) (ht : ∀ q, turns o q) (hext : Ext W0 w') (hsz : w.heap.size ≤ w'.heap.size)
  (hb : ∀ b, blk u ≠ some b → b < w.heap.size → w'.heap[b]? = w.heap[b]?) : St X0 W0 γ w' (hdel H j) ∧ Keeps (XOf X0 γ H) (XOf X0 γ (hdel H j)) w w' := by
 have hsub : ∀ b q, XOf X0 γ (hdel H j) b q → XOf X0 γ H b q := by
  rintro b q (h | ⟨id, ob, v, h1, h2, h3, h4⟩)
  ·exact .inl h
  ·rw [q2c] at h1
   split at h1
   ·cases h1
   ·exact .inr ⟨id, ob, v, h1, h2, h3, h4⟩
 have hK : Keeps (XOf X0 γ H) (XOf X0 γ (hdel H j)) w w' := by
  refine .of_blocks hsz (fun b hlt => ?_) (fun b q _ h => hsub b q h)
  by_cases e : blk u = some b
  ·exact .inl fun q => .inr ⟨j, o, u, ho, hu, e, ht q⟩
  ·exact .inr (hb b e hlt)
 refine ⟨⟨hS.hx, hext, fun id o' h => ?_, fun id id' o1 o2 v v' b h1 h2 h3 h4 h5 h6 => ?_⟩, hK⟩
 ·rw [q2c] at h
  split at h
  ·cases h
  ·rename_i hne
   obtain ⟨v, hv, hr⟩ := hS.obj id o' h
   refine ⟨v, hv, hr.mono (Knows.refl _) hK fun b hbv hlt => hb b (fun e => hne ?_) hlt⟩
   exact hS.dis j id o o' u v b ho h hu hv e hbv
 ·rw [q2c] at h1 h2
  split at h1
  ·cases h1
  split at h2
  ·cases h2
  exact hS.dis id id' o1 o2 v v' b h1 h2 h3 h4 h5 h6
end
end Go.Proofs.YtgadlpdbkohlbaaGreat
/- Modules as plain data; what the document says of instructions, blocks, functions, modules: plain functions, no program in sight. -/
namespace Go.Proofs.YtgadlpdbkohlbaaGreat
structure Inst where
 op : Int
 a : Int
 b : Int
 k : Nat
 name : ByteArray
 args : List Int
structure Block where
 params : Int
 ins : List Inst
 kind : Int
 ta : Int
 to : Int
 args : List Int
 els : Int
 elses : List Int
structure Func where
 name : ByteArray
 bind : Int
 params : Int
 blocks : List Block
structure Glob where
 name : ByteArray
 bind : Int
 here : Bool
 init : Nat
structure Module where
 funcs : List Func
 globs : List Glob
def uses (i : Inst) : List Int :=
 if 2 ≤ i.op ∧ i.op ≤ 11 then [i.a, i.b] else if i.op = 13 ∨ i.op = 16 then [i.a] else if i.op = 14 then i.args else []
def qbm (s : ByteArray) : Bool := decide (1 ≤ s.size) && decide (s.size ≤ 16)
def q4k (op : Int) : Bool := decide (12 ≤ op) && decide (op ≤ 14)
def q3r (l : List Int) (n : Int) : Bool := l.all fun v => decide (0 ≤ v) && decide (v < n)
def q73 (op : Int) : Bool := decide (2 ≤ op) && decide (op ≤ 11)
def q69 (op : Int) : Bool := q73 op || op == 13 || op == 16
def qt (i : Inst) (n : Int) : Bool :=
 decide (1 ≤ i.op) && decide (i.op ≤ 16) && q3r (uses i) n && (q69 i.op || i.a == 0) && (q73 i.op || i.b == 0) && (i.op == 1 || i.k == 0) && (i.op == 14 || i.args.length == 0) && decide (i.args.length ≤ 6) &&
  (if q4k i.op then qbm i.name else i.name.size == 0)
theorem q4b (op : Int) : q73 op = true ↔ 2 ≤ op ∧ op ≤ 11 := by simp [q73]
theorem q27 (op : Int) : q69 op = true ↔ (2 ≤ op ∧ op ≤ 11) ∨ op = 13 ∨ op = 16 := by simp [q69, q73, or_assoc]
theorem qv6 {i : Inst} {n : Int} (h : ¬ i.a = 0) (h1 : ¬ (2 ≤ i.op ∧ i.op ≤ 11)) (h2 : ¬ i.op = 13) (h3 : ¬ i.op = 16) : qt i n = false := by
 have e : q69 i.op = false := by rw [← Bool.not_eq_true, q27]; omega
 simp [qt, e, h]
theorem z69 {i : Inst} {n : Int} (h : (i.b != 0) = true) (h1 : ¬ (2 ≤ i.op ∧ i.op ≤ 11)) : qt i n = false := by
 have e : q73 i.op = false := by rw [← Bool.not_eq_true, q4b]; omega
 have h' : ¬ i.b = 0 := by simpa using h
 simp [qt, e, h']
theorem z6a {i : Inst} {n : Int} (h : ((i.k : Int) != 0) = true) (h1 : ¬ i.op = 1) : qt i n = false := by
 have h' : ¬ i.k = 0 := by
  have : ¬ (i.k : Int) = 0 := by simpa using h
  omega
 simp [qt, h1, h']
theorem qjt {i : Inst} {n : Int} (h : 0 < i.args.length) (h1 : ¬ i.op = 14) : qt i n = false := by
 have h' : ¬ i.args.length = 0 := by omega
 have h'' : ¬ i.args = [] := by intro e; rw [e] at h; simp at h
 simp [qt, h1, h'']
theorem qmq {i : Inst} {n : Int} (h : (6 : Int) < i.args.length) : qt i n = false := by
 have h' : ¬ i.args.length ≤ 6 := by omega
 simp [qt, h']
theorem inst_yes {i : Inst} {n : Int} (h1 : 1 ≤ i.op) (h2 : i.op ≤ 16) (hb : q3r (uses i) n = true) (hA : ((2 ≤ i.op ∧ i.op ≤ 11) ∨ i.op = 13 ∨ i.op = 16) ∨ i.a = 0) (hB : (2 ≤ i.op ∧ i.op ≤ 11) ∨ (i.b != 0) = false)
  (hK : i.op = 1 ∨ ((i.k : Int) != 0) = false) (hN : i.op = 14 ∨ ¬ 0 < i.args.length) (h6 : (i.args.length : Int) ≤ 6) : qt i n = if q4k i.op then qbm i.name else i.name.size == 0 := by
 have eA : (q69 i.op || i.a == 0) = true := by
  rcases hA with h | h
  ·rw [(q27 _).2 h]; rfl
  ·simp [h]
 have eB : (q73 i.op || i.b == 0) = true := by
  rcases hB with h | h
  ·rw [(q4b _).2 h]; rfl
  ·have : i.b = 0 := by simpa using h
   simp [this]
 have eK : (i.op == 1 || i.k == 0) = true := by
  rcases hK with h | h
  ·simp [h]
  ·have : (i.k : Int) = 0 := by simpa using h
   have : i.k = 0 := by omega
   simp [this]
 have eN : (i.op == 14 || i.args.length == 0) = true := by
  rcases hN with h | h
  ·simp [h]
  ·have : i.args.length = 0 := by omega
   simp only [this]; simp
 have e6 : i.args.length ≤ 6 := by omega
 unfold qt
 rw [eA, eB, eK, eN, hb, decide_eq_true h1, decide_eq_true h2, decide_eq_true e6]
 simp
theorem qpu {i : Inst} {n : Int} (h : ¬ i.b = 0) (h1 : ¬ (2 ≤ i.op ∧ i.op ≤ 11)) : qt i n = false := z69 (by simpa using h) h1
theorem qpv {i : Inst} {n : Int} (h : ¬ (i.k : Int) = 0) (h1 : ¬ i.op = 1) : qt i n = false := z6a (by simpa using h) h1
theorem qv7 {i : Inst} {n : Int} (h1 : 1 ≤ i.op) (h2 : i.op ≤ 16) (hb : q3r (uses i) n = true) (hA : ((2 ≤ i.op ∧ i.op ≤ 11) ∨ i.op = 13 ∨ i.op = 16) ∨ i.a = 0) (hB : (2 ≤ i.op ∧ i.op ≤ 11) ∨ i.b = 0)
  (hK : i.op = 1 ∨ (i.k : Int) = 0) (hN : i.op = 14 ∨ ¬ 0 < i.args.length) (h6 : (i.args.length : Int) ≤ 6) : qt i n = if q4k i.op then qbm i.name else i.name.size == 0 :=
 inst_yes h1 h2 hb hA (hB.elim Or.inl (fun h => Or.inr (by rw [h]; rfl))) (hK.elim Or.inl (fun h => Or.inr (by rw [h]; rfl))) hN h6
def q4a (f : Func) (to : Int) (args : List Int) (n : Int) : Bool :=
 decide (0 ≤ to) && (match f.blocks[to.toNat]? with | some b => (args.length : Int) == b.params | none => false) && q3r args n
theorem goesB_lo {f : Func} {to : Int} {args : List Int} {n : Int} (h : to < 0) : q4a f to args n = false := by
 unfold q4a; rw [decide_eq_false (by omega)]; rfl
theorem goesB_hi {f : Func} {to : Int} {args : List Int} {n : Int} (h0 : 0 ≤ to) (h : (f.blocks.length : Int) ≤ to) : q4a f to args n = false := by
 unfold q4a
 rw [List.getElem?_eq_none (by omega)]
 simp
end Go.Proofs.YtgadlpdbkohlbaaGreat
/- Plain laws on blocks and functions: what is right. -/
namespace Go.Proofs.YtgadlpdbkohlbaaGreat
def qiz : Int → List Inst → Bool
 | _, [] => true
 | n, i :: r => qt i n && qiz (n + 1) r
theorem q8v : ∀ (n : Int) (l : List Inst), qiz n l = true ↔ ∀ k (h : k < l.length), qt l[k] (n + k) = true
  | n, [] => by simp [qiz]
  | n, i :: r => by
    simp only [qiz, Bool.and_eq_true, q8v (n + 1) r]
    constructor
    · rintro ⟨h1, h2⟩ k hk
      cases k with
      | zero => simpa using h1
      | succ k =>
        have := h2 k (by simpa using hk)
        simp only [List.getElem_cons_succ]
        rw [show n + ((k + 1 : Nat) : Int) = n + 1 + (k : Int) by omega]
        exact this
    · intro h
      refine ⟨?_, fun k hk => ?_⟩
      · have := h 0 (by simp)
        rw [show n + ((0 : Nat) : Int) = n by omega] at this
        exact this
      have := h (k + 1) (by simpa using hk)
      simp only [List.getElem_cons_succ] at this
      rw [show n + ((k + 1 : Nat) : Int) = n + 1 + (k : Int) by omega] at this
      exact this
theorem z2g {n : Int} {l : List Inst} {k : Nat} (h : k < l.length) (h1 : qt l[k] (n + k) = false) : qiz n l = false := by
 rw [← Bool.not_eq_true, q8v]
 intro hh
 rw [hh k h] at h1
 cases h1
def endB (f : Func) (b : Block) : Bool :=
 if b.kind = 1 then q4a f b.to b.args (b.params + b.ins.length) && b.ta == 0 && b.els == 0 && b.elses.length == 0
 else if b.kind = 2 then (decide (0 ≤ b.ta) && decide (b.ta < b.params + b.ins.length)) && q4a f b.to b.args (b.params + b.ins.length) && q4a f b.els b.elses (b.params + b.ins.length)
 else b.kind == 3 && (decide (0 ≤ b.ta) && decide (b.ta < b.params + b.ins.length)) && b.to == 0 && b.args.length == 0 && b.els == 0 && b.elses.length == 0
def qj (f : Func) (b : Block) : Bool :=
 decide (0 ≤ b.params) && decide (b.params ≤ 6) && decide (b.ins.length ≤ 32) && qiz b.params b.ins && endB f b
theorem qp9 {f : Func} {b : Block} (h : b.params < 0) : qj f b = false := by unfold qj; rw [decide_eq_false (by omega : ¬ 0 ≤ b.params)]; rfl
theorem qp8 {f : Func} {b : Block} (h : 6 < b.params) : qj f b = false := by unfold qj; rw [decide_eq_false (by omega : ¬ b.params ≤ 6)]; simp
theorem qjg {f : Func} {b : Block} (h : 32 < b.ins.length) : qj f b = false := by unfold qj; rw [decide_eq_false (by omega : ¬ b.ins.length ≤ 32)]; simp
theorem qlo {f : Func} {b : Block} {k : Nat} (h : k < b.ins.length) (h1 : qt b.ins[k] (b.params + k) = false) : qj f b = false := by unfold qj; rw [z2g h h1]; simp
theorem qez {f : Func} {b : Block} (h0 : 0 ≤ b.params) (h6 : b.params ≤ 6) (h32 : b.ins.length ≤ 32) (h : ∀ k (h : k < b.ins.length), qt b.ins[k] (b.params + k) = true) : qj f b = endB f b := by
 unfold qj
 rw [decide_eq_true h0, decide_eq_true h6, decide_eq_true h32, (q8v _ _).2 h]; simp
theorem qh6 {f : Func} {b : Block} (h : b.kind = 1) : endB f b = (q4a f b.to b.args (b.params + b.ins.length) && b.ta == 0 && b.els == 0 && b.elses.length == 0) := by
 unfold endB; rw [if_pos h]
theorem qrt {f : Func} {b : Block} (h : b.kind = 2) : endB f b = ((decide (0 ≤ b.ta) && decide (b.ta < b.params + b.ins.length)) && q4a f b.to b.args (b.params + b.ins.length) && q4a f b.els b.elses (b.params + b.ins.length)) := by
 unfold endB; rw [if_neg (by omega), if_pos h]
theorem qad {f : Func} {b : Block} (h1 : ¬ b.kind = 1) (h2 : ¬ b.kind = 2) : endB f b = (b.kind == 3 && (decide (0 ≤ b.ta) && decide (b.ta < b.params + b.ins.length)) && b.to == 0 && b.args.length == 0 && b.els == 0 && b.elses.length == 0) := by
 unfold endB; rw [if_neg h1, if_neg h2]
end Go.Proofs.YtgadlpdbkohlbaaGreat
/- Plain laws on functions: what is right. -/
namespace Go.Proofs.YtgadlpdbkohlbaaGreat
def qr (f : Func) : Bool :=
 qbm f.name && decide (1 ≤ f.bind) && decide (f.bind ≤ 3) && decide (0 ≤ f.params) && decide (f.params ≤ 6) && decide (f.blocks.length ≤ 16) &&
  (match f.blocks with | [] => f.bind != 1 | b :: _ => b.params == f.params && f.blocks.all (qj f))
theorem qmh {f : Func} (h : qbm f.name = false) : qr f = false := by simp [qr, h]
theorem quq {f : Func} (h : f.bind < 1) : qr f = false := by
  have : ¬ 1 ≤ f.bind := by omega
  simp [qr, this]
theorem qur {f : Func} (h : 3 < f.bind) : qr f = false := by
  have : ¬ f.bind ≤ 3 := by omega
  simp [qr, this]
theorem qut {f : Func} (h : f.params < 0) : qr f = false := by
  have : ¬ 0 ≤ f.params := by omega
  simp [qr, this]
theorem quu {f : Func} (h : 6 < f.params) : qr f = false := by
  have : ¬ f.params ≤ 6 := by omega
  simp [qr, this]
theorem z07 {f : Func} (h : 16 < f.blocks.length) : qr f = false := by
  have : ¬ f.blocks.length ≤ 16 := by omega
  simp [qr, this]
theorem qpr {f : Func} (h : qbm f.name = true) (h1 : 1 ≤ f.bind) (h3 : f.bind ≤ 3) (h0 : 0 ≤ f.params) (h6 : f.params ≤ 6) (hn : f.blocks.length = 0) : qr f = (f.bind != 1) := by
 have hb : f.blocks = [] := List.length_eq_zero_iff.1 hn
 unfold qr
 rw [h, decide_eq_true h1, decide_eq_true h3, decide_eq_true h0, decide_eq_true h6, hb]
 simp
theorem qf2 {f : Func} (h : qbm f.name = true) (h1 : 1 ≤ f.bind) (h3 : f.bind ≤ 3) (h0 : 0 ≤ f.params) (h6 : f.params ≤ 6) (h16 : f.blocks.length ≤ 16) (hn : 0 < f.blocks.length) :
  qr f = (f.blocks[0].params == f.params && f.blocks.all (qj f)) := by
 unfold qr
 rw [h, decide_eq_true h1, decide_eq_true h3, decide_eq_true h0, decide_eq_true h6, decide_eq_true h16]
 obtain ⟨name, bind, params, blocks⟩ := f
 cases blocks with
 | nil => simp at hn
 | cons b r => simp
theorem qtr {α : Type} {p : α → Bool} {l : List α} {k : Nat} (h : k < l.length) (h1 : p l[k] = false) : l.all p = false := by
 rw [List.all_eq_false]
 exact ⟨l[k], List.getElem_mem h, by simp [h1]⟩
theorem qlh {α : Type} {p : α → Bool} {l : List α} (h : ∀ k (h : k < l.length), p l[k] = true) : l.all p = true := by
 rw [List.all_eq_true]
 intro x hx
 obtain ⟨i, hi, rfl⟩ := List.getElem_of_mem hx
 exact h i hi
end Go.Proofs.YtgadlpdbkohlbaaGreat
/- The program's own data as the evaluator's, folded; the evaluator's rules for it (printed by program). -/
namespace Go.Proofs.YtgadlpdbkohlbaaGreat
open Go.RowKit
instance : Inhabited Inst := ⟨⟨0, 0, 0, 0, ⟨#[]⟩, []⟩⟩
instance : Inhabited Block := ⟨⟨0, [], 0, 0, 0, [], 0, []⟩⟩
instance : Inhabited Func := ⟨⟨⟨#[]⟩, 0, 0, []⟩⟩
instance : Inhabited Glob := ⟨⟨⟨#[]⟩, 0, false, 0⟩⟩
def intC (x : Int) : List DV := [.int x]
@[simp] theorem intC_length (x : Int) : (intC x).length = 1 := rfl
@[simp] theorem intC_0 (x : Int) : (intC x)[0]? = some (.int x) := rfl
@[simp] theorem intC_cells (x : Int) : (∀ d, d ∈ intC x → d.cell = true) ↔ True := by unfold intC; simp
@[simp] theorem intC_len? (x : Int) : (intC x)[1]? = none := rfl
@[simp] theorem intC_map (x : Int) : (intC x).map AV.d = [.d (.int x)] := rfl
def strC (x : ByteArray) : List DV := [.str x]
@[simp] theorem strC_length (x : ByteArray) : (strC x).length = 1 := rfl
@[simp] theorem strC_0 (x : ByteArray) : (strC x)[0]? = some (.str x) := rfl
@[simp] theorem strC_cells (x : ByteArray) : (∀ d, d ∈ strC x → d.cell = true) ↔ True := by unfold strC; simp
@[simp] theorem strC_len? (x : ByteArray) : (strC x)[1]? = none := rfl
@[simp] theorem strC_map (x : ByteArray) : (strC x).map AV.d = [.d (.str x)] := rfl
@[reducible] def ql (xs : List Int) : DV := .sl 1 xs.length fun k => intC (xs[k]?.getD 0)
@[simp high] theorem intsD_cell (xs : List Int) : DV.cell (ql xs) = true := rfl
@[simp high] theorem intsD_isLit (xs : List Int) : DV.isLit (ql xs) = false := rfl
@[simp high] theorem intsD_lenV (xs : List Int) : lenV (.d (ql xs)) = .int xs.length := rfl
@[simp high] theorem intsD_lenOk (H : Heap) (s : Bool) (xs : List Int) : qhn H s (.d (ql xs)) = (s = false) := rfl
@[simp high] theorem intsD_slLen (xs : List Int) : qj9 (.d (ql xs)) = xs.length := rfl
@[simp high] theorem intsD_idxV (H : Heap) (xs : List Int) (k : IntKind) (i : Int) : idxH H (.d (ql xs)) (.d (.lit (.int k i))) = .d (.cref (intC (xs[i.toNat]?.getD 0)) 0) := rfl
@[simp high] theorem intsD_idxOk (H : Heap) (n : Nat) (xs : List Int) (k : IntKind) (i : Int) : q6o H n (.d (ql xs)) (.d (.lit (.int k i))) = (1 = n ∧ 0 ≤ i ∧ i < xs.length) := rfl
@[simp high] theorem intsD_moreV (n : Nat) (xs : List Int) : qbq n (.d (ql xs)) = if 1 = n then some (xs.length, fun k => intC (xs[k]?.getD 0)) else none := rfl
@[simp high] theorem intsD_slcV (xs : List Int) (lo hi : Int) : slcV (.d (ql xs)) lo hi = .d (.sl 1 (hi.toNat - lo.toNat) fun i => intC (xs[lo.toNat + i]?.getD 0)) := rfl
@[simp high] theorem intsD_slcOk (n : Nat) (xs : List Int) (lo hi : Int) : qia n (.d (ql xs)) lo hi = (1 = n ∧ 0 ≤ lo ∧ lo ≤ hi ∧ hi ≤ xs.length) := rfl
theorem q36 {len : Nat} {row : Nat → List DV} {xs : List Int} (hl : len = xs.length) (h : ∀ i (hi : i < xs.length), row i = intC xs[i]) : DLe (.sl 1 len row) (ql xs) := by
 subst hl
 exact DLe.sl fun i hi => by rw [h i hi, List.getElem?_eq_getElem hi]; rfl
theorem q3d : DLe (.lit (.slice none 0 0)) (ql []) := by
 intro X w v h; cases h; exact .nil _ _
@[reducible] def q2k (xs : List ByteArray) : DV := .sl 1 xs.length fun k => strC (xs[k]?.getD ⟨#[]⟩)
@[simp high] theorem strsD_cell (xs : List ByteArray) : DV.cell (q2k xs) = true := rfl
@[simp high] theorem strsD_isLit (xs : List ByteArray) : DV.isLit (q2k xs) = false := rfl
@[simp high] theorem strsD_lenV (xs : List ByteArray) : lenV (.d (q2k xs)) = .int xs.length := rfl
@[simp high] theorem strsD_lenOk (H : Heap) (s : Bool) (xs : List ByteArray) : qhn H s (.d (q2k xs)) = (s = false) := rfl
@[simp high] theorem strsD_slLen (xs : List ByteArray) : qj9 (.d (q2k xs)) = xs.length := rfl
@[simp high] theorem strsD_idxV (H : Heap) (xs : List ByteArray) (k : IntKind) (i : Int) : idxH H (.d (q2k xs)) (.d (.lit (.int k i))) = .d (.cref (strC (xs[i.toNat]?.getD ⟨#[]⟩)) 0) := rfl
@[simp high] theorem strsD_idxOk (H : Heap) (n : Nat) (xs : List ByteArray) (k : IntKind) (i : Int) : q6o H n (.d (q2k xs)) (.d (.lit (.int k i))) = (1 = n ∧ 0 ≤ i ∧ i < xs.length) := rfl
@[simp high] theorem strsD_moreV (n : Nat) (xs : List ByteArray) : qbq n (.d (q2k xs)) = if 1 = n then some (xs.length, fun k => strC (xs[k]?.getD ⟨#[]⟩)) else none := rfl
@[simp high] theorem strsD_slcV (xs : List ByteArray) (lo hi : Int) : slcV (.d (q2k xs)) lo hi = .d (.sl 1 (hi.toNat - lo.toNat) fun i => strC (xs[lo.toNat + i]?.getD ⟨#[]⟩)) := rfl
@[simp high] theorem strsD_slcOk (n : Nat) (xs : List ByteArray) (lo hi : Int) : qia n (.d (q2k xs)) lo hi = (1 = n ∧ 0 ≤ lo ∧ lo ≤ hi ∧ hi ≤ xs.length) := rfl
theorem z7n : DLe (.lit (.slice none 0 0)) (q2k []) := by
 intro X w v h; cases h; exact .nil _ _
def qp (x : Inst) : List DV := [.int x.op, .int x.a, .int x.b, .lit (.int .u64 x.k), .str x.name, ql x.args]
@[simp] theorem instC_length (x : Inst) : (qp x).length = 6 := rfl
@[simp] theorem instC_0 (x : Inst) : (qp x)[0]? = some (.int x.op) := rfl
@[simp] theorem instC_1 (x : Inst) : (qp x)[1]? = some (.int x.a) := rfl
@[simp] theorem instC_2 (x : Inst) : (qp x)[2]? = some (.int x.b) := rfl
@[simp] theorem instC_3 (x : Inst) : (qp x)[3]? = some (.lit (.int .u64 x.k)) := rfl
@[simp] theorem instC_4 (x : Inst) : (qp x)[4]? = some (.str x.name) := rfl
@[simp] theorem instC_5 (x : Inst) : (qp x)[5]? = some (ql x.args) := rfl
@[simp] theorem instC_cells (x : Inst) : (∀ d, d ∈ qp x → d.cell = true) ↔ True := by unfold qp; simp
@[simp] theorem instC_len? (x : Inst) : (qp x)[6]? = none := rfl
@[simp] theorem instC_map (x : Inst) : (qp x).map AV.d = [.d (.int x.op), .d (.int x.a), .d (.int x.b), .d (.lit (.int .u64 x.k)), .d (.str x.name), .d (ql x.args)] := rfl
@[reducible] def insD (xs : List Inst) : DV := .sl 6 xs.length fun k => qp (xs[k]?.getD default)
@[simp high] theorem insD_cell (xs : List Inst) : DV.cell (insD xs) = true := rfl
@[simp high] theorem insD_isLit (xs : List Inst) : DV.isLit (insD xs) = false := rfl
@[simp high] theorem insD_lenV (xs : List Inst) : lenV (.d (insD xs)) = .int xs.length := rfl
@[simp high] theorem insD_lenOk (H : Heap) (s : Bool) (xs : List Inst) : qhn H s (.d (insD xs)) = (s = false) := rfl
@[simp high] theorem insD_slLen (xs : List Inst) : qj9 (.d (insD xs)) = xs.length := rfl
@[simp high] theorem insD_idxV (H : Heap) (xs : List Inst) (k : IntKind) (i : Int) : idxH H (.d (insD xs)) (.d (.lit (.int k i))) = .d (.cref (qp (xs[i.toNat]?.getD default)) 0) := rfl
@[simp high] theorem insD_idxOk (H : Heap) (n : Nat) (xs : List Inst) (k : IntKind) (i : Int) : q6o H n (.d (insD xs)) (.d (.lit (.int k i))) = (6 = n ∧ 0 ≤ i ∧ i < xs.length) := rfl
@[simp high] theorem insD_moreV (n : Nat) (xs : List Inst) : qbq n (.d (insD xs)) = if 6 = n then some (xs.length, fun k => qp (xs[k]?.getD default)) else none := rfl
@[simp high] theorem insD_slcV (xs : List Inst) (lo hi : Int) : slcV (.d (insD xs)) lo hi = .d (.sl 6 (hi.toNat - lo.toNat) fun i => qp (xs[lo.toNat + i]?.getD default)) := rfl
@[simp high] theorem insD_slcOk (n : Nat) (xs : List Inst) (lo hi : Int) : qia n (.d (insD xs)) lo hi = (6 = n ∧ 0 ≤ lo ∧ lo ≤ hi ∧ hi ≤ xs.length) := rfl
theorem qmp {len : Nat} {row : Nat → List DV} {xs : List Inst} (hl : len = xs.length) (h : ∀ i (hi : i < xs.length), row i = qp xs[i]) : DLe (.sl 6 len row) (insD xs) := by
 subst hl
 exact DLe.sl fun i hi => by rw [h i hi, List.getElem?_eq_getElem hi]; rfl
def qd (x : Block) : List DV := [.int x.params, insD x.ins, .int x.kind, .int x.ta, .int x.to, ql x.args, .int x.els, ql x.elses]
@[simp] theorem blockC_length (x : Block) : (qd x).length = 8 := rfl
@[simp] theorem blockC_0 (x : Block) : (qd x)[0]? = some (.int x.params) := rfl
@[simp] theorem blockC_1 (x : Block) : (qd x)[1]? = some (insD x.ins) := rfl
@[simp] theorem blockC_2 (x : Block) : (qd x)[2]? = some (.int x.kind) := rfl
@[simp] theorem blockC_3 (x : Block) : (qd x)[3]? = some (.int x.ta) := rfl
@[simp] theorem blockC_4 (x : Block) : (qd x)[4]? = some (.int x.to) := rfl
@[simp] theorem blockC_5 (x : Block) : (qd x)[5]? = some (ql x.args) := rfl
@[simp] theorem blockC_6 (x : Block) : (qd x)[6]? = some (.int x.els) := rfl
@[simp] theorem blockC_7 (x : Block) : (qd x)[7]? = some (ql x.elses) := rfl
@[simp] theorem blockC_cells (x : Block) : (∀ d, d ∈ qd x → d.cell = true) ↔ True := by unfold qd; simp
@[simp] theorem blockC_len? (x : Block) : (qd x)[8]? = none := rfl
@[simp] theorem blockC_map (x : Block) : (qd x).map AV.d = [.d (.int x.params), .d (insD x.ins), .d (.int x.kind), .d (.int x.ta), .d (.int x.to), .d (ql x.args), .d (.int x.els), .d (ql x.elses)] := rfl
@[reducible] def q1k (xs : List Block) : DV := .sl 8 xs.length fun k => qd (xs[k]?.getD default)
@[simp high] theorem blocksD_cell (xs : List Block) : DV.cell (q1k xs) = true := rfl
@[simp high] theorem blocksD_isLit (xs : List Block) : DV.isLit (q1k xs) = false := rfl
@[simp high] theorem blocksD_lenV (xs : List Block) : lenV (.d (q1k xs)) = .int xs.length := rfl
@[simp high] theorem blocksD_lenOk (H : Heap) (s : Bool) (xs : List Block) : qhn H s (.d (q1k xs)) = (s = false) := rfl
@[simp high] theorem blocksD_slLen (xs : List Block) : qj9 (.d (q1k xs)) = xs.length := rfl
@[simp high] theorem blocksD_idxV (H : Heap) (xs : List Block) (k : IntKind) (i : Int) : idxH H (.d (q1k xs)) (.d (.lit (.int k i))) = .d (.cref (qd (xs[i.toNat]?.getD default)) 0) := rfl
@[simp high] theorem blocksD_idxOk (H : Heap) (n : Nat) (xs : List Block) (k : IntKind) (i : Int) : q6o H n (.d (q1k xs)) (.d (.lit (.int k i))) = (8 = n ∧ 0 ≤ i ∧ i < xs.length) := rfl
@[simp high] theorem blocksD_moreV (n : Nat) (xs : List Block) : qbq n (.d (q1k xs)) = if 8 = n then some (xs.length, fun k => qd (xs[k]?.getD default)) else none := rfl
@[simp high] theorem blocksD_slcV (xs : List Block) (lo hi : Int) : slcV (.d (q1k xs)) lo hi = .d (.sl 8 (hi.toNat - lo.toNat) fun i => qd (xs[lo.toNat + i]?.getD default)) := rfl
@[simp high] theorem blocksD_slcOk (n : Nat) (xs : List Block) (lo hi : Int) : qia n (.d (q1k xs)) lo hi = (8 = n ∧ 0 ≤ lo ∧ lo ≤ hi ∧ hi ≤ xs.length) := rfl
def qm (x : Func) : List DV := [.str x.name, .int x.bind, .int x.params, q1k x.blocks]
@[simp] theorem funcC_length (x : Func) : (qm x).length = 4 := rfl
@[simp] theorem funcC_0 (x : Func) : (qm x)[0]? = some (.str x.name) := rfl
@[simp] theorem funcC_1 (x : Func) : (qm x)[1]? = some (.int x.bind) := rfl
@[simp] theorem funcC_2 (x : Func) : (qm x)[2]? = some (.int x.params) := rfl
@[simp] theorem funcC_3 (x : Func) : (qm x)[3]? = some (q1k x.blocks) := rfl
@[simp] theorem funcC_cells (x : Func) : (∀ d, d ∈ qm x → d.cell = true) ↔ True := by unfold qm; simp
@[simp] theorem funcC_len? (x : Func) : (qm x)[4]? = none := rfl
@[simp] theorem funcC_map (x : Func) : (qm x).map AV.d = [.d (.str x.name), .d (.int x.bind), .d (.int x.params), .d (q1k x.blocks)] := rfl
@[reducible] def q24 (xs : List Func) : DV := .sl 4 xs.length fun k => qm (xs[k]?.getD default)
@[simp high] theorem funcsD_cell (xs : List Func) : DV.cell (q24 xs) = true := rfl
@[simp high] theorem funcsD_isLit (xs : List Func) : DV.isLit (q24 xs) = false := rfl
@[simp high] theorem funcsD_lenV (xs : List Func) : lenV (.d (q24 xs)) = .int xs.length := rfl
@[simp high] theorem funcsD_lenOk (H : Heap) (s : Bool) (xs : List Func) : qhn H s (.d (q24 xs)) = (s = false) := rfl
@[simp high] theorem funcsD_slLen (xs : List Func) : qj9 (.d (q24 xs)) = xs.length := rfl
@[simp high] theorem funcsD_idxV (H : Heap) (xs : List Func) (k : IntKind) (i : Int) : idxH H (.d (q24 xs)) (.d (.lit (.int k i))) = .d (.cref (qm (xs[i.toNat]?.getD default)) 0) := rfl
@[simp high] theorem funcsD_idxOk (H : Heap) (n : Nat) (xs : List Func) (k : IntKind) (i : Int) : q6o H n (.d (q24 xs)) (.d (.lit (.int k i))) = (4 = n ∧ 0 ≤ i ∧ i < xs.length) := rfl
@[simp high] theorem funcsD_moreV (n : Nat) (xs : List Func) : qbq n (.d (q24 xs)) = if 4 = n then some (xs.length, fun k => qm (xs[k]?.getD default)) else none := rfl
@[simp high] theorem funcsD_slcV (xs : List Func) (lo hi : Int) : slcV (.d (q24 xs)) lo hi = .d (.sl 4 (hi.toNat - lo.toNat) fun i => qm (xs[lo.toNat + i]?.getD default)) := rfl
@[simp high] theorem funcsD_slcOk (n : Nat) (xs : List Func) (lo hi : Int) : qia n (.d (q24 xs)) lo hi = (4 = n ∧ 0 ≤ lo ∧ lo ≤ hi ∧ hi ≤ xs.length) := rfl
theorem q88 : DLe (.lit (.slice none 0 0)) (q24 []) := by
 intro X w v h; cases h; exact .nil _ _
def q67 (x : Glob) : List DV := [.str x.name, .int x.bind, .bool x.here, .lit (.int .u64 x.init)]
@[simp] theorem globC_length (x : Glob) : (q67 x).length = 4 := rfl
@[simp] theorem globC_0 (x : Glob) : (q67 x)[0]? = some (.str x.name) := rfl
@[simp] theorem globC_1 (x : Glob) : (q67 x)[1]? = some (.int x.bind) := rfl
@[simp] theorem globC_2 (x : Glob) : (q67 x)[2]? = some (.bool x.here) := rfl
@[simp] theorem globC_3 (x : Glob) : (q67 x)[3]? = some (.lit (.int .u64 x.init)) := rfl
@[simp] theorem globC_cells (x : Glob) : (∀ d, d ∈ q67 x → d.cell = true) ↔ True := by unfold q67; simp
@[simp] theorem globC_len? (x : Glob) : (q67 x)[4]? = none := rfl
@[simp] theorem globC_map (x : Glob) : (q67 x).map AV.d = [.d (.str x.name), .d (.int x.bind), .d (.bool x.here), .d (.lit (.int .u64 x.init))] := rfl
@[reducible] def q2u (xs : List Glob) : DV := .sl 4 xs.length fun k => q67 (xs[k]?.getD default)
@[simp high] theorem globsD_cell (xs : List Glob) : DV.cell (q2u xs) = true := rfl
@[simp high] theorem globsD_isLit (xs : List Glob) : DV.isLit (q2u xs) = false := rfl
@[simp high] theorem globsD_lenV (xs : List Glob) : lenV (.d (q2u xs)) = .int xs.length := rfl
@[simp high] theorem globsD_lenOk (H : Heap) (s : Bool) (xs : List Glob) : qhn H s (.d (q2u xs)) = (s = false) := rfl
@[simp high] theorem globsD_slLen (xs : List Glob) : qj9 (.d (q2u xs)) = xs.length := rfl
@[simp high] theorem globsD_idxV (H : Heap) (xs : List Glob) (k : IntKind) (i : Int) : idxH H (.d (q2u xs)) (.d (.lit (.int k i))) = .d (.cref (q67 (xs[i.toNat]?.getD default)) 0) := rfl
@[simp high] theorem globsD_idxOk (H : Heap) (n : Nat) (xs : List Glob) (k : IntKind) (i : Int) : q6o H n (.d (q2u xs)) (.d (.lit (.int k i))) = (4 = n ∧ 0 ≤ i ∧ i < xs.length) := rfl
@[simp high] theorem globsD_moreV (n : Nat) (xs : List Glob) : qbq n (.d (q2u xs)) = if 4 = n then some (xs.length, fun k => q67 (xs[k]?.getD default)) else none := rfl
@[simp high] theorem globsD_slcV (xs : List Glob) (lo hi : Int) : slcV (.d (q2u xs)) lo hi = .d (.sl 4 (hi.toNat - lo.toNat) fun i => q67 (xs[lo.toNat + i]?.getD default)) := rfl
@[simp high] theorem globsD_slcOk (n : Nat) (xs : List Glob) (lo hi : Int) : qia n (.d (q2u xs)) lo hi = (4 = n ∧ 0 ≤ lo ∧ lo ≤ hi ∧ hi ≤ xs.length) := rfl
theorem q4r : DLe (.lit (.slice none 0 0)) (q2u []) := by
 intro X w v h; cases h; exact .nil _ _
def q8 (x : Module) : List DV := [q24 x.funcs, q2u x.globs]
@[simp] theorem moduleC_length (x : Module) : (q8 x).length = 2 := rfl
@[simp] theorem moduleC_0 (x : Module) : (q8 x)[0]? = some (q24 x.funcs) := rfl
@[simp] theorem moduleC_1 (x : Module) : (q8 x)[1]? = some (q2u x.globs) := rfl
@[simp] theorem moduleC_cells (x : Module) : (∀ d, d ∈ q8 x → d.cell = true) ↔ True := by unfold q8; simp
@[simp] theorem moduleC_len? (x : Module) : (q8 x)[2]? = none := rfl
@[simp] theorem moduleC_map (x : Module) : (q8 x).map AV.d = [.d (q24 x.funcs), .d (q2u x.globs)] := rfl
def qd1 (x : Block) : List DV := [.int x.kind, .int x.ta, .int x.to, ql x.args, .int x.els, ql x.elses]
@[simp] theorem blockC_term (x : Block) : ((qd x).drop 2).take 6 = qd1 x := rfl
@[simp] theorem termC_cells (x : Block) : (∀ d, d ∈ qd1 x → d.cell = true) ↔ True := by unfold qd1; simp
@[simp] theorem termC_length (x : Block) : (qd1 x).length = 6 := rfl
@[simp] theorem termC_0 (x : Block) : (qd1 x)[0]? = some (.int x.kind) := rfl
@[simp] theorem termC_1 (x : Block) : (qd1 x)[1]? = some (.int x.ta) := rfl
@[simp] theorem termC_2 (x : Block) : (qd1 x)[2]? = some (.int x.to) := rfl
@[simp] theorem termC_3 (x : Block) : (qd1 x)[3]? = some (ql x.args) := rfl
@[simp] theorem termC_4 (x : Block) : (qd1 x)[4]? = some (.int x.els) := rfl
@[simp] theorem termC_5 (x : Block) : (qd1 x)[5]? = some (ql x.elses) := rfl
@[simp] theorem termC_map (x : Block) : (qd1 x).map AV.d = [.int x.kind, .int x.ta, .int x.to, .d (ql x.args), .int x.els, .d (ql x.elses)] := rfl
@[simp] theorem instC_all (x : Inst) : (qp x).take 6 = qp x := rfl
@[simp] theorem blockC_all (x : Block) : (qd x).take 8 = qd x := rfl
@[simp] theorem funcC_all (x : Func) : (qm x).take 4 = qm x := rfl
@[simp] theorem globC_all (x : Glob) : (q67 x).take 4 = q67 x := rfl
@[simp] theorem moduleC_all (x : Module) : (q8 x).take 2 = q8 x := rfl
@[simp] theorem termC_all (x : Block) : (qd1 x).take 6 = qd1 x := rfl
theorem z7g {X : Nat → Nat → Prop} {w : World} {v : Value} {n len : Nat} {row : Nat → List DV} (h : DRep X w v (.sl n len row)) : len ≤ maxLen := by
 cases h with
 | nil => exact Nat.zero_le _
 | emp => exact Nat.zero_le _
 | sl b off cap n len row vals h1 h2 => exact Nat.le_trans h1 h2
theorem qld {n : Nat} (h : n ≤ 9223372036854775807) : IntKind.i64.wrap (n : Int) = n := by
 rw [IntWalk.i64_in _ (by omega)]
theorem qq {n : Int} (h : -9223372036854775808 ≤ n ∧ n ≤ 9223372036854775807) : IntKind.i64.wrap n = n := IntWalk.i64_in _ h
theorem q5 {k : Nat} (h : k < 9223372036854775807) : IntKind.i64.wrap ((k : Int) + 1) = ((k + 1 : Nat) : Int) := by
 rw [IntWalk.i64_in _ (by omega)]; simp
theorem z4a {u v : Value} (h : u = v) : DLe (.lit u) (.lit v) := DLe.of_eq (by rw [h])
theorem qc {b c : Bool} (h : b = c) : DLe (.lit (.bool b)) (.lit (.bool c)) := DLe.of_eq (by rw [h])
theorem q6 {a b : Int} (h : a = b) : DLe (.lit (.int .i64 a)) (.lit (.int .i64 b)) := DLe.of_eq (by rw [h])
theorem len1 {P : Prop} {n len : Nat} {row : Nat → List DV} {as' : List DV} (hx : ∃ X w us, DReps X w us (.sl n len row :: as')) (h : len ≤ 9223372036854775807 → P) : P := by
 obtain ⟨X, w, us, h0⟩ := hx
 obtain ⟨v, vs, _, h1, _⟩ := h0.uncons
 have := z7g h1
 exact h (by simpa [maxLen] using this)
theorem qhm {cs : List DV} {as' : List DV} (hx : ∃ X w us, DReps X w us (.agg cs :: as')) {n len : Nat} {row : Nat → List DV} (i : Nat) (hc : cs[i]? = some (.sl n len row)) : len ≤ 9223372036854775807 := by
  obtain ⟨X, w, us, h0⟩ := hx
  obtain ⟨v, vs, _, h1, _⟩ := h0.uncons
  obtain ⟨hi, he⟩ := List.getElem?_eq_some_iff.1 hc
  cases h1 with
  | agg us' _ hl hr =>
    have h2 := hr i (by omega) hi
    rw [he] at h2
    simpa [maxLen] using z7g h2
@[simp] theorem appRow_zero (f g : Nat → List DV) : q13 0 f g = g := by funext i; simp [q13]
@[simp] theorem DLe_self (x : DV) : DLe x x := DLe.refl x
theorem qyu (s : ByteArray) : decide (s = ⟨#[]⟩) = (s.size == 0) := by
 rw [Bool.eq_iff_iff]
 simp only [decide_eq_true_eq, beq_iff_eq]
 constructor
 ·rintro rfl; rfl
 ·intro h
  apply ByteArray.ext
  exact Array.eq_empty_of_size_eq_zero h
attribute [simp] SLe TLe AVLe AVLe0 capsLe HLe hof OLe cellsLe qnl noR
end Go.Proofs.YtgadlpdbkohlbaaGreat
/- Plain laws: which instructions, blocks are the same. -/
namespace Go.Proofs.YtgadlpdbkohlbaaGreat
def qa0 (x y : Inst) : Bool :=
 (x.args == y.args) && (x.op == y.op) && (x.a == y.a) && (x.b == y.b) && ((x.k : Int) == (y.k : Int)) && (x.name.toList == y.name.toList)
theorem z51 {a b : ByteArray} (h : a.toList = b.toList) : a = b := by
 rw [ByteArray.toList_eq, ByteArray.toList_eq] at h
 cases a with | mk a => cases b with | mk b => simpa using h
theorem qa1 (x y : Inst) : qa0 x y = true ↔ x = y := by
 unfold qa0
 simp only [Bool.and_eq_true, beq_iff_eq]
 constructor
 ·rintro ⟨⟨⟨⟨⟨h1, h2⟩, h3⟩, h4⟩, h5⟩, h6⟩
  obtain ⟨o, a, b, k, n, l⟩ := x
  obtain ⟨o', a', b', k', n', l'⟩ := y
  simp only at h1 h2 h3 h4 h5 h6
  have := z51 h6
  have h5' : k = k' := by omega
  subst h1 h2 h3 h4 h5' this
  rfl
 ·rintro rfl; simp
theorem qi9 (x : Inst) : qa0 x x = true := (qa1 x x).2 rfl
instance : BEq Inst := ⟨qa0⟩
instance : LawfulBEq Inst where
 eq_of_beq h := (qa1 _ _).1 h
 rfl := qi9 _
def qso (x y : Block) : Bool :=
 (x.args == y.args) && (x.elses == y.elses) && (x.params == y.params) && ((x.ins.length : Int) == (y.ins.length : Int)) && (x.kind == y.kind) && (x.ta == y.ta) && (x.to == y.to) && (x.els == y.els)
def q9i (x y : Block) : Bool := qso x y && (x.ins == y.ins)
theorem q5l (x y : Block) : q9i x y = true ↔ x = y := by
 unfold q9i qso
 simp only [Bool.and_eq_true, beq_iff_eq]
 constructor
 ·rintro ⟨⟨⟨⟨⟨⟨⟨⟨h1, h2⟩, h3⟩, h4⟩, h5⟩, h6⟩, h7⟩, h8⟩, h9⟩
  obtain ⟨p, i, k, a, t, r, e, s⟩ := x
  obtain ⟨p', i', k', a', t', r', e', s'⟩ := y
  simp only at h1 h2 h3 h4 h5 h6 h7 h8 h9
  subst h1 h2 h3 h5 h6 h7 h8 h9
  rfl
 ·rintro rfl; simp
theorem z1p {xs ys : List Inst} {k : Nat} (h1 : k < xs.length) (h2 : k < ys.length) (h : qa0 xs[k] ys[k] = false) : (xs == ys) = false := by
 rw [beq_eq_false_iff_ne]
 rintro rfl
 rw [qi9] at h
 cases h
theorem qxa {xs ys : List Inst} (hl : xs.length = ys.length) (h : ∀ k (h : k < xs.length) (h' : k < ys.length), qa0 xs[k] ys[k] = true) : (xs == ys) = true := by
 rw [beq_iff_eq]
 exact List.ext_getElem hl (fun k h1 h2 => (qa1 _ _).1 (h k h1 h2))
end Go.Proofs.YtgadlpdbkohlbaaGreat
/- Contracts by the evaluator: the document's layer 5. -/
namespace Go.Proofs.YtgadlpdbkohlbaaGreat
open Go.RowKit
theorem z2f {len : Nat} {row : Nat → List DV} {xs : List Inst} (hl : len = xs.length) (h : ∀ i (hi : i < xs.length), DLes (row i) (qp xs[i])) : DLe (.sl 6 len row) (insD xs) := by
 subst hl
 exact qc1 fun i hi => by rw [List.getElem?_eq_getElem hi]; exact h i hi
theorem qgo {len : Nat} {row : Nat → List DV} {xs : List Block} (hl : len = xs.length) (h : ∀ i (hi : i < xs.length), DLes (row i) (qd xs[i])) : DLe (.sl 8 len row) (q1k xs) := by
 subst hl
 exact qc1 fun i hi => by rw [List.getElem?_eq_getElem hi]; exact h i hi
theorem qjr {len : Nat} {row : Nat → List DV} {xs : List Func} (hl : len = xs.length) (h : ∀ i (hi : i < xs.length), DLes (row i) (qm xs[i])) : DLe (.sl 4 len row) (q24 xs) := by
 subst hl
 exact qc1 fun i hi => by rw [List.getElem?_eq_getElem hi]; exact h i hi
theorem qcm (s : ByteArray) : APure Tryz.prog 19 [.str s] (.bool (qbm s)) := by
 refine qb [] [] Tryz.func19 (by kernel_rfl) qfm qg4 rfl rfl (fun _ => ?_)
 simp [q8i, q98]
 exact DLe.of_eq (by simp [qbm]; norm_cast)
theorem qlm {xs : List Int} {n : Int} {k : Nat} (h1 : k < xs.length) (h : q3r (xs.take k) n = true) (h2 : 0 ≤ xs[k]) (h3 : xs[k] < n) : q3r (xs.take (k + 1)) n = true := by
 rw [List.take_succ_eq_append_getElem h1]
 unfold q3r at *
 rw [List.all_append, h]
 simp [h2, h3]
theorem qp4 (xs : List Int) (n : Int) : APure Tryz.prog 84 [ql xs, .int n] (.bool (q3r xs n)) := by
 refine qb [] [] Tryz.func84 (by kernel_rfl) qds qe5 rfl rfl (fun hx => len1 hx fun hl => ?_)
 clear hx
 simp [q7b, q7o]
 refine qel (κ := Nat) (fun k => k ≤ xs.length ∧ q3r (xs.take k) n = true) (fun k => xs.length - k) (fun k => [(sl 5, .int k)]) (fun _ => []) 0 0 (srcs []) (by simp [q3r]) (by simp) ?_
 rintro k ⟨hk, hb⟩
 simp
 refine ⟨fun hlt => ?_, fun hge => ?_⟩
 ·have e : xs[k]?.getD 0 = xs[k] := by simp [hlt]
  rw [e]
  refine ⟨hlt, fun h => ⟨h, hlt⟩, fun h => qc ?_, fun h1 h2 => ⟨k + 1, ⟨by omega, qlm hlt hb h1 h2⟩, by omega, q6 (q5 (by omega)), srcs [], by simp⟩⟩
  unfold q3r
  symm
  rw [List.all_eq_false]
  exact ⟨xs[k], List.getElem_mem hlt, by simp; omega⟩
 ·rw [List.take_of_length_le hge] at hb
  exact qc hb.symm
theorem qwp {xs ys : List Int} {k : Nat} (h1 : k < xs.length) (h2 : k < ys.length) (h : xs.take k = ys.take k) (he : xs[k]?.getD 0 = ys[k]?.getD 0) : xs.take (k + 1) = ys.take (k + 1) := by
 rw [List.take_succ_eq_append_getElem h1, List.take_succ_eq_append_getElem h2, h]
 simp [h1, h2] at he
 rw [he]
theorem qmr (xs ys : List Int) : APure Tryz.prog 81 [ql xs, ql ys] (.bool (xs == ys)) := by
 refine qb [] [] Tryz.func81 (by kernel_rfl) qfh qfz rfl rfl (fun hx => len1 hx fun hl => ?_)
 clear hx
 simp [q8d, q93]
 refine ⟨fun h => qc ?_, fun hlen => ?_⟩
 ·symm; rw [beq_eq_false_iff_ne]; rintro rfl; exact h rfl
 have hlen' : xs.length = ys.length := by omega
 refine qel (κ := Nat) (fun k => k ≤ xs.length ∧ xs.take k = ys.take k) (fun k => xs.length - k) (fun k => [(sl 5, .int k)]) (fun _ => []) 0 0 (srcs []) (by simp) (by simp) ?_
 rintro k ⟨hk, hb⟩
 simp
 refine ⟨fun hlt => ⟨hlt, by omega, fun hne => qc ?_, fun he => ⟨k + 1, ⟨by omega, qwp hlt (by omega) hb he⟩, by omega, q6 (q5 (by omega)), srcs [], by simp⟩⟩, fun hge => qc ?_⟩
 ·symm; rw [beq_eq_false_iff_ne]; rintro rfl; exact hne rfl
 ·rw [List.take_of_length_le hge, List.take_of_length_le (by omega)] at hb
  symm; rw [beq_iff_eq]; exact hb
theorem qi5 (i : Inst) : APure Tryz.prog 51 [.agg (qp i)] (.bool (q4k i.op)) := by
 refine qb [] [] Tryz.func51 (by kernel_rfl) qdr qe4 rfl rfl (fun _ => ?_)
 simp [q7a, q7n]
 exact qc (by rw [Bool.eq_iff_iff]; simp [q4k]; omega)
theorem qku {n len len' : Nat} {row row' : Nat → List DV} (hl : len = len') (h : ∀ i, i < len → row i = row' i) : DLe (.sl n len row) (.sl n len' row') := by
 subst hl; exact DLe.sl h
theorem qrf {n : Nat} {row : Nat → List DV} : DLe (.lit (.slice none 0 0)) (.sl n 0 row) := by
 intro X w v h
 cases h
 exact .nil n row
theorem DLe_nil' {n len : Nat} {row : Nat → List DV} (h : len = 0) : DLe (.lit (.slice none 0 0)) (.sl n len row) := by
 subst h; exact qrf
set_option maxRecDepth 10000 in
theorem qcn (i : Inst) (hl : i.args.length ≤ 17592186044416) : APure Tryz.prog 85 [.agg (qp i)] (ql (uses i)) := by
 refine qb _ [] Tryz.func85 (by kernel_rfl) qfk qg2 rfl rfl (fun _ => ?_)
 simp [q8g, q96]
 refine ⟨fun h1 h2 => ?_, fun h1 => ⟨fun h2 => ?_, fun h2 h3 => ⟨fun h4 => ⟨by omega, ?_⟩, fun h4 => ?_⟩⟩⟩
 ·rw [show uses i = [i.a, i.b] by simp [uses, h1, h2]]
  exact q36 rfl (fun k hk => by rcases (by simp at hk; omega : k = 0 ∨ k = 1) with rfl | rfl <;> rfl)
 ·rw [show uses i = [i.a] by unfold uses; rw [if_neg (by omega), if_pos h2]]
  exact q36 rfl (fun k hk => by
    obtain rfl : k = 0 := by simpa using hk
    rfl)
 ·rw [show uses i = i.args by unfold uses; rw [if_neg (by omega), if_neg (by omega), if_pos h4]]
  exact DLe.refl _
 ·rw [show uses i = [] by unfold uses; rw [if_neg (by omega), if_neg (by omega), if_neg h4]]
  exact q3d
set_option maxRecDepth 10000 in
theorem qvx (i : Inst) (n : Int) (hl : i.args.length ≤ 17592186044416) : APure Tryz.prog 55 [.agg (qp i), .int n] (.bool (qt i n)) := by
 refine qb _ [] Tryz.func55 (by kernel_rfl) qfg qfy rfl rfl (fun _ => ?_)
 simp [q8c, q92]
 refine q4 _ (by simp) (by simp) (fun _ => rfl) (fun _ => qcn i hl) ?_
 simp
 refine q4 _ (by simp) (by simp) (fun _ => rfl) (fun _ => qp4 (uses i) n) ?_
 simp [ql]
 refine ⟨fun h => qc ?_, fun a1 a2 a3 a4 => ?_⟩
 ·symm
  rcases h with ((h | h) | h) | h
  ·simp [qt]; omega
  ·simp [qt]; omega
  ·simp [qt, h]
  ·exact qmq h
 refine ⟨by omega, by omega, by omega, by omega, by omega, by omega, by omega, by omega, fun h => qc ?_, fun b1 b2 b3 b4 => ?_⟩
 ·symm
  rcases h with ((h | h) | h) | h
  ·exact qv6 h.2 (by omega) (by omega) (by omega)
  ·exact qpu h.2 (by omega)
  ·exact qpv (by omega) h.1
  ·exact qjt h.2 h.1
 have e := qv7 (i := i) (n := n) a1 a2 a3 (by omega) (by omega) (by omega) (by by_cases h14 : i.op = 14 <;> simp [h14] at b4 ⊢; simp [b4]) (by omega)
 refine q4 _ (by simp) (by simp) (fun _ => rfl) (fun _ => qi5 i) ?_
 simp
 refine ⟨fun h => ?_, fun h => qc ?_⟩
 ·refine q4 _ (by simp) (by simp) (fun _ => rfl) (fun _ => qcm i.name) ?_
  simp
  exact qc (by rw [e, h]; rfl)
 ·rw [e, h, qyu]
  rfl
end Go.Proofs.YtgadlpdbkohlbaaGreat
/- Contracts by the evaluator: the document's layer 5, blocks and functions. -/
namespace Go.Proofs.YtgadlpdbkohlbaaGreat
open Go.RowKit
theorem ql3 {f : Func} {to : Int} {l : List Int} {n : Int} (h0 : 0 ≤ to) (h1 : to < f.blocks.length) (h : (l.length : Int) = (f.blocks[to.toNat]?.getD default).params) : q4a f to l n = q3r l n := by
 unfold q4a
 have hlt : to.toNat < f.blocks.length := by omega
 rw [List.getElem?_eq_getElem hlt] at h ⊢
 simp at h
 simp [h0, h]
theorem qmi {f : Func} {to : Int} {l : List Int} {n : Int} (h : (to < 0 ∨ (f.blocks.length : Int) ≤ to) ∨ ¬ (l.length : Int) = (f.blocks[to.toNat]?.getD default).params) : q4a f to l n = false := by
 by_cases h0 : to < 0
 ·exact goesB_lo h0
 by_cases h1 : (f.blocks.length : Int) ≤ to
 ·exact goesB_hi (by omega) h1
 have h : ¬ (l.length : Int) = (f.blocks[to.toNat]?.getD default).params := by simpa [h0, h1] using h
 unfold q4a
 have hlt : to.toNat < f.blocks.length := by omega
 rw [List.getElem?_eq_getElem hlt] at h ⊢
 simp at h
 simp [h]
set_option maxRecDepth 10000 in
theorem qmk (f : Func) (to : Int) (l : List Int) (n : Int) : APure Tryz.prog 56 [.agg (qm f), .int to, ql l, .int n] (.bool (q4a f to l n)) := by
 refine qb _ [] Tryz.func56 (by kernel_rfl) qfl qg3 rfl rfl (fun _ => ?_)
 simp [q8h, q97]
 refine ⟨fun h => qc (qmi h).symm, fun h0 h1 h2 => ?_⟩
 refine q4 _ (by simp) (by simp) (fun _ => rfl) (fun _ => qp4 l n) ?_
 simp
 exact qc (ql3 h0 h1 h2).symm
theorem getD_some {α : Type} {l : List α} {k : Nat} {d : α} (h : k < l.length) : l[k]?.getD d = l[k] := by simp [h]
set_option maxHeartbeats 2000000 in
set_option maxRecDepth 10000 in
theorem qsk (f : Func) (k : Nat) (hk : k < f.blocks.length) (hi : ∀ i ∈ f.blocks[k].ins, i.args.length ≤ 17592186044416) :
  APure Tryz.prog 33 [.agg (qm f), .int k] (.bool (qj f f.blocks[k])) := by
 refine qb _ [] Tryz.func33 (by kernel_rfl) qdt qe6 rfl rfl (fun _ => ?_)
 simp [q7c, q7p, hk]
 generalize f.blocks[k] = b at *
 refine ⟨fun h => qc ?_, fun h0 h6 h32 => ?_⟩
 ·symm
  rcases h with (h | h) | h
  ·exact qp9 h
  ·exact qp8 h
  ·exact qjg (by omega)
 refine qel (κ := Nat) (fun m => m ≤ b.ins.length ∧ ∀ j (h : j < b.ins.length), j < m → qt b.ins[j] (b.params + j) = true) (fun m => b.ins.length - m) (fun m => [(sl 6, .int m)]) (fun _ => []) 0 0 (srcs []) (by simp) (by simp) ?_
 rintro m ⟨hm, hb⟩
 have hw : IntKind.i64.wrap (b.params + (m : Int)) = b.params + m := qq (by omega)
 have hw' : IntKind.i64.wrap (b.params + (b.ins.length : Int)) = b.params + b.ins.length := qq (by omega)
 simp [hw, hw']
 refine ⟨fun hlt => ⟨hlt, ?_⟩, fun hge => ?_⟩
 ·refine q4 _ (by simp) (by simp) (fun _ => rfl) (fun _ => qvx (b.ins[m]?.getD default) (b.params + m) (by rw [getD_some hlt]; exact hi _ (List.getElem_mem hlt))) ?_
  simp [hlt]
  refine ⟨fun h => qc (qlo hlt h).symm, fun h => ?_⟩
  refine ⟨m + 1, ⟨by omega, fun j hj hj' => ?_⟩, by omega, q6 (q5 (by omega)), (srcs []), (by simp)⟩
  rcases Nat.lt_or_ge j m with h1 | h1
  ·exact hb j hj h1
  ·obtain rfl : j = m := by omega
   exact h
 ·have he := qez (f := f) h0 h6 (by omega) (fun j hj => hb j hj (by omega))
  have en : b.params + (b.ins.length : Int) = b.params + b.ins.length := rfl
  refine ⟨fun hk1 => ?_, fun hk1 => ⟨fun hk2 => ?_, fun hk2 => qc ?_⟩⟩
  ·refine q4 _ (by simp) (by simp) (fun _ => rfl) (fun _ => qmk f b.to b.args (b.params + b.ins.length)) ?_
   simp
   refine qc ?_
   rw [he, qh6 hk1, Bool.eq_iff_iff]
   simp [and_assoc]
  ·refine q4 _ (by simp) (by simp) (fun _ => rfl) (fun _ => qmk f b.to b.args (b.params + b.ins.length)) ?_
   simp
   refine q4 _ (by simp) (by simp) (fun _ => rfl) (fun _ => qmk f b.els b.elses (b.params + b.ins.length)) ?_
   simp
   refine qc ?_
   rw [he, qrt hk2]
  ·rw [he, qad hk1 hk2, Bool.eq_iff_iff]
   simp [and_assoc]
set_option maxRecDepth 10000 in
theorem qk6 (f : Func) (hi : ∀ b ∈ f.blocks, ∀ i ∈ b.ins, i.args.length ≤ 17592186044416) :
  APure Tryz.prog 18 [.agg (qm f)] (.bool (qr f)) := by
 refine qb _ [] Tryz.func18 (by kernel_rfl) qff qfx rfl rfl (fun _ => ?_)
 simp [q8b, q91]
 refine q4 _ (by simp) (by simp) (fun _ => rfl) (fun _ => qcm f.name) ?_
 simp
 refine ⟨fun h => qc ?_, fun a1 a2 a3 a4 a5 a6 => ⟨fun h => qc ?_, fun h => ⟨List.length_pos_iff.2 h, fun hp => qc ?_, fun hp => ?_⟩⟩⟩
 ·symm
  rcases h with ((((h | h) | h) | h) | h) | h
  ·exact qmh h
  ·exact quq h
  ·exact qur h
  ·exact qut h
  ·exact quu h
  ·exact z07 (by omega)
 ·rw [qpr a1 a2 a3 a4 a5 (by simp [h])]
  rfl
 ·have hl := List.length_pos_iff.2 h
  rw [getD_some hl] at hp
  rw [qf2 a1 a2 a3 a4 a5 (by omega) hl]
  simp [hp]
 have hl := List.length_pos_iff.2 h
 rw [getD_some hl] at hp
 have hf := qf2 a1 a2 a3 a4 a5 (by omega) hl
 refine qel (κ := Nat) (fun m => m ≤ f.blocks.length ∧ ∀ j (h : j < f.blocks.length), j < m → qj f f.blocks[j] = true) (fun m => f.blocks.length - m) (fun m => [(sl 4, .int m)]) (fun _ => []) 0 0 (srcs []) (by simp) (by simp) ?_
 rintro m ⟨hm, hb⟩
 simp
 refine ⟨fun hlt => ?_, fun hge => qc ?_⟩
 ·refine q4 _ (by simp) (by simp) (fun _ => rfl) (fun _ => qsk f m hlt (hi _ (List.getElem_mem hlt))) ?_
  simp
  refine ⟨fun h => qc ?_, fun h => ?_⟩
  ·rw [hf, qtr hlt h]; simp
  refine ⟨m + 1, ⟨by omega, fun j hj hj' => ?_⟩, by omega, q6 (q5 (by omega)), (srcs []), (by simp)⟩
  rcases Nat.lt_or_ge j m with h1 | h1
  ·exact hb j hj h1
  ·obtain rfl : j = m := by omega
   exact h
 ·rw [hf, qlh (fun j hj => hb j hj (by omega)), hp]; simp
set_option maxRecDepth 10000 in
theorem qsq (x y : Inst) :
  APure Tryz.prog 82 [.agg (qp x), .agg (qp y)] (.bool (qa0 x y)) := by
 refine qb _ [] Tryz.func82 (by kernel_rfl) qb9 qbh rfl rfl (fun _ => ?_)
 simp [q52, q5j]
 refine q4 _ (by simp) (by simp) (fun _ => rfl) (fun _ => qmr x.args y.args) ?_
 simp
 refine qc ?_
 rw [Bool.eq_iff_iff, qa1]
 obtain ⟨o, a, b, k, n, l⟩ := x
 obtain ⟨o', a', b', k', n', l'⟩ := y
 simp
 norm_cast
 constructor
 ·rintro ⟨⟨⟨⟨⟨h1, h2⟩, h3⟩, h4⟩, h5⟩, h6⟩
  exact ⟨h2, h3, h4, h5, h6, h1⟩
 ·rintro ⟨h2, h3, h4, h5, h6, h1⟩
  exact ⟨⟨⟨⟨⟨h1, h2⟩, h3⟩, h4⟩, h5⟩, h6⟩
theorem qoi {x y : Block} (h : (((((((¬x.args = y.args ∨ ¬x.elses = y.elses) ∨ ¬x.params = y.params) ∨ ¬(x.ins.length : Int) = y.ins.length) ∨ ¬x.kind = y.kind) ∨ ¬x.ta = y.ta) ∨ ¬x.to = y.to) ∨ ¬x.els = y.els)) : q9i x y = false := by
 rw [← Bool.not_eq_true, q5l]
 rintro rfl
 simp at h
set_option maxRecDepth 10000 in
theorem qoj (x y : Block) :
  APure Tryz.prog 50 [.agg (qd x), .agg (qd y)] (.bool (q9i x y)) := by
 refine qb _ [] Tryz.func50 (by kernel_rfl) qao qas rfl rfl (fun hx => ?_)
 simp [q4p, q4u]
 refine q4 _ (by simp) (by simp) (fun _ => rfl) (fun _ => qmr x.args y.args) ?_
 simp
 refine q4 _ (by simp) (by simp) (fun _ => rfl) (fun _ => qmr x.elses y.elses) ?_
 simp
 refine ⟨fun h => qc (qoi h).symm, fun e1 e2 e3 e4 e5 e6 e7 e8 => ?_⟩
 have hl : x.ins.length = y.ins.length := by omega
 have hm63 := qhm hx 1 rfl
 refine qel (κ := Nat) (fun m => m ≤ x.ins.length ∧ ∀ j (h : j < x.ins.length) (h' : j < y.ins.length), j < m → qa0 x.ins[j] y.ins[j] = true) (fun m => x.ins.length - m) (fun m => [(sl 6, .int m)]) (fun _ => []) 0 0 (srcs []) (by simp) (by simp) ?_
 rintro m ⟨hm, hb⟩
 simp
 refine ⟨fun hlt => ⟨hlt, by omega, ?_⟩, fun hge => qc ?_⟩
 ·have hlt' : m < y.ins.length := by omega
  refine q4 _ (by simp) (by simp) (fun _ => rfl) (fun _ => qsq (x.ins[m]?.getD default) (y.ins[m]?.getD default)) ?_
  simp [hlt, hlt']
  refine ⟨fun h => qc ?_, fun h => ?_⟩
  ·unfold q9i; rw [z1p hlt hlt' h]; simp
  refine ⟨m + 1, ⟨by omega, fun j hj hj' hj'' => ?_⟩, by omega, q6 (q5 (by omega)), (srcs []), (by simp)⟩
  rcases Nat.lt_or_ge j m with h1 | h1
  ·exact hb j hj hj' h1
  ·obtain rfl : j = m := by omega
   exact h
 ·symm
  unfold q9i qso
  rw [qxa hl (fun j h h' => hb j h h' (by omega))]
  simp [e1, e2, e3, e4, e5, e6, e7, e8]
end Go.Proofs.YtgadlpdbkohlbaaGreat
/- Contracts by the evaluator: the program's layer 5, instructions. -/
namespace Go.Proofs.YtgadlpdbkohlbaaGreat
open Go.RowKit
theorem qo6 (b : Block) : APure Tryz.prog 130 [.agg (qd b)] (.int (IntKind.i64.wrap (b.params + b.ins.length))) := by
 refine qb _ _ Tryz.func130 (by kernel_rfl) qyy qze rfl rfl (fun _ => ?_)
 simp [qlu, qnb]
theorem qn0 (s : ByteArray) : APure Tryz.prog 86 [.str s] (.bool (qbm s)) := by
 refine qb _ _ Tryz.func86 (by kernel_rfl) z7t z88 rfl rfl (fun _ => ?_)
 simp [qu6, qvu]
 refine qc ?_
 rw [qyu, qbm, Bool.eq_iff_iff]
 simp only [Bool.and_eq_true, Bool.not_eq_true', beq_eq_false_iff_ne, decide_eq_true_eq]
 omega
theorem qqb (i : Inst) : APure Tryz.prog 64 [.agg (qp i)] (.bool (q4k i.op)) := by
 refine qb _ _ Tryz.func64 (by kernel_rfl) z3i z40 rfl rfl (fun _ => ?_)
 simp [qph, qqu]
 exact qc (by rw [Bool.eq_iff_iff]; simp [q4k]; omega)
theorem z1w (xs : List Int) (hl : xs.length ≤ 17592186044416) : APure Tryz.prog 137 [ql xs] (ql xs) := by
 refine APure.nilSplit (fun h0 => ?_) ?_
 ·refine qb _ _ Tryz.func137 (by kernel_rfl) q1i q1j rfl rfl (fun _ => ?_)
  simp [qv, qx]
  exact DLe_nil' h0
 ·refine qb _ _ Tryz.func137 (by kernel_rfl) q1i q1j rfl rfl (fun _ => ?_)
  simp [qv, qx]
  omega
theorem z4q (v n : Int) : APure Tryz.prog 144 [.int v, .cref [.int n] 0] (.bool (decide (v < 0) || decide (n ≤ v))) := by
 refine qb _ _ Tryz.func144 (by kernel_rfl) z3e z3w rfl rfl (fun _ => ?_)
 simp [qpd, qqq]
def q44 {α : Type} (p : α → Bool) (xs : List α) : Int := match xs.findIdx? p with | some i => i | none => -1
theorem q49 {α : Type} {p : α → Bool} {xs : List α} {k : Nat} (hk : k < xs.length) (hno : ∀ i (h : i < xs.length), i < k → p xs[i] = false) (h : p xs[k] = true) : q44 p xs = k := by
 unfold q44
 rw [List.findIdx?_eq_some_iff_getElem.2 ⟨hk, h, fun j hj => by simpa using hno j (by omega) hj⟩]
theorem q4q {α : Type} {p : α → Bool} {xs : List α} (hno : ∀ i (h : i < xs.length), p xs[i] = false) : q44 p xs = -1 := by
 unfold q44
 rw [List.findIdx?_eq_none_iff.2]
 intro x hx
 obtain ⟨i, hi, rfl⟩ := List.getElem_of_mem hx
 exact hno i hi
theorem qdb {α : Type} (p : α → Bool) (xs : List α) : decide (0 ≤ q44 p xs) = xs.any p := by
  unfold q44
  cases h : xs.findIdx? p with
  | none =>
    have := List.findIdx?_eq_none_iff.1 h
    symm
    rw [show decide ((0:Int) ≤ -1) = false from rfl]
    simpa using this
  | some i =>
    obtain ⟨hi, hp, _⟩ := List.findIdx?_eq_some_iff_getElem.1 h
    have h1 : xs.any p = true := List.any_eq_true.2 ⟨xs[i], List.getElem_mem hi, hp⟩
    rw [h1]; simp
@[simp] theorem mapO_dmap (p : Bool) (H : Heap) (n : Nat) (l : List DV) : mapO (frz p H n) (l.map AV.d) = some l := by
  induction l with
  | nil => rfl
  | cons a l ih =>
    have : frz p H n (AV.d a) = some a := by cases n <;> rfl
    simp [mapO, this, ih]
theorem qs8 (xs : List Int) (F : FuncId) (caps : List DV) (p : Int → Bool) (hF : ∀ v, APure Tryz.prog F (.int v :: caps) (.bool (p v))) : APure Tryz.prog 148 [ql xs, .fn F caps] (.int (q44 p xs)) := by
 refine qb _ _ Tryz.func148 (by kernel_rfl) q74 q75 rfl rfl (fun hx => len1 hx fun hl => ?_)
 clear hx
 simp [q39, q3e]
 refine qe (κ := Nat) (fun k => k ≤ xs.length ∧ ∀ i (h : i < xs.length), i < k → p xs[i] = false) (fun k => xs.length - k) (fun k => [(sl 8, .int k)]) (fun _ => []) 0 0 (srcs []) (by simp) (by simp) ?_
 rintro k ⟨hk, hb⟩
 simp
 refine ⟨fun hlt => ⟨hlt, ?_⟩, fun hge => ?_⟩
 ·refine q4 _ (by simp) (by simp) (fun _ => by simp; rfl) (fun _ => hF _) ?_
  simp
  rw [getD_some hlt]
  refine ⟨fun h => q6 (q49 hlt hb h).symm, fun h => ?_⟩
  refine ⟨k + 1, ⟨by omega, fun i hi h1 => ?_⟩, by omega, srcs [], ?_⟩
  ·rcases Nat.lt_or_ge i k with h2 | h2
   ·exact hb i hi h2
   ·obtain rfl : i = k := by omega
    exact h
  ·simp [SLeK]
   exact q6 (q5 (by omega))
 ·exact q6 (q4q fun i hi => hb i hi (by omega)).symm
theorem qki (xs : List Int) (F : FuncId) (caps : List DV) (p : Int → Bool) (hF : ∀ v, APure Tryz.prog F (.int v :: caps) (.bool (p v))) : APure Tryz.prog 143 [ql xs, .fn F caps] (.bool (xs.any p)) := by
 refine qb _ _ Tryz.func143 (by kernel_rfl) q5r q5t rfl rfl (fun _ => ?_)
 simp [q2o, q2q]
 refine q4 _ (by simp) (by simp) (fun _ => rfl) (fun _ => qs8 xs F caps p hF) ?_
 simp
 exact qc (qdb p xs)
theorem qkw (xs : List Int) (n : Int) : APure Tryz.prog 129 [ql xs, .int n] (.bool (q3r xs n)) := by
  refine qb _ _ Tryz.func129 (by kernel_rfl) t_ir_all u_ir_all rfl rfl (fun _ => ?_)
  simp [qzt, z0v]
  refine q4 _ (by simp) (by simp) (fun _ => rfl) (fun _ => qki xs _ _ _ (fun v => z4q v n)) ?_
  simp
  refine qc ?_
  unfold q3r
  rename_i hx
  clear hx
  induction xs with
  | nil => rfl
  | cons x xs ih =>
    simp only [List.any_cons, List.all_cons, Bool.not_or, ih]
    congr 1
    rw [Bool.eq_iff_iff]; simp
set_option maxRecDepth 10000 in
theorem qiq (i : Inst) (hl : i.args.length ≤ 17592186044416) : APure Tryz.prog 117 [.agg (qp i)] (ql (uses i)) := by
 refine qb _ _ Tryz.func117 (by kernel_rfl) z7r z86 rfl rfl (fun _ => ?_)
 simp [qu4, qvs]
 refine ⟨fun h1 h2 => ?_, fun h1 => ⟨fun h2 => ?_, fun h2 => ⟨fun h3 => ?_, fun h3 => ⟨fun h4 => ?_, fun h4 => ?_⟩⟩⟩⟩
 ·rw [show uses i = [i.a, i.b] by simp [uses, h1, h2]]
  exact q36 rfl (fun k hk => by rcases (by simp at hk; omega : k = 0 ∨ k = 1) with rfl | rfl <;> rfl)
 ·rw [show uses i = [i.a] by unfold uses; rw [if_neg (by omega), if_pos (by omega)]]
  exact q36 rfl (fun k hk => by
    obtain rfl : k = 0 := by simpa using hk
    rfl)
 ·rw [show uses i = [i.a] by unfold uses; rw [if_neg (by omega), if_pos (by omega)]]
  exact q36 rfl (fun k hk => by
    obtain rfl : k = 0 := by simpa using hk
    rfl)
 ·refine q4 _ (by simp) (by simp) (fun _ => rfl) (fun _ => z1w i.args hl) ?_
  simp
  rw [show uses i = i.args by unfold uses; rw [if_neg (by omega), if_neg (by omega), if_pos h4]]
  exact DLe.refl _
 ·rw [show uses i = [] by unfold uses; rw [if_neg (by omega), if_neg (by omega), if_neg h4]]
  exact q3d
set_option maxRecDepth 10000 in
theorem z6b (i : Inst) (n : Int) (hl : i.args.length ≤ 17592186044416) : APure Tryz.prog 110 [.agg (qp i), .int n] (.bool (qt i n)) := by
 refine qb _ _ Tryz.func110 (by kernel_rfl) z7p z84 rfl rfl (fun _ => ?_)
 simp [qu2, qvq]
 refine q4 _ (by simp) (by simp) (fun _ => rfl) (fun _ => qiq i hl) ?_
 simp
 refine q4 _ (by simp) (by simp) (fun _ => by simp) (fun _ => qkw (uses i) n) ?_
 simp
 refine ⟨fun h => qc ?_, fun a1 a2 a3 => ⟨fun h => ?_, fun h h' => ?_, fun h => ?_, fun h => ?_, fun h => qc ?_, fun hA hB => ⟨fun h h' => qc ?_, fun hK => ⟨fun h => ?_, fun h => qc ?_, fun hN h6 => ?_⟩⟩⟩⟩
 ·symm
  rcases h with (h | h) | h
  ·simp [qt]; omega
  ·simp [qt]; omega
  ·simp [qt, h]
 ·omega
 ·omega
 ·exact ⟨h, fun h' => ⟨h, h'⟩⟩
 ·omega
 ·symm
  rcases h with h | h
  ·exact qv6 h.2 (by omega) (by omega) (by omega)
  ·exact qpu h.2 (by omega)
 ·exact (qpv (by omega) h).symm
 ·by_cases h14 : i.op = 14
  ·exact .inl h14
  ·exact .inr (h h14)
 ·symm
  rcases h with h | h
  ·exact qjt h.2 h.1
  ·exact qmq h
 have e := qv7 (i := i) (n := n) a1 a2 a3 (by omega) (by omega) (by by_cases h1 : i.op = 1; exact .inl h1; exact .inr (by have := hK h1; omega)) (by by_cases h14 : i.op = 14; exact .inl h14; exact .inr (by simp [hN h14])) (by omega)
 refine q4 _ (by simp) (by simp) (fun _ => rfl) (fun _ => qqb i) ?_
 simp
 refine ⟨fun h => ?_, fun h => qc ?_⟩
 ·refine q4 _ (by simp) (by simp) (fun _ => rfl) (fun _ => qn0 i.name) ?_
  simp
  exact qc (by rw [e, h]; rfl)
 ·rw [e, h, qyu]
  rfl
end Go.Proofs.YtgadlpdbkohlbaaGreat
/- Contracts by the evaluator: the program's layer 5, blocks and functions. -/
namespace Go.Proofs.YtgadlpdbkohlbaaGreat
open Go.RowKit
set_option maxRecDepth 10000 in
theorem qm7 (f : Func) (to : Int) (l : List Int) (n : Int) : APure Tryz.prog 131 [.int to, ql l, .cref (qm f) 0, .cref [.int n] 0] (.bool (q4a f to l n)) := by
 refine qb _ _ Tryz.func131 (by kernel_rfl) z3g z3y rfl rfl (fun _ => ?_)
 simp [qpf, qqs]
 refine q4 _ (by simp) (by simp) (fun _ => by simp) (fun _ => qkw l n) ?_
 simp
 refine qc ?_
 by_cases h : (to < 0 ∨ (f.blocks.length : Int) ≤ to) ∨ ¬ (l.length : Int) = (f.blocks[to.toNat]?.getD default).params
 ·rw [qmi h]
  rcases h with (h | h) | h
  ·simp [show ¬ 0 ≤ to by omega]
  ·simp [show ¬ to < f.blocks.length by omega]
  ·simp [h]
 ·rw [ql3 (by omega) (by omega) (by omega)]
  simp [show 0 ≤ to by omega, show to < f.blocks.length by omega, show (l.length : Int) = (f.blocks[to.toNat]?.getD default).params by omega]
theorem z6t (x : Int) : DLe (.sl 1 1 fun i => List.take 1 (List.drop i [DV.int x])) (ql [x]) :=
 q36 rfl (fun k hk => by
   obtain rfl : k = 0 := by simpa using hk
   rfl)
set_option maxRecDepth 10000 in
theorem end_pure (f : Func) (b : Block) (h0 : 0 ≤ b.params) (h6 : b.params ≤ 6) (h32 : b.ins.length ≤ 32) : APure Tryz.prog 111 [.agg (qm f), .agg (qd b)] (.bool (endB f b)) := by
 have hw : IntKind.i64.wrap (b.params + (b.ins.length : Int)) = b.params + b.ins.length := qq (by omega)
 refine qb _ _ Tryz.func111 (by kernel_rfl) t_ir_end u_ir_end rfl rfl (fun _ => ?_)
 simp [qzu, z0w]
 refine q4 _ (by simp) (by simp) (fun _ => rfl) (fun _ => qo6 b) ?_
 rw [hw]
 simp
 refine ⟨fun k1 => ?_, fun k1 => ⟨fun k2 => ?_, fun k2 => ⟨fun k3 => ?_, fun k3 => ?_⟩⟩⟩
 ·refine q4 _ (by simp) (by simp) (fun _ => by simp; rfl) (fun _ => qm7 f b.to b.args (b.params + b.ins.length)) ?_
  simp
  refine qc ?_
  rw [qh6 k1, Bool.eq_iff_iff]
  simp [and_assoc]
  constructor
  ·rintro ⟨h1, h2, h3, h4⟩; exact ⟨h4, h1, h2, h3⟩
  ·rintro ⟨h4, h1, h2, h3⟩; exact ⟨h1, h2, h3, h4⟩
 ·refine q81 (ds := ?ds) (qkw [b.ta] (b.params + b.ins.length)) (by simp) (by simp) ?hd ?hle ?h
  case hd => intro _; simp; rfl
  case hle => intro _; exact ⟨z6t _, DLe.refl _, trivial⟩
  simp
  refine q4 _ (by simp) (by simp) (fun _ => by simp; rfl) (fun _ => qm7 f b.to b.args (b.params + b.ins.length)) ?_
  simp
  refine q4 _ (by simp) (by simp) (fun _ => by simp; rfl) (fun _ => qm7 f b.els b.elses (b.params + b.ins.length)) ?_
  simp
  refine qc ?_
  rw [qrt k2, Bool.eq_iff_iff]
  simp [q3r]
 ·refine q81 (ds := ?ds2) (qkw [b.ta] (b.params + b.ins.length)) (by simp) (by simp) ?hd2 ?hle2 ?h2
  case hd2 => intro _; simp; rfl
  case hle2 => intro _; exact ⟨z6t _, DLe.refl _, trivial⟩
  simp
  refine qc ?_
  rw [qad k1 k2, Bool.eq_iff_iff]
  simp [q3r, k3]
  constructor
  ·rintro ⟨⟨⟨h1, h2, h3⟩, h4⟩, h5⟩; exact ⟨⟨⟨⟨h1, h4⟩, h5⟩, h2⟩, h3⟩
  ·rintro ⟨⟨⟨⟨h1, h4⟩, h5⟩, h2⟩, h3⟩; exact ⟨⟨⟨h1, h2, h3⟩, h4⟩, h5⟩
 ·rw [qad k1 k2, beq_eq_false_iff_ne.2 k3]
  exact DLe.refl _
set_option maxRecDepth 10000 in
theorem z1r (f : Func) (b : Block) (hi : ∀ i ∈ b.ins, i.args.length ≤ 17592186044416) : APure Tryz.prog 89 [.agg (qm f), .agg (qd b)] (.bool (qj f b)) := by
 refine qb _ _ Tryz.func89 (by kernel_rfl) z3f z3x rfl rfl (fun _ => ?_)
 simp [qpe, qqr]
 refine ⟨fun h => qc ?_, fun h0 h6 h32 => ?_⟩
 ·symm
  rcases h with (h | h) | h
  ·exact qp9 h
  ·exact qp8 h
  ·exact qjg (by omega)
 refine qe (κ := Nat) (fun m => m ≤ b.ins.length ∧ ∀ j (h : j < b.ins.length), j < m → qt b.ins[j] (b.params + j) = true) (fun m => b.ins.length - m) (fun m => [(sl 24, .int m)]) (fun _ => []) 0 0 (srcs []) (by simp) (by simp) ?_
 rintro m ⟨hm, hb⟩
 have hw : IntKind.i64.wrap (b.params + (m : Int)) = b.params + m := qq (by omega)
 simp [hw]
 refine ⟨fun hlt => ⟨hlt, ?_⟩, fun hge => ?_⟩
 ·refine q4 _ (by simp) (by simp) (fun _ => rfl) (fun _ => z6b (b.ins[m]?.getD default) (b.params + m) (by rw [getD_some hlt]; exact hi _ (List.getElem_mem hlt))) ?_
  simp [hlt]
  refine ⟨fun h => qc (qlo hlt h).symm, fun h => ?_⟩
  refine ⟨m + 1, ⟨by omega, fun j hj hj' => ?_⟩, by omega, srcs [], ?_⟩
  ·rcases Nat.lt_or_ge j m with h1 | h1
   ·exact hb j hj h1
   ·obtain rfl : j = m := by omega
    exact h
  ·simp [SLeK]
   exact q6 (q5 (by omega))
 ·have he := qez (f := f) h0 h6 (by omega) (fun j hj => hb j hj (by omega))
  refine q4 _ (by simp) (by simp) (fun _ => rfl) (fun _ => end_pure f b h0 h6 (by omega)) ?_
  simp
  exact qc he.symm
end Go.Proofs.YtgadlpdbkohlbaaGreat
/- Contracts by the evaluator: the program's layer 5, functions and globals. -/
namespace Go.Proofs.YtgadlpdbkohlbaaGreat
open Go.RowKit
theorem z2c (f : Func) (b : Block) (hi : ∀ i ∈ b.ins, i.args.length ≤ 17592186044416) : APure Tryz.prog 88 [.agg (qd b), .cref (qm f) 0] (.bool (!qj f b)) := by
 refine qb _ _ Tryz.func88 (by kernel_rfl) qyx qzd rfl rfl (fun _ => ?_)
 simp [qlt, qna]
 refine q4 _ (by simp) (by simp) (fun _ => rfl) (fun _ => z1r f b hi) ?_
 simp
theorem qmo (xs : List Block) (F : FuncId) (caps : List DV) (p : Block → Bool) (hF : ∀ v ∈ xs, APure Tryz.prog F (.agg (qd v) :: caps) (.bool (p v))) : APure Tryz.prog 109 [q1k xs, .fn F caps] (.int (q44 p xs)) := by
 refine qb _ _ Tryz.func109 (by kernel_rfl) q3l q3m rfl rfl (fun hx => len1 hx fun hl => ?_)
 clear hx
 simp [q1b, q1c]
 refine qe (κ := Nat) (fun k => k ≤ xs.length ∧ ∀ i (h : i < xs.length), i < k → p xs[i] = false) (fun k => xs.length - k) (fun k => [(sl 8, .int k)]) (fun _ => []) 0 0 (srcs []) (by simp) (by simp) ?_
 rintro k ⟨hk, hb⟩
 simp
 refine ⟨fun hlt => ⟨hlt, ?_⟩, fun hge => ?_⟩
 ·rw [getD_some hlt]
  refine q4 _ (by simp) (by simp) (fun _ => by simp) (fun _ => hF _ (List.getElem_mem hlt)) ?_
  simp
  refine ⟨fun h => q6 (q49 hlt hb h).symm, fun h => ?_⟩
  refine ⟨k + 1, ⟨by omega, fun i hi h1 => ?_⟩, by omega, srcs [], ?_⟩
  ·rcases Nat.lt_or_ge i k with h2 | h2
   ·exact hb i hi h2
   ·obtain rfl : i = k := by omega
    exact h
  ·simp [SLeK]
   exact q6 (q5 (by omega))
 ·exact q6 (q4q fun i hi => hb i hi (by omega)).symm
theorem qh3 (xs : List Block) (F : FuncId) (caps : List DV) (p : Block → Bool) (hF : ∀ v ∈ xs, APure Tryz.prog F (.agg (qd v) :: caps) (.bool (p v))) : APure Tryz.prog 87 [q1k xs, .fn F caps] (.bool (xs.any p)) := by
 refine qb _ _ Tryz.func87 (by kernel_rfl) q2y q2z rfl rfl (fun _ => ?_)
 simp [q15, q16]
 refine q4 _ (by simp) (by simp) (fun _ => rfl) (fun _ => qmo xs F caps p hF) ?_
 simp
 exact qc (qdb p xs)
set_option maxRecDepth 10000 in
theorem quv (f : Func) (hi : ∀ b ∈ f.blocks, ∀ i ∈ b.ins, i.args.length ≤ 17592186044416) : APure Tryz.prog 57 [.agg (qm f)] (.bool (qr f)) := by
 refine qb _ _ Tryz.func57 (by kernel_rfl) z7o z83 rfl rfl (fun _ => ?_)
 simp [qu1, qvp]
 refine q4 _ (by simp) (by simp) (fun _ => rfl) (fun _ => qn0 f.name) ?_
 simp
 refine ⟨fun h => qc ?_, fun a1 a2 a3 a4 a5 a6 => ⟨fun h => qc ?_, fun h => ⟨List.length_pos_iff.2 h, ?_⟩⟩⟩
 ·symm
  rcases h with ((((h | h) | h) | h) | h) | h
  ·exact qmh h
  ·exact quq h
  ·exact qur h
  ·exact qut h
  ·exact quu h
  ·exact z07 (by omega)
 ·rw [qpr a1 a2 a3 a4 a5 (by simp [h])]
  rw [Bool.eq_iff_iff]; simp
 have hl := List.length_pos_iff.2 h
 have hf := qf2 a1 a2 a3 a4 a5 (by omega) hl
 refine q4 _ (by simp) (by simp) (fun _ => by simp; rfl) (fun _ => qh3 f.blocks _ _ _ (fun b hb => z2c f b (hi b hb))) ?_
 simp
 refine qc ?_
 rw [hf, getD_some hl]
 congr 1
 rw [Bool.eq_iff_iff]
 simp
def qbl (g : Glob) : Bool := qbm g.name && decide (1 ≤ g.bind) && decide (g.bind ≤ 3) && (g.here || (g.init == 0 && g.bind != 1))
set_option maxRecDepth 10000 in
theorem z5t (g : Glob) : APure Tryz.prog 58 [.agg (q67 g)] (.bool (qbl g)) := by
 refine qb _ _ Tryz.func58 (by kernel_rfl) z7s z87 rfl rfl (fun _ => ?_)
 simp [qu5, qvt]
 refine q4 _ (by simp) (by simp) (fun _ => rfl) (fun _ => qn0 g.name) ?_
 simp
 refine ⟨fun h1 h2 h3 h4 => ⟨⟨⟨⟨h1, h2⟩, h3⟩, h4⟩, fun h5 => ⟨⟨⟨⟨h1, h2⟩, h3⟩, h4⟩, h5⟩⟩, fun h1 h2 h3 => ⟨⟨⟨h1, h2⟩, h3⟩, fun h4 => ⟨⟨⟨h1, h2⟩, h3⟩, h4⟩⟩, qc ?_⟩
 rw [Bool.eq_iff_iff]
 simp [qbl]
end Go.Proofs.YtgadlpdbkohlbaaGreat
/- The iterator over a function's instructions. -/
namespace Go.Proofs.YtgadlpdbkohlbaaGreat
open Go.RowKit
def qk (f : Func) : List Inst := f.blocks.flatMap (·.ins)
theorem qpx (f : Func) : APure Tryz.prog 63 [.agg (qm f)] (.fn 90 [.cref (qm f) 0]) := by
 refine qb _ _ Tryz.func63 (by kernel_rfl) z3h z3z rfl rfl (fun _ => ?_)
 simp [qpg, qqt]
 exact DLe.refl _
theorem tr67 {c : Code} {ac : ACode} (h : q9 Tryz.prog 8 27 [] [] (drOk 8) c = some ac) : TrCode Tryz.prog 8 27 c ac :=
 q6z (fun _ _ _ hnd hl htr hd => qaj mixed hnd hl htr hd) h
def yv (l : Nat) : AV := .d (.lit (.func (.yield l) #[] #[]))
def EO (l : Nat) (f : Func) (k : Nat) : T := setL (.leaf (.d .top)) [(sl 0, yv l), (sl 8, .d (q1k f.blocks)), (sl 9, .int f.blocks.length), (sl 10, .int k)]
def EO' (l : Nat) (f : Func) (k : Nat) : T := setL (.leaf (.d .top)) [(sl 0, yv l), (sl 8, .d (q1k f.blocks)), (sl 9, .int f.blocks.length), (sl 10, .int k), (sl 11, .d (.lit (.bool (decide (k < f.blocks.length)))))]
def EB (l : Nat) (f : Func) (k : Nat) (b : Block) : T := setL (EO l f k) [(sl 4, .d (.cref (qd b) 0))]
def EI (l : Nat) (f : Func) (k : Nat) (b : Block) (m : Nat) : T := setL (EO l f k) [(sl 15, .d (insD b.ins)), (sl 16, .int b.ins.length), (sl 17, .int m)]
def EI' (l : Nat) (f : Func) (k : Nat) (b : Block) (m : Nat) : T := setL (EI l f k b m) [(sl 18, .d (.lit (.bool (decide (m < b.ins.length)))))]
def EJ (l : Nat) (f : Func) (k : Nat) (b : Block) (m : Nat) (i : Inst) : T := setL (EI l f k b m) [(sl 6, .d (.cref (qp i) 0))]
def EJ1 (l : Nat) (f : Func) (k : Nat) (b : Block) (m : Nat) (i : Inst) : T := setL (EJ l f k b m i) [(sl 21, yv l)]
def EJ2 (l : Nat) (f : Func) (k : Nat) (b : Block) (m : Nat) (i : Inst) : T := setL (EJ1 l f k b m i) [(sl 22, .d (.agg (qp i)))]
def EJ4 (l : Nat) (f : Func) (k : Nat) (b : Block) (m : Nat) : T := setL (EI l f k b m) [(sl 24, .d (.lit (.bool false)))]
def EN' : T := setL (.leaf (.d .top)) [(sl 24, .d (.lit (.bool true)))]
def cnt (f : Func) (k : Nat) : Nat := ((f.blocks.take k).flatMap (·.ins)).length
theorem qzy {f : Func} {k : Nat} (h : k < f.blocks.length) : cnt f (k + 1) = cnt f k + f.blocks[k].ins.length := by
 unfold cnt
 rw [List.take_succ_eq_append_getElem h, List.flatMap_append, List.length_append]
 simp
theorem cnt_all (f : Func) : cnt f f.blocks.length = (qk f).length := by
 unfold cnt qk
 rw [List.take_of_length_le (Nat.le_refl _)]
theorem ins_at {f : Func} {k m : Nat} (h : k < f.blocks.length) (hm : m < f.blocks[k].ins.length) : (qk f)[cnt f k + m]? = some f.blocks[k].ins[m] := by
 have e : qk f = (f.blocks.take k).flatMap (·.ins) ++ (f.blocks[k].ins ++ (f.blocks.drop (k + 1)).flatMap (·.ins)) := by
  have e2 : f.blocks = f.blocks.take k ++ (f.blocks[k] :: f.blocks.drop (k + 1)) := by rw [← List.drop_eq_getElem_cons h, List.take_append_drop]
  unfold qk
  conv => lhs; rw [e2]
  rw [List.flatMap_append, List.flatMap_cons]
 rw [e, List.getElem?_append_right (by unfold cnt; omega)]
 rw [show cnt f k + m - ((f.blocks.take k).flatMap (·.ins)).length = m by unfold cnt; omega]
 rw [List.getElem?_append_left hm, List.getElem?_eq_getElem hm]
theorem qqh (n : Nat) (h : n < 256) : TrOpd 8 (.tmp n) (.s (sl n)) := by
 have := TrOpd.s (D := 8) (sl n) (q1d 8 n)
 rwa [q2s 8 n (by omega)] at this
set_option maxRecDepth 10000 in
set_option maxHeartbeats 2000000 in
theorem qpw (f : Func) : ASeq Tryz.prog 90 [.cref (qm f) 0] ((qk f).map fun i => [.agg (qp i)]) := by
 refine ⟨⟨_, _, Tryz.func90, by kernel_rfl, rfl⟩, fun X w us hX hus l J Jx hJe hJxe hJY hY0 hJ0 => ?_⟩
 have hY : ∀ k Y W (vs : Array Value) i, (qk f)[k]? = some i → J k Y W → DReps Y W vs.toList [.agg (qp i)] → YieldAt Fence.wide 0 Tryz.prog l vs W fun e W' => (e = .returned (.bool true) ∧ ∃ Y', J (k + 1) Y' W' ∧ KB 0 Y Y' W W') ∨ (e = .returned (.bool false) ∧ Jx W') := by
  intro k Y W vs i hi hJ hvs
  obtain ⟨hk, he⟩ := List.getElem?_eq_some_iff.1 hi
  exact hY0 k Y W vs (by simpa using hk) hJ (by simpa [he] using hvs)
 clear hY0
 refine (callsIn_wide (n := 0)).1 (callsIn_of_wp (F := Fence.wide) Tryz.func90 rfl trivial ?_ rfl)
 have hargs : DReps X w (#[Value.func (.yield l) #[] #[]] ++ us).toList [.lit (.func (.yield l) #[] #[]), .cref (qm f) 0] := by
  simpa using DReps.cons (.lit _) hus
 have hP0 : P1 27 X _ w _ := P1.init hX (by omega) (by simp) hargs
 refine wpIn_seq (wpIn_mono (qct (e' := EO l f 0) (ac := .reg [⟨(some (sl 7)), none, (.fld (.s (sl 1)) 3), none⟩, ⟨(some (sl 8)), none, (.ld true (.s (sl 7)) none), none⟩, ⟨(some (sl 9)), none, (.len false (.s (sl 8))), none⟩, ⟨(some (sl 10)), none, (.mv (.c (.int .i64 0))), none⟩]) (tr67 (by kernel_rfl)) rfl hP0 (q41 _ (by simp [EO, yv]))) ?_)
 rintro x a w1 ⟨rfl, hx, hP⟩
 refine wpIn_block ?_
 refine qgg (fun j a W => ∃ k Y, j = f.blocks.length - k ∧ k ≤ f.blocks.length ∧ P1 27 Y a W (EO l f k) ∧ J (cnt f k) Y W) ⟨_, 0, X, rfl, Nat.zero_le _, hP, hJe _ _ _ _ hJ0 hx⟩ ?_
 rintro j a W ⟨k, Y, rfl, hk, hP, hJ⟩
 have hbl := hP.len (p := sl 8) rfl rfl
 refine wpIn_seq (wpIn_mono (qct (e' := EO' l f k) (ac := .reg [⟨(some (sl 11)), none, (.bin .lss (.s (sl 10)) (.s (sl 9))), none⟩]) (tr67 (by kernel_rfl)) rfl hP (q41 _ (by simp [EO, EO', yv]))) ?_)
 rintro x a1 W1 ⟨rfl, hx1, hP1⟩
 refine wpIn_seq (qkz hP1 (qqh 11 (by omega)) (b := decide (k < f.blocks.length)) rfl (fun hlt => wpIn_skip ?_) (fun hge => wpIn_exit ?_))
 rotate_left
 ·have hkl : k = f.blocks.length := by simp at hge; omega
  simp only [Exit.then, Exit.inBlock, ↓reduceIte]
  refine ⟨hP1.defers, _, results_none rfl _ _ _, ⟨_, rfl⟩, .inl ⟨Y, ?_⟩⟩
  rw [List.length_map, ← cnt_all, ← hkl]
  exact hJe _ _ _ _ hJ hx1
 have hlt : k < f.blocks.length := by simpa using hlt
 have hJ1 := hJe _ _ _ _ hJ hx1
 clear hJ hP hx1
 refine wpIn_seq (wpIn_block ?_)
 obtain ⟨b, hb⟩ : ∃ b, b = f.blocks[k] := ⟨_, rfl⟩
 have hb' : f.blocks[k]?.getD default = b := by rw [hb]; exact getD_some hlt
 refine wpIn_seq (wpIn_mono (qct (e' := EB l f k b) (ac := .seq (.reg [⟨(some (sl 12)), none, (.idx true (.s (sl 8)) (.s (sl 10)) 8), none⟩, ⟨(some (sl 13)), none, (.ld true (.s (sl 12)) (some 8)), none⟩, ⟨(some (sl 4)), none, (.new [(.int .i64 0), (.slice none 0 0), (.int .i64 0), (.int .i64 0), (.int .i64 0), (.slice none 0 0), (.int .i64 0), (.slice none 0 0)]), none⟩, ⟨none, none, (.ini 1 (.s (sl 4)) (.s (sl 13)) 8), none⟩]) (.frz (sl 4))) (tr67 (by kernel_rfl)) rfl hP1 (q41 _ (by simp [EO, EO', EB, yv, hlt]; rw [hb]; exact DLe.refl _))) ?_)
 rintro x a2 W2 ⟨rfl, hx2, hP2⟩
 have hJ2 := hJe _ _ _ _ hJ1 hx2
 clear hJ1 hP1 hx2
 refine wpIn_seq (wpIn_mono (qct (e' := EI l f k b 0) (ac := .reg [⟨(some (sl 14)), none, (.fld (.s (sl 4)) 1), none⟩, ⟨(some (sl 15)), none, (.ld true (.s (sl 14)) none), none⟩, ⟨(some (sl 16)), none, (.len false (.s (sl 15))), none⟩, ⟨(some (sl 17)), none, (.mv (.c (.int .i64 0))), none⟩]) (tr67 (by kernel_rfl)) rfl hP2 (q41 _ (by simp [EO, EB, EI, yv]))) ?_)
 rintro x a3 W3 ⟨rfl, hx3, hP3⟩
 have hJ3 := hJe _ _ _ _ hJ2 hx3
 clear hJ2 hP2 hx3
 refine wpIn_block ?_
 refine qgg (fun j a W => ∃ m Y, j = b.ins.length - m ∧ m ≤ b.ins.length ∧ P1 27 Y a W (EI l f k b m) ∧ J (cnt f k + m) Y W) ⟨_, 0, Y, rfl, Nat.zero_le _, hP3, hJ3⟩ ?_
 clear hJ3 hP3
 rintro j a W ⟨m, Y, rfl, hm, hP, hJ⟩
 have hil := hP.len (p := sl 15) rfl rfl
 refine wpIn_seq (wpIn_mono (qct (e' := EI' l f k b m) (ac := .reg [⟨(some (sl 18)), none, (.bin .lss (.s (sl 17)) (.s (sl 16))), none⟩]) (tr67 (by kernel_rfl)) rfl hP (q41 _ (by simp [EO, EI, EI', yv]))) ?_)
 rintro x a1 W1 ⟨rfl, hx1, hP1⟩
 have hJ1 := hJe _ _ _ _ hJ hx1
 clear hJ hP hx1
 refine wpIn_seq (qkz hP1 (qqh 18 (by omega)) (b := decide (m < b.ins.length)) rfl (fun hml => wpIn_skip ?_) (fun hge => wpIn_exit ?_))
 rotate_left
 ·have hml : m = b.ins.length := by simp at hge; omega
  simp only [Exit.then, Exit.inBlock, ↓reduceIte]
  refine wpIn_mono (qct (e' := EO l f (k + 1)) (ac := .reg [⟨(some (sl 26)), none, (.bin .add (.s (sl 10)) (.c (.int .i64 1))), none⟩, ⟨(some (sl 10)), none, (.mv (.s (sl 26))), none⟩]) (tr67 (by kernel_rfl)) rfl hP1 (q41 _ (by simp [EO, EI, EI', yv]; exact q6 (q5 (by omega))))) ?_
  rintro x a4 W4 ⟨rfl, hx4, hP4⟩
  refine ⟨_, ?_, k + 1, Y, rfl, hlt, hP4, ?_⟩
  ·omega
  ·rw [qzy hlt, ← hb, ← hml]
   exact hJe _ _ _ _ hJ1 hx4
 have hml : m < b.ins.length := by simpa using hml
 obtain ⟨i, hi⟩ : ∃ i, i = b.ins[m] := ⟨_, rfl⟩
 have hiat : (qk f)[cnt f k + m]? = some i := by
  subst hb
  rw [ins_at hlt hml, hi]
 refine wpIn_seq (wpIn_block ?_)
 refine wpIn_seq (wpIn_mono (qct (e' := EJ l f k b m i) (ac := .seq (.reg [⟨(some (sl 19)), none, (.idx true (.s (sl 15)) (.s (sl 17)) 6), none⟩, ⟨(some (sl 20)), none, (.ld true (.s (sl 19)) (some 6)), none⟩, ⟨(some (sl 6)), none, (.new [(.int .i64 0), (.int .i64 0), (.int .i64 0), (.int .u64 0), (.string ⟨#[]⟩), (.slice none 0 0)]), none⟩, ⟨none, none, (.ini 1 (.s (sl 6)) (.s (sl 20)) 6), none⟩]) (.frz (sl 6))) (tr67 (by kernel_rfl)) rfl hP1 (q41 _ (by simp [EO, EI, EI', EJ, yv, hml]; rw [hi]; exact DLe.refl _))) ?_)
 rintro x a2 W2 ⟨rfl, hx2, hP2⟩
 have hJ2 := hJe _ _ _ _ hJ1 hx2
 clear hJ1 hP1 hx2
 -- the call of yield
 refine wpIn_seq (wpIn_mono (yieldReg (l := l) (a0 := ⟨some (sl 21), none, .mv (.s (sl 0)), none⟩) (a1 := ⟨some (sl 22), none, .ld true (.s (sl 6)) (some 6), none⟩) (a2 := ⟨some (sl 23), none, .call true (.s (sl 21)) [.s (sl 22)], none⟩) (a3 := ⟨some (sl 24), none, .not (.s (sl 23)), none⟩)
  (p2 := sl 23) (e1 := EJ1 l f k b m i) (e2 := EJ2 l f k b m i) (e4 := EJ4 l f k b m) (f4 := EN') (xd := .agg (qp i)) (JT := J (cnt f k + (m + 1))) (Jx := Jx) (by kernel_rfl) (by kernel_rfl) rfl rfl rfl rfl (by decide) (qqh 21 (by omega)) (qqh 22 (by omega)) hP2
  rfl (by simp [EO, EI, EJ, EJ1, yv]) rfl (by simp [EO, EI, EJ, EJ1, EJ2, yv]) rfl rfl
  (fun W' vs hx hvs => hY _ _ _ vs i hiat (hJe _ _ _ _ hJ2 hx) hvs) (hJY _) (hJe _) hJxe rfl (by simp [EO, EI, EJ, EJ1, EJ2, EJ4, yv]) (by simp [EN'])) ?_)
 rintro x a6 W6 ⟨rfl, (⟨Y', hJ6, hP6⟩ | ⟨hJx6, hP6⟩)⟩
 ·refine qkz hP6 (qqh 24 (by omega)) (b := false) rfl (fun h => by cases h) (fun _ => wpIn_skip ?_)
  simp only [Exit.then, Exit.inBlock]
  refine wpIn_mono (qct (e' := EI l f k b (m + 1)) (ac := .reg [⟨(some (sl 25)), none, (.bin .add (.s (sl 17)) (.c (.int .i64 1))), none⟩, ⟨(some (sl 17)), none, (.mv (.s (sl 25))), none⟩]) (tr67 (by kernel_rfl)) rfl hP6 (q41 _ (by simp [EO, EI, EJ4, yv]; exact q6 (q5 (by omega))))) ?_
  rintro x a7 W7 ⟨rfl, hx7, hP7⟩
  exact ⟨_, by omega, m + 1, Y', rfl, hml, hP7, hJe _ _ _ _ hJ6 hx7⟩
 ·refine qkz hP6 (qqh 24 (by omega)) (b := true) rfl (fun _ => wpIn_ret ?_) (fun h => by cases h)
  simp only [Exit.then, Exit.inBlock]
  exact ⟨hP6.defers, _, results_none rfl _ _ _, ⟨_, rfl⟩, .inr hJx6⟩
end Go.Proofs.YtgadlpdbkohlbaaGreat
/- Contracts by the evaluator: the program's layer 5, names. -/
namespace Go.Proofs.YtgadlpdbkohlbaaGreat
open Go.RowKit
def qo (l : List Inst) : List ByteArray := (l.filter fun i => q4k i.op).map (·.name)
theorem q3i (l : List Inst) : (qo l).length ≤ l.length := by
 unfold qo
 rw [List.length_map]
 exact List.length_filter_le _ _
theorem qn1 {l : List Inst} {k : Nat} (h : k < l.length) (hn : q4k l[k].op = true) : qo (l.take (k + 1)) = qo (l.take k) ++ [l[k].name] := by
 unfold qo
 rw [List.take_succ_eq_append_getElem h, List.filter_append, List.map_append]
 simp [hn]
theorem qqc {l : List Inst} {k : Nat} (h : k < l.length) (hn : q4k l[k].op = false) : qo (l.take (k + 1)) = qo (l.take k) := by
 unfold qo
 rw [List.take_succ_eq_append_getElem h, List.filter_append, List.map_append]
 simp [hn]
theorem q1t {l : List ByteArray} {x : ByteArray} {i : Nat} (h : i < l.length + 1) : q13 l.length (fun i => strC (l[i]?.getD ⟨#[]⟩)) (fun i => List.take 1 (List.drop i [DV.str x])) i = strC ((l ++ [x])[i]?.getD ⟨#[]⟩) := by
 unfold q13
 split
 ·rename_i hi
  rw [List.getElem?_append_left hi]
 ·rename_i hi
  obtain rfl : i = l.length := by omega
  simp
  rfl
set_option maxRecDepth 10000 in
theorem qvz (f : Func) (hl : (qk f).length ≤ 8796093022208) : APure Tryz.prog 37 [.agg (qm f)] (q2k (qo (qk f))) := by
 refine qb _ _ Tryz.func37 (by kernel_rfl) z7q z85 rfl rfl (fun _ => ?_)
 simp [qu3, qvr]
 refine q4 _ (by simp) (by simp) (fun _ => rfl) (fun _ => qpx f) ?_
 simp
 refine rng_s (qpw f) (κ := List ByteArray) (fun k s => s = qo ((qk f).take k)) [] (fun s => [(2, .box [.own 3 s.length]), (3, .row 9 1 s.length fun i => strC (s[i]?.getD ⟨#[]⟩))]) 5 [2] [] (srcs [(2, .id 2), (3, .nil)]) (by simp) (by simp) (by simp [T.pinned, AV.pinned]) (by simp) rfl (by simp) ?_ ?_
 ·rintro k hk s rfl
  have hk' : k < (qk f).length := by simpa using hk
  simp
  refine q4 (ds := [.agg (qp (qk f)[k])]) _ (by simp) (by simp) (fun _ => rfl) (fun _ => qqb (qk f)[k]) ?_
  simp
  refine ⟨fun h => ?_, fun h => ?_⟩
  ·have hb : (qo (List.take k (qk f))).length ≤ k := Nat.le_trans (q3i _) (by simp; omega)
   refine ⟨by omega, srcs [(2, .id 2), (3, .id 13)], ?_⟩
   rw [qn1 hk' h]
   simp [RngE]
   intro i hi
   exact q1t hi
  ·refine ⟨srcs [(2, .id 2), (3, .id 3)], ?_⟩
   rw [qqc hk' h]
   simp [RngE]
 ·rintro s rfl
  simp
end Go.Proofs.YtgadlpdbkohlbaaGreat
