/- The code of this law's functions, as the interpreter has it. -/
import Derived.Test.YtphppkakojdhbaaA1
set_option linter.unusedSimpArgs false
set_option linter.unusedVariables false
namespace Go.Aiv.Fn
def f3_b1 : SCode :=
 .seq (.seq (.reg [⟨(some 8), none, .mov (.tmp 4)⟩,
 ⟨(some 9), none, .faddr 0 (.tmp 1)⟩,
 ⟨(some 10), none, .load false 1 (.tmp 9)⟩,
 ⟨(some 11), none, .vlen (.tmp 10)⟩,
 ⟨(some 12), none, .bin .lss (.tmp 8) (.tmp 11)⟩,
 ⟨(some 13), none, .mov (.tmp 12)⟩,
 ⟨(some 14), (some (13, true)), .mov (.tmp 3)⟩,
 ⟨(some 15), (some (13, true)), .bin .leq (.tmp 14) (.con (.c (.d (.int .i64 (200)))))⟩,
 ⟨(some 16), none, .pick (.tmp 13) (.tmp 15) (.con (.c (.d (.bool false))))⟩] [16, 4, 1, 3])
 (.cond (.tmp 16) (.skip)
 (.exit 0)))
 (.seq (.block 1 (.reg [⟨(some 19), none, .mov (.tmp 3)⟩,
 ⟨(some 20), none, .faddr 0 (.tmp 1)⟩,
 ⟨(some 21), none, .load false 1 (.tmp 20)⟩,
 ⟨(some 22), none, .mov (.tmp 4)⟩,
 ⟨(some 23), none, .iaddr 3 (.tmp 21) (.tmp 22)⟩,
 ⟨(some 24), none, .faddr 2 (.tmp 23)⟩,
 ⟨(some 25), none, .load false 1 (.tmp 24)⟩,
 ⟨(some 26), none, .vlen (.tmp 25)⟩,
 ⟨(some 27), none, .bin .add (.tmp 19) (.tmp 26)⟩,
 ⟨(some 3), none, .mov (.tmp 27)⟩] [4, 1, 3]))
 (.reg [⟨(some 17), none, .mov (.tmp 4)⟩,
 ⟨(some 18), none, .bin .add (.tmp 17) (.con (.c (.d (.int .i64 (1)))))⟩,
 ⟨(some 4), none, .mov (.tmp 18)⟩] [4, 1, 3]))
/-- semvcs/semvcslaw25.small -/
def f3 : SFunc := ⟨1, [.tmp 2], true,
 .seq (.reg [⟨(some 1), none, .box 1 (.tmp 0)⟩,
 ⟨(some 2), none, .mov (.con (.c (.d (.bool false))))⟩] [1])
 (.seq (.reg [⟨(some 5), none, .faddr 0 (.tmp 1)⟩,
 ⟨(some 6), none, .load false 1 (.tmp 5)⟩,
 ⟨(some 7), none, .vlen (.tmp 6)⟩,
 ⟨(some 3), none, .mov (.tmp 7)⟩] [1, 3])
 (.seq (.seq (.reg [⟨(some 4), none, .mov (.con (.c (.d (.int .i64 (0)))))⟩] [4, 1, 3])
 (.block 0 (.loop [4, 1, 3] [] f3_b1)))
 (.seq (.reg [⟨(some 28), none, .mov (.tmp 3)⟩,
 ⟨(some 29), none, .bin .leq (.tmp 28) (.con (.c (.d (.int .i64 (200)))))⟩,
 ⟨(some 2), none, .mov (.tmp 29)⟩] [2])
 (.ret))))⟩

/-- semvcs/ident.based -/
def f36 : SFunc := ⟨1, [.tmp 2], true,
 .seq (.reg [⟨(some 2), none, .mov (.con (.c (.d (.bool false))))⟩] [0])
 (.seq (.reg [⟨(some 3), none, .mov (.tmp 0)⟩,
 ⟨(some 4), none, .bin .shr (.tmp 3) (.con (.c (.d (.int .u64 (20)))))⟩,
 ⟨(some 5), none, .bin .geq (.tmp 4) (.con (.c (.d (.int .i64 (1)))))⟩,
 ⟨(some 6), none, .mov (.tmp 5)⟩,
 ⟨(some 7), (some (6, true)), .mov (.tmp 0)⟩,
 ⟨(some 8), (some (6, true)), .bin .shr (.tmp 7) (.con (.c (.d (.int .u64 (20)))))⟩,
 ⟨(some 9), (some (6, true)), .bin .leq (.tmp 8) (.con (.c (.d (.int .i64 (32)))))⟩,
 ⟨(some 10), none, .pick (.tmp 6) (.tmp 9) (.con (.c (.d (.bool false))))⟩,
 ⟨(some 2), none, .mov (.tmp 10)⟩] [2])
 (.ret))⟩

/-- semvcs/ident.Valid -/
def f13 : SFunc := ⟨1, [.tmp 2], true,
 .seq (.reg [⟨(some 2), none, .mov (.con (.c (.d (.bool false))))⟩] [0])
 (.seq (.reg [⟨(some 3), none, .mov (.tmp 0)⟩,
 ⟨(some 4), none, .call true 36 [.tmp 3]⟩,
 ⟨(some 5), none, .mov (.tmp 4)⟩,
 ⟨(some 6), (some (5, true)), .mov (.tmp 0)⟩,
 ⟨(some 7), (some (5, true)), .bin .and (.tmp 6) (.con (.c (.d (.int .i64 (1048575)))))⟩,
 ⟨(some 8), (some (5, true)), .bin .neq (.tmp 7) (.con (.c (.d (.int .i64 (0)))))⟩,
 ⟨(some 9), none, .pick (.tmp 5) (.tmp 8) (.con (.c (.d (.bool false))))⟩,
 ⟨(some 2), none, .mov (.tmp 9)⟩] [2])
 (.ret))⟩

/-- semvcs/state.isField -/
def f14 : SFunc := ⟨1, [.tmp 2], true,
 .seq (.reg [⟨(some 2), none, .mov (.con (.c (.d (.bool false))))⟩] [0])
 (.seq (.seq (.reg [⟨(some 3), none, .mov (.tmp 0)⟩] [0, 3])
 (.block 0 (.seq (.seq (.reg [⟨(some 5), none, .bin .eql (.tmp 3) (.con (.c (.d (.int .i64 (1)))))⟩,
 ⟨(some 4), none, .mov (.tmp 5)⟩] [4, 0, 3])
 (.cond (.tmp 4) (.skip)
 (.seq (.reg [⟨(some 6), none, .bin .eql (.tmp 3) (.con (.c (.d (.int .i64 (2)))))⟩,
 ⟨(some 4), none, .mov (.tmp 6)⟩] [4, 0, 3])
 (.cond (.tmp 4) (.skip)
 (.seq (.reg [⟨(some 7), none, .bin .eql (.tmp 3) (.con (.c (.d (.int .i64 (3)))))⟩,
 ⟨(some 4), none, .mov (.tmp 7)⟩] [4, 0, 3])
 (.cond (.tmp 4) (.skip)
 (.reg [⟨(some 8), none, .bin .eql (.tmp 3) (.con (.c (.d (.int .i64 (4)))))⟩,
 ⟨(some 4), none, .mov (.tmp 8)⟩] [4, 0])))))))
 (.cond (.tmp 4) (.seq (.reg [⟨(some 2), none, .mov (.con (.c (.d (.bool true))))⟩] [2])
 (.ret))
 (.skip)))))
 (.seq (.reg [⟨(some 9), none, .mov (.tmp 0)⟩,
 ⟨(some 10), none, .bin .geq (.tmp 9) (.con (.c (.d (.int .i64 (8)))))⟩,
 ⟨(some 11), none, .mov (.tmp 10)⟩,
 ⟨(some 12), (some (11, true)), .mov (.tmp 0)⟩,
 ⟨(some 13), (some (11, true)), .bin .lss (.tmp 12) (.con (.c (.d (.int .i64 (48)))))⟩,
 ⟨(some 14), none, .pick (.tmp 11) (.tmp 13) (.con (.c (.d (.bool false))))⟩,
 ⟨(some 2), none, .mov (.tmp 14)⟩] [2])
 (.ret)))⟩

def f37_b1 : SCode :=
 .seq (.reg [⟨(some 9), none, .bin .lss (.tmp 8) (.tmp 7)⟩] [9, 8, 3, 6, 7])
 (.seq (.cond (.tmp 9) (.skip)
 (.exit 0))
 (.seq (.block 1 (.seq (.reg [⟨(some 10), none, .iaddr 1 (.tmp 6) (.tmp 8)⟩,
 ⟨(some 11), none, .load false 1 (.tmp 10)⟩,
 ⟨(some 5), none, .mov (.tmp 11)⟩] [5, 8, 3, 6, 7])
 (.seq (.reg [⟨(some 12), none, .mov (.tmp 5)⟩,
 ⟨(some 13), none, .mov (.tmp 3)⟩,
 ⟨(some 14), none, .bin .neq (.tmp 12) (.tmp 13)⟩] [14, 5, 8, 3, 6, 7])
 (.cond (.tmp 14) (.seq (.reg [⟨(some 15), none, .mov (.tmp 5)⟩,
 ⟨(some 2), none, .mov (.tmp 15)⟩] [2])
 (.ret))
 (.skip)))))
 (.reg [⟨(some 16), none, .bin .add (.tmp 8) (.con (.c (.d (.int .i64 (1)))))⟩,
 ⟨(some 8), none, .mov (.tmp 16)⟩] [8, 3, 6, 7])))
/-- cmp.Or[int] -/
def f37 : SFunc := ⟨1, [.tmp 2], true,
 .seq (.reg [⟨(some 2), none, .mov (.con (.c (.d (.int .i64 (0)))))⟩] [0])
 (.seq (.reg [⟨(some 3), none, .mov (.con (.c (.d (.int .i64 (0)))))⟩] [3, 0])
 (.seq (.seq (.reg [⟨(some 6), none, .mov (.tmp 0)⟩,
 ⟨(some 7), none, .vlen (.tmp 6)⟩,
 ⟨(some 8), none, .mov (.con (.c (.d (.int .i64 (0)))))⟩] [8, 3, 6, 7])
 (.block 0 (.loop [8, 3, 6, 7] [] f37_b1)))
 (.seq (.reg [⟨(some 17), none, .mov (.tmp 3)⟩,
 ⟨(some 2), none, .mov (.tmp 17)⟩] [2])
 (.ret))))⟩

/-- cmp.isNaN[int] -/
def f49 : SFunc := ⟨1, [.tmp 2], true,
 .seq (.reg [⟨(some 2), none, .mov (.con (.c (.d (.bool false))))⟩] [0])
 (.seq (.reg [⟨(some 3), none, .mov (.tmp 0)⟩,
 ⟨(some 4), none, .mov (.tmp 0)⟩,
 ⟨(some 5), none, .bin .neq (.tmp 3) (.tmp 4)⟩,
 ⟨(some 2), none, .mov (.tmp 5)⟩] [2])
 (.ret))⟩

/-- cmp.Compare[int] -/
def f38 : SFunc := ⟨2, [.tmp 4], true,
 .seq (.reg [⟨(some 4), none, .mov (.con (.c (.d (.int .i64 (0)))))⟩] [1, 0])
 (.seq (.reg [⟨(some 7), none, .mov (.tmp 0)⟩,
 ⟨(some 8), none, .call true 49 [.tmp 7]⟩,
 ⟨(some 5), none, .mov (.tmp 8)⟩] [1, 0, 5])
 (.seq (.reg [⟨(some 9), none, .mov (.tmp 1)⟩,
 ⟨(some 10), none, .call true 49 [.tmp 9]⟩,
 ⟨(some 6), none, .mov (.tmp 10)⟩] [6, 1, 0, 5])
 (.seq (.seq (.reg [⟨(some 11), none, .mov (.tmp 5)⟩] [11, 6, 1, 0])
 (.cond (.tmp 11) (.seq (.seq (.reg [⟨(some 12), none, .mov (.tmp 6)⟩] [12])
 (.cond (.tmp 12) (.seq (.reg [⟨(some 4), none, .mov (.con (.c (.d (.int .i64 (0)))))⟩] [4])
 (.ret))
 (.skip)))
 (.seq (.reg [⟨(some 4), none, .mov (.con (.c (.d (.int .i64 (-1)))))⟩] [4])
 (.ret)))
 (.skip)))
 (.seq (.seq (.reg [⟨(some 13), none, .mov (.tmp 6)⟩] [13, 1, 0])
 (.cond (.tmp 13) (.seq (.reg [⟨(some 4), none, .mov (.con (.c (.d (.int .i64 (1)))))⟩] [4])
 (.ret))
 (.skip)))
 (.seq (.seq (.reg [⟨(some 14), none, .mov (.tmp 0)⟩,
 ⟨(some 15), none, .mov (.tmp 1)⟩,
 ⟨(some 16), none, .bin .lss (.tmp 14) (.tmp 15)⟩] [16, 1, 0])
 (.cond (.tmp 16) (.seq (.reg [⟨(some 4), none, .mov (.con (.c (.d (.int .i64 (-1)))))⟩] [4])
 (.ret))
 (.skip)))
 (.seq (.seq (.reg [⟨(some 17), none, .mov (.tmp 0)⟩,
 ⟨(some 18), none, .mov (.tmp 1)⟩,
 ⟨(some 19), none, .bin .gtr (.tmp 17) (.tmp 18)⟩] [19])
 (.cond (.tmp 19) (.seq (.reg [⟨(some 4), none, .mov (.con (.c (.d (.int .i64 (1)))))⟩] [4])
 (.ret))
 (.skip)))
 (.seq (.reg [⟨(some 4), none, .mov (.con (.c (.d (.int .i64 (0)))))⟩] [4])
 (.ret))))))))⟩

/-- semvcs/state.compare -/
def f15 : SFunc := ⟨2, [.tmp 4], true,
 .seq (.reg [⟨(some 2), none, .box 2 (.tmp 0)⟩,
 ⟨(some 3), none, .box 2 (.tmp 1)⟩,
 ⟨(some 4), none, .mov (.con (.c (.d (.int .i64 (0)))))⟩] [3, 2])
 (.seq (.draw (.step .quiet ⟨(some 5), none, .faddr 0 (.tmp 2)⟩ <|
 .step .quiet ⟨(some 6), none, .load false 1 (.tmp 5)⟩ <|
 .step .quiet ⟨(some 7), none, .faddr 0 (.tmp 3)⟩ <|
 .step .quiet ⟨(some 8), none, .load false 1 (.tmp 7)⟩ <|
 .step .quiet ⟨(some 10), none, .faddr 1 (.tmp 2)⟩ <|
 .step .quiet ⟨(some 11), none, .load false 1 (.tmp 10)⟩ <|
 .step .quiet ⟨(some 12), none, .faddr 1 (.tmp 3)⟩ <|
 .step .quiet ⟨(some 13), none, .load false 1 (.tmp 12)⟩ <|
 .step .mild ⟨(some 9), none, .call true 38 [.tmp 6, .tmp 8]⟩ <|
 .step .mild ⟨(some 14), none, .call true 38 [.tmp 11, .tmp 13]⟩ <|
 .step .quiet ⟨(some 15), none, .bslice false 1 [.int .i64 (0)] 2 [(0, .tmp 9), (1, .tmp 14)]⟩ <|
 .step .mild ⟨(some 16), none, .call true 37 [.tmp 15]⟩ <|
 .step .quiet ⟨(some 4), none, .mov (.tmp 16)⟩ <|
 .done) [4])
 (.ret))⟩

/-- semvcs/state.ofSlot -/
def f16 : SFunc := ⟨1, [.cell 2 true 2], true,
 .seq (.reg [⟨(some 1), none, .box 3 (.tmp 0)⟩,
 ⟨(some 2), none, .alloc [.d (.int .i64 (0)), .d (.int .i64 (0))]⟩] [2, 1])
 (.seq (.reg [⟨(some 3), none, .faddr 0 (.tmp 1)⟩,
 ⟨(some 4), none, .load false 1 (.tmp 3)⟩,
 ⟨(some 5), none, .faddr 1 (.tmp 1)⟩,
 ⟨(some 6), none, .load false 1 (.tmp 5)⟩,
 ⟨(some 7), none, .build [.d (.int .i64 (0)), .d (.int .i64 (0))] [(0, 1, .tmp 4), (1, 1, .tmp 6)]⟩,
 ⟨none, none, .store 2 (.tmp 2) (.tmp 7)⟩] [2])
 (.ret))⟩

def f4_b2 : SCode :=
 .seq (.reg [⟨(some 50), none, .bin .lss (.tmp 49) (.tmp 48)⟩] [50, 49, 4, 47, 10, 48, 1, 8, 9])
 (.seq (.cond (.tmp 50) (.skip)
 (.exit 2))
 (.seq (.block 3 (.seq (.reg [⟨(some 51), none, .mov (.tmp 49)⟩,
 ⟨(some 52), none, .iaddr 5 (.tmp 47) (.tmp 49)⟩,
 ⟨(some 53), none, .load true 5 (.tmp 52)⟩,
 ⟨(some 6), none, .alloc [.d (.int .i64 (0)), .d (.int .i64 (0)), .d (.bool false), .d (.str []), .d (.int .i64 (0))]⟩,
 ⟨(some 5), none, .mov (.tmp 51)⟩,
 ⟨none, none, .store 5 (.tmp 6) (.tmp 53)⟩] [49, 6, 5, 4, 47, 10, 48, 1, 8, 9])
 (.seq (.draw (.step .quiet ⟨(some 54), none, .faddr 0 (.tmp 6)⟩ <|
 .step .quiet ⟨(some 55), none, .load false 1 (.tmp 54)⟩ <|
 .step .mild ⟨(some 56), none, .call true 13 [.tmp 55]⟩ <|
 .step .quiet ⟨(some 57), none, .un .not (.tmp 56)⟩ <|
 .step .quiet ⟨(some 58), none, .mov (.tmp 57)⟩ <|
 .step .quiet ⟨(some 59), (some (58, false)), .mov (.tmp 5)⟩ <|
 .step .quiet ⟨(some 60), (some (58, false)), .bin .gtr (.tmp 59) (.con (.c (.d (.int .i64 (0)))))⟩ <|
 .step .quiet ⟨(some 61), (some (58, false)), .mov (.tmp 60)⟩ <|
 .step .quiet ⟨(some 62), (some (61, true)), .faddr 2 (.tmp 4)⟩ <|
 .step .quiet ⟨(some 63), (some (61, true)), .load false 1 (.tmp 62)⟩ <|
 .step .quiet ⟨(some 64), (some (61, true)), .mov (.tmp 5)⟩ <|
 .step .quiet ⟨(some 65), (some (61, true)), .bin .sub (.tmp 64) (.con (.c (.d (.int .i64 (1)))))⟩ <|
 .step .quiet ⟨(some 66), (some (61, true)), .iaddr 5 (.tmp 63) (.tmp 65)⟩ <|
 .step .quiet ⟨(some 67), (some (61, true)), .faddr 0 (.tmp 66)⟩ <|
 .step .quiet ⟨(some 68), (some (61, true)), .load false 1 (.tmp 67)⟩ <|
 .step .quiet ⟨(some 69), (some (61, true)), .faddr 0 (.tmp 6)⟩ <|
 .step .quiet ⟨(some 70), (some (61, true)), .load false 1 (.tmp 69)⟩ <|
 .step .quiet ⟨(some 71), (some (61, true)), .bin .geq (.tmp 68) (.tmp 70)⟩ <|
 .step .quiet ⟨(some 72), (some (58, false)), .pick (.tmp 61) (.tmp 71) (.con (.c (.d (.bool false))))⟩ <|
 .step .quiet ⟨(some 73), none, .pick (.tmp 58) (.con (.c (.d (.bool true)))) (.tmp 72)⟩ <|
 .done) [73, 49, 4, 47, 10, 48, 1, 8, 9])
 (.cond (.tmp 73) (.seq (.reg [⟨(some 2), none, .mov (.con (.c (.d (.bool false))))⟩] [2])
 (.ret))
 (.skip)))))
 (.reg [⟨(some 74), none, .bin .add (.tmp 49) (.con (.c (.d (.int .i64 (1)))))⟩,
 ⟨(some 49), none, .mov (.tmp 74)⟩] [49, 4, 47, 10, 48, 1, 8, 9])))
def f4_b1 : SCode :=
 .seq (.reg [⟨(some 11), none, .bin .lss (.tmp 10) (.tmp 9)⟩] [11, 10, 1, 8, 9])
 (.seq (.cond (.tmp 11) (.skip)
 (.exit 0))
 (.seq (.block 1 (.seq (.reg [⟨(some 12), none, .mov (.tmp 10)⟩,
 ⟨(some 13), none, .iaddr 3 (.tmp 8) (.tmp 10)⟩,
 ⟨(some 14), none, .load true 3 (.tmp 13)⟩,
 ⟨(some 4), none, .alloc [.d (.int .i64 (0)), .d (.int .i64 (0)), .nils]⟩,
 ⟨(some 3), none, .mov (.tmp 12)⟩,
 ⟨none, none, .store 3 (.tmp 4) (.tmp 14)⟩] [4, 10, 3, 1, 8, 9])
 (.seq (.seq (.reg [⟨(some 15), none, .faddr 0 (.tmp 4)⟩,
 ⟨(some 16), none, .load false 1 (.tmp 15)⟩,
 ⟨(some 17), none, .call true 13 [.tmp 16]⟩,
 ⟨(some 18), none, .un .not (.tmp 17)⟩,
 ⟨(some 19), none, .mov (.tmp 18)⟩,
 ⟨(some 20), (some (19, false)), .faddr 1 (.tmp 4)⟩,
 ⟨(some 21), (some (19, false)), .load false 1 (.tmp 20)⟩,
 ⟨(some 22), (some (19, false)), .call true 14 [.tmp 21]⟩,
 ⟨(some 23), (some (19, false)), .un .not (.tmp 22)⟩,
 ⟨(some 24), none, .pick (.tmp 19) (.con (.c (.d (.bool true)))) (.tmp 23)⟩,
 ⟨(some 25), none, .mov (.tmp 24)⟩,
 ⟨(some 26), (some (25, false)), .faddr 2 (.tmp 4)⟩,
 ⟨(some 27), (some (25, false)), .load false 1 (.tmp 26)⟩,
 ⟨(some 28), (some (25, false)), .vlen (.tmp 27)⟩,
 ⟨(some 29), (some (25, false)), .bin .eql (.tmp 28) (.con (.c (.d (.int .i64 (0)))))⟩,
 ⟨(some 30), none, .pick (.tmp 25) (.con (.c (.d (.bool true)))) (.tmp 29)⟩] [30, 4, 10, 3, 1, 8, 9])
 (.cond (.tmp 30) (.seq (.reg [⟨(some 2), none, .mov (.con (.c (.d (.bool false))))⟩] [2])
 (.ret))
 (.skip)))
 (.seq (.seq (.draw (.step .quiet ⟨(some 31), none, .mov (.tmp 3)⟩ <|
 .step .quiet ⟨(some 32), none, .bin .gtr (.tmp 31) (.con (.c (.d (.int .i64 (0)))))⟩ <|
 .step .quiet ⟨(some 33), none, .mov (.tmp 32)⟩ <|
 .step .quiet ⟨(some 34), (some (33, true)), .faddr 0 (.tmp 1)⟩ <|
 .step .quiet ⟨(some 35), (some (33, true)), .load false 1 (.tmp 34)⟩ <|
 .step .quiet ⟨(some 36), (some (33, true)), .mov (.tmp 3)⟩ <|
 .step .quiet ⟨(some 37), (some (33, true)), .bin .sub (.tmp 36) (.con (.c (.d (.int .i64 (1)))))⟩ <|
 .step .quiet ⟨(some 38), (some (33, true)), .iaddr 3 (.tmp 35) (.tmp 37)⟩ <|
 .step .quiet ⟨(some 39), (some (33, true)), .load true 3 (.tmp 38)⟩ <|
 .step .quiet ⟨(some 41), (some (33, true)), .load true 3 (.tmp 4)⟩ <|
 .step .mild ⟨(some 40), (some (33, true)), .call false 16 [.tmp 39]⟩ <|
 .step .mild ⟨(some 42), (some (33, true)), .call false 16 [.tmp 41]⟩ <|
 .step .mild ⟨(some 43), (some (33, true)), .call true 15 [.tmp 40, .tmp 42]⟩ <|
 .step .quiet ⟨(some 44), (some (33, true)), .bin .geq (.tmp 43) (.con (.c (.d (.int .i64 (0)))))⟩ <|
 .step .quiet ⟨(some 45), none, .pick (.tmp 33) (.tmp 44) (.con (.c (.d (.bool false))))⟩ <|
 .done) [45, 4, 10, 1, 8, 9])
 (.cond (.tmp 45) (.seq (.reg [⟨(some 2), none, .mov (.con (.c (.d (.bool false))))⟩] [2])
 (.ret))
 (.skip)))
 (.seq (.reg [⟨(some 46), none, .faddr 2 (.tmp 4)⟩,
 ⟨(some 47), none, .load false 1 (.tmp 46)⟩,
 ⟨(some 48), none, .vlen (.tmp 47)⟩,
 ⟨(some 49), none, .mov (.con (.c (.d (.int .i64 (0)))))⟩] [49, 4, 47, 10, 48, 1, 8, 9])
 (.block 2 (.loop [49, 4, 47, 10, 48, 1, 8, 9] [] f4_b2)))))))
 (.reg [⟨(some 75), none, .bin .add (.tmp 10) (.con (.c (.d (.int .i64 (1)))))⟩,
 ⟨(some 10), none, .mov (.tmp 75)⟩] [10, 1, 8, 9])))
/-- semvcs/state.Valid -/
def f4 : SFunc := ⟨1, [.tmp 2], true,
 .seq (.reg [⟨(some 1), none, .box 1 (.tmp 0)⟩,
 ⟨(some 2), none, .mov (.con (.c (.d (.bool false))))⟩] [1])
 (.seq (.seq (.reg [⟨(some 7), none, .faddr 0 (.tmp 1)⟩,
 ⟨(some 8), none, .load false 1 (.tmp 7)⟩,
 ⟨(some 9), none, .vlen (.tmp 8)⟩,
 ⟨(some 10), none, .mov (.con (.c (.d (.int .i64 (0)))))⟩] [10, 1, 8, 9])
 (.block 0 (.loop [10, 1, 8, 9] [] f4_b1)))
 (.seq (.reg [⟨(some 2), none, .mov (.con (.c (.d (.bool true))))⟩] [2])
 (.ret)))⟩

/-- semvcs/semvcsref10.Valid -/
def f17 : SFunc := ⟨1, [.tmp 2], true,
 .seq (.reg [⟨(some 2), none, .mov (.con (.c (.d (.bool false))))⟩] [0])
 (.seq (.reg [⟨(some 3), none, .mov (.tmp 0)⟩,
 ⟨(some 4), none, .bin .gtr (.tmp 3) (.con (.c (.d (.int .i64 (1048576)))))⟩,
 ⟨(some 5), none, .mov (.tmp 4)⟩,
 ⟨(some 6), (some (5, true)), .mov (.tmp 0)⟩,
 ⟨(some 7), (some (5, true)), .bin .lss (.tmp 6) (.con (.c (.d (.int .i64 (34603008)))))⟩,
 ⟨(some 8), none, .pick (.tmp 5) (.tmp 7) (.con (.c (.d (.bool false))))⟩,
 ⟨(some 9), none, .mov (.tmp 8)⟩,
 ⟨(some 10), (some (9, true)), .mov (.tmp 0)⟩,
 ⟨(some 11), (some (9, true)), .bin .rem (.tmp 10) (.con (.c (.d (.int .i64 (1048576)))))⟩,
 ⟨(some 12), (some (9, true)), .bin .neq (.tmp 11) (.con (.c (.d (.int .i64 (0)))))⟩,
 ⟨(some 13), none, .pick (.tmp 9) (.tmp 12) (.con (.c (.d (.bool false))))⟩,
 ⟨(some 2), none, .mov (.tmp 13)⟩] [2])
 (.ret))⟩

/-- semvcs/semvcsref25.IsField -/
def f18 : SFunc := ⟨1, [.tmp 2], true,
 .seq (.reg [⟨(some 2), none, .mov (.con (.c (.d (.bool false))))⟩] [0])
 (.seq (.reg [⟨(some 3), none, .mov (.tmp 0)⟩,
 ⟨(some 4), none, .bin .geq (.tmp 3) (.con (.c (.d (.int .i64 (1)))))⟩,
 ⟨(some 5), none, .mov (.tmp 4)⟩,
 ⟨(some 6), (some (5, true)), .mov (.tmp 0)⟩,
 ⟨(some 7), (some (5, true)), .bin .leq (.tmp 6) (.con (.c (.d (.int .i64 (4)))))⟩,
 ⟨(some 8), none, .pick (.tmp 5) (.tmp 7) (.con (.c (.d (.bool false))))⟩,
 ⟨(some 9), none, .mov (.tmp 8)⟩,
 ⟨(some 10), (some (9, false)), .mov (.tmp 0)⟩,
 ⟨(some 11), (some (9, false)), .bin .geq (.tmp 10) (.con (.c (.d (.int .i64 (8)))))⟩,
 ⟨(some 12), (some (9, false)), .mov (.tmp 11)⟩,
 ⟨(some 13), (some (12, true)), .mov (.tmp 0)⟩,
 ⟨(some 14), (some (12, true)), .bin .lss (.tmp 13) (.con (.c (.d (.int .i64 (48)))))⟩,
 ⟨(some 15), (some (9, false)), .pick (.tmp 12) (.tmp 14) (.con (.c (.d (.bool false))))⟩,
 ⟨(some 16), none, .pick (.tmp 9) (.con (.c (.d (.bool true)))) (.tmp 15)⟩,
 ⟨(some 2), none, .mov (.tmp 16)⟩] [2])
 (.ret))⟩

/-- semvcs/semvcsref25.Ahead -/
def f19 : SFunc := ⟨4, [.tmp 8], true,
 .seq (.reg [⟨(some 8), none, .mov (.con (.c (.d (.bool false))))⟩] [3, 1, 2, 0])
 (.seq (.reg [⟨(some 9), none, .mov (.tmp 0)⟩,
 ⟨(some 10), none, .mov (.tmp 2)⟩,
 ⟨(some 11), none, .bin .lss (.tmp 9) (.tmp 10)⟩,
 ⟨(some 12), none, .mov (.tmp 11)⟩,
 ⟨(some 13), (some (12, false)), .mov (.tmp 0)⟩,
 ⟨(some 14), (some (12, false)), .mov (.tmp 2)⟩,
 ⟨(some 15), (some (12, false)), .bin .eql (.tmp 13) (.tmp 14)⟩,
 ⟨(some 16), (some (12, false)), .mov (.tmp 15)⟩,
 ⟨(some 17), (some (16, true)), .mov (.tmp 1)⟩,
 ⟨(some 18), (some (16, true)), .mov (.tmp 3)⟩,
 ⟨(some 19), (some (16, true)), .bin .lss (.tmp 17) (.tmp 18)⟩,
 ⟨(some 20), (some (12, false)), .pick (.tmp 16) (.tmp 19) (.con (.c (.d (.bool false))))⟩,
 ⟨(some 21), none, .pick (.tmp 12) (.con (.c (.d (.bool true)))) (.tmp 20)⟩,
 ⟨(some 8), none, .mov (.tmp 21)⟩] [8])
 (.ret))⟩

def f5_b2 : SCode :=
 .seq (.seq (.reg [⟨(some 58), none, .mov (.tmp 5)⟩,
 ⟨(some 59), none, .faddr 2 (.tmp 4)⟩,
 ⟨(some 60), none, .load false 1 (.tmp 59)⟩,
 ⟨(some 61), none, .vlen (.tmp 60)⟩,
 ⟨(some 62), none, .bin .lss (.tmp 58) (.tmp 61)⟩] [62, 5, 4, 3, 1])
 (.cond (.tmp 62) (.skip)
 (.exit 2)))
 (.seq (.block 3 (.seq (.draw (.step .quiet ⟨(some 65), none, .faddr 2 (.tmp 4)⟩ <|
 .step .quiet ⟨(some 66), none, .load false 1 (.tmp 65)⟩ <|
 .step .quiet ⟨(some 67), none, .mov (.tmp 5)⟩ <|
 .step .quiet ⟨(some 68), none, .iaddr 5 (.tmp 66) (.tmp 67)⟩ <|
 .step .quiet ⟨(some 69), none, .faddr 0 (.tmp 68)⟩ <|
 .step .quiet ⟨(some 70), none, .load false 1 (.tmp 69)⟩ <|
 .step .mild ⟨(some 71), none, .call true 17 [.tmp 70]⟩ <|
 .step .quiet ⟨(some 72), none, .un .not (.tmp 71)⟩ <|
 .step .quiet ⟨(some 73), none, .mov (.tmp 72)⟩ <|
 .step .quiet ⟨(some 74), (some (73, false)), .mov (.tmp 5)⟩ <|
 .step .quiet ⟨(some 75), (some (73, false)), .bin .gtr (.tmp 74) (.con (.c (.d (.int .i64 (0)))))⟩ <|
 .step .quiet ⟨(some 76), (some (73, false)), .mov (.tmp 75)⟩ <|
 .step .quiet ⟨(some 77), (some (76, true)), .faddr 2 (.tmp 4)⟩ <|
 .step .quiet ⟨(some 78), (some (76, true)), .load false 1 (.tmp 77)⟩ <|
 .step .quiet ⟨(some 79), (some (76, true)), .mov (.tmp 5)⟩ <|
 .step .quiet ⟨(some 80), (some (76, true)), .iaddr 5 (.tmp 78) (.tmp 79)⟩ <|
 .step .quiet ⟨(some 81), (some (76, true)), .faddr 0 (.tmp 80)⟩ <|
 .step .quiet ⟨(some 82), (some (76, true)), .load false 1 (.tmp 81)⟩ <|
 .step .quiet ⟨(some 83), (some (76, true)), .faddr 2 (.tmp 4)⟩ <|
 .step .quiet ⟨(some 84), (some (76, true)), .load false 1 (.tmp 83)⟩ <|
 .step .quiet ⟨(some 85), (some (76, true)), .mov (.tmp 5)⟩ <|
 .step .quiet ⟨(some 86), (some (76, true)), .bin .sub (.tmp 85) (.con (.c (.d (.int .i64 (1)))))⟩ <|
 .step .quiet ⟨(some 87), (some (76, true)), .iaddr 5 (.tmp 84) (.tmp 86)⟩ <|
 .step .quiet ⟨(some 88), (some (76, true)), .faddr 0 (.tmp 87)⟩ <|
 .step .quiet ⟨(some 89), (some (76, true)), .load false 1 (.tmp 88)⟩ <|
 .step .quiet ⟨(some 90), (some (76, true)), .bin .leq (.tmp 82) (.tmp 89)⟩ <|
 .step .quiet ⟨(some 91), (some (73, false)), .pick (.tmp 76) (.tmp 90) (.con (.c (.d (.bool false))))⟩ <|
 .step .quiet ⟨(some 92), none, .pick (.tmp 73) (.con (.c (.d (.bool true)))) (.tmp 91)⟩ <|
 .done) [92, 5, 4, 3, 1])
 (.cond (.tmp 92) (.seq (.reg [⟨(some 2), none, .mov (.con (.c (.d (.bool false))))⟩] [2])
 (.ret))
 (.skip))))
 (.reg [⟨(some 63), none, .mov (.tmp 5)⟩,
 ⟨(some 64), none, .bin .add (.tmp 63) (.con (.c (.d (.int .i64 (1)))))⟩,
 ⟨(some 5), none, .mov (.tmp 64)⟩] [5, 4, 3, 1]))
def f5_b1 : SCode :=
 .seq (.seq (.reg [⟨(some 6), none, .mov (.tmp 3)⟩,
 ⟨(some 7), none, .faddr 0 (.tmp 1)⟩,
 ⟨(some 8), none, .load false 1 (.tmp 7)⟩,
 ⟨(some 9), none, .vlen (.tmp 8)⟩,
 ⟨(some 10), none, .bin .lss (.tmp 6) (.tmp 9)⟩] [10, 3, 1])
 (.cond (.tmp 10) (.skip)
 (.exit 0)))
 (.seq (.block 1 (.seq (.reg [⟨(some 13), none, .faddr 0 (.tmp 1)⟩,
 ⟨(some 14), none, .load false 1 (.tmp 13)⟩,
 ⟨(some 15), none, .mov (.tmp 3)⟩,
 ⟨(some 16), none, .iaddr 3 (.tmp 14) (.tmp 15)⟩,
 ⟨(some 17), none, .load true 3 (.tmp 16)⟩,
 ⟨(some 4), none, .alloc [.d (.int .i64 (0)), .d (.int .i64 (0)), .nils]⟩,
 ⟨none, none, .store 3 (.tmp 4) (.tmp 17)⟩] [4, 3, 1])
 (.seq (.seq (.reg [⟨(some 18), none, .faddr 0 (.tmp 4)⟩,
 ⟨(some 19), none, .load false 1 (.tmp 18)⟩,
 ⟨(some 20), none, .call true 17 [.tmp 19]⟩,
 ⟨(some 21), none, .un .not (.tmp 20)⟩,
 ⟨(some 22), none, .mov (.tmp 21)⟩,
 ⟨(some 23), (some (22, false)), .faddr 1 (.tmp 4)⟩,
 ⟨(some 24), (some (22, false)), .load false 1 (.tmp 23)⟩,
 ⟨(some 25), (some (22, false)), .call true 18 [.tmp 24]⟩,
 ⟨(some 26), (some (22, false)), .un .not (.tmp 25)⟩,
 ⟨(some 27), none, .pick (.tmp 22) (.con (.c (.d (.bool true)))) (.tmp 26)⟩,
 ⟨(some 28), none, .mov (.tmp 27)⟩,
 ⟨(some 29), (some (28, false)), .faddr 2 (.tmp 4)⟩,
 ⟨(some 30), (some (28, false)), .load false 1 (.tmp 29)⟩,
 ⟨(some 31), (some (28, false)), .vlen (.tmp 30)⟩,
 ⟨(some 32), (some (28, false)), .bin .eql (.tmp 31) (.con (.c (.d (.int .i64 (0)))))⟩,
 ⟨(some 33), none, .pick (.tmp 28) (.con (.c (.d (.bool true)))) (.tmp 32)⟩] [33, 4, 3, 1])
 (.cond (.tmp 33) (.seq (.reg [⟨(some 2), none, .mov (.con (.c (.d (.bool false))))⟩] [2])
 (.ret))
 (.skip)))
 (.seq (.seq (.draw (.step .quiet ⟨(some 34), none, .mov (.tmp 3)⟩ <|
 .step .quiet ⟨(some 35), none, .bin .gtr (.tmp 34) (.con (.c (.d (.int .i64 (0)))))⟩ <|
 .step .quiet ⟨(some 36), none, .mov (.tmp 35)⟩ <|
 .step .quiet ⟨(some 37), (some (36, true)), .faddr 0 (.tmp 1)⟩ <|
 .step .quiet ⟨(some 38), (some (36, true)), .load false 1 (.tmp 37)⟩ <|
 .step .quiet ⟨(some 39), (some (36, true)), .mov (.tmp 3)⟩ <|
 .step .quiet ⟨(some 40), (some (36, true)), .bin .sub (.tmp 39) (.con (.c (.d (.int .i64 (1)))))⟩ <|
 .step .quiet ⟨(some 41), (some (36, true)), .iaddr 3 (.tmp 38) (.tmp 40)⟩ <|
 .step .quiet ⟨(some 42), (some (36, true)), .faddr 0 (.tmp 41)⟩ <|
 .step .quiet ⟨(some 43), (some (36, true)), .load false 1 (.tmp 42)⟩ <|
 .step .quiet ⟨(some 44), (some (36, true)), .faddr 0 (.tmp 1)⟩ <|
 .step .quiet ⟨(some 45), (some (36, true)), .load false 1 (.tmp 44)⟩ <|
 .step .quiet ⟨(some 46), (some (36, true)), .mov (.tmp 3)⟩ <|
 .step .quiet ⟨(some 47), (some (36, true)), .bin .sub (.tmp 46) (.con (.c (.d (.int .i64 (1)))))⟩ <|
 .step .quiet ⟨(some 48), (some (36, true)), .iaddr 3 (.tmp 45) (.tmp 47)⟩ <|
 .step .quiet ⟨(some 49), (some (36, true)), .faddr 1 (.tmp 48)⟩ <|
 .step .quiet ⟨(some 50), (some (36, true)), .load false 1 (.tmp 49)⟩ <|
 .step .quiet ⟨(some 51), (some (36, true)), .faddr 0 (.tmp 4)⟩ <|
 .step .quiet ⟨(some 52), (some (36, true)), .load false 1 (.tmp 51)⟩ <|
 .step .quiet ⟨(some 53), (some (36, true)), .faddr 1 (.tmp 4)⟩ <|
 .step .quiet ⟨(some 54), (some (36, true)), .load false 1 (.tmp 53)⟩ <|
 .step .mild ⟨(some 55), (some (36, true)), .call true 19 [.tmp 43, .tmp 50, .tmp 52, .tmp 54]⟩ <|
 .step .quiet ⟨(some 56), (some (36, true)), .un .not (.tmp 55)⟩ <|
 .step .quiet ⟨(some 57), none, .pick (.tmp 36) (.tmp 56) (.con (.c (.d (.bool false))))⟩ <|
 .done) [57, 4, 3, 1])
 (.cond (.tmp 57) (.seq (.reg [⟨(some 2), none, .mov (.con (.c (.d (.bool false))))⟩] [2])
 (.ret))
 (.skip)))
 (.seq (.reg [⟨(some 5), none, .mov (.con (.c (.d (.int .i64 (0)))))⟩] [5, 4, 3, 1])
 (.block 2 (.loop [5, 4, 3, 1] [] f5_b2)))))))
 (.reg [⟨(some 11), none, .mov (.tmp 3)⟩,
 ⟨(some 12), none, .bin .add (.tmp 11) (.con (.c (.d (.int .i64 (1)))))⟩,
 ⟨(some 3), none, .mov (.tmp 12)⟩] [3, 1]))
/-- semvcs/semvcsref25.Valid -/
def f5 : SFunc := ⟨1, [.tmp 2], true,
 .seq (.reg [⟨(some 1), none, .box 1 (.tmp 0)⟩,
 ⟨(some 2), none, .mov (.con (.c (.d (.bool false))))⟩] [1])
 (.seq (.seq (.reg [⟨(some 3), none, .mov (.con (.c (.d (.int .i64 (0)))))⟩] [3, 1])
 (.block 0 (.loop [3, 1] [] f5_b1)))
 (.seq (.reg [⟨(some 2), none, .mov (.con (.c (.d (.bool true))))⟩] [2])
 (.ret)))⟩

/-- semvcs/state.ofCell -/
def f29 : SFunc := ⟨1, [.cell 2 true 2], true,
 .seq (.reg [⟨(some 1), none, .box 6 (.tmp 0)⟩,
 ⟨(some 2), none, .alloc [.d (.int .i64 (0)), .d (.int .i64 (0))]⟩] [2, 1])
 (.seq (.reg [⟨(some 3), none, .faddr 0 (.tmp 1)⟩,
 ⟨(some 4), none, .load false 1 (.tmp 3)⟩,
 ⟨(some 5), none, .faddr 1 (.tmp 1)⟩,
 ⟨(some 6), none, .load false 1 (.tmp 5)⟩,
 ⟨(some 7), none, .build [.d (.int .i64 (0)), .d (.int .i64 (0))] [(0, 1, .tmp 4), (1, 1, .tmp 6)]⟩,
 ⟨none, none, .store 2 (.tmp 2) (.tmp 7)⟩] [2])
 (.ret))⟩

/-- slices.Clone[[]semvcs/api.Cell,semvcs/api.Cell] -/
def f44 : SFunc := ⟨1, [.tmp 2], true,
 .seq (.reg [⟨(some 2), none, .mov (.con (.c (.nils)))⟩] [0])
 (.seq (.seq (.reg [⟨(some 3), none, .mov (.tmp 0)⟩,
 ⟨(some 4), none, .isnil false (.tmp 3)⟩] [4, 0])
 (.cond (.tmp 4) (.seq (.reg [⟨(some 2), none, .mov (.con (.c (.nils)))⟩] [2])
 (.ret))
 (.skip)))
 (.seq (.reg [⟨(some 5), none, .bslice true 6 [.int .i64 (0), .int .i64 (0), .int .i64 (0), .bool false, .str [], .int .i64 (0)] 0 []⟩,
 ⟨(some 6), none, .mov (.tmp 0)⟩,
 ⟨(some 7), none, .append 6 56 (.tmp 5) (.tmp 6)⟩,
 ⟨(some 2), none, .mov (.tmp 7)⟩] [2])
 (.ret)))⟩

def f57_b2 : SCode :=
 .seq (.seq (.draw (.step .quiet ⟨(some 18), none, .mov (.tmp 9)⟩ <|
 .step .quiet ⟨(some 19), none, .mov (.tmp 1)⟩ <|
 .step .quiet ⟨(some 20), none, .bin .gtr (.tmp 18) (.tmp 19)⟩ <|
 .step .quiet ⟨(some 21), none, .mov (.tmp 20)⟩ <|
 .step .quiet ⟨(some 22), (some (21, true)), .mov (.tmp 3)⟩ <|
 .step .quiet ⟨(some 23), (some (21, true)), .mov (.tmp 0)⟩ <|
 .step .quiet ⟨(some 24), (some (21, true)), .mov (.tmp 9)⟩ <|
 .step .quiet ⟨(some 25), (some (21, true)), .iaddr 6 (.tmp 23) (.tmp 24)⟩ <|
 .step .quiet ⟨(some 26), (some (21, true)), .load true 6 (.tmp 25)⟩ <|
 .step .quiet ⟨(some 27), (some (21, true)), .mov (.tmp 0)⟩ <|
 .step .quiet ⟨(some 28), (some (21, true)), .mov (.tmp 9)⟩ <|
 .step .quiet ⟨(some 29), (some (21, true)), .bin .sub (.tmp 28) (.con (.c (.d (.int .i64 (1)))))⟩ <|
 .step .quiet ⟨(some 30), (some (21, true)), .iaddr 6 (.tmp 27) (.tmp 29)⟩ <|
 .step .quiet ⟨(some 31), (some (21, true)), .load true 6 (.tmp 30)⟩ <|
 .step .heavy ⟨(some 32), (some (21, true)), .callv (.tmp 22) [.tmp 26, .tmp 31]⟩ <|
 .step .quiet ⟨(some 33), (some (21, true)), .bin .lss (.tmp 32) (.con (.c (.d (.int .i64 (0)))))⟩ <|
 .step .quiet ⟨(some 34), none, .pick (.tmp 21) (.tmp 33) (.con (.c (.d (.bool false))))⟩ <|
 .done) [34, 9, 0, 8, 3, 1, 2])
 (.cond (.tmp 34) (.skip)
 (.exit 2)))
 (.seq (.block 3 (.draw (.step .quiet ⟨(some 37), none, .mov (.tmp 0)⟩ <|
 .step .quiet ⟨(some 38), none, .mov (.tmp 9)⟩ <|
 .step .pure ⟨(some 39), none, .mov (.tmp 0)⟩ <|
 .step .pure ⟨(some 40), none, .mov (.tmp 9)⟩ <|
 .step .pure ⟨(some 41), none, .bin .sub (.tmp 40) (.con (.c (.d (.int .i64 (1)))))⟩ <|
 .step .quiet ⟨(some 42), none, .mov (.tmp 0)⟩ <|
 .step .quiet ⟨(some 43), none, .mov (.tmp 9)⟩ <|
 .step .quiet ⟨(some 44), none, .bin .sub (.tmp 43) (.con (.c (.d (.int .i64 (1)))))⟩ <|
 .step .quiet ⟨(some 45), none, .iaddr 6 (.tmp 42) (.tmp 44)⟩ <|
 .step .quiet ⟨(some 46), none, .load true 6 (.tmp 45)⟩ <|
 .step .quiet ⟨(some 47), none, .mov (.tmp 0)⟩ <|
 .step .quiet ⟨(some 48), none, .mov (.tmp 9)⟩ <|
 .step .quiet ⟨(some 49), none, .iaddr 6 (.tmp 47) (.tmp 48)⟩ <|
 .step .quiet ⟨(some 50), none, .load true 6 (.tmp 49)⟩ <|
 .step .quiet ⟨(some 51), none, .iaddr 6 (.tmp 37) (.tmp 38)⟩ <|
 .step .heavy ⟨none, none, .store 6 (.tmp 51) (.tmp 46)⟩ <|
 .step .quiet ⟨(some 52), none, .iaddr 6 (.tmp 39) (.tmp 41)⟩ <|
 .step .heavy ⟨none, none, .store 6 (.tmp 52) (.tmp 50)⟩ <|
 .done) [9, 0, 8, 3, 1, 2]))
 (.reg [⟨(some 35), none, .mov (.tmp 9)⟩,
 ⟨(some 36), none, .bin .sub (.tmp 35) (.con (.c (.d (.int .i64 (1)))))⟩,
 ⟨(some 9), none, .mov (.tmp 36)⟩] [9, 0, 8, 3, 1, 2]))
def f57_b1 : SCode :=
 .seq (.seq (.reg [⟨(some 12), none, .mov (.tmp 8)⟩,
 ⟨(some 13), none, .mov (.tmp 2)⟩,
 ⟨(some 14), none, .bin .lss (.tmp 12) (.tmp 13)⟩] [14, 0, 8, 3, 1, 2])
 (.cond (.tmp 14) (.skip)
 (.exit 0)))
 (.seq (.block 1 (.seq (.reg [⟨(some 17), none, .mov (.tmp 8)⟩,
 ⟨(some 9), none, .mov (.tmp 17)⟩] [9, 0, 8, 3, 1, 2])
 (.block 2 (.loop [9, 0, 8, 3, 1, 2] [] f57_b2))))
 (.reg [⟨(some 15), none, .mov (.tmp 8)⟩,
 ⟨(some 16), none, .bin .add (.tmp 15) (.con (.c (.d (.int .i64 (1)))))⟩,
 ⟨(some 8), none, .mov (.tmp 16)⟩] [0, 8, 3, 1, 2]))
/-- slices.insertionSortCmpFunc[semvcs/api.Cell] -/
def f57 : SFunc := ⟨4, [], true,
 .seq (.reg [⟨(some 10), none, .mov (.tmp 1)⟩,
 ⟨(some 11), none, .bin .add (.tmp 10) (.con (.c (.d (.int .i64 (1)))))⟩,
 ⟨(some 8), none, .mov (.tmp 11)⟩] [0, 8, 3, 1, 2])
 (.block 0 (.loop [0, 8, 3, 1, 2] [] f57_b1))⟩

def f69_b1 : SCode :=
 .seq (.seq (.reg [⟨(some 11), none, .mov (.tmp 10)⟩,
 ⟨(some 12), none, .mov (.tmp 3)⟩,
 ⟨(some 13), none, .bin .lss (.tmp 11) (.tmp 12)⟩] [13, 10, 1, 0, 2, 3])
 (.cond (.tmp 13) (.skip)
 (.exit 0)))
 (.seq (.block 1 (.draw (.step .quiet ⟨(some 16), none, .mov (.tmp 0)⟩ <|
 .step .quiet ⟨(some 17), none, .mov (.tmp 1)⟩ <|
 .step .quiet ⟨(some 18), none, .mov (.tmp 10)⟩ <|
 .step .quiet ⟨(some 19), none, .bin .add (.tmp 17) (.tmp 18)⟩ <|
 .step .pure ⟨(some 20), none, .mov (.tmp 0)⟩ <|
 .step .pure ⟨(some 21), none, .mov (.tmp 2)⟩ <|
 .step .pure ⟨(some 22), none, .mov (.tmp 10)⟩ <|
 .step .pure ⟨(some 23), none, .bin .add (.tmp 21) (.tmp 22)⟩ <|
 .step .quiet ⟨(some 24), none, .mov (.tmp 0)⟩ <|
 .step .quiet ⟨(some 25), none, .mov (.tmp 2)⟩ <|
 .step .quiet ⟨(some 26), none, .mov (.tmp 10)⟩ <|
 .step .quiet ⟨(some 27), none, .bin .add (.tmp 25) (.tmp 26)⟩ <|
 .step .quiet ⟨(some 28), none, .iaddr 6 (.tmp 24) (.tmp 27)⟩ <|
 .step .quiet ⟨(some 29), none, .load true 6 (.tmp 28)⟩ <|
 .step .quiet ⟨(some 30), none, .mov (.tmp 0)⟩ <|
 .step .quiet ⟨(some 31), none, .mov (.tmp 1)⟩ <|
 .step .quiet ⟨(some 32), none, .mov (.tmp 10)⟩ <|
 .step .quiet ⟨(some 33), none, .bin .add (.tmp 31) (.tmp 32)⟩ <|
 .step .quiet ⟨(some 34), none, .iaddr 6 (.tmp 30) (.tmp 33)⟩ <|
 .step .quiet ⟨(some 35), none, .load true 6 (.tmp 34)⟩ <|
 .step .quiet ⟨(some 36), none, .iaddr 6 (.tmp 16) (.tmp 19)⟩ <|
 .step .heavy ⟨none, none, .store 6 (.tmp 36) (.tmp 29)⟩ <|
 .step .quiet ⟨(some 37), none, .iaddr 6 (.tmp 20) (.tmp 23)⟩ <|
 .step .heavy ⟨none, none, .store 6 (.tmp 37) (.tmp 35)⟩ <|
 .done) [10, 1, 0, 2, 3]))
 (.reg [⟨(some 14), none, .mov (.tmp 10)⟩,
 ⟨(some 15), none, .bin .add (.tmp 14) (.con (.c (.d (.int .i64 (1)))))⟩,
 ⟨(some 10), none, .mov (.tmp 15)⟩] [10, 1, 0, 2, 3]))
/-- slices.swapRangeCmpFunc[semvcs/api.Cell] -/
def f69 : SFunc := ⟨5, [], true,
 .seq (.reg [⟨(some 10), none, .mov (.con (.c (.d (.int .i64 (0)))))⟩] [10, 1, 0, 2, 3])
 (.block 0 (.loop [10, 1, 0, 2, 3] [] f69_b1))⟩

def f63_b1 : SCode :=
 .seq (.seq (.reg [⟨(some 18), none, .mov (.tmp 10)⟩,
 ⟨(some 19), none, .mov (.tmp 11)⟩,
 ⟨(some 20), none, .bin .neq (.tmp 18) (.tmp 19)⟩] [20, 11, 10, 4, 2, 0])
 (.cond (.tmp 20) (.skip)
 (.exit 0)))
 (.block 1 (.seq (.reg [⟨(some 21), none, .mov (.tmp 10)⟩,
 ⟨(some 22), none, .mov (.tmp 11)⟩,
 ⟨(some 23), none, .bin .gtr (.tmp 21) (.tmp 22)⟩] [23, 11, 10, 4, 2, 0])
 (.cond (.tmp 23) (.seq (.reg [⟨(some 24), none, .mov (.tmp 0)⟩,
 ⟨(some 25), none, .mov (.tmp 2)⟩,
 ⟨(some 26), none, .mov (.tmp 10)⟩,
 ⟨(some 27), none, .bin .sub (.tmp 25) (.tmp 26)⟩,
 ⟨(some 28), none, .mov (.tmp 2)⟩,
 ⟨(some 29), none, .mov (.tmp 11)⟩,
 ⟨(some 30), none, .mov (.tmp 4)⟩,
 ⟨(some 31), none, .call true 69 [.tmp 24, .tmp 27, .tmp 28, .tmp 29, .tmp 30]⟩] [11, 10, 4, 2, 0])
 (.reg [⟨(some 32), none, .mov (.tmp 10)⟩,
 ⟨(some 33), none, .mov (.tmp 11)⟩,
 ⟨(some 34), none, .bin .sub (.tmp 32) (.tmp 33)⟩,
 ⟨(some 10), none, .mov (.tmp 34)⟩] [11, 10, 4, 2, 0]))
 (.seq (.reg [⟨(some 35), none, .mov (.tmp 0)⟩,
 ⟨(some 36), none, .mov (.tmp 2)⟩,
 ⟨(some 37), none, .mov (.tmp 10)⟩,
 ⟨(some 38), none, .bin .sub (.tmp 36) (.tmp 37)⟩,
 ⟨(some 39), none, .mov (.tmp 2)⟩,
 ⟨(some 40), none, .mov (.tmp 11)⟩,
 ⟨(some 41), none, .bin .add (.tmp 39) (.tmp 40)⟩,
 ⟨(some 42), none, .mov (.tmp 10)⟩,
 ⟨(some 43), none, .bin .sub (.tmp 41) (.tmp 42)⟩,
 ⟨(some 44), none, .mov (.tmp 10)⟩,
 ⟨(some 45), none, .mov (.tmp 4)⟩,
 ⟨(some 46), none, .call true 69 [.tmp 35, .tmp 38, .tmp 43, .tmp 44, .tmp 45]⟩] [10, 11, 4, 2, 0])
 (.reg [⟨(some 47), none, .mov (.tmp 11)⟩,
 ⟨(some 48), none, .mov (.tmp 10)⟩,
 ⟨(some 49), none, .bin .sub (.tmp 47) (.tmp 48)⟩,
 ⟨(some 11), none, .mov (.tmp 49)⟩] [11, 10, 4, 2, 0])))))
/-- slices.rotateCmpFunc[semvcs/api.Cell] -/
def f63 : SFunc := ⟨5, [], true,
 .seq (.reg [⟨(some 12), none, .mov (.tmp 2)⟩,
 ⟨(some 13), none, .mov (.tmp 1)⟩,
 ⟨(some 14), none, .bin .sub (.tmp 12) (.tmp 13)⟩,
 ⟨(some 10), none, .mov (.tmp 14)⟩] [10, 4, 2, 0, 3])
 (.seq (.reg [⟨(some 15), none, .mov (.tmp 3)⟩,
 ⟨(some 16), none, .mov (.tmp 2)⟩,
 ⟨(some 17), none, .bin .sub (.tmp 15) (.tmp 16)⟩,
 ⟨(some 11), none, .mov (.tmp 17)⟩] [11, 10, 4, 2, 0])
 (.seq (.block 0 (.loop [11, 10, 4, 2, 0] [] f63_b1))
 (.reg [⟨(some 50), none, .mov (.tmp 0)⟩,
 ⟨(some 51), none, .mov (.tmp 2)⟩,
 ⟨(some 52), none, .mov (.tmp 10)⟩,
 ⟨(some 53), none, .bin .sub (.tmp 51) (.tmp 52)⟩,
 ⟨(some 54), none, .mov (.tmp 2)⟩,
 ⟨(some 55), none, .mov (.tmp 10)⟩,
 ⟨(some 56), none, .mov (.tmp 4)⟩,
 ⟨(some 57), none, .call true 69 [.tmp 50, .tmp 53, .tmp 54, .tmp 55, .tmp 56]⟩] [])))⟩

def f58_b1 : SCode :=
 .seq (.seq (.reg [⟨(some 31), none, .mov (.tmp 10)⟩,
 ⟨(some 32), none, .mov (.tmp 11)⟩,
 ⟨(some 33), none, .bin .lss (.tmp 31) (.tmp 32)⟩] [33, 1, 0, 4, 11, 10])
 (.cond (.tmp 33) (.skip)
 (.exit 0)))
 (.block 1 (.seq (.reg [⟨(some 34), none, .mov (.tmp 10)⟩,
 ⟨(some 35), none, .mov (.tmp 11)⟩,
 ⟨(some 36), none, .bin .add (.tmp 34) (.tmp 35)⟩,
 ⟨(some 37), none, .cint .u64 (.tmp 36)⟩,
 ⟨(some 38), none, .bin .shr (.tmp 37) (.con (.c (.d (.int .u64 (1)))))⟩,
 ⟨(some 39), none, .cint .i64 (.tmp 38)⟩,
 ⟨(some 12), none, .mov (.tmp 39)⟩] [12, 1, 0, 4, 11, 10])
 (.seq (.draw (.step .quiet ⟨(some 40), none, .mov (.tmp 4)⟩ <|
 .step .quiet ⟨(some 41), none, .mov (.tmp 0)⟩ <|
 .step .quiet ⟨(some 42), none, .mov (.tmp 12)⟩ <|
 .step .quiet ⟨(some 43), none, .iaddr 6 (.tmp 41) (.tmp 42)⟩ <|
 .step .quiet ⟨(some 44), none, .load true 6 (.tmp 43)⟩ <|
 .step .quiet ⟨(some 45), none, .mov (.tmp 0)⟩ <|
 .step .quiet ⟨(some 46), none, .mov (.tmp 1)⟩ <|
 .step .quiet ⟨(some 47), none, .iaddr 6 (.tmp 45) (.tmp 46)⟩ <|
 .step .quiet ⟨(some 48), none, .load true 6 (.tmp 47)⟩ <|
 .step .heavy ⟨(some 49), none, .callv (.tmp 40) [.tmp 44, .tmp 48]⟩ <|
 .step .quiet ⟨(some 50), none, .bin .lss (.tmp 49) (.con (.c (.d (.int .i64 (0)))))⟩ <|
 .done) [50, 12, 1, 0, 4, 11, 10])
 (.cond (.tmp 50) (.reg [⟨(some 51), none, .mov (.tmp 12)⟩,
 ⟨(some 52), none, .bin .add (.tmp 51) (.con (.c (.d (.int .i64 (1)))))⟩,
 ⟨(some 10), none, .mov (.tmp 52)⟩] [1, 0, 4, 11, 10])
 (.reg [⟨(some 53), none, .mov (.tmp 12)⟩,
 ⟨(some 11), none, .mov (.tmp 53)⟩] [1, 0, 4, 11, 10])))))
def f58_b2 : SCode :=
 .seq (.seq (.reg [⟨(some 55), none, .mov (.tmp 13)⟩,
 ⟨(some 56), none, .mov (.tmp 10)⟩,
 ⟨(some 57), none, .bin .sub (.tmp 56) (.con (.c (.d (.int .i64 (1)))))⟩,
 ⟨(some 58), none, .bin .lss (.tmp 55) (.tmp 57)⟩] [58, 13, 0, 10])
 (.cond (.tmp 58) (.skip)
 (.exit 2)))
 (.seq (.block 3 (.draw (.step .quiet ⟨(some 61), none, .mov (.tmp 0)⟩ <|
 .step .quiet ⟨(some 62), none, .mov (.tmp 13)⟩ <|
 .step .pure ⟨(some 63), none, .mov (.tmp 0)⟩ <|
 .step .pure ⟨(some 64), none, .mov (.tmp 13)⟩ <|
 .step .pure ⟨(some 65), none, .bin .add (.tmp 64) (.con (.c (.d (.int .i64 (1)))))⟩ <|
 .step .quiet ⟨(some 66), none, .mov (.tmp 0)⟩ <|
 .step .quiet ⟨(some 67), none, .mov (.tmp 13)⟩ <|
 .step .quiet ⟨(some 68), none, .bin .add (.tmp 67) (.con (.c (.d (.int .i64 (1)))))⟩ <|
 .step .quiet ⟨(some 69), none, .iaddr 6 (.tmp 66) (.tmp 68)⟩ <|
 .step .quiet ⟨(some 70), none, .load true 6 (.tmp 69)⟩ <|
 .step .quiet ⟨(some 71), none, .mov (.tmp 0)⟩ <|
 .step .quiet ⟨(some 72), none, .mov (.tmp 13)⟩ <|
 .step .quiet ⟨(some 73), none, .iaddr 6 (.tmp 71) (.tmp 72)⟩ <|
 .step .quiet ⟨(some 74), none, .load true 6 (.tmp 73)⟩ <|
 .step .quiet ⟨(some 75), none, .iaddr 6 (.tmp 61) (.tmp 62)⟩ <|
 .step .heavy ⟨none, none, .store 6 (.tmp 75) (.tmp 70)⟩ <|
 .step .quiet ⟨(some 76), none, .iaddr 6 (.tmp 63) (.tmp 65)⟩ <|
 .step .heavy ⟨none, none, .store 6 (.tmp 76) (.tmp 74)⟩ <|
 .done) [13, 0, 10]))
 (.reg [⟨(some 59), none, .mov (.tmp 13)⟩,
 ⟨(some 60), none, .bin .add (.tmp 59) (.con (.c (.d (.int .i64 (1)))))⟩,
 ⟨(some 13), none, .mov (.tmp 60)⟩] [13, 0, 10]))
def f58_b3 : SCode :=
 .seq (.seq (.reg [⟨(some 83), none, .mov (.tmp 14)⟩,
 ⟨(some 84), none, .mov (.tmp 15)⟩,
 ⟨(some 85), none, .bin .lss (.tmp 83) (.tmp 84)⟩] [85, 0, 2, 4, 15, 14])
 (.cond (.tmp 85) (.skip)
 (.exit 4)))
 (.block 5 (.seq (.reg [⟨(some 86), none, .mov (.tmp 14)⟩,
 ⟨(some 87), none, .mov (.tmp 15)⟩,
 ⟨(some 88), none, .bin .add (.tmp 86) (.tmp 87)⟩,
 ⟨(some 89), none, .cint .u64 (.tmp 88)⟩,
 ⟨(some 90), none, .bin .shr (.tmp 89) (.con (.c (.d (.int .u64 (1)))))⟩,
 ⟨(some 91), none, .cint .i64 (.tmp 90)⟩,
 ⟨(some 16), none, .mov (.tmp 91)⟩] [16, 0, 2, 4, 15, 14])
 (.seq (.draw (.step .quiet ⟨(some 92), none, .mov (.tmp 4)⟩ <|
 .step .quiet ⟨(some 93), none, .mov (.tmp 0)⟩ <|
 .step .quiet ⟨(some 94), none, .mov (.tmp 2)⟩ <|
 .step .quiet ⟨(some 95), none, .iaddr 6 (.tmp 93) (.tmp 94)⟩ <|
 .step .quiet ⟨(some 96), none, .load true 6 (.tmp 95)⟩ <|
 .step .quiet ⟨(some 97), none, .mov (.tmp 0)⟩ <|
 .step .quiet ⟨(some 98), none, .mov (.tmp 16)⟩ <|
 .step .quiet ⟨(some 99), none, .iaddr 6 (.tmp 97) (.tmp 98)⟩ <|
 .step .quiet ⟨(some 100), none, .load true 6 (.tmp 99)⟩ <|
 .step .heavy ⟨(some 101), none, .callv (.tmp 92) [.tmp 96, .tmp 100]⟩ <|
 .step .quiet ⟨(some 102), none, .bin .lss (.tmp 101) (.con (.c (.d (.int .i64 (0)))))⟩ <|
 .step .quiet ⟨(some 103), none, .un .not (.tmp 102)⟩ <|
 .done) [103, 16, 0, 2, 4, 15, 14])
 (.cond (.tmp 103) (.reg [⟨(some 104), none, .mov (.tmp 16)⟩,
 ⟨(some 105), none, .bin .add (.tmp 104) (.con (.c (.d (.int .i64 (1)))))⟩,
 ⟨(some 14), none, .mov (.tmp 105)⟩] [0, 2, 4, 15, 14])
 (.reg [⟨(some 106), none, .mov (.tmp 16)⟩,
 ⟨(some 15), none, .mov (.tmp 106)⟩] [0, 2, 4, 15, 14])))))
def f58_b4 : SCode :=
 .seq (.seq (.reg [⟨(some 108), none, .mov (.tmp 17)⟩,
 ⟨(some 109), none, .mov (.tmp 14)⟩,
 ⟨(some 110), none, .bin .gtr (.tmp 108) (.tmp 109)⟩] [110, 17, 0, 14])
 (.cond (.tmp 110) (.skip)
 (.exit 6)))
 (.seq (.block 7 (.draw (.step .quiet ⟨(some 113), none, .mov (.tmp 0)⟩ <|
 .step .quiet ⟨(some 114), none, .mov (.tmp 17)⟩ <|
 .step .pure ⟨(some 115), none, .mov (.tmp 0)⟩ <|
 .step .pure ⟨(some 116), none, .mov (.tmp 17)⟩ <|
 .step .pure ⟨(some 117), none, .bin .sub (.tmp 116) (.con (.c (.d (.int .i64 (1)))))⟩ <|
 .step .quiet ⟨(some 118), none, .mov (.tmp 0)⟩ <|
 .step .quiet ⟨(some 119), none, .mov (.tmp 17)⟩ <|
 .step .quiet ⟨(some 120), none, .bin .sub (.tmp 119) (.con (.c (.d (.int .i64 (1)))))⟩ <|
 .step .quiet ⟨(some 121), none, .iaddr 6 (.tmp 118) (.tmp 120)⟩ <|
 .step .quiet ⟨(some 122), none, .load true 6 (.tmp 121)⟩ <|
 .step .quiet ⟨(some 123), none, .mov (.tmp 0)⟩ <|
 .step .quiet ⟨(some 124), none, .mov (.tmp 17)⟩ <|
 .step .quiet ⟨(some 125), none, .iaddr 6 (.tmp 123) (.tmp 124)⟩ <|
 .step .quiet ⟨(some 126), none, .load true 6 (.tmp 125)⟩ <|
 .step .quiet ⟨(some 127), none, .iaddr 6 (.tmp 113) (.tmp 114)⟩ <|
 .step .heavy ⟨none, none, .store 6 (.tmp 127) (.tmp 122)⟩ <|
 .step .quiet ⟨(some 128), none, .iaddr 6 (.tmp 115) (.tmp 117)⟩ <|
 .step .heavy ⟨none, none, .store 6 (.tmp 128) (.tmp 126)⟩ <|
 .done) [17, 0, 14]))
 (.reg [⟨(some 111), none, .mov (.tmp 17)⟩,
 ⟨(some 112), none, .bin .sub (.tmp 111) (.con (.c (.d (.int .i64 (1)))))⟩,
 ⟨(some 17), none, .mov (.tmp 112)⟩] [17, 0, 14]))
def f58_b5 : SCode :=
 .seq (.seq (.reg [⟨(some 149), none, .mov (.tmp 20)⟩,
 ⟨(some 150), none, .mov (.tmp 21)⟩,
 ⟨(some 151), none, .bin .lss (.tmp 149) (.tmp 150)⟩] [151, 0, 22, 4, 21, 20, 3, 18, 1, 2, 19])
 (.cond (.tmp 151) (.skip)
 (.exit 8)))
 (.block 9 (.seq (.reg [⟨(some 152), none, .mov (.tmp 20)⟩,
 ⟨(some 153), none, .mov (.tmp 21)⟩,
 ⟨(some 154), none, .bin .add (.tmp 152) (.tmp 153)⟩,
 ⟨(some 155), none, .cint .u64 (.tmp 154)⟩,
 ⟨(some 156), none, .bin .shr (.tmp 155) (.con (.c (.d (.int .u64 (1)))))⟩,
 ⟨(some 157), none, .cint .i64 (.tmp 156)⟩,
 ⟨(some 23), none, .mov (.tmp 157)⟩] [23, 0, 22, 4, 21, 3, 18, 1, 2, 19, 20])
 (.seq (.draw (.step .quiet ⟨(some 158), none, .mov (.tmp 4)⟩ <|
 .step .quiet ⟨(some 159), none, .mov (.tmp 0)⟩ <|
 .step .quiet ⟨(some 160), none, .mov (.tmp 22)⟩ <|
 .step .quiet ⟨(some 161), none, .mov (.tmp 23)⟩ <|
 .step .quiet ⟨(some 162), none, .bin .sub (.tmp 160) (.tmp 161)⟩ <|
 .step .quiet ⟨(some 163), none, .iaddr 6 (.tmp 159) (.tmp 162)⟩ <|
 .step .quiet ⟨(some 164), none, .load true 6 (.tmp 163)⟩ <|
 .step .quiet ⟨(some 165), none, .mov (.tmp 0)⟩ <|
 .step .quiet ⟨(some 166), none, .mov (.tmp 23)⟩ <|
 .step .quiet ⟨(some 167), none, .iaddr 6 (.tmp 165) (.tmp 166)⟩ <|
 .step .quiet ⟨(some 168), none, .load true 6 (.tmp 167)⟩ <|
 .step .heavy ⟨(some 169), none, .callv (.tmp 158) [.tmp 164, .tmp 168]⟩ <|
 .step .quiet ⟨(some 170), none, .bin .lss (.tmp 169) (.con (.c (.d (.int .i64 (0)))))⟩ <|
 .step .quiet ⟨(some 171), none, .un .not (.tmp 170)⟩ <|
 .done) [171, 23, 0, 22, 4, 21, 3, 18, 1, 2, 19, 20])
 (.cond (.tmp 171) (.reg [⟨(some 172), none, .mov (.tmp 23)⟩,
 ⟨(some 173), none, .bin .add (.tmp 172) (.con (.c (.d (.int .i64 (1)))))⟩,
 ⟨(some 20), none, .mov (.tmp 173)⟩] [0, 22, 4, 21, 20, 3, 18, 1, 2, 19])
 (.reg [⟨(some 174), none, .mov (.tmp 23)⟩,
 ⟨(some 21), none, .mov (.tmp 174)⟩] [0, 22, 4, 21, 20, 3, 18, 1, 2, 19])))))
/-- slices.symMergeCmpFunc[semvcs/api.Cell] -/
def f58 : SFunc := ⟨5, [], true,
 .seq (.seq (.reg [⟨(some 25), none, .mov (.tmp 2)⟩,
 ⟨(some 26), none, .mov (.tmp 1)⟩,
 ⟨(some 27), none, .bin .sub (.tmp 25) (.tmp 26)⟩,
 ⟨(some 28), none, .bin .eql (.tmp 27) (.con (.c (.d (.int .i64 (1)))))⟩] [28, 1, 0, 4, 3, 2])
 (.cond (.tmp 28) (.seq (.reg [⟨(some 29), none, .mov (.tmp 2)⟩,
 ⟨(some 10), none, .mov (.tmp 29)⟩] [1, 0, 4, 10, 3])
 (.seq (.reg [⟨(some 30), none, .mov (.tmp 3)⟩,
 ⟨(some 11), none, .mov (.tmp 30)⟩] [1, 0, 4, 11, 10])
 (.seq (.block 0 (.loop [1, 0, 4, 11, 10] [] f58_b1))
 (.seq (.seq (.reg [⟨(some 54), none, .mov (.tmp 1)⟩,
 ⟨(some 13), none, .mov (.tmp 54)⟩] [13, 0, 10])
 (.block 2 (.loop [13, 0, 10] [] f58_b2)))
 (.ret)))))
 (.skip)))
 (.seq (.seq (.reg [⟨(some 77), none, .mov (.tmp 3)⟩,
 ⟨(some 78), none, .mov (.tmp 2)⟩,
 ⟨(some 79), none, .bin .sub (.tmp 77) (.tmp 78)⟩,
 ⟨(some 80), none, .bin .eql (.tmp 79) (.con (.c (.d (.int .i64 (1)))))⟩] [80, 0, 2, 4, 1, 3])
 (.cond (.tmp 80) (.seq (.reg [⟨(some 81), none, .mov (.tmp 1)⟩,
 ⟨(some 14), none, .mov (.tmp 81)⟩] [0, 2, 4, 14])
 (.seq (.reg [⟨(some 82), none, .mov (.tmp 2)⟩,
 ⟨(some 15), none, .mov (.tmp 82)⟩] [0, 2, 4, 15, 14])
 (.seq (.block 4 (.loop [0, 2, 4, 15, 14] [] f58_b3))
 (.seq (.seq (.reg [⟨(some 107), none, .mov (.tmp 2)⟩,
 ⟨(some 17), none, .mov (.tmp 107)⟩] [17, 0, 14])
 (.block 6 (.loop [17, 0, 14] [] f58_b4)))
 (.ret)))))
 (.skip)))
 (.seq (.reg [⟨(some 129), none, .mov (.tmp 1)⟩,
 ⟨(some 130), none, .mov (.tmp 3)⟩,
 ⟨(some 131), none, .bin .add (.tmp 129) (.tmp 130)⟩,
 ⟨(some 132), none, .cint .u64 (.tmp 131)⟩,
 ⟨(some 133), none, .bin .shr (.tmp 132) (.con (.c (.d (.int .u64 (1)))))⟩,
 ⟨(some 134), none, .cint .i64 (.tmp 133)⟩,
 ⟨(some 18), none, .mov (.tmp 134)⟩] [0, 4, 3, 18, 1, 2])
 (.seq (.reg [⟨(some 135), none, .mov (.tmp 18)⟩,
 ⟨(some 136), none, .mov (.tmp 2)⟩,
 ⟨(some 137), none, .bin .add (.tmp 135) (.tmp 136)⟩,
 ⟨(some 19), none, .mov (.tmp 137)⟩] [0, 4, 3, 18, 1, 2, 19])
 (.seq (.reg [⟨(some 20), none, .mov (.con (.c (.d (.int .i64 (0)))))⟩,
 ⟨(some 21), none, .mov (.con (.c (.d (.int .i64 (0)))))⟩] [0, 4, 3, 18, 1, 2, 19])
 (.seq (.seq (.reg [⟨(some 138), none, .mov (.tmp 2)⟩,
 ⟨(some 139), none, .mov (.tmp 18)⟩,
 ⟨(some 140), none, .bin .gtr (.tmp 138) (.tmp 139)⟩] [140, 0, 4, 3, 18, 1, 2, 19])
 (.cond (.tmp 140) (.seq (.reg [⟨(some 141), none, .mov (.tmp 19)⟩,
 ⟨(some 142), none, .mov (.tmp 3)⟩,
 ⟨(some 143), none, .bin .sub (.tmp 141) (.tmp 142)⟩,
 ⟨(some 20), none, .mov (.tmp 143)⟩] [0, 4, 20, 3, 18, 1, 2, 19])
 (.reg [⟨(some 144), none, .mov (.tmp 18)⟩,
 ⟨(some 21), none, .mov (.tmp 144)⟩] [0, 4, 21, 20, 3, 18, 1, 2, 19]))
 (.seq (.reg [⟨(some 145), none, .mov (.tmp 1)⟩,
 ⟨(some 20), none, .mov (.tmp 145)⟩] [0, 4, 20, 3, 18, 1, 2, 19])
 (.reg [⟨(some 146), none, .mov (.tmp 2)⟩,
 ⟨(some 21), none, .mov (.tmp 146)⟩] [0, 4, 21, 20, 3, 18, 1, 2, 19]))))
 (.seq (.reg [⟨(some 147), none, .mov (.tmp 19)⟩,
 ⟨(some 148), none, .bin .sub (.tmp 147) (.con (.c (.d (.int .i64 (1)))))⟩,
 ⟨(some 22), none, .mov (.tmp 148)⟩] [0, 22, 4, 21, 20, 3, 18, 1, 2, 19])
 (.seq (.block 8 (.loop [0, 22, 4, 21, 20, 3, 18, 1, 2, 19] [] f58_b5))
 (.seq (.reg [⟨(some 175), none, .mov (.tmp 19)⟩,
 ⟨(some 176), none, .mov (.tmp 20)⟩,
 ⟨(some 177), none, .bin .sub (.tmp 175) (.tmp 176)⟩,
 ⟨(some 24), none, .mov (.tmp 177)⟩] [4, 3, 24, 18, 0, 20, 1, 2])
 (.seq (.seq (.reg [⟨(some 178), none, .mov (.tmp 20)⟩,
 ⟨(some 179), none, .mov (.tmp 2)⟩,
 ⟨(some 180), none, .bin .lss (.tmp 178) (.tmp 179)⟩,
 ⟨(some 181), none, .mov (.tmp 180)⟩,
 ⟨(some 182), (some (181, true)), .mov (.tmp 2)⟩,
 ⟨(some 183), (some (181, true)), .mov (.tmp 24)⟩,
 ⟨(some 184), (some (181, true)), .bin .lss (.tmp 182) (.tmp 183)⟩,
 ⟨(some 185), none, .pick (.tmp 181) (.tmp 184) (.con (.c (.d (.bool false))))⟩] [185, 4, 3, 24, 18, 0, 20, 1, 2])
 (.cond (.tmp 185) (.reg [⟨(some 186), none, .mov (.tmp 0)⟩,
 ⟨(some 187), none, .mov (.tmp 20)⟩,
 ⟨(some 188), none, .mov (.tmp 2)⟩,
 ⟨(some 189), none, .mov (.tmp 24)⟩,
 ⟨(some 190), none, .mov (.tmp 4)⟩,
 ⟨(some 191), none, .call true 63 [.tmp 186, .tmp 187, .tmp 188, .tmp 189, .tmp 190]⟩] [4, 3, 24, 18, 0, 20, 1])
 (.skip)))
 (.seq (.seq (.reg [⟨(some 192), none, .mov (.tmp 1)⟩,
 ⟨(some 193), none, .mov (.tmp 20)⟩,
 ⟨(some 194), none, .bin .lss (.tmp 192) (.tmp 193)⟩,
 ⟨(some 195), none, .mov (.tmp 194)⟩,
 ⟨(some 196), (some (195, true)), .mov (.tmp 20)⟩,
 ⟨(some 197), (some (195, true)), .mov (.tmp 18)⟩,
 ⟨(some 198), (some (195, true)), .bin .lss (.tmp 196) (.tmp 197)⟩,
 ⟨(some 199), none, .pick (.tmp 195) (.tmp 198) (.con (.c (.d (.bool false))))⟩] [199, 4, 3, 24, 18, 0, 20, 1])
 (.cond (.tmp 199) (.reg [⟨(some 200), none, .mov (.tmp 0)⟩,
 ⟨(some 201), none, .mov (.tmp 1)⟩,
 ⟨(some 202), none, .mov (.tmp 20)⟩,
 ⟨(some 203), none, .mov (.tmp 18)⟩,
 ⟨(some 204), none, .mov (.tmp 4)⟩,
 ⟨(some 205), none, .call true 58 [.tmp 200, .tmp 201, .tmp 202, .tmp 203, .tmp 204]⟩] [4, 3, 24, 18, 0])
 (.skip)))
 (.seq (.reg [⟨(some 206), none, .mov (.tmp 18)⟩,
 ⟨(some 207), none, .mov (.tmp 24)⟩,
 ⟨(some 208), none, .bin .lss (.tmp 206) (.tmp 207)⟩,
 ⟨(some 209), none, .mov (.tmp 208)⟩,
 ⟨(some 210), (some (209, true)), .mov (.tmp 24)⟩,
 ⟨(some 211), (some (209, true)), .mov (.tmp 3)⟩,
 ⟨(some 212), (some (209, true)), .bin .lss (.tmp 210) (.tmp 211)⟩,
 ⟨(some 213), none, .pick (.tmp 209) (.tmp 212) (.con (.c (.d (.bool false))))⟩] [213, 4, 3, 24, 18, 0])
 (.cond (.tmp 213) (.reg [⟨(some 214), none, .mov (.tmp 0)⟩,
 ⟨(some 215), none, .mov (.tmp 18)⟩,
 ⟨(some 216), none, .mov (.tmp 24)⟩,
 ⟨(some 217), none, .mov (.tmp 3)⟩,
 ⟨(some 218), none, .mov (.tmp 4)⟩,
 ⟨(some 219), none, .call true 58 [.tmp 214, .tmp 215, .tmp 216, .tmp 217, .tmp 218]⟩] [])
 (.skip)))))))))))))⟩

def f55_b1 : SCode :=
 .seq (.seq (.reg [⟨(some 11), none, .mov (.tmp 8)⟩,
 ⟨(some 12), none, .mov (.tmp 1)⟩,
 ⟨(some 13), none, .bin .leq (.tmp 11) (.tmp 12)⟩] [13, 6, 8, 2, 7, 0, 1])
 (.cond (.tmp 13) (.skip)
 (.exit 0)))
 (.block 1 (.seq (.reg [⟨(some 14), none, .mov (.tmp 0)⟩,
 ⟨(some 15), none, .mov (.tmp 7)⟩,
 ⟨(some 16), none, .mov (.tmp 8)⟩,
 ⟨(some 17), none, .mov (.tmp 2)⟩,
 ⟨(some 18), none, .call true 57 [.tmp 14, .tmp 15, .tmp 16, .tmp 17]⟩] [6, 8, 2, 0, 1])
 (.seq (.reg [⟨(some 19), none, .mov (.tmp 8)⟩,
 ⟨(some 7), none, .mov (.tmp 19)⟩] [6, 8, 2, 7, 0, 1])
 (.reg [⟨(some 20), none, .mov (.tmp 8)⟩,
 ⟨(some 21), none, .mov (.tmp 6)⟩,
 ⟨(some 22), none, .bin .add (.tmp 20) (.tmp 21)⟩,
 ⟨(some 8), none, .mov (.tmp 22)⟩] [6, 8, 2, 7, 0, 1]))))
def f55_b3 : SCode :=
 .seq (.seq (.reg [⟨(some 33), none, .mov (.tmp 8)⟩,
 ⟨(some 34), none, .mov (.tmp 1)⟩,
 ⟨(some 35), none, .bin .leq (.tmp 33) (.tmp 34)⟩] [35, 6, 8, 2, 7, 0, 1])
 (.cond (.tmp 35) (.skip)
 (.exit 4)))
 (.block 5 (.seq (.reg [⟨(some 36), none, .mov (.tmp 0)⟩,
 ⟨(some 37), none, .mov (.tmp 7)⟩,
 ⟨(some 38), none, .mov (.tmp 7)⟩,
 ⟨(some 39), none, .mov (.tmp 6)⟩,
 ⟨(some 40), none, .bin .add (.tmp 38) (.tmp 39)⟩,
 ⟨(some 41), none, .mov (.tmp 8)⟩,
 ⟨(some 42), none, .mov (.tmp 2)⟩,
 ⟨(some 43), none, .call true 58 [.tmp 36, .tmp 37, .tmp 40, .tmp 41, .tmp 42]⟩] [6, 8, 2, 0, 1])
 (.seq (.reg [⟨(some 44), none, .mov (.tmp 8)⟩,
 ⟨(some 7), none, .mov (.tmp 44)⟩] [6, 8, 2, 7, 0, 1])
 (.reg [⟨(some 45), none, .mov (.tmp 8)⟩,
 ⟨(some 46), none, .mov (.tmp 6)⟩,
 ⟨(some 47), none, .bin .mul (.con (.c (.d (.int .i64 (2))))) (.tmp 46)⟩,
 ⟨(some 48), none, .bin .add (.tmp 45) (.tmp 47)⟩,
 ⟨(some 8), none, .mov (.tmp 48)⟩] [6, 8, 2, 7, 0, 1]))))
def f55_b2 : SCode :=
 .seq (.seq (.reg [⟨(some 28), none, .mov (.tmp 6)⟩,
 ⟨(some 29), none, .mov (.tmp 1)⟩,
 ⟨(some 30), none, .bin .lss (.tmp 28) (.tmp 29)⟩] [30, 6, 2, 0, 1])
 (.cond (.tmp 30) (.skip)
 (.exit 2)))
 (.block 3 (.seq (.reg [⟨(some 31), none, .mov (.tmp 6)⟩,
 ⟨(some 32), none, .bin .mul (.con (.c (.d (.int .i64 (2))))) (.tmp 31)⟩,
 ⟨(some 7), none, .mov (.con (.c (.d (.int .i64 (0)))))⟩,
 ⟨(some 8), none, .mov (.tmp 32)⟩] [6, 8, 2, 7, 0, 1])
 (.seq (.block 4 (.loop [6, 8, 2, 7, 0, 1] [] f55_b3))
 (.seq (.seq (.reg [⟨(some 49), none, .mov (.tmp 7)⟩,
 ⟨(some 50), none, .mov (.tmp 6)⟩,
 ⟨(some 51), none, .bin .add (.tmp 49) (.tmp 50)⟩,
 ⟨(some 9), none, .mov (.tmp 51)⟩] [6, 2, 1, 9, 7, 0])
 (.seq (.reg [⟨(some 52), none, .mov (.tmp 9)⟩,
 ⟨(some 53), none, .mov (.tmp 1)⟩,
 ⟨(some 54), none, .bin .lss (.tmp 52) (.tmp 53)⟩] [54, 6, 2, 1, 9, 7, 0])
 (.cond (.tmp 54) (.reg [⟨(some 55), none, .mov (.tmp 0)⟩,
 ⟨(some 56), none, .mov (.tmp 7)⟩,
 ⟨(some 57), none, .mov (.tmp 9)⟩,
 ⟨(some 58), none, .mov (.tmp 1)⟩,
 ⟨(some 59), none, .mov (.tmp 2)⟩,
 ⟨(some 60), none, .call true 58 [.tmp 55, .tmp 56, .tmp 57, .tmp 58, .tmp 59]⟩] [6, 2, 0, 1])
 (.skip))))
 (.reg [⟨(some 61), none, .mov (.tmp 6)⟩,
 ⟨(some 62), none, .bin .mul (.tmp 61) (.con (.c (.d (.int .i64 (2)))))⟩,
 ⟨(some 6), none, .mov (.tmp 62)⟩] [6, 2, 0, 1])))))
/-- slices.stableCmpFunc[semvcs/api.Cell] -/
def f55 : SFunc := ⟨3, [], true,
 .seq (.reg [⟨(some 6), none, .mov (.con (.c (.d (.int .i64 (20)))))⟩] [6, 2, 0, 1])
 (.seq (.reg [⟨(some 10), none, .mov (.tmp 6)⟩,
 ⟨(some 7), none, .mov (.con (.c (.d (.int .i64 (0)))))⟩,
 ⟨(some 8), none, .mov (.tmp 10)⟩] [6, 8, 2, 7, 0, 1])
 (.seq (.block 0 (.loop [6, 8, 2, 7, 0, 1] [] f55_b1))
 (.seq (.reg [⟨(some 23), none, .mov (.tmp 0)⟩,
 ⟨(some 24), none, .mov (.tmp 7)⟩,
 ⟨(some 25), none, .mov (.tmp 1)⟩,
 ⟨(some 26), none, .mov (.tmp 2)⟩,
 ⟨(some 27), none, .call true 57 [.tmp 23, .tmp 24, .tmp 25, .tmp 26]⟩] [6, 2, 0, 1])
 (.block 2 (.loop [6, 2, 0, 1] [] f55_b2)))))⟩

/-- slices.SortStableFunc[[]semvcs/api.Cell,semvcs/api.Cell] -/
def f45 : SFunc := ⟨2, [], true,
 .reg [⟨(some 4), none, .mov (.tmp 0)⟩,
 ⟨(some 5), none, .mov (.tmp 0)⟩,
 ⟨(some 6), none, .vlen (.tmp 5)⟩,
 ⟨(some 7), none, .mov (.tmp 1)⟩,
 ⟨(some 8), none, .call true 55 [.tmp 4, .tmp 6, .tmp 7]⟩] []⟩

/-- semvcs/state.lastWrites$1 -/
def f46 : SFunc := ⟨2, [.tmp 4], true,
 .seq (.reg [⟨(some 2), none, .box 6 (.tmp 0)⟩,
 ⟨(some 3), none, .box 6 (.tmp 1)⟩,
 ⟨(some 4), none, .mov (.con (.c (.d (.int .i64 (0)))))⟩] [3, 2])
 (.seq (.draw (.step .quiet ⟨(some 5), none, .load true 6 (.tmp 2)⟩ <|
 .step .quiet ⟨(some 7), none, .load true 6 (.tmp 3)⟩ <|
 .step .mild ⟨(some 6), none, .call false 29 [.tmp 5]⟩ <|
 .step .mild ⟨(some 8), none, .call false 29 [.tmp 7]⟩ <|
 .step .mild ⟨(some 9), none, .call true 15 [.tmp 6, .tmp 8]⟩ <|
 .step .quiet ⟨(some 4), none, .mov (.tmp 9)⟩ <|
 .done) [4])
 (.ret))⟩

def f28_b1 : SCode :=
 .seq (.reg [⟨(some 14), none, .bin .lss (.tmp 13) (.tmp 12)⟩] [14, 13, 4, 3, 11, 12])
 (.seq (.cond (.tmp 14) (.skip)
 (.exit 0))
 (.seq (.block 1 (.seq (.reg [⟨(some 15), none, .mov (.tmp 13)⟩,
 ⟨(some 16), none, .iaddr 6 (.tmp 11) (.tmp 13)⟩,
 ⟨(some 17), none, .load true 6 (.tmp 16)⟩,
 ⟨(some 6), none, .alloc [.d (.int .i64 (0)), .d (.int .i64 (0)), .d (.int .i64 (0)), .d (.bool false), .d (.str []), .d (.int .i64 (0))]⟩,
 ⟨(some 5), none, .mov (.tmp 15)⟩,
 ⟨none, none, .store 6 (.tmp 6) (.tmp 17)⟩] [13, 6, 4, 5, 3, 11, 12])
 (.seq (.draw (.step .quiet ⟨(some 18), none, .mov (.tmp 5)⟩ <|
 .step .quiet ⟨(some 19), none, .bin .add (.tmp 18) (.con (.c (.d (.int .i64 (1)))))⟩ <|
 .step .quiet ⟨(some 20), none, .mov (.tmp 3)⟩ <|
 .step .quiet ⟨(some 21), none, .vlen (.tmp 20)⟩ <|
 .step .quiet ⟨(some 22), none, .bin .eql (.tmp 19) (.tmp 21)⟩ <|
 .step .quiet ⟨(some 23), none, .mov (.tmp 22)⟩ <|
 .step .quiet ⟨(some 24), (some (23, false)), .mov (.tmp 3)⟩ <|
 .step .quiet ⟨(some 25), (some (23, false)), .mov (.tmp 5)⟩ <|
 .step .quiet ⟨(some 26), (some (23, false)), .bin .add (.tmp 25) (.con (.c (.d (.int .i64 (1)))))⟩ <|
 .step .quiet ⟨(some 27), (some (23, false)), .iaddr 6 (.tmp 24) (.tmp 26)⟩ <|
 .step .quiet ⟨(some 28), (some (23, false)), .load true 6 (.tmp 27)⟩ <|
 .step .quiet ⟨(some 30), (some (23, false)), .load true 6 (.tmp 6)⟩ <|
 .step .mild ⟨(some 29), (some (23, false)), .call false 29 [.tmp 28]⟩ <|
 .step .mild ⟨(some 31), (some (23, false)), .call false 29 [.tmp 30]⟩ <|
 .step .quiet ⟨(some 32), (some (23, false)), .eqa true [.int .i64, .int .i64] (.tmp 29) (.tmp 31)⟩ <|
 .step .quiet ⟨(some 33), none, .pick (.tmp 23) (.con (.c (.d (.bool true)))) (.tmp 32)⟩ <|
 .done) [33, 13, 6, 4, 3, 11, 12])
 (.cond (.tmp 33) (.reg [⟨(some 34), none, .mov (.tmp 4)⟩,
 ⟨(some 35), none, .load true 6 (.tmp 6)⟩,
 ⟨(some 36), none, .bslice false 6 [.int .i64 (0), .int .i64 (0), .int .i64 (0), .bool false, .str [], .int .i64 (0)] 1 [(0, .tmp 35)]⟩,
 ⟨(some 37), none, .append 6 56 (.tmp 34) (.tmp 36)⟩,
 ⟨(some 4), none, .mov (.tmp 37)⟩] [13, 4, 3, 11, 12])
 (.skip)))))
 (.reg [⟨(some 38), none, .bin .add (.tmp 13) (.con (.c (.d (.int .i64 (1)))))⟩,
 ⟨(some 13), none, .mov (.tmp 38)⟩] [13, 4, 3, 11, 12])))
/-- semvcs/state.lastWrites -/
def f28 : SFunc := ⟨1, [.tmp 2], true,
 .seq (.reg [⟨(some 2), none, .mov (.con (.c (.nils)))⟩] [0])
 (.seq (.reg [⟨(some 7), none, .mov (.tmp 0)⟩,
 ⟨(some 8), none, .call false 44 [.tmp 7]⟩,
 ⟨(some 3), none, .mov (.tmp 8)⟩] [3])
 (.seq (.reg [⟨(some 9), none, .mov (.tmp 3)⟩,
 ⟨(some 10), none, .call true 45 [.tmp 9, .fn 46]⟩] [3])
 (.seq (.reg [⟨(some 4), none, .mov (.con (.c (.nils)))⟩] [4, 3])
 (.seq (.seq (.reg [⟨(some 11), none, .mov (.tmp 3)⟩,
 ⟨(some 12), none, .vlen (.tmp 11)⟩,
 ⟨(some 13), none, .mov (.con (.c (.d (.int .i64 (0)))))⟩] [13, 4, 3, 11, 12])
 (.block 0 (.loop [13, 4, 3, 11, 12] [(4, none, 6)] f28_b1)))
 (.seq (.reg [⟨(some 39), none, .mov (.tmp 4)⟩,
 ⟨(some 2), none, .mov (.tmp 39)⟩] [2])
 (.ret))))))⟩

/-- semvcs/state.written -/
def f30 : SFunc := ⟨2, [.cell 4 true 3], true,
 .seq (.reg [⟨(some 2), none, .box 6 (.tmp 0)⟩,
 ⟨(some 4), none, .alloc [.d (.int .i64 (0)), .d (.int .i64 (0)), .nils]⟩] [4, 2, 1])
 (.seq (.reg [⟨(some 5), none, .faddr 0 (.tmp 2)⟩,
 ⟨(some 6), none, .load false 1 (.tmp 5)⟩,
 ⟨(some 7), none, .faddr 1 (.tmp 2)⟩,
 ⟨(some 8), none, .load false 1 (.tmp 7)⟩,
 ⟨(some 9), none, .mov (.tmp 1)⟩,
 ⟨(some 10), none, .faddr 2 (.tmp 2)⟩,
 ⟨(some 11), none, .load true 4 (.tmp 10)⟩,
 ⟨(some 12), none, .build [.d (.int .i64 (0)), .d (.int .i64 (0)), .d (.bool false), .d (.str []), .d (.int .i64 (0))] [(0, 1, .tmp 9), (1, 4, .tmp 11)]⟩,
 ⟨(some 13), none, .bslice false 5 [.int .i64 (0), .int .i64 (0), .bool false, .str [], .int .i64 (0)] 1 [(0, .tmp 12)]⟩,
 ⟨(some 14), none, .build [.d (.int .i64 (0)), .d (.int .i64 (0)), .nils] [(0, 1, .tmp 6), (1, 1, .tmp 8), (2, 1, .tmp 13)]⟩,
 ⟨none, none, .store 3 (.tmp 4) (.tmp 14)⟩] [4])
 (.ret))⟩

def f47_b1 : SCode :=
 .seq (.seq (.reg [⟨(some 15), none, .mov (.tmp 9)⟩,
 ⟨(some 16), none, .mov (.tmp 10)⟩,
 ⟨(some 17), none, .bin .lss (.tmp 15) (.tmp 16)⟩] [17, 4, 0, 2, 10, 9, 8])
 (.cond (.tmp 17) (.skip)
 (.exit 0)))
 (.block 1 (.seq (.reg [⟨(some 18), none, .mov (.tmp 9)⟩,
 ⟨(some 19), none, .mov (.tmp 10)⟩,
 ⟨(some 20), none, .bin .add (.tmp 18) (.tmp 19)⟩,
 ⟨(some 21), none, .cint .u64 (.tmp 20)⟩,
 ⟨(some 22), none, .bin .shr (.tmp 21) (.con (.c (.d (.int .u64 (1)))))⟩,
 ⟨(some 23), none, .cint .i64 (.tmp 22)⟩,
 ⟨(some 11), none, .mov (.tmp 23)⟩] [11, 4, 0, 2, 10, 8, 9])
 (.seq (.draw (.step .quiet ⟨(some 24), none, .mov (.tmp 2)⟩ <|
 .step .quiet ⟨(some 25), none, .mov (.tmp 0)⟩ <|
 .step .quiet ⟨(some 26), none, .mov (.tmp 11)⟩ <|
 .step .quiet ⟨(some 27), none, .iaddr 6 (.tmp 25) (.tmp 26)⟩ <|
 .step .quiet ⟨(some 28), none, .load true 6 (.tmp 27)⟩ <|
 .step .quiet ⟨(some 29), none, .load true 2 (.tmp 4)⟩ <|
 .step .heavy ⟨(some 30), none, .callv (.tmp 24) [.tmp 28, .tmp 29]⟩ <|
 .step .quiet ⟨(some 31), none, .bin .lss (.tmp 30) (.con (.c (.d (.int .i64 (0)))))⟩ <|
 .done) [31, 11, 4, 0, 2, 10, 8, 9])
 (.cond (.tmp 31) (.reg [⟨(some 32), none, .mov (.tmp 11)⟩,
 ⟨(some 33), none, .bin .add (.tmp 32) (.con (.c (.d (.int .i64 (1)))))⟩,
 ⟨(some 9), none, .mov (.tmp 33)⟩] [4, 0, 2, 10, 9, 8])
 (.reg [⟨(some 34), none, .mov (.tmp 11)⟩,
 ⟨(some 10), none, .mov (.tmp 34)⟩] [4, 0, 2, 10, 9, 8])))))
/-- slices.BinarySearchFunc[[]semvcs/api.Cell,semvcs/api.Cell,semvcs/api.Spot] -/
def f47 : SFunc := ⟨3, [.tmp 6, .tmp 7], true,
 .seq (.reg [⟨(some 4), none, .box 2 (.tmp 1)⟩,
 ⟨(some 6), none, .mov (.con (.c (.d (.int .i64 (0)))))⟩,
 ⟨(some 7), none, .mov (.con (.c (.d (.bool false))))⟩] [4, 0, 2])
 (.seq (.reg [⟨(some 12), none, .mov (.tmp 0)⟩,
 ⟨(some 13), none, .vlen (.tmp 12)⟩,
 ⟨(some 8), none, .mov (.tmp 13)⟩] [4, 0, 2, 8])
 (.seq (.reg [⟨(some 14), none, .mov (.tmp 8)⟩,
 ⟨(some 9), none, .mov (.con (.c (.d (.int .i64 (0)))))⟩,
 ⟨(some 10), none, .mov (.tmp 14)⟩] [4, 0, 2, 10, 9, 8])
 (.seq (.block 0 (.loop [4, 0, 2, 10, 9, 8] [] f47_b1))
 (.seq (.draw (.step .pure ⟨(some 35), none, .mov (.tmp 9)⟩ <|
 .step .quiet ⟨(some 36), none, .mov (.tmp 9)⟩ <|
 .step .quiet ⟨(some 37), none, .mov (.tmp 8)⟩ <|
 .step .quiet ⟨(some 38), none, .bin .lss (.tmp 36) (.tmp 37)⟩ <|
 .step .quiet ⟨(some 39), none, .mov (.tmp 38)⟩ <|
 .step .quiet ⟨(some 40), (some (39, true)), .mov (.tmp 2)⟩ <|
 .step .quiet ⟨(some 41), (some (39, true)), .mov (.tmp 0)⟩ <|
 .step .quiet ⟨(some 42), (some (39, true)), .mov (.tmp 9)⟩ <|
 .step .quiet ⟨(some 43), (some (39, true)), .iaddr 6 (.tmp 41) (.tmp 42)⟩ <|
 .step .quiet ⟨(some 44), (some (39, true)), .load true 6 (.tmp 43)⟩ <|
 .step .quiet ⟨(some 45), (some (39, true)), .load true 2 (.tmp 4)⟩ <|
 .step .heavy ⟨(some 46), (some (39, true)), .callv (.tmp 40) [.tmp 44, .tmp 45]⟩ <|
 .step .quiet ⟨(some 47), (some (39, true)), .bin .eql (.tmp 46) (.con (.c (.d (.int .i64 (0)))))⟩ <|
 .step .quiet ⟨(some 48), none, .pick (.tmp 39) (.tmp 47) (.con (.c (.d (.bool false))))⟩ <|
 .step .quiet ⟨(some 6), none, .mov (.tmp 35)⟩ <|
 .step .quiet ⟨(some 7), none, .mov (.tmp 48)⟩ <|
 .done) [6, 7])
 (.ret)))))⟩

/-- semvcs/state.findWrite$1 -/
def f48 : SFunc := ⟨2, [.tmp 4], true,
 .seq (.reg [⟨(some 2), none, .box 6 (.tmp 0)⟩,
 ⟨(some 3), none, .box 2 (.tmp 1)⟩,
 ⟨(some 4), none, .mov (.con (.c (.d (.int .i64 (0)))))⟩] [3, 2])
 (.seq (.draw (.step .quiet ⟨(some 5), none, .load true 6 (.tmp 2)⟩ <|
 .step .quiet ⟨(some 7), none, .load true 2 (.tmp 3)⟩ <|
 .step .mild ⟨(some 6), none, .call false 29 [.tmp 5]⟩ <|
 .step .mild ⟨(some 8), none, .call true 15 [.tmp 6, .tmp 7]⟩ <|
 .step .quiet ⟨(some 4), none, .mov (.tmp 8)⟩ <|
 .done) [4])
 (.ret))⟩

/-- semvcs/state.findWrite -/
def f31 : SFunc := ⟨2, [.tmp 4, .tmp 5], true,
 .seq (.reg [⟨(some 3), none, .box 2 (.tmp 1)⟩,
 ⟨(some 4), none, .mov (.con (.c (.d (.int .i64 (0)))))⟩,
 ⟨(some 5), none, .mov (.con (.c (.d (.bool false))))⟩] [3, 0])
 (.seq (.reg [⟨(some 6), none, .mov (.tmp 0)⟩,
 ⟨(some 7), none, .load true 2 (.tmp 3)⟩,
 ⟨(some 8), none, .call true 47 [.tmp 6, .tmp 7, .fn 48]⟩,
 ⟨(some 9), none, .extract (.tmp 8) 0⟩,
 ⟨(some 10), none, .extract (.tmp 8) 1⟩,
 ⟨(some 4), none, .mov (.tmp 9)⟩,
 ⟨(some 5), none, .mov (.tmp 10)⟩] [4, 5])
 (.ret))⟩

/-- semvcs/state.copied -/
def f32 : SFunc := ⟨1, [.tmp 2], true,
 .seq (.reg [⟨(some 2), none, .mov (.con (.c (.nils)))⟩] [0])
 (.seq (.reg [⟨(some 3), none, .mov (.tmp 0)⟩,
 ⟨(some 4), none, .vslice 5 (.tmp 3) none (some (.con (.c (.d (.int .i64 (0)))))) (some (.con (.c (.d (.int .i64 (0))))))⟩,
 ⟨(some 5), none, .mov (.tmp 0)⟩,
 ⟨(some 6), none, .append 5 48 (.tmp 4) (.tmp 5)⟩,
 ⟨(some 2), none, .mov (.tmp 6)⟩] [2])
 (.ret))⟩

def f9_b2 : SCode :=
 .seq (.seq (.draw (.step .quiet ⟨(some 27), none, .mov (.tmp 7)⟩ <|
 .step .quiet ⟨(some 28), none, .mov (.tmp 5)⟩ <|
 .step .quiet ⟨(some 29), none, .vlen (.tmp 28)⟩ <|
 .step .quiet ⟨(some 30), none, .bin .lss (.tmp 27) (.tmp 29)⟩ <|
 .step .quiet ⟨(some 31), none, .mov (.tmp 30)⟩ <|
 .step .quiet ⟨(some 32), (some (31, true)), .mov (.tmp 5)⟩ <|
 .step .quiet ⟨(some 33), (some (31, true)), .mov (.tmp 7)⟩ <|
 .step .quiet ⟨(some 34), (some (31, true)), .iaddr 6 (.tmp 32) (.tmp 33)⟩ <|
 .step .quiet ⟨(some 35), (some (31, true)), .load true 6 (.tmp 34)⟩ <|
 .step .quiet ⟨(some 37), (some (31, true)), .load true 2 (.tmp 10)⟩ <|
 .step .mild ⟨(some 36), (some (31, true)), .call false 29 [.tmp 35]⟩ <|
 .step .mild ⟨(some 38), (some (31, true)), .call true 15 [.tmp 36, .tmp 37]⟩ <|
 .step .quiet ⟨(some 39), (some (31, true)), .bin .leq (.tmp 38) (.con (.c (.d (.int .i64 (0)))))⟩ <|
 .step .quiet ⟨(some 40), none, .pick (.tmp 31) (.tmp 39) (.con (.c (.d (.bool false))))⟩ <|
 .done) [40, 7, 3, 5, 6, 21, 9, 10, 19, 4, 20])
 (.cond (.tmp 40) (.skip)
 (.exit 2)))
 (.block 3 (.seq (.draw (.step .quiet ⟨(some 41), none, .mov (.tmp 6)⟩ <|
 .step .quiet ⟨(some 42), none, .mov (.tmp 5)⟩ <|
 .step .quiet ⟨(some 43), none, .mov (.tmp 7)⟩ <|
 .step .quiet ⟨(some 44), none, .iaddr 6 (.tmp 42) (.tmp 43)⟩ <|
 .step .quiet ⟨(some 45), none, .load true 6 (.tmp 44)⟩ <|
 .step .quiet ⟨(some 46), none, .faddr 0 (.tmp 3)⟩ <|
 .step .quiet ⟨(some 47), none, .load false 1 (.tmp 46)⟩ <|
 .step .mild ⟨(some 48), none, .call false 30 [.tmp 45, .tmp 47]⟩ <|
 .step .quiet ⟨(some 49), none, .bslice false 3 [.int .i64 (0), .int .i64 (0), .vec []] 1 [(0, .tmp 48)]⟩ <|
 .step .heavy ⟨(some 50), none, .append 3 40 (.tmp 41) (.tmp 49)⟩ <|
 .step .quiet ⟨(some 6), none, .mov (.tmp 50)⟩ <|
 .done) [7, 3, 5, 6, 21, 9, 10, 19, 4, 20])
 (.reg [⟨(some 51), none, .mov (.tmp 7)⟩,
 ⟨(some 52), none, .bin .add (.tmp 51) (.con (.c (.d (.int .i64 (1)))))⟩,
 ⟨(some 7), none, .mov (.tmp 52)⟩] [7, 3, 5, 6, 21, 9, 10, 19, 4, 20])))
def f9_b1 : SCode :=
 .seq (.reg [⟨(some 22), none, .bin .lss (.tmp 21) (.tmp 20)⟩] [22, 7, 3, 5, 6, 21, 19, 4, 20])
 (.seq (.cond (.tmp 22) (.skip)
 (.exit 0))
 (.seq (.block 1 (.seq (.reg [⟨(some 23), none, .iaddr 3 (.tmp 19) (.tmp 21)⟩,
 ⟨(some 24), none, .load true 3 (.tmp 23)⟩,
 ⟨(some 9), none, .alloc [.d (.int .i64 (0)), .d (.int .i64 (0)), .nils]⟩,
 ⟨none, none, .store 3 (.tmp 9) (.tmp 24)⟩] [7, 3, 5, 6, 21, 9, 19, 4, 20])
 (.seq (.reg [⟨(some 25), none, .load true 3 (.tmp 9)⟩,
 ⟨(some 26), none, .call false 16 [.tmp 25]⟩,
 ⟨(some 10), none, .alloc [.d (.int .i64 (0)), .d (.int .i64 (0))]⟩,
 ⟨none, none, .store 2 (.tmp 10) (.tmp 26)⟩] [7, 3, 5, 6, 21, 9, 10, 19, 4, 20])
 (.seq (.block 2 (.loop [7, 3, 5, 6, 21, 9, 10, 19, 4, 20] [(6, none, 3)] f9_b2))
 (.seq (.reg [⟨(some 54), none, .mov (.tmp 5)⟩,
 ⟨(some 55), none, .load true 2 (.tmp 10)⟩,
 ⟨(some 56), none, .call true 31 [.tmp 54, .tmp 55]⟩,
 ⟨(some 53), none, .mov (.tmp 56)⟩,
 ⟨(some 57), none, .extract (.tmp 53) 0⟩,
 ⟨(some 58), none, .extract (.tmp 53) 1⟩,
 ⟨(some 11), none, .mov (.tmp 57)⟩,
 ⟨(some 12), none, .mov (.tmp 58)⟩] [21, 9, 6, 12, 7, 3, 5, 19, 4, 20])
 (.seq (.reg [⟨(some 59), none, .mov (.tmp 12)⟩,
 ⟨(some 60), none, .un .not (.tmp 59)⟩] [60, 21, 9, 6, 7, 3, 5, 19, 4, 20])
 (.cond (.tmp 60) (.draw (.step .quiet ⟨(some 61), none, .mov (.tmp 6)⟩ <|
 .step .quiet ⟨(some 62), none, .faddr 0 (.tmp 9)⟩ <|
 .step .quiet ⟨(some 63), none, .load false 1 (.tmp 62)⟩ <|
 .step .quiet ⟨(some 64), none, .faddr 1 (.tmp 9)⟩ <|
 .step .quiet ⟨(some 65), none, .load false 1 (.tmp 64)⟩ <|
 .step .quiet ⟨(some 66), none, .faddr 2 (.tmp 9)⟩ <|
 .step .quiet ⟨(some 67), none, .load false 1 (.tmp 66)⟩ <|
 .step .mild ⟨(some 68), none, .call false 32 [.tmp 67]⟩ <|
 .step .quiet ⟨(some 69), none, .build [.d (.int .i64 (0)), .d (.int .i64 (0)), .nils] [(0, 1, .tmp 63), (1, 1, .tmp 65), (2, 1, .tmp 68)]⟩ <|
 .step .quiet ⟨(some 70), none, .bslice false 3 [.int .i64 (0), .int .i64 (0), .vec []] 1 [(0, .tmp 69)]⟩ <|
 .step .heavy ⟨(some 71), none, .append 3 40 (.tmp 61) (.tmp 70)⟩ <|
 .step .quiet ⟨(some 6), none, .mov (.tmp 71)⟩ <|
 .done) [21, 7, 3, 5, 6, 19, 4, 20])
 (.skip))))))))
 (.reg [⟨(some 72), none, .bin .add (.tmp 21) (.con (.c (.d (.int .i64 (1)))))⟩,
 ⟨(some 21), none, .mov (.tmp 72)⟩] [7, 3, 5, 6, 21, 19, 4, 20])))
def f9_b3 : SCode :=
 .seq (.reg [⟨(some 78), none, .bin .lss (.tmp 77) (.tmp 76)⟩] [78, 77, 3, 6, 75, 4, 76])
 (.seq (.cond (.tmp 78) (.skip)
 (.exit 4))
 (.seq (.block 5 (.seq (.reg [⟨(some 79), none, .iaddr 6 (.tmp 75) (.tmp 77)⟩,
 ⟨(some 80), none, .load true 6 (.tmp 79)⟩,
 ⟨(some 14), none, .alloc [.d (.int .i64 (0)), .d (.int .i64 (0)), .d (.int .i64 (0)), .d (.bool false), .d (.str []), .d (.int .i64 (0))]⟩,
 ⟨none, none, .store 6 (.tmp 14) (.tmp 80)⟩] [77, 3, 14, 6, 75, 4, 76])
 (.reg [⟨(some 81), none, .mov (.tmp 6)⟩,
 ⟨(some 82), none, .load true 6 (.tmp 14)⟩,
 ⟨(some 83), none, .faddr 0 (.tmp 3)⟩,
 ⟨(some 84), none, .load false 1 (.tmp 83)⟩,
 ⟨(some 85), none, .call false 30 [.tmp 82, .tmp 84]⟩,
 ⟨(some 86), none, .bslice false 3 [.int .i64 (0), .int .i64 (0), .vec []] 1 [(0, .tmp 85)]⟩,
 ⟨(some 87), none, .append 3 40 (.tmp 81) (.tmp 86)⟩,
 ⟨(some 6), none, .mov (.tmp 87)⟩] [77, 3, 6, 75, 4, 76])))
 (.reg [⟨(some 88), none, .bin .add (.tmp 77) (.con (.c (.d (.int .i64 (1)))))⟩,
 ⟨(some 77), none, .mov (.tmp 88)⟩] [77, 3, 6, 75, 4, 76])))
/-- semvcs/state.Apply -/
def f9 : SFunc := ⟨2, [.cell 4 true 1], true,
 .seq (.reg [⟨(some 2), none, .box 1 (.tmp 0)⟩,
 ⟨(some 3), none, .box 5 (.tmp 1)⟩,
 ⟨(some 4), none, .alloc [.nils]⟩] [3, 4, 2])
 (.seq (.reg [⟨(some 15), none, .faddr 4 (.tmp 3)⟩,
 ⟨(some 16), none, .load false 1 (.tmp 15)⟩,
 ⟨(some 17), none, .call false 28 [.tmp 16]⟩,
 ⟨(some 5), none, .mov (.tmp 17)⟩] [3, 5, 4, 2])
 (.seq (.reg [⟨(some 6), none, .mov (.con (.c (.nils)))⟩] [3, 5, 6, 4, 2])
 (.seq (.reg [⟨(some 7), none, .mov (.con (.c (.d (.int .i64 (0)))))⟩] [7, 3, 5, 6, 4, 2])
 (.seq (.seq (.reg [⟨(some 18), none, .faddr 0 (.tmp 2)⟩,
 ⟨(some 19), none, .load false 1 (.tmp 18)⟩,
 ⟨(some 20), none, .vlen (.tmp 19)⟩,
 ⟨(some 21), none, .mov (.con (.c (.d (.int .i64 (0)))))⟩] [7, 3, 5, 6, 21, 19, 4, 20])
 (.block 0 (.loop [7, 3, 5, 6, 21, 19, 4, 20] [(6, none, 3)] f9_b1)))
 (.seq (.seq (.reg [⟨(some 73), none, .mov (.tmp 5)⟩,
 ⟨(some 74), none, .mov (.tmp 7)⟩,
 ⟨(some 75), none, .vslice 6 (.tmp 73) (some (.tmp 74)) none none⟩,
 ⟨(some 76), none, .vlen (.tmp 75)⟩,
 ⟨(some 77), none, .mov (.con (.c (.d (.int .i64 (0)))))⟩] [77, 3, 6, 75, 4, 76])
 (.block 4 (.loop [77, 3, 6, 75, 4, 76] [(6, none, 3)] f9_b3)))
 (.seq (.reg [⟨(some 89), none, .mov (.tmp 6)⟩,
 ⟨(some 90), none, .build [.nils] [(0, 1, .tmp 89)]⟩,
 ⟨none, none, .store 1 (.tmp 4) (.tmp 90)⟩] [4])
 (.ret)))))))⟩

def f33_b1 : SCode :=
 .seq (.reg [⟨(some 18), none, .bin .lss (.tmp 17) (.tmp 16)⟩] [18, 17, 2, 1, 15, 16])
 (.seq (.cond (.tmp 18) (.skip)
 (.exit 0))
 (.seq (.block 1 (.seq (.reg [⟨(some 19), none, .mov (.tmp 17)⟩,
 ⟨(some 20), none, .iaddr 3 (.tmp 15) (.tmp 17)⟩,
 ⟨(some 21), none, .load true 3 (.tmp 20)⟩,
 ⟨(some 8), none, .alloc [.d (.int .i64 (0)), .d (.int .i64 (0)), .nils]⟩,
 ⟨(some 7), none, .mov (.tmp 19)⟩,
 ⟨none, none, .store 3 (.tmp 8) (.tmp 21)⟩] [17, 8, 2, 7, 1, 15, 16])
 (.seq (.reg [⟨(some 22), none, .mov (.tmp 1)⟩,
 ⟨(some 23), none, .mov (.tmp 7)⟩,
 ⟨(some 24), none, .iaddr 3 (.tmp 22) (.tmp 23)⟩,
 ⟨(some 25), none, .load true 3 (.tmp 24)⟩,
 ⟨(some 9), none, .alloc [.d (.int .i64 (0)), .d (.int .i64 (0)), .nils]⟩,
 ⟨none, none, .store 3 (.tmp 9) (.tmp 25)⟩] [17, 9, 8, 2, 1, 15, 16])
 (.seq (.reg [⟨(some 26), none, .mov (.tmp 2)⟩,
 ⟨(some 27), none, .load true 3 (.tmp 8)⟩,
 ⟨(some 28), none, .load true 3 (.tmp 9)⟩,
 ⟨(some 29), none, .callv (.tmp 26) [.tmp 27, .tmp 28]⟩,
 ⟨(some 30), none, .un .not (.tmp 29)⟩] [30, 17, 2, 1, 15, 16])
 (.cond (.tmp 30) (.seq (.reg [⟨(some 6), none, .mov (.con (.c (.d (.bool false))))⟩] [6])
 (.ret))
 (.skip))))))
 (.reg [⟨(some 31), none, .bin .add (.tmp 17) (.con (.c (.d (.int .i64 (1)))))⟩,
 ⟨(some 17), none, .mov (.tmp 31)⟩] [17, 2, 1, 15, 16])))
/-- slices.EqualFunc[[]semvcs/api.Slot,[]semvcs/api.Slot,semvcs/api.Slot,semvcs/api.Slot] -/
def f33 : SFunc := ⟨3, [.tmp 6], true,
 .seq (.reg [⟨(some 6), none, .mov (.con (.c (.d (.bool false))))⟩] [2, 1, 0])
 (.seq (.seq (.reg [⟨(some 10), none, .mov (.tmp 0)⟩,
 ⟨(some 11), none, .vlen (.tmp 10)⟩,
 ⟨(some 12), none, .mov (.tmp 1)⟩,
 ⟨(some 13), none, .vlen (.tmp 12)⟩,
 ⟨(some 14), none, .bin .neq (.tmp 11) (.tmp 13)⟩] [14, 2, 1, 0])
 (.cond (.tmp 14) (.seq (.reg [⟨(some 6), none, .mov (.con (.c (.d (.bool false))))⟩] [6])
 (.ret))
 (.skip)))
 (.seq (.seq (.reg [⟨(some 15), none, .mov (.tmp 0)⟩,
 ⟨(some 16), none, .vlen (.tmp 15)⟩,
 ⟨(some 17), none, .mov (.con (.c (.d (.int .i64 (0)))))⟩] [17, 2, 1, 15, 16])
 (.block 0 (.loop [17, 2, 1, 15, 16] [] f33_b1)))
 (.seq (.reg [⟨(some 6), none, .mov (.con (.c (.d (.bool true))))⟩] [6])
 (.ret))))⟩

def f35_b1 : SCode :=
 .seq (.reg [⟨(some 14), none, .bin .lss (.tmp 13) (.tmp 12)⟩] [14, 13, 1, 0, 12])
 (.seq (.cond (.tmp 14) (.skip)
 (.exit 0))
 (.seq (.block 1 (.seq (.reg [⟨(some 15), none, .mov (.tmp 13)⟩,
 ⟨(some 5), none, .mov (.tmp 15)⟩] [13, 5, 1, 0, 12])
 (.seq (.draw (.step .quiet ⟨(some 16), none, .mov (.tmp 0)⟩ <|
 .step .quiet ⟨(some 17), none, .mov (.tmp 5)⟩ <|
 .step .quiet ⟨(some 18), none, .iaddr 5 (.tmp 16) (.tmp 17)⟩ <|
 .step .quiet ⟨(some 19), none, .load true 5 (.tmp 18)⟩ <|
 .step .quiet ⟨(some 20), none, .mov (.tmp 1)⟩ <|
 .step .quiet ⟨(some 21), none, .mov (.tmp 5)⟩ <|
 .step .quiet ⟨(some 22), none, .iaddr 5 (.tmp 20) (.tmp 21)⟩ <|
 .step .quiet ⟨(some 23), none, .load true 5 (.tmp 22)⟩ <|
 .step .quiet ⟨(some 24), none, .eqa true [.int .i64, .int .i64, .bool, .str, .int .i64] (.tmp 19) (.tmp 23)⟩ <|
 .done) [24, 13, 1, 0, 12])
 (.cond (.tmp 24) (.seq (.reg [⟨(some 4), none, .mov (.con (.c (.d (.bool false))))⟩] [4])
 (.ret))
 (.skip)))))
 (.reg [⟨(some 25), none, .bin .add (.tmp 13) (.con (.c (.d (.int .i64 (1)))))⟩,
 ⟨(some 13), none, .mov (.tmp 25)⟩] [13, 1, 0, 12])))
/-- slices.Equal[[]semvcs/api.Alt,semvcs/api.Alt] -/
def f35 : SFunc := ⟨2, [.tmp 4], true,
 .seq (.reg [⟨(some 4), none, .mov (.con (.c (.d (.bool false))))⟩] [1, 0])
 (.seq (.seq (.reg [⟨(some 6), none, .mov (.tmp 0)⟩,
 ⟨(some 7), none, .vlen (.tmp 6)⟩,
 ⟨(some 8), none, .mov (.tmp 1)⟩,
 ⟨(some 9), none, .vlen (.tmp 8)⟩,
 ⟨(some 10), none, .bin .neq (.tmp 7) (.tmp 9)⟩] [10, 1, 0])
 (.cond (.tmp 10) (.seq (.reg [⟨(some 4), none, .mov (.con (.c (.d (.bool false))))⟩] [4])
 (.ret))
 (.skip)))
 (.seq (.seq (.reg [⟨(some 11), none, .mov (.tmp 0)⟩,
 ⟨(some 12), none, .vlen (.tmp 11)⟩,
 ⟨(some 13), none, .mov (.con (.c (.d (.int .i64 (0)))))⟩] [13, 1, 0, 12])
 (.block 0 (.loop [13, 1, 0, 12] [] f35_b1)))
 (.seq (.reg [⟨(some 4), none, .mov (.con (.c (.d (.bool true))))⟩] [4])
 (.ret))))⟩

/-- semvcs/state.Same$1 -/
def f34 : SFunc := ⟨2, [.tmp 4], true,
 .seq (.reg [⟨(some 2), none, .box 3 (.tmp 0)⟩,
 ⟨(some 3), none, .box 3 (.tmp 1)⟩,
 ⟨(some 4), none, .mov (.con (.c (.d (.bool false))))⟩] [3, 2])
 (.seq (.draw (.step .quiet ⟨(some 5), none, .load true 3 (.tmp 2)⟩ <|
 .step .quiet ⟨(some 7), none, .load true 3 (.tmp 3)⟩ <|
 .step .mild ⟨(some 6), none, .call false 16 [.tmp 5]⟩ <|
 .step .mild ⟨(some 8), none, .call false 16 [.tmp 7]⟩ <|
 .step .quiet ⟨(some 9), none, .eqa false [.int .i64, .int .i64] (.tmp 6) (.tmp 8)⟩ <|
 .step .quiet ⟨(some 10), none, .mov (.tmp 9)⟩ <|
 .step .quiet ⟨(some 11), (some (10, true)), .faddr 2 (.tmp 2)⟩ <|
 .step .quiet ⟨(some 12), (some (10, true)), .load false 1 (.tmp 11)⟩ <|
 .step .quiet ⟨(some 13), (some (10, true)), .faddr 2 (.tmp 3)⟩ <|
 .step .quiet ⟨(some 14), (some (10, true)), .load false 1 (.tmp 13)⟩ <|
 .step .mild ⟨(some 15), (some (10, true)), .call true 35 [.tmp 12, .tmp 14]⟩ <|
 .step .quiet ⟨(some 16), none, .pick (.tmp 10) (.tmp 15) (.con (.c (.d (.bool false))))⟩ <|
 .step .quiet ⟨(some 4), none, .mov (.tmp 16)⟩ <|
 .done) [4])
 (.ret))⟩

/-- semvcs/state.Same -/
def f12 : SFunc := ⟨2, [.tmp 4], true,
 .seq (.reg [⟨(some 2), none, .box 1 (.tmp 0)⟩,
 ⟨(some 3), none, .box 1 (.tmp 1)⟩,
 ⟨(some 4), none, .mov (.con (.c (.d (.bool false))))⟩] [3, 2])
 (.seq (.reg [⟨(some 5), none, .faddr 0 (.tmp 2)⟩,
 ⟨(some 6), none, .load false 1 (.tmp 5)⟩,
 ⟨(some 7), none, .faddr 0 (.tmp 3)⟩,
 ⟨(some 8), none, .load false 1 (.tmp 7)⟩,
 ⟨(some 9), none, .call true 33 [.tmp 6, .tmp 8, .fn 34]⟩,
 ⟨(some 4), none, .mov (.tmp 9)⟩] [4])
 (.ret))⟩

def f50_b1 : SCode :=
 .seq (.reg [⟨(some 13), none, .bin .lss (.tmp 12) (.tmp 11)⟩] [13, 12, 0, 1, 10, 11])
 (.seq (.cond (.tmp 13) (.skip)
 (.exit 0))
 (.seq (.block 1 (.seq (.reg [⟨(some 14), none, .mov (.tmp 12)⟩,
 ⟨(some 15), none, .iaddr 1 (.tmp 10) (.tmp 12)⟩,
 ⟨(some 16), none, .load false 1 (.tmp 15)⟩,
 ⟨(some 5), none, .mov (.tmp 14)⟩,
 ⟨(some 6), none, .mov (.tmp 16)⟩] [12, 6, 5, 0, 1, 10, 11])
 (.seq (.reg [⟨(some 17), none, .mov (.tmp 6)⟩,
 ⟨(some 18), none, .call true 13 [.tmp 17]⟩,
 ⟨(some 19), none, .un .not (.tmp 18)⟩,
 ⟨(some 20), none, .mov (.tmp 19)⟩,
 ⟨(some 21), (some (20, false)), .mov (.tmp 6)⟩,
 ⟨(some 22), (some (20, false)), .mov (.tmp 1)⟩,
 ⟨(some 23), (some (20, false)), .bin .eql (.tmp 21) (.tmp 22)⟩,
 ⟨(some 24), none, .pick (.tmp 20) (.con (.c (.d (.bool true)))) (.tmp 23)⟩,
 ⟨(some 25), none, .mov (.tmp 24)⟩,
 ⟨(some 26), (some (25, false)), .mov (.tmp 5)⟩,
 ⟨(some 27), (some (25, false)), .bin .gtr (.tmp 26) (.con (.c (.d (.int .i64 (0)))))⟩,
 ⟨(some 28), (some (25, false)), .mov (.tmp 27)⟩,
 ⟨(some 29), (some (28, true)), .mov (.tmp 0)⟩,
 ⟨(some 30), (some (28, true)), .mov (.tmp 5)⟩,
 ⟨(some 31), (some (28, true)), .bin .sub (.tmp 30) (.con (.c (.d (.int .i64 (1)))))⟩,
 ⟨(some 32), (some (28, true)), .iaddr 1 (.tmp 29) (.tmp 31)⟩,
 ⟨(some 33), (some (28, true)), .load false 1 (.tmp 32)⟩,
 ⟨(some 34), (some (28, true)), .mov (.tmp 6)⟩,
 ⟨(some 35), (some (28, true)), .bin .geq (.tmp 33) (.tmp 34)⟩,
 ⟨(some 36), (some (25, false)), .pick (.tmp 28) (.tmp 35) (.con (.c (.d (.bool false))))⟩,
 ⟨(some 37), none, .pick (.tmp 25) (.con (.c (.d (.bool true)))) (.tmp 36)⟩] [37, 12, 0, 1, 10, 11])
 (.cond (.tmp 37) (.seq (.reg [⟨(some 4), none, .mov (.con (.c (.d (.bool false))))⟩] [4])
 (.ret))
 (.skip)))))
 (.reg [⟨(some 38), none, .bin .add (.tmp 12) (.con (.c (.d (.int .i64 (1)))))⟩,
 ⟨(some 12), none, .mov (.tmp 38)⟩] [12, 0, 1, 10, 11])))
/-- semvcs/state.others -/
def f50 : SFunc := ⟨2, [.tmp 4], true,
 .seq (.reg [⟨(some 4), none, .mov (.con (.c (.d (.bool false))))⟩] [0, 1])
 (.seq (.seq (.reg [⟨(some 7), none, .mov (.tmp 0)⟩,
 ⟨(some 8), none, .vlen (.tmp 7)⟩,
 ⟨(some 9), none, .bin .gtr (.tmp 8) (.con (.c (.d (.int .i64 (4)))))⟩] [9, 0, 1])
 (.cond (.tmp 9) (.seq (.reg [⟨(some 4), none, .mov (.con (.c (.d (.bool false))))⟩] [4])
 (.ret))
 (.skip)))
 (.seq (.seq (.reg [⟨(some 10), none, .mov (.tmp 0)⟩,
 ⟨(some 11), none, .vlen (.tmp 10)⟩,
 ⟨(some 12), none, .mov (.con (.c (.d (.int .i64 (0)))))⟩] [12, 0, 1, 10, 11])
 (.block 0 (.loop [12, 0, 1, 10, 11] [] f50_b1)))
 (.seq (.reg [⟨(some 4), none, .mov (.con (.c (.d (.bool true))))⟩] [4])
 (.ret))))⟩

def f39_b1 : SCode :=
 .seq (.seq (.reg [⟨(some 28), none, .mov (.tmp 3)⟩,
 ⟨(some 29), none, .faddr 3 (.tmp 1)⟩,
 ⟨(some 30), none, .load false 1 (.tmp 29)⟩,
 ⟨(some 31), none, .slen (.tmp 30)⟩,
 ⟨(some 32), none, .bin .lss (.tmp 28) (.tmp 31)⟩] [32, 3, 1])
 (.cond (.tmp 32) (.skip)
 (.exit 0)))
 (.seq (.block 1 (.seq (.reg [⟨(some 35), none, .faddr 3 (.tmp 1)⟩,
 ⟨(some 36), none, .load false 1 (.tmp 35)⟩,
 ⟨(some 37), none, .mov (.tmp 3)⟩,
 ⟨(some 38), none, .sidx (.tmp 36) (.tmp 37)⟩,
 ⟨(some 39), none, .bin .lss (.tmp 38) (.con (.c (.d (.int .u8 (32)))))⟩,
 ⟨(some 40), none, .mov (.tmp 39)⟩,
 ⟨(some 41), (some (40, false)), .faddr 3 (.tmp 1)⟩,
 ⟨(some 42), (some (40, false)), .load false 1 (.tmp 41)⟩,
 ⟨(some 43), (some (40, false)), .mov (.tmp 3)⟩,
 ⟨(some 44), (some (40, false)), .sidx (.tmp 42) (.tmp 43)⟩,
 ⟨(some 45), (some (40, false)), .bin .gtr (.tmp 44) (.con (.c (.d (.int .u8 (126)))))⟩,
 ⟨(some 46), none, .pick (.tmp 40) (.con (.c (.d (.bool true)))) (.tmp 45)⟩] [46, 3, 1])
 (.cond (.tmp 46) (.seq (.reg [⟨(some 2), none, .mov (.con (.c (.d (.bool false))))⟩] [2])
 (.ret))
 (.skip))))
 (.reg [⟨(some 33), none, .mov (.tmp 3)⟩,
 ⟨(some 34), none, .bin .add (.tmp 33) (.con (.c (.d (.int .i64 (1)))))⟩,
 ⟨(some 3), none, .mov (.tmp 34)⟩] [3, 1]))
/-- semvcs/state.proper -/
def f39 : SFunc := ⟨1, [.tmp 2], true,
 .seq (.reg [⟨(some 1), none, .box 5 (.tmp 0)⟩,
 ⟨(some 2), none, .mov (.con (.c (.d (.bool false))))⟩] [1])
 (.seq (.seq (.reg [⟨(some 4), none, .faddr 0 (.tmp 1)⟩,
 ⟨(some 5), none, .load false 1 (.tmp 4)⟩,
 ⟨(some 6), none, .call true 13 [.tmp 5]⟩,
 ⟨(some 7), none, .un .not (.tmp 6)⟩,
 ⟨(some 8), none, .mov (.tmp 7)⟩,
 ⟨(some 9), (some (8, false)), .faddr 1 (.tmp 1)⟩,
 ⟨(some 10), (some (8, false)), .load false 1 (.tmp 9)⟩,
 ⟨(some 11), (some (8, false)), .faddr 0 (.tmp 1)⟩,
 ⟨(some 12), (some (8, false)), .load false 1 (.tmp 11)⟩,
 ⟨(some 13), (some (8, false)), .call true 50 [.tmp 10, .tmp 12]⟩,
 ⟨(some 14), (some (8, false)), .un .not (.tmp 13)⟩,
 ⟨(some 15), none, .pick (.tmp 8) (.con (.c (.d (.bool true)))) (.tmp 14)⟩,
 ⟨(some 16), none, .mov (.tmp 15)⟩,
 ⟨(some 17), (some (16, false)), .faddr 2 (.tmp 1)⟩,
 ⟨(some 18), (some (16, false)), .load false 1 (.tmp 17)⟩,
 ⟨(some 19), (some (16, false)), .faddr 0 (.tmp 1)⟩,
 ⟨(some 20), (some (16, false)), .load false 1 (.tmp 19)⟩,
 ⟨(some 21), (some (16, false)), .call true 50 [.tmp 18, .tmp 20]⟩,
 ⟨(some 22), (some (16, false)), .un .not (.tmp 21)⟩,
 ⟨(some 23), none, .pick (.tmp 16) (.con (.c (.d (.bool true)))) (.tmp 22)⟩] [23, 1])
 (.cond (.tmp 23) (.seq (.reg [⟨(some 2), none, .mov (.con (.c (.d (.bool false))))⟩] [2])
 (.ret))
 (.skip)))
 (.seq (.seq (.reg [⟨(some 24), none, .faddr 3 (.tmp 1)⟩,
 ⟨(some 25), none, .load false 1 (.tmp 24)⟩,
 ⟨(some 26), none, .slen (.tmp 25)⟩,
 ⟨(some 27), none, .bin .gtr (.tmp 26) (.con (.c (.d (.int .i64 (80)))))⟩] [27, 1])
 (.cond (.tmp 27) (.seq (.reg [⟨(some 2), none, .mov (.con (.c (.d (.bool false))))⟩] [2])
 (.ret))
 (.skip)))
 (.seq (.seq (.reg [⟨(some 3), none, .mov (.con (.c (.d (.int .i64 (0)))))⟩] [3, 1])
 (.block 0 (.loop [3, 1] [] f39_b1)))
 (.seq (.reg [⟨(some 2), none, .mov (.con (.c (.d (.bool true))))⟩] [2])
 (.ret)))))⟩

def f53_b1 : SCode :=
 .seq (.seq (.reg [⟨(some 15), none, .mov (.tmp 9)⟩,
 ⟨(some 16), none, .mov (.tmp 10)⟩,
 ⟨(some 17), none, .bin .lss (.tmp 15) (.tmp 16)⟩] [17, 4, 0, 2, 10, 9, 8])
 (.cond (.tmp 17) (.skip)
 (.exit 0)))
 (.block 1 (.seq (.reg [⟨(some 18), none, .mov (.tmp 9)⟩,
 ⟨(some 19), none, .mov (.tmp 10)⟩,
 ⟨(some 20), none, .bin .add (.tmp 18) (.tmp 19)⟩,
 ⟨(some 21), none, .cint .u64 (.tmp 20)⟩,
 ⟨(some 22), none, .bin .shr (.tmp 21) (.con (.c (.d (.int .u64 (1)))))⟩,
 ⟨(some 23), none, .cint .i64 (.tmp 22)⟩,
 ⟨(some 11), none, .mov (.tmp 23)⟩] [11, 4, 0, 2, 10, 8, 9])
 (.seq (.draw (.step .quiet ⟨(some 24), none, .mov (.tmp 2)⟩ <|
 .step .quiet ⟨(some 25), none, .mov (.tmp 0)⟩ <|
 .step .quiet ⟨(some 26), none, .mov (.tmp 11)⟩ <|
 .step .quiet ⟨(some 27), none, .iaddr 3 (.tmp 25) (.tmp 26)⟩ <|
 .step .quiet ⟨(some 28), none, .load true 3 (.tmp 27)⟩ <|
 .step .quiet ⟨(some 29), none, .load true 2 (.tmp 4)⟩ <|
 .step .heavy ⟨(some 30), none, .callv (.tmp 24) [.tmp 28, .tmp 29]⟩ <|
 .step .quiet ⟨(some 31), none, .bin .lss (.tmp 30) (.con (.c (.d (.int .i64 (0)))))⟩ <|
 .done) [31, 11, 4, 0, 2, 10, 8, 9])
 (.cond (.tmp 31) (.reg [⟨(some 32), none, .mov (.tmp 11)⟩,
 ⟨(some 33), none, .bin .add (.tmp 32) (.con (.c (.d (.int .i64 (1)))))⟩,
 ⟨(some 9), none, .mov (.tmp 33)⟩] [4, 0, 2, 10, 9, 8])
 (.reg [⟨(some 34), none, .mov (.tmp 11)⟩,
 ⟨(some 10), none, .mov (.tmp 34)⟩] [4, 0, 2, 10, 9, 8])))))
/-- slices.BinarySearchFunc[[]semvcs/api.Slot,semvcs/api.Slot,semvcs/api.Spot] -/
def f53 : SFunc := ⟨3, [.tmp 6, .tmp 7], true,
 .seq (.reg [⟨(some 4), none, .box 2 (.tmp 1)⟩,
 ⟨(some 6), none, .mov (.con (.c (.d (.int .i64 (0)))))⟩,
 ⟨(some 7), none, .mov (.con (.c (.d (.bool false))))⟩] [4, 0, 2])
 (.seq (.reg [⟨(some 12), none, .mov (.tmp 0)⟩,
 ⟨(some 13), none, .vlen (.tmp 12)⟩,
 ⟨(some 8), none, .mov (.tmp 13)⟩] [4, 0, 2, 8])
 (.seq (.reg [⟨(some 14), none, .mov (.tmp 8)⟩,
 ⟨(some 9), none, .mov (.con (.c (.d (.int .i64 (0)))))⟩,
 ⟨(some 10), none, .mov (.tmp 14)⟩] [4, 0, 2, 10, 9, 8])
 (.seq (.block 0 (.loop [4, 0, 2, 10, 9, 8] [] f53_b1))
 (.seq (.draw (.step .pure ⟨(some 35), none, .mov (.tmp 9)⟩ <|
 .step .quiet ⟨(some 36), none, .mov (.tmp 9)⟩ <|
 .step .quiet ⟨(some 37), none, .mov (.tmp 8)⟩ <|
 .step .quiet ⟨(some 38), none, .bin .lss (.tmp 36) (.tmp 37)⟩ <|
 .step .quiet ⟨(some 39), none, .mov (.tmp 38)⟩ <|
 .step .quiet ⟨(some 40), (some (39, true)), .mov (.tmp 2)⟩ <|
 .step .quiet ⟨(some 41), (some (39, true)), .mov (.tmp 0)⟩ <|
 .step .quiet ⟨(some 42), (some (39, true)), .mov (.tmp 9)⟩ <|
 .step .quiet ⟨(some 43), (some (39, true)), .iaddr 3 (.tmp 41) (.tmp 42)⟩ <|
 .step .quiet ⟨(some 44), (some (39, true)), .load true 3 (.tmp 43)⟩ <|
 .step .quiet ⟨(some 45), (some (39, true)), .load true 2 (.tmp 4)⟩ <|
 .step .heavy ⟨(some 46), (some (39, true)), .callv (.tmp 40) [.tmp 44, .tmp 45]⟩ <|
 .step .quiet ⟨(some 47), (some (39, true)), .bin .eql (.tmp 46) (.con (.c (.d (.int .i64 (0)))))⟩ <|
 .step .quiet ⟨(some 48), none, .pick (.tmp 39) (.tmp 47) (.con (.c (.d (.bool false))))⟩ <|
 .step .quiet ⟨(some 6), none, .mov (.tmp 35)⟩ <|
 .step .quiet ⟨(some 7), none, .mov (.tmp 48)⟩ <|
 .done) [6, 7])
 (.ret)))))⟩

/-- semvcs/state.find$1 -/
def f54 : SFunc := ⟨2, [.tmp 4], true,
 .seq (.reg [⟨(some 2), none, .box 3 (.tmp 0)⟩,
 ⟨(some 3), none, .box 2 (.tmp 1)⟩,
 ⟨(some 4), none, .mov (.con (.c (.d (.int .i64 (0)))))⟩] [3, 2])
 (.seq (.draw (.step .quiet ⟨(some 5), none, .load true 3 (.tmp 2)⟩ <|
 .step .quiet ⟨(some 7), none, .load true 2 (.tmp 3)⟩ <|
 .step .mild ⟨(some 6), none, .call false 16 [.tmp 5]⟩ <|
 .step .mild ⟨(some 8), none, .call true 15 [.tmp 6, .tmp 7]⟩ <|
 .step .quiet ⟨(some 4), none, .mov (.tmp 8)⟩ <|
 .done) [4])
 (.ret))⟩

/-- semvcs/state.find -/
def f41 : SFunc := ⟨2, [.tmp 4, .tmp 5], true,
 .seq (.reg [⟨(some 2), none, .box 1 (.tmp 0)⟩,
 ⟨(some 3), none, .box 2 (.tmp 1)⟩,
 ⟨(some 4), none, .mov (.con (.c (.d (.int .i64 (0)))))⟩,
 ⟨(some 5), none, .mov (.con (.c (.d (.bool false))))⟩] [3, 2])
 (.seq (.reg [⟨(some 6), none, .faddr 0 (.tmp 2)⟩,
 ⟨(some 7), none, .load false 1 (.tmp 6)⟩,
 ⟨(some 8), none, .load true 2 (.tmp 3)⟩,
 ⟨(some 9), none, .call true 53 [.tmp 7, .tmp 8, .fn 54]⟩,
 ⟨(some 10), none, .extract (.tmp 9) 0⟩,
 ⟨(some 11), none, .extract (.tmp 9) 1⟩,
 ⟨(some 4), none, .mov (.tmp 10)⟩,
 ⟨(some 5), none, .mov (.tmp 11)⟩] [4, 5])
 (.ret))⟩

/-- semvcs/state.Kind -/
def f21 : SFunc := ⟨2, [.tmp 4], true,
 .seq (.reg [⟨(some 2), none, .box 1 (.tmp 0)⟩,
 ⟨(some 4), none, .mov (.con (.c (.d (.int .i64 (0)))))⟩] [2, 1])
 (.seq (.reg [⟨(some 8), none, .load true 1 (.tmp 2)⟩,
 ⟨(some 9), none, .mov (.tmp 1)⟩,
 ⟨(some 10), none, .build [.d (.int .i64 (0)), .d (.int .i64 (0))] [(0, 1, .tmp 9), (1, 1, .con (.c (.d (.int .i64 (1)))))]⟩,
 ⟨(some 11), none, .call true 41 [.tmp 8, .tmp 10]⟩,
 ⟨(some 7), none, .mov (.tmp 11)⟩,
 ⟨(some 12), none, .extract (.tmp 7) 0⟩,
 ⟨(some 13), none, .extract (.tmp 7) 1⟩,
 ⟨(some 5), none, .mov (.tmp 12)⟩,
 ⟨(some 6), none, .mov (.tmp 13)⟩] [5, 2, 6])
 (.seq (.seq (.reg [⟨(some 14), none, .mov (.tmp 6)⟩,
 ⟨(some 15), none, .un .not (.tmp 14)⟩,
 ⟨(some 16), none, .mov (.tmp 15)⟩,
 ⟨(some 17), (some (16, false)), .faddr 0 (.tmp 2)⟩,
 ⟨(some 18), (some (16, false)), .load false 1 (.tmp 17)⟩,
 ⟨(some 19), (some (16, false)), .mov (.tmp 5)⟩,
 ⟨(some 20), (some (16, false)), .iaddr 3 (.tmp 18) (.tmp 19)⟩,
 ⟨(some 21), (some (16, false)), .faddr 2 (.tmp 20)⟩,
 ⟨(some 22), (some (16, false)), .load false 1 (.tmp 21)⟩,
 ⟨(some 23), (some (16, false)), .vlen (.tmp 22)⟩,
 ⟨(some 24), (some (16, false)), .bin .eql (.tmp 23) (.con (.c (.d (.int .i64 (0)))))⟩,
 ⟨(some 25), none, .pick (.tmp 16) (.con (.c (.d (.bool true)))) (.tmp 24)⟩] [25, 5, 2])
 (.cond (.tmp 25) (.seq (.reg [⟨(some 4), none, .mov (.con (.c (.d (.int .i64 (0)))))⟩] [4])
 (.ret))
 (.skip)))
 (.seq (.reg [⟨(some 26), none, .faddr 0 (.tmp 2)⟩,
 ⟨(some 27), none, .load false 1 (.tmp 26)⟩,
 ⟨(some 28), none, .mov (.tmp 5)⟩,
 ⟨(some 29), none, .iaddr 3 (.tmp 27) (.tmp 28)⟩,
 ⟨(some 30), none, .faddr 2 (.tmp 29)⟩,
 ⟨(some 31), none, .load false 1 (.tmp 30)⟩,
 ⟨(some 32), none, .iaddr 5 (.tmp 31) (.con (.c (.d (.int .i64 (0)))))⟩,
 ⟨(some 33), none, .faddr 1 (.tmp 32)⟩,
 ⟨(some 34), none, .faddr 0 (.tmp 33)⟩,
 ⟨(some 35), none, .load false 1 (.tmp 34)⟩,
 ⟨(some 4), none, .mov (.tmp 35)⟩] [4])
 (.ret))))⟩

/-- semvcs/state.kindFault -/
def f51 : SFunc := ⟨3, [.tmp 6], true,
 .seq (.reg [⟨(some 3), none, .box 5 (.tmp 0)⟩,
 ⟨(some 4), none, .box 6 (.tmp 1)⟩,
 ⟨(some 6), none, .mov (.con (.c (.d (.int .i64 (0)))))⟩] [2, 4, 3])
 (.seq (.reg [⟨(some 11), none, .faddr 2 (.tmp 4)⟩,
 ⟨(some 12), none, .faddr 0 (.tmp 11)⟩,
 ⟨(some 13), none, .load false 1 (.tmp 12)⟩,
 ⟨(some 7), none, .mov (.tmp 13)⟩] [7, 2, 4, 3])
 (.seq (.seq (.reg [⟨(some 14), none, .mov (.tmp 7)⟩,
 ⟨(some 15), none, .bin .lss (.tmp 14) (.con (.c (.d (.int .i64 (1)))))⟩,
 ⟨(some 16), none, .mov (.tmp 15)⟩,
 ⟨(some 17), (some (16, false)), .mov (.tmp 7)⟩,
 ⟨(some 18), (some (16, false)), .bin .gtr (.tmp 17) (.con (.c (.d (.int .i64 (5)))))⟩,
 ⟨(some 19), none, .pick (.tmp 16) (.con (.c (.d (.bool true)))) (.tmp 18)⟩,
 ⟨(some 20), none, .mov (.tmp 19)⟩,
 ⟨(some 21), (some (20, false)), .faddr 2 (.tmp 4)⟩,
 ⟨(some 22), (some (20, false)), .load true 4 (.tmp 21)⟩,
 ⟨(some 23), (some (20, false)), .mov (.tmp 7)⟩,
 ⟨(some 24), (some (20, false)), .build [.d (.int .i64 (0)), .d (.bool false), .d (.str []), .d (.int .i64 (0))] [(0, 1, .tmp 23)]⟩,
 ⟨(some 25), (some (20, false)), .eqa true [.int .i64, .bool, .str, .int .i64] (.tmp 22) (.tmp 24)⟩,
 ⟨(some 26), none, .pick (.tmp 20) (.con (.c (.d (.bool true)))) (.tmp 25)⟩] [26, 7, 2, 4, 3])
 (.cond (.tmp 26) (.seq (.reg [⟨(some 6), none, .mov (.con (.c (.d (.int .i64 (10)))))⟩] [6])
 (.ret))
 (.skip)))
 (.seq (.seq (.reg [⟨(some 27), none, .mov (.tmp 2)⟩,
 ⟨(some 28), none, .bin .neq (.tmp 27) (.con (.c (.d (.int .i64 (0)))))⟩] [28, 7, 2, 4, 3])
 (.cond (.tmp 28) (.seq (.seq (.reg [⟨(some 29), none, .mov (.tmp 2)⟩,
 ⟨(some 30), none, .mov (.tmp 7)⟩,
 ⟨(some 31), none, .bin .neq (.tmp 29) (.tmp 30)⟩] [31])
 (.cond (.tmp 31) (.seq (.reg [⟨(some 6), none, .mov (.con (.c (.d (.int .i64 (10)))))⟩] [6])
 (.ret))
 (.skip)))
 (.seq (.reg [⟨(some 6), none, .mov (.con (.c (.d (.int .i64 (0)))))⟩] [6])
 (.ret)))
 (.skip)))
 (.seq (.reg [⟨(some 8), none, .mov (.con (.c (.d (.int .i64 (3)))))⟩] [4, 3, 8, 7])
 (.seq (.seq (.reg [⟨(some 32), none, .mov (.tmp 7)⟩,
 ⟨(some 33), none, .bin .eql (.tmp 32) (.con (.c (.d (.int .i64 (5)))))⟩] [33, 4, 3, 8])
 (.cond (.tmp 33) (.reg [⟨(some 8), none, .mov (.con (.c (.d (.int .i64 (4)))))⟩] [8, 4, 3])
 (.skip)))
 (.seq (.seq (.reg [⟨(some 35), none, .faddr 4 (.tmp 3)⟩,
 ⟨(some 36), none, .load false 1 (.tmp 35)⟩,
 ⟨(some 37), none, .faddr 0 (.tmp 4)⟩,
 ⟨(some 38), none, .load false 1 (.tmp 37)⟩,
 ⟨(some 39), none, .mov (.tmp 8)⟩,
 ⟨(some 40), none, .build [.d (.int .i64 (0)), .d (.int .i64 (0))] [(0, 1, .tmp 38), (1, 1, .tmp 39)]⟩,
 ⟨(some 41), none, .call true 31 [.tmp 36, .tmp 40]⟩,
 ⟨(some 34), none, .mov (.tmp 41)⟩,
 ⟨(some 42), none, .extract (.tmp 34) 0⟩,
 ⟨(some 43), none, .extract (.tmp 34) 1⟩,
 ⟨(some 9), none, .mov (.tmp 42)⟩,
 ⟨(some 10), none, .mov (.tmp 43)⟩] [10])
 (.seq (.reg [⟨(some 44), none, .mov (.tmp 10)⟩,
 ⟨(some 45), none, .un .not (.tmp 44)⟩] [45])
 (.cond (.tmp 45) (.seq (.reg [⟨(some 6), none, .mov (.con (.c (.d (.int .i64 (16)))))⟩] [6])
 (.ret))
 (.skip))))
 (.seq (.reg [⟨(some 6), none, .mov (.con (.c (.d (.int .i64 (0)))))⟩] [6])
 (.ret))))))))⟩

def f64_b1 : SCode :=
 .seq (.reg [⟨(some 15), none, .bin .lss (.tmp 14) (.tmp 13)⟩] [15, 14, 0, 13])
 (.seq (.cond (.tmp 15) (.skip)
 (.exit 0))
 (.seq (.block 1 (.seq (.reg [⟨(some 16), none, .mov (.tmp 14)⟩,
 ⟨(some 3), none, .mov (.tmp 16)⟩] [14, 3, 0, 13])
 (.seq (.reg [⟨(some 17), none, .mov (.tmp 0)⟩,
 ⟨(some 18), none, .mov (.tmp 3)⟩,
 ⟨(some 19), none, .sidx (.tmp 17) (.tmp 18)⟩,
 ⟨(some 20), none, .bin .lss (.tmp 19) (.con (.c (.d (.int .u8 (97)))))⟩,
 ⟨(some 21), none, .mov (.tmp 20)⟩,
 ⟨(some 22), (some (21, false)), .mov (.tmp 0)⟩,
 ⟨(some 23), (some (21, false)), .mov (.tmp 3)⟩,
 ⟨(some 24), (some (21, false)), .sidx (.tmp 22) (.tmp 23)⟩,
 ⟨(some 25), (some (21, false)), .bin .gtr (.tmp 24) (.con (.c (.d (.int .u8 (122)))))⟩,
 ⟨(some 26), none, .pick (.tmp 21) (.con (.c (.d (.bool true)))) (.tmp 25)⟩] [26, 14, 0, 13])
 (.cond (.tmp 26) (.seq (.reg [⟨(some 2), none, .mov (.con (.c (.d (.bool false))))⟩] [2])
 (.ret))
 (.skip)))))
 (.reg [⟨(some 27), none, .bin .add (.tmp 14) (.con (.c (.d (.int .i64 (1)))))⟩,
 ⟨(some 14), none, .mov (.tmp 27)⟩] [14, 0, 13])))
/-- semvcs/position.Valid -/
def f64 : SFunc := ⟨1, [.tmp 2], true,
 .seq (.reg [⟨(some 2), none, .mov (.con (.c (.d (.bool false))))⟩] [0])
 (.seq (.seq (.reg [⟨(some 4), none, .mov (.tmp 0)⟩,
 ⟨(some 5), none, .slen (.tmp 4)⟩,
 ⟨(some 6), none, .bin .lss (.tmp 5) (.con (.c (.d (.int .i64 (1)))))⟩,
 ⟨(some 7), none, .mov (.tmp 6)⟩,
 ⟨(some 8), (some (7, false)), .mov (.tmp 0)⟩,
 ⟨(some 9), (some (7, false)), .slen (.tmp 8)⟩,
 ⟨(some 10), (some (7, false)), .bin .gtr (.tmp 9) (.con (.c (.d (.int .i64 (60)))))⟩,
 ⟨(some 11), none, .pick (.tmp 7) (.con (.c (.d (.bool true)))) (.tmp 10)⟩] [11, 0])
 (.cond (.tmp 11) (.seq (.reg [⟨(some 2), none, .mov (.con (.c (.d (.bool false))))⟩] [2])
 (.ret))
 (.skip)))
 (.seq (.seq (.reg [⟨(some 12), none, .mov (.tmp 0)⟩,
 ⟨(some 13), none, .slen (.tmp 12)⟩,
 ⟨(some 14), none, .mov (.con (.c (.d (.int .i64 (0)))))⟩] [14, 0, 13])
 (.block 0 (.loop [14, 0, 13] [] f64_b1)))
 (.seq (.reg [⟨(some 28), none, .mov (.tmp 0)⟩,
 ⟨(some 29), none, .mov (.tmp 0)⟩,
 ⟨(some 30), none, .slen (.tmp 29)⟩,
 ⟨(some 31), none, .bin .sub (.tmp 30) (.con (.c (.d (.int .i64 (1)))))⟩,
 ⟨(some 32), none, .sidx (.tmp 28) (.tmp 31)⟩,
 ⟨(some 33), none, .bin .neq (.tmp 32) (.con (.c (.d (.int .u8 (97)))))⟩,
 ⟨(some 2), none, .mov (.tmp 33)⟩] [2])
 (.ret))))⟩

/-- semvcs/model.home -/
def f59 : SFunc := ⟨2, [.tmp 4], true,
 .seq (.reg [⟨(some 3), none, .box 4 (.tmp 1)⟩,
 ⟨(some 4), none, .mov (.con (.c (.d (.bool false))))⟩] [3, 0])
 (.seq (.seq (.reg [⟨(some 5), none, .mov (.tmp 0)⟩,
 ⟨(some 6), none, .bin .eql (.tmp 5) (.con (.c (.d (.int .i64 (1)))))⟩] [6, 3])
 (.cond (.tmp 6) (.seq (.reg [⟨(some 7), none, .load true 4 (.tmp 3)⟩,
 ⟨(some 8), none, .build [.d (.int .i64 (0)), .d (.bool false), .d (.str []), .d (.int .i64 (0))] [(0, 1, .con (.c (.d (.int .i64 (1)))))]⟩,
 ⟨(some 9), none, .eqa false [.int .i64, .bool, .str, .int .i64] (.tmp 7) (.tmp 8)⟩,
 ⟨(some 4), none, .mov (.tmp 9)⟩] [4])
 (.ret))
 (.skip)))
 (.seq (.seq (.reg [⟨(some 10), none, .faddr 1 (.tmp 3)⟩,
 ⟨(some 11), none, .load false 1 (.tmp 10)⟩,
 ⟨(some 12), none, .mov (.tmp 11)⟩,
 ⟨(some 13), (some (12, false)), .faddr 3 (.tmp 3)⟩,
 ⟨(some 14), (some (12, false)), .load false 1 (.tmp 13)⟩,
 ⟨(some 15), (some (12, false)), .call true 13 [.tmp 14]⟩,
 ⟨(some 16), (some (12, false)), .un .not (.tmp 15)⟩,
 ⟨(some 17), none, .pick (.tmp 12) (.con (.c (.d (.bool true)))) (.tmp 16)⟩] [17, 3])
 (.cond (.tmp 17) (.seq (.reg [⟨(some 4), none, .mov (.con (.c (.d (.bool false))))⟩] [4])
 (.ret))
 (.skip)))
 (.seq (.seq (.reg [⟨(some 18), none, .faddr 0 (.tmp 3)⟩,
 ⟨(some 19), none, .load false 1 (.tmp 18)⟩] [3, 19])
 (.block 0 (.seq (.reg [⟨(some 21), none, .bin .eql (.tmp 19) (.con (.c (.d (.int .i64 (0)))))⟩,
 ⟨(some 20), none, .mov (.tmp 21)⟩] [20, 3, 19])
 (.cond (.tmp 20) (.seq (.reg [⟨(some 22), none, .faddr 2 (.tmp 3)⟩,
 ⟨(some 23), none, .load false 1 (.tmp 22)⟩,
 ⟨(some 24), none, .call true 64 [.tmp 23]⟩,
 ⟨(some 4), none, .mov (.tmp 24)⟩] [4])
 (.ret))
 (.seq (.seq (.reg [⟨(some 26), none, .bin .eql (.tmp 19) (.con (.c (.d (.int .i64 (1)))))⟩,
 ⟨(some 25), none, .mov (.tmp 26)⟩] [25, 3, 19])
 (.cond (.tmp 25) (.skip)
 (.seq (.reg [⟨(some 27), none, .bin .eql (.tmp 19) (.con (.c (.d (.int .i64 (2)))))⟩,
 ⟨(some 25), none, .mov (.tmp 27)⟩] [25, 3, 19])
 (.cond (.tmp 25) (.skip)
 (.reg [⟨(some 28), none, .bin .eql (.tmp 19) (.con (.c (.d (.int .i64 (3)))))⟩,
 ⟨(some 25), none, .mov (.tmp 28)⟩] [25, 3])))))
 (.cond (.tmp 25) (.seq (.reg [⟨(some 29), none, .faddr 2 (.tmp 3)⟩,
 ⟨(some 30), none, .load false 1 (.tmp 29)⟩,
 ⟨(some 31), none, .bin .eql (.tmp 30) (.con (.c (.d (.str []))))⟩,
 ⟨(some 4), none, .mov (.tmp 31)⟩] [4])
 (.ret))
 (.skip)))))))
 (.seq (.reg [⟨(some 4), none, .mov (.con (.c (.d (.bool false))))⟩] [4])
 (.ret)))))⟩

/-- semvcs/lex.white -/
def f68 : SFunc := ⟨1, [.tmp 2], true,
 .seq (.reg [⟨(some 2), none, .mov (.con (.c (.d (.bool false))))⟩] [0])
 (.seq (.reg [⟨(some 3), none, .mov (.tmp 0)⟩,
 ⟨(some 4), none, .bin .eql (.tmp 3) (.con (.c (.d (.int .u8 (9)))))⟩,
 ⟨(some 5), none, .mov (.tmp 4)⟩,
 ⟨(some 6), (some (5, false)), .mov (.tmp 0)⟩,
 ⟨(some 7), (some (5, false)), .bin .eql (.tmp 6) (.con (.c (.d (.int .u8 (10)))))⟩,
 ⟨(some 8), none, .pick (.tmp 5) (.con (.c (.d (.bool true)))) (.tmp 7)⟩,
 ⟨(some 9), none, .mov (.tmp 8)⟩,
 ⟨(some 10), (some (9, false)), .mov (.tmp 0)⟩,
 ⟨(some 11), (some (9, false)), .bin .eql (.tmp 10) (.con (.c (.d (.int .u8 (13)))))⟩,
 ⟨(some 12), none, .pick (.tmp 9) (.con (.c (.d (.bool true)))) (.tmp 11)⟩,
 ⟨(some 13), none, .mov (.tmp 12)⟩,
 ⟨(some 14), (some (13, false)), .mov (.tmp 0)⟩,
 ⟨(some 15), (some (13, false)), .bin .eql (.tmp 14) (.con (.c (.d (.int .u8 (32)))))⟩,
 ⟨(some 16), none, .pick (.tmp 13) (.con (.c (.d (.bool true)))) (.tmp 15)⟩,
 ⟨(some 2), none, .mov (.tmp 16)⟩] [2])
 (.ret))⟩

/-- semvcs/lex.allowed -/
def f67 : SFunc := ⟨1, [.tmp 2], true,
 .seq (.reg [⟨(some 2), none, .mov (.con (.c (.d (.bool false))))⟩] [0])
 (.seq (.reg [⟨(some 3), none, .mov (.tmp 0)⟩,
 ⟨(some 4), none, .call true 68 [.tmp 3]⟩,
 ⟨(some 5), none, .mov (.tmp 4)⟩,
 ⟨(some 6), (some (5, false)), .mov (.tmp 0)⟩,
 ⟨(some 7), (some (5, false)), .bin .gtr (.tmp 6) (.con (.c (.d (.int .u8 (32)))))⟩,
 ⟨(some 8), (some (5, false)), .mov (.tmp 7)⟩,
 ⟨(some 9), (some (8, true)), .mov (.tmp 0)⟩,
 ⟨(some 10), (some (8, true)), .bin .lss (.tmp 9) (.con (.c (.d (.int .u8 (127)))))⟩,
 ⟨(some 11), (some (5, false)), .pick (.tmp 8) (.tmp 10) (.con (.c (.d (.bool false))))⟩,
 ⟨(some 12), none, .pick (.tmp 5) (.con (.c (.d (.bool true)))) (.tmp 11)⟩,
 ⟨(some 2), none, .mov (.tmp 12)⟩] [2])
 (.ret))⟩

/-- semvcs/lex.lower -/
def f77 : SFunc := ⟨1, [.tmp 2], true,
 .seq (.reg [⟨(some 2), none, .mov (.con (.c (.d (.bool false))))⟩] [0])
 (.seq (.reg [⟨(some 3), none, .mov (.tmp 0)⟩,
 ⟨(some 4), none, .bin .geq (.tmp 3) (.con (.c (.d (.int .u8 (97)))))⟩,
 ⟨(some 5), none, .mov (.tmp 4)⟩,
 ⟨(some 6), (some (5, true)), .mov (.tmp 0)⟩,
 ⟨(some 7), (some (5, true)), .bin .leq (.tmp 6) (.con (.c (.d (.int .u8 (122)))))⟩,
 ⟨(some 8), none, .pick (.tmp 5) (.tmp 7) (.con (.c (.d (.bool false))))⟩,
 ⟨(some 2), none, .mov (.tmp 8)⟩] [2])
 (.ret))⟩

/-- semvcs/lex.upper -/
def f78 : SFunc := ⟨1, [.tmp 2], true,
 .seq (.reg [⟨(some 2), none, .mov (.con (.c (.d (.bool false))))⟩] [0])
 (.seq (.reg [⟨(some 3), none, .mov (.tmp 0)⟩,
 ⟨(some 4), none, .bin .geq (.tmp 3) (.con (.c (.d (.int .u8 (65)))))⟩,
 ⟨(some 5), none, .mov (.tmp 4)⟩,
 ⟨(some 6), (some (5, true)), .mov (.tmp 0)⟩,
 ⟨(some 7), (some (5, true)), .bin .leq (.tmp 6) (.con (.c (.d (.int .u8 (90)))))⟩,
 ⟨(some 8), none, .pick (.tmp 5) (.tmp 7) (.con (.c (.d (.bool false))))⟩,
 ⟨(some 2), none, .mov (.tmp 8)⟩] [2])
 (.ret))⟩

/-- semvcs/lex.letter -/
def f71 : SFunc := ⟨1, [.tmp 2], true,
 .seq (.reg [⟨(some 2), none, .mov (.con (.c (.d (.bool false))))⟩] [0])
 (.seq (.reg [⟨(some 3), none, .mov (.tmp 0)⟩,
 ⟨(some 4), none, .call true 77 [.tmp 3]⟩,
 ⟨(some 5), none, .mov (.tmp 4)⟩,
 ⟨(some 6), (some (5, false)), .mov (.tmp 0)⟩,
 ⟨(some 7), (some (5, false)), .call true 78 [.tmp 6]⟩,
 ⟨(some 8), none, .pick (.tmp 5) (.con (.c (.d (.bool true)))) (.tmp 7)⟩,
 ⟨(some 2), none, .mov (.tmp 8)⟩] [2])
 (.ret))⟩

/-- semvcs/lex.digit -/
def f73 : SFunc := ⟨1, [.tmp 2], true,
 .seq (.reg [⟨(some 2), none, .mov (.con (.c (.d (.bool false))))⟩] [0])
 (.seq (.reg [⟨(some 3), none, .mov (.tmp 0)⟩,
 ⟨(some 4), none, .bin .geq (.tmp 3) (.con (.c (.d (.int .u8 (48)))))⟩,
 ⟨(some 5), none, .mov (.tmp 4)⟩,
 ⟨(some 6), (some (5, true)), .mov (.tmp 0)⟩,
 ⟨(some 7), (some (5, true)), .bin .leq (.tmp 6) (.con (.c (.d (.int .u8 (57)))))⟩,
 ⟨(some 8), none, .pick (.tmp 5) (.tmp 7) (.con (.c (.d (.bool false))))⟩,
 ⟨(some 2), none, .mov (.tmp 8)⟩] [2])
 (.ret))⟩

def f79_b1 : SCode :=
 .seq (.seq (.reg [⟨(some 4), none, .mov (.tmp 3)⟩,
 ⟨(some 5), none, .mov (.tmp 0)⟩,
 ⟨(some 6), none, .slen (.tmp 5)⟩,
 ⟨(some 7), none, .bin .lss (.tmp 4) (.tmp 6)⟩,
 ⟨(some 8), none, .mov (.tmp 7)⟩,
 ⟨(some 9), (some (8, true)), .mov (.tmp 0)⟩,
 ⟨(some 10), (some (8, true)), .mov (.tmp 3)⟩,
 ⟨(some 11), (some (8, true)), .sidx (.tmp 9) (.tmp 10)⟩,
 ⟨(some 12), (some (8, true)), .call true 71 [.tmp 11]⟩,
 ⟨(some 13), (some (8, true)), .mov (.tmp 12)⟩,
 ⟨(some 14), (some (13, false)), .mov (.tmp 0)⟩,
 ⟨(some 15), (some (13, false)), .mov (.tmp 3)⟩,
 ⟨(some 16), (some (13, false)), .sidx (.tmp 14) (.tmp 15)⟩,
 ⟨(some 17), (some (13, false)), .call true 73 [.tmp 16]⟩,
 ⟨(some 18), (some (8, true)), .pick (.tmp 13) (.con (.c (.d (.bool true)))) (.tmp 17)⟩,
 ⟨(some 19), (some (8, true)), .mov (.tmp 18)⟩,
 ⟨(some 20), (some (19, false)), .mov (.tmp 0)⟩,
 ⟨(some 21), (some (19, false)), .mov (.tmp 3)⟩,
 ⟨(some 22), (some (19, false)), .sidx (.tmp 20) (.tmp 21)⟩,
 ⟨(some 23), (some (19, false)), .bin .eql (.tmp 22) (.con (.c (.d (.int .u8 (95)))))⟩,
 ⟨(some 24), (some (8, true)), .pick (.tmp 19) (.con (.c (.d (.bool true)))) (.tmp 23)⟩,
 ⟨(some 25), none, .pick (.tmp 8) (.tmp 24) (.con (.c (.d (.bool false))))⟩] [25, 3, 0])
 (.cond (.tmp 25) (.skip)
 (.exit 0)))
 (.block 1 (.reg [⟨(some 26), none, .mov (.tmp 3)⟩,
 ⟨(some 27), none, .bin .add (.tmp 26) (.con (.c (.d (.int .i64 (1)))))⟩,
 ⟨(some 3), none, .mov (.tmp 27)⟩] [3, 0]))
/-- semvcs/lex.span -/
def f79 : SFunc := ⟨1, [.tmp 2], true,
 .seq (.reg [⟨(some 2), none, .mov (.con (.c (.d (.int .i64 (0)))))⟩] [0])
 (.seq (.reg [⟨(some 3), none, .mov (.con (.c (.d (.int .i64 (0)))))⟩] [3, 0])
 (.seq (.block 0 (.loop [3, 0] [] f79_b1))
 (.seq (.reg [⟨(some 28), none, .mov (.tmp 3)⟩,
 ⟨(some 2), none, .mov (.tmp 28)⟩] [2])
 (.ret))))⟩

/-- semvcs/lex.reserved -/
def f80 : SFunc := ⟨1, [.tmp 2], true,
 .seq (.reg [⟨(some 2), none, .mov (.con (.c (.d (.bool false))))⟩] [0])
 (.seq (.seq (.reg [⟨(some 3), none, .mov (.tmp 0)⟩] [3])
 (.block 0 (.seq (.seq (.reg [⟨(some 5), none, .bin .eql (.tmp 3) (.con (.c (.d (.str [109, 111, 100, 117, 108, 101]))))⟩,
 ⟨(some 4), none, .mov (.tmp 5)⟩] [4, 3])
 (.cond (.tmp 4) (.skip)
 (.seq (.reg [⟨(some 6), none, .bin .eql (.tmp 3) (.con (.c (.d (.str [100, 101, 102]))))⟩,
 ⟨(some 4), none, .mov (.tmp 6)⟩] [4, 3])
 (.cond (.tmp 4) (.skip)
 (.seq (.reg [⟨(some 7), none, .bin .eql (.tmp 3) (.con (.c (.d (.str [116, 121, 112, 101]))))⟩,
 ⟨(some 4), none, .mov (.tmp 7)⟩] [4, 3])
 (.cond (.tmp 4) (.skip)
 (.seq (.reg [⟨(some 8), none, .bin .eql (.tmp 3) (.con (.c (.d (.str [108, 101, 116]))))⟩,
 ⟨(some 4), none, .mov (.tmp 8)⟩] [4, 3])
 (.cond (.tmp 4) (.skip)
 (.seq (.reg [⟨(some 9), none, .bin .eql (.tmp 3) (.con (.c (.d (.str [105, 110]))))⟩,
 ⟨(some 4), none, .mov (.tmp 9)⟩] [4, 3])
 (.cond (.tmp 4) (.skip)
 (.seq (.reg [⟨(some 10), none, .bin .eql (.tmp 3) (.con (.c (.d (.str [105, 102]))))⟩,
 ⟨(some 4), none, .mov (.tmp 10)⟩] [4, 3])
 (.cond (.tmp 4) (.skip)
 (.seq (.reg [⟨(some 11), none, .bin .eql (.tmp 3) (.con (.c (.d (.str [116, 104, 101, 110]))))⟩,
 ⟨(some 4), none, .mov (.tmp 11)⟩] [4, 3])
 (.cond (.tmp 4) (.skip)
 (.seq (.reg [⟨(some 12), none, .bin .eql (.tmp 3) (.con (.c (.d (.str [101, 108, 115, 101]))))⟩,
 ⟨(some 4), none, .mov (.tmp 12)⟩] [4, 3])
 (.cond (.tmp 4) (.skip)
 (.seq (.reg [⟨(some 13), none, .bin .eql (.tmp 3) (.con (.c (.d (.str [116, 114, 117, 101]))))⟩,
 ⟨(some 4), none, .mov (.tmp 13)⟩] [4, 3])
 (.cond (.tmp 4) (.skip)
 (.reg [⟨(some 14), none, .bin .eql (.tmp 3) (.con (.c (.d (.str [102, 97, 108, 115, 101]))))⟩,
 ⟨(some 4), none, .mov (.tmp 14)⟩] [4, 3])))))))))))))))))))
 (.cond (.tmp 4) (.seq (.reg [⟨(some 2), none, .mov (.con (.c (.d (.bool true))))⟩] [2])
 (.ret))
 (.seq (.seq (.reg [⟨(some 16), none, .bin .eql (.tmp 3) (.con (.c (.d (.str [73, 110, 116]))))⟩,
 ⟨(some 15), none, .mov (.tmp 16)⟩] [15, 3])
 (.cond (.tmp 15) (.skip)
 (.seq (.reg [⟨(some 17), none, .bin .eql (.tmp 3) (.con (.c (.d (.str [84, 101, 120, 116]))))⟩,
 ⟨(some 15), none, .mov (.tmp 17)⟩] [15, 3])
 (.cond (.tmp 15) (.skip)
 (.reg [⟨(some 18), none, .bin .eql (.tmp 3) (.con (.c (.d (.str [66, 111, 111, 108]))))⟩,
 ⟨(some 15), none, .mov (.tmp 18)⟩] [15])))))
 (.cond (.tmp 15) (.seq (.reg [⟨(some 2), none, .mov (.con (.c (.d (.bool true))))⟩] [2])
 (.ret))
 (.skip)))))))
 (.seq (.reg [⟨(some 2), none, .mov (.con (.c (.d (.bool false))))⟩] [2])
 (.ret)))⟩

/-- semvcs/lex.word -/
def f72 : SFunc := ⟨1, [.tmp 2, .tmp 3, .tmp 4], true,
 .seq (.reg [⟨(some 2), none, .mov (.con (.c (.d (.int .i64 (0)))))⟩,
 ⟨(some 3), none, .mov (.con (.c (.d (.int .i64 (0)))))⟩,
 ⟨(some 4), none, .mov (.con (.c (.d (.int .i64 (0)))))⟩] [0])
 (.seq (.reg [⟨(some 8), none, .mov (.tmp 0)⟩,
 ⟨(some 9), none, .call true 79 [.tmp 8]⟩,
 ⟨(some 3), none, .mov (.tmp 9)⟩] [3, 0])
 (.seq (.reg [⟨(some 10), none, .mov (.tmp 0)⟩,
 ⟨(some 11), none, .mov (.tmp 3)⟩,
 ⟨(some 12), none, .sslice (.tmp 10) none (some (.tmp 11))⟩,
 ⟨(some 13), none, .call true 80 [.tmp 12]⟩,
 ⟨(some 5), none, .mov (.tmp 13)⟩] [3, 0, 5])
 (.seq (.seq (.reg [⟨(some 14), none, .mov (.tmp 0)⟩,
 ⟨(some 15), none, .sidx (.tmp 14) (.con (.c (.d (.int .i64 (0)))))⟩,
 ⟨(some 16), none, .call true 78 [.tmp 15]⟩,
 ⟨(some 17), none, .mov (.tmp 16)⟩,
 ⟨(some 18), (some (17, true)), .mov (.tmp 5)⟩,
 ⟨(some 19), (some (17, true)), .un .not (.tmp 18)⟩,
 ⟨(some 20), none, .pick (.tmp 17) (.tmp 19) (.con (.c (.d (.bool false))))⟩,
 ⟨(some 21), none, .mov (.tmp 20)⟩,
 ⟨(some 22), (some (21, true)), .mov (.tmp 3)⟩,
 ⟨(some 23), (some (21, true)), .bin .add (.tmp 22) (.con (.c (.d (.int .i64 (1)))))⟩,
 ⟨(some 24), (some (21, true)), .mov (.tmp 0)⟩,
 ⟨(some 25), (some (21, true)), .slen (.tmp 24)⟩,
 ⟨(some 26), (some (21, true)), .bin .lss (.tmp 23) (.tmp 25)⟩,
 ⟨(some 27), none, .pick (.tmp 21) (.tmp 26) (.con (.c (.d (.bool false))))⟩,
 ⟨(some 28), none, .mov (.tmp 27)⟩,
 ⟨(some 29), (some (28, true)), .mov (.tmp 0)⟩,
 ⟨(some 30), (some (28, true)), .mov (.tmp 3)⟩,
 ⟨(some 31), (some (28, true)), .sidx (.tmp 29) (.tmp 30)⟩,
 ⟨(some 32), (some (28, true)), .bin .eql (.tmp 31) (.con (.c (.d (.int .u8 (46)))))⟩,
 ⟨(some 33), none, .pick (.tmp 28) (.tmp 32) (.con (.c (.d (.bool false))))⟩,
 ⟨(some 34), none, .mov (.tmp 33)⟩,
 ⟨(some 35), (some (34, true)), .mov (.tmp 0)⟩,
 ⟨(some 36), (some (34, true)), .mov (.tmp 3)⟩,
 ⟨(some 37), (some (34, true)), .bin .add (.tmp 36) (.con (.c (.d (.int .i64 (1)))))⟩,
 ⟨(some 38), (some (34, true)), .sidx (.tmp 35) (.tmp 37)⟩,
 ⟨(some 39), (some (34, true)), .call true 71 [.tmp 38]⟩,
 ⟨(some 40), none, .pick (.tmp 34) (.tmp 39) (.con (.c (.d (.bool false))))⟩] [40, 3, 0, 5])
 (.cond (.tmp 40) (.seq (.reg [⟨(some 41), none, .mov (.tmp 0)⟩,
 ⟨(some 42), none, .mov (.tmp 3)⟩,
 ⟨(some 43), none, .bin .add (.tmp 42) (.con (.c (.d (.int .i64 (1)))))⟩,
 ⟨(some 44), none, .sslice (.tmp 41) (some (.tmp 43)) none⟩,
 ⟨(some 45), none, .call true 79 [.tmp 44]⟩,
 ⟨(some 6), none, .mov (.tmp 45)⟩] [3, 0, 6])
 (.seq (.reg [⟨(some 46), none, .mov (.tmp 3)⟩,
 ⟨(some 47), none, .bin .add (.tmp 46) (.con (.c (.d (.int .i64 (1)))))⟩,
 ⟨(some 48), none, .mov (.tmp 6)⟩,
 ⟨(some 49), none, .bin .add (.tmp 47) (.tmp 48)⟩,
 ⟨(some 7), none, .mov (.tmp 49)⟩] [7, 3, 0, 6])
 (.seq (.block 0 (.seq (.reg [⟨(some 51), none, .mov (.tmp 3)⟩,
 ⟨(some 52), none, .bin .gtr (.tmp 51) (.con (.c (.d (.int .i64 (24)))))⟩,
 ⟨(some 53), none, .mov (.tmp 52)⟩,
 ⟨(some 54), (some (53, false)), .mov (.tmp 6)⟩,
 ⟨(some 55), (some (53, false)), .bin .gtr (.tmp 54) (.con (.c (.d (.int .i64 (24)))))⟩,
 ⟨(some 56), none, .pick (.tmp 53) (.con (.c (.d (.bool true)))) (.tmp 55)⟩,
 ⟨(some 50), none, .mov (.tmp 56)⟩] [50, 7, 3, 0])
 (.cond (.tmp 50) (.seq (.reg [⟨(some 2), none, .mov (.con (.c (.d (.int .i64 (0)))))⟩,
 ⟨(some 3), none, .mov (.con (.c (.d (.int .i64 (0)))))⟩,
 ⟨(some 4), none, .mov (.con (.c (.d (.int .i64 (3)))))⟩] [2, 3, 4])
 (.ret))
 (.seq (.reg [⟨(some 58), none, .mov (.tmp 0)⟩,
 ⟨(some 59), none, .mov (.tmp 3)⟩,
 ⟨(some 60), none, .bin .add (.tmp 59) (.con (.c (.d (.int .i64 (1)))))⟩,
 ⟨(some 61), none, .mov (.tmp 7)⟩,
 ⟨(some 62), none, .sslice (.tmp 58) (some (.tmp 60)) (some (.tmp 61))⟩,
 ⟨(some 63), none, .call true 80 [.tmp 62]⟩,
 ⟨(some 57), none, .mov (.tmp 63)⟩] [57, 7, 3, 0])
 (.cond (.tmp 57) (.seq (.reg [⟨(some 2), none, .mov (.con (.c (.d (.int .i64 (0)))))⟩,
 ⟨(some 3), none, .mov (.con (.c (.d (.int .i64 (0)))))⟩,
 ⟨(some 4), none, .mov (.con (.c (.d (.int .i64 (2)))))⟩] [2, 3, 4])
 (.ret))
 (.seq (.reg [⟨(some 65), none, .mov (.tmp 0)⟩,
 ⟨(some 66), none, .mov (.tmp 3)⟩,
 ⟨(some 67), none, .bin .add (.tmp 66) (.con (.c (.d (.int .i64 (1)))))⟩,
 ⟨(some 68), none, .sidx (.tmp 65) (.tmp 67)⟩,
 ⟨(some 69), none, .call true 77 [.tmp 68]⟩,
 ⟨(some 64), none, .mov (.tmp 69)⟩] [64, 7])
 (.cond (.tmp 64) (.seq (.reg [⟨(some 70), none, .mov (.tmp 7)⟩,
 ⟨(some 2), none, .mov (.con (.c (.d (.int .i64 (3)))))⟩,
 ⟨(some 3), none, .mov (.tmp 70)⟩,
 ⟨(some 4), none, .mov (.con (.c (.d (.int .i64 (0)))))⟩] [2, 3, 4])
 (.ret))
 (.skip))))))))
 (.seq (.reg [⟨(some 71), none, .mov (.tmp 7)⟩,
 ⟨(some 2), none, .mov (.con (.c (.d (.int .i64 (4)))))⟩,
 ⟨(some 3), none, .mov (.tmp 71)⟩,
 ⟨(some 4), none, .mov (.con (.c (.d (.int .i64 (0)))))⟩] [2, 3, 4])
 (.ret)))))
 (.skip)))
 (.seq (.block 1 (.seq (.reg [⟨(some 73), none, .mov (.tmp 3)⟩,
 ⟨(some 74), none, .bin .gtr (.tmp 73) (.con (.c (.d (.int .i64 (24)))))⟩,
 ⟨(some 72), none, .mov (.tmp 74)⟩] [72, 3, 0, 5])
 (.cond (.tmp 72) (.seq (.reg [⟨(some 2), none, .mov (.con (.c (.d (.int .i64 (0)))))⟩,
 ⟨(some 3), none, .mov (.con (.c (.d (.int .i64 (0)))))⟩,
 ⟨(some 4), none, .mov (.con (.c (.d (.int .i64 (3)))))⟩] [2, 3, 4])
 (.ret))
 (.seq (.reg [⟨(some 76), none, .mov (.tmp 5)⟩,
 ⟨(some 75), none, .mov (.tmp 76)⟩] [75, 3, 0])
 (.cond (.tmp 75) (.seq (.reg [⟨(some 77), none, .mov (.tmp 3)⟩,
 ⟨(some 2), none, .mov (.con (.c (.d (.int .i64 (7)))))⟩,
 ⟨(some 3), none, .mov (.tmp 77)⟩,
 ⟨(some 4), none, .mov (.con (.c (.d (.int .i64 (0)))))⟩] [2, 3, 4])
 (.ret))
 (.seq (.reg [⟨(some 79), none, .mov (.tmp 0)⟩,
 ⟨(some 80), none, .sidx (.tmp 79) (.con (.c (.d (.int .i64 (0)))))⟩,
 ⟨(some 81), none, .call true 77 [.tmp 80]⟩,
 ⟨(some 78), none, .mov (.tmp 81)⟩] [78, 3])
 (.cond (.tmp 78) (.seq (.reg [⟨(some 82), none, .mov (.tmp 3)⟩,
 ⟨(some 2), none, .mov (.con (.c (.d (.int .i64 (1)))))⟩,
 ⟨(some 3), none, .mov (.tmp 82)⟩,
 ⟨(some 4), none, .mov (.con (.c (.d (.int .i64 (0)))))⟩] [2, 3, 4])
 (.ret))
 (.skip))))))))
 (.seq (.reg [⟨(some 83), none, .mov (.tmp 3)⟩,
 ⟨(some 2), none, .mov (.con (.c (.d (.int .i64 (2)))))⟩,
 ⟨(some 3), none, .mov (.tmp 83)⟩,
 ⟨(some 4), none, .mov (.con (.c (.d (.int .i64 (0)))))⟩] [2, 3, 4])
 (.ret))))))⟩

def f74_b1 : SCode :=
 .seq (.seq (.reg [⟨(some 5), none, .mov (.tmp 4)⟩,
 ⟨(some 6), none, .mov (.tmp 0)⟩,
 ⟨(some 7), none, .slen (.tmp 6)⟩,
 ⟨(some 8), none, .bin .lss (.tmp 5) (.tmp 7)⟩,
 ⟨(some 9), none, .mov (.tmp 8)⟩,
 ⟨(some 10), (some (9, true)), .mov (.tmp 0)⟩,
 ⟨(some 11), (some (9, true)), .mov (.tmp 4)⟩,
 ⟨(some 12), (some (9, true)), .sidx (.tmp 10) (.tmp 11)⟩,
 ⟨(some 13), (some (9, true)), .call true 73 [.tmp 12]⟩,
 ⟨(some 14), none, .pick (.tmp 9) (.tmp 13) (.con (.c (.d (.bool false))))⟩] [14, 4, 0])
 (.cond (.tmp 14) (.skip)
 (.exit 0)))
 (.block 1 (.reg [⟨(some 15), none, .mov (.tmp 4)⟩,
 ⟨(some 16), none, .bin .add (.tmp 15) (.con (.c (.d (.int .i64 (1)))))⟩,
 ⟨(some 4), none, .mov (.tmp 16)⟩] [4, 0]))
/-- semvcs/lex.number -/
def f74 : SFunc := ⟨1, [.tmp 2, .tmp 3], true,
 .seq (.reg [⟨(some 2), none, .mov (.con (.c (.d (.int .i64 (0)))))⟩,
 ⟨(some 3), none, .mov (.con (.c (.d (.int .i64 (0)))))⟩] [0])
 (.seq (.reg [⟨(some 4), none, .mov (.con (.c (.d (.int .i64 (0)))))⟩] [4, 0])
 (.seq (.block 0 (.loop [4, 0] [] f74_b1))
 (.seq (.seq (.reg [⟨(some 17), none, .mov (.tmp 4)⟩,
 ⟨(some 18), none, .bin .gtr (.tmp 17) (.con (.c (.d (.int .i64 (1)))))⟩,
 ⟨(some 19), none, .mov (.tmp 18)⟩,
 ⟨(some 20), (some (19, true)), .mov (.tmp 0)⟩,
 ⟨(some 21), (some (19, true)), .sidx (.tmp 20) (.con (.c (.d (.int .i64 (0)))))⟩,
 ⟨(some 22), (some (19, true)), .bin .eql (.tmp 21) (.con (.c (.d (.int .u8 (48)))))⟩,
 ⟨(some 23), none, .pick (.tmp 19) (.tmp 22) (.con (.c (.d (.bool false))))⟩] [23, 4])
 (.cond (.tmp 23) (.seq (.reg [⟨(some 2), none, .mov (.con (.c (.d (.int .i64 (0)))))⟩,
 ⟨(some 3), none, .mov (.con (.c (.d (.int .i64 (2)))))⟩] [2, 3])
 (.ret))
 (.skip)))
 (.seq (.seq (.reg [⟨(some 24), none, .mov (.tmp 4)⟩,
 ⟨(some 25), none, .bin .gtr (.tmp 24) (.con (.c (.d (.int .i64 (15)))))⟩] [25, 4])
 (.cond (.tmp 25) (.seq (.reg [⟨(some 2), none, .mov (.con (.c (.d (.int .i64 (0)))))⟩,
 ⟨(some 3), none, .mov (.con (.c (.d (.int .i64 (3)))))⟩] [2, 3])
 (.ret))
 (.skip)))
 (.seq (.reg [⟨(some 26), none, .mov (.tmp 4)⟩,
 ⟨(some 2), none, .mov (.tmp 26)⟩,
 ⟨(some 3), none, .mov (.con (.c (.d (.int .i64 (0)))))⟩] [2, 3])
 (.ret))))))⟩

def f75_b1 : SCode :=
 .seq (.seq (.reg [⟨(some 6), none, .mov (.tmp 4)⟩,
 ⟨(some 7), none, .mov (.tmp 0)⟩,
 ⟨(some 8), none, .slen (.tmp 7)⟩,
 ⟨(some 9), none, .bin .lss (.tmp 6) (.tmp 8)⟩] [9, 4, 0])
 (.cond (.tmp 9) (.skip)
 (.exit 0)))
 (.seq (.block 1 (.seq (.reg [⟨(some 12), none, .mov (.tmp 0)⟩,
 ⟨(some 13), none, .mov (.tmp 4)⟩,
 ⟨(some 14), none, .sidx (.tmp 12) (.tmp 13)⟩,
 ⟨(some 5), none, .mov (.tmp 14)⟩] [4, 5, 0])
 (.seq (.seq (.reg [⟨(some 15), none, .mov (.tmp 5)⟩,
 ⟨(some 16), none, .call true 67 [.tmp 15]⟩,
 ⟨(some 17), none, .un .not (.tmp 16)⟩] [17, 4, 5, 0])
 (.cond (.tmp 17) (.seq (.reg [⟨(some 18), none, .mov (.tmp 4)⟩,
 ⟨(some 2), none, .mov (.tmp 18)⟩,
 ⟨(some 3), none, .mov (.con (.c (.d (.int .i64 (1)))))⟩] [2, 3])
 (.ret))
 (.skip)))
 (.seq (.seq (.reg [⟨(some 19), none, .mov (.tmp 5)⟩,
 ⟨(some 20), none, .bin .eql (.tmp 19) (.con (.c (.d (.int .u8 (34)))))⟩] [20, 4, 5, 0])
 (.cond (.tmp 20) (.seq (.reg [⟨(some 21), none, .mov (.tmp 4)⟩,
 ⟨(some 22), none, .bin .add (.tmp 21) (.con (.c (.d (.int .i64 (1)))))⟩,
 ⟨(some 2), none, .mov (.tmp 22)⟩,
 ⟨(some 3), none, .mov (.con (.c (.d (.int .i64 (0)))))⟩] [2, 3])
 (.ret))
 (.skip)))
 (.seq (.reg [⟨(some 23), none, .mov (.tmp 5)⟩,
 ⟨(some 24), none, .bin .eql (.tmp 23) (.con (.c (.d (.int .u8 (92)))))⟩,
 ⟨(some 25), none, .mov (.tmp 24)⟩,
 ⟨(some 26), (some (25, false)), .mov (.tmp 5)⟩,
 ⟨(some 27), (some (25, false)), .bin .lss (.tmp 26) (.con (.c (.d (.int .u8 (32)))))⟩,
 ⟨(some 28), none, .pick (.tmp 25) (.con (.c (.d (.bool true)))) (.tmp 27)⟩] [28, 4, 0])
 (.cond (.tmp 28) (.exit 0)
 (.skip)))))))
 (.reg [⟨(some 10), none, .mov (.tmp 4)⟩,
 ⟨(some 11), none, .bin .add (.tmp 10) (.con (.c (.d (.int .i64 (1)))))⟩,
 ⟨(some 4), none, .mov (.tmp 11)⟩] [4, 0]))
/-- semvcs/lex.quoted -/
def f75 : SFunc := ⟨1, [.tmp 2, .tmp 3], true,
 .seq (.reg [⟨(some 2), none, .mov (.con (.c (.d (.int .i64 (0)))))⟩,
 ⟨(some 3), none, .mov (.con (.c (.d (.int .i64 (0)))))⟩] [0])
 (.seq (.seq (.reg [⟨(some 4), none, .mov (.con (.c (.d (.int .i64 (1)))))⟩] [4, 0])
 (.block 0 (.loop [4, 0] [] f75_b1)))
 (.seq (.reg [⟨(some 2), none, .mov (.con (.c (.d (.int .i64 (0)))))⟩,
 ⟨(some 3), none, .mov (.con (.c (.d (.int .i64 (2)))))⟩] [2, 3])
 (.ret)))⟩

/-- strings.IndexByte -/
def f76 : SFunc := ⟨2, [.tmp 4], true,
 .seq (.reg [⟨(some 4), none, .mov (.con (.c (.d (.int .i64 (0)))))⟩] [1, 0])
 (.seq (.reg [⟨(some 5), none, .mov (.tmp 0)⟩,
 ⟨(some 6), none, .mov (.tmp 1)⟩,
 ⟨(some 7), none, .call true 81 [.tmp 5, .tmp 6]⟩,
 ⟨(some 4), none, .mov (.tmp 7)⟩] [4])
 (.ret))⟩

/-- semvcs/lex.token -/
def f70 : SFunc := ⟨1, [.tmp 2, .tmp 3, .tmp 4], true,
 .seq (.reg [⟨(some 2), none, .mov (.con (.c (.d (.int .i64 (0)))))⟩,
 ⟨(some 3), none, .mov (.con (.c (.d (.int .i64 (0)))))⟩,
 ⟨(some 4), none, .mov (.con (.c (.d (.int .i64 (0)))))⟩] [0])
 (.seq (.reg [⟨(some 6), none, .mov (.tmp 0)⟩,
 ⟨(some 7), none, .sidx (.tmp 6) (.con (.c (.d (.int .i64 (0)))))⟩,
 ⟨(some 5), none, .mov (.tmp 7)⟩] [0, 5])
 (.seq (.block 0 (.seq (.reg [⟨(some 9), none, .mov (.tmp 5)⟩,
 ⟨(some 10), none, .call true 67 [.tmp 9]⟩,
 ⟨(some 11), none, .un .not (.tmp 10)⟩,
 ⟨(some 8), none, .mov (.tmp 11)⟩] [8, 0, 5])
 (.cond (.tmp 8) (.seq (.reg [⟨(some 2), none, .mov (.con (.c (.d (.int .i64 (0)))))⟩,
 ⟨(some 3), none, .mov (.con (.c (.d (.int .i64 (0)))))⟩,
 ⟨(some 4), none, .mov (.con (.c (.d (.int .i64 (1)))))⟩] [2, 3, 4])
 (.ret))
 (.seq (.reg [⟨(some 13), none, .mov (.tmp 5)⟩,
 ⟨(some 14), none, .call true 71 [.tmp 13]⟩,
 ⟨(some 12), none, .mov (.tmp 14)⟩] [12, 0, 5])
 (.cond (.tmp 12) (.seq (.reg [⟨(some 15), none, .mov (.tmp 0)⟩,
 ⟨(some 16), none, .call true 72 [.tmp 15]⟩,
 ⟨(some 17), none, .extract (.tmp 16) 0⟩,
 ⟨(some 18), none, .extract (.tmp 16) 1⟩,
 ⟨(some 19), none, .extract (.tmp 16) 2⟩,
 ⟨(some 2), none, .mov (.tmp 17)⟩,
 ⟨(some 3), none, .mov (.tmp 18)⟩,
 ⟨(some 4), none, .mov (.tmp 19)⟩] [2, 3, 4])
 (.ret))
 (.seq (.reg [⟨(some 21), none, .mov (.tmp 5)⟩,
 ⟨(some 22), none, .call true 73 [.tmp 21]⟩,
 ⟨(some 20), none, .mov (.tmp 22)⟩] [20, 0, 5])
 (.cond (.tmp 20) (.seq (.reg [⟨(some 24), none, .mov (.tmp 0)⟩,
 ⟨(some 25), none, .call true 74 [.tmp 24]⟩,
 ⟨(some 23), none, .mov (.tmp 25)⟩,
 ⟨(some 26), none, .extract (.tmp 23) 0⟩,
 ⟨(some 27), none, .extract (.tmp 23) 1⟩,
 ⟨(some 3), none, .mov (.tmp 26)⟩,
 ⟨(some 4), none, .mov (.tmp 27)⟩] [4, 3])
 (.seq (.reg [⟨(some 28), none, .mov (.tmp 3)⟩,
 ⟨(some 29), none, .mov (.tmp 4)⟩,
 ⟨(some 2), none, .mov (.con (.c (.d (.int .i64 (5)))))⟩,
 ⟨(some 3), none, .mov (.tmp 28)⟩,
 ⟨(some 4), none, .mov (.tmp 29)⟩] [2, 3, 4])
 (.ret)))
 (.seq (.reg [⟨(some 31), none, .mov (.tmp 5)⟩,
 ⟨(some 32), none, .bin .eql (.tmp 31) (.con (.c (.d (.int .u8 (34)))))⟩,
 ⟨(some 30), none, .mov (.tmp 32)⟩] [30, 0, 5])
 (.cond (.tmp 30) (.seq (.reg [⟨(some 34), none, .mov (.tmp 0)⟩,
 ⟨(some 35), none, .call true 75 [.tmp 34]⟩,
 ⟨(some 33), none, .mov (.tmp 35)⟩,
 ⟨(some 36), none, .extract (.tmp 33) 0⟩,
 ⟨(some 37), none, .extract (.tmp 33) 1⟩,
 ⟨(some 3), none, .mov (.tmp 36)⟩,
 ⟨(some 4), none, .mov (.tmp 37)⟩] [4, 3])
 (.seq (.reg [⟨(some 38), none, .mov (.tmp 3)⟩,
 ⟨(some 39), none, .mov (.tmp 4)⟩,
 ⟨(some 2), none, .mov (.con (.c (.d (.int .i64 (6)))))⟩,
 ⟨(some 3), none, .mov (.tmp 38)⟩,
 ⟨(some 4), none, .mov (.tmp 39)⟩] [2, 3, 4])
 (.ret)))
 (.seq (.reg [⟨(some 41), none, .mov (.tmp 5)⟩,
 ⟨(some 42), none, .bin .eql (.tmp 41) (.con (.c (.d (.int .u8 (61)))))⟩,
 ⟨(some 43), none, .mov (.tmp 42)⟩,
 ⟨(some 44), (some (43, true)), .mov (.tmp 0)⟩,
 ⟨(some 45), (some (43, true)), .slen (.tmp 44)⟩,
 ⟨(some 46), (some (43, true)), .bin .gtr (.tmp 45) (.con (.c (.d (.int .i64 (1)))))⟩,
 ⟨(some 47), none, .pick (.tmp 43) (.tmp 46) (.con (.c (.d (.bool false))))⟩,
 ⟨(some 48), none, .mov (.tmp 47)⟩,
 ⟨(some 49), (some (48, true)), .mov (.tmp 0)⟩,
 ⟨(some 50), (some (48, true)), .sidx (.tmp 49) (.con (.c (.d (.int .i64 (1)))))⟩,
 ⟨(some 51), (some (48, true)), .bin .eql (.tmp 50) (.con (.c (.d (.int .u8 (61)))))⟩,
 ⟨(some 52), none, .pick (.tmp 48) (.tmp 51) (.con (.c (.d (.bool false))))⟩,
 ⟨(some 40), none, .mov (.tmp 52)⟩] [40, 5])
 (.cond (.tmp 40) (.seq (.reg [⟨(some 2), none, .mov (.con (.c (.d (.int .i64 (8)))))⟩,
 ⟨(some 3), none, .mov (.con (.c (.d (.int .i64 (2)))))⟩,
 ⟨(some 4), none, .mov (.con (.c (.d (.int .i64 (0)))))⟩] [2, 3, 4])
 (.ret))
 (.seq (.reg [⟨(some 54), none, .mov (.tmp 5)⟩,
 ⟨(some 55), none, .call true 76 [.con (.c (.d (.str [40, 41, 91, 93, 58, 44, 61, 43, 45, 42, 60, 63]))), .tmp 54]⟩,
 ⟨(some 56), none, .bin .geq (.tmp 55) (.con (.c (.d (.int .i64 (0)))))⟩,
 ⟨(some 53), none, .mov (.tmp 56)⟩] [53])
 (.cond (.tmp 53) (.seq (.reg [⟨(some 2), none, .mov (.con (.c (.d (.int .i64 (8)))))⟩,
 ⟨(some 3), none, .mov (.con (.c (.d (.int .i64 (1)))))⟩,
 ⟨(some 4), none, .mov (.con (.c (.d (.int .i64 (0)))))⟩] [2, 3, 4])
 (.ret))
 (.skip))))))))))))))
 (.seq (.reg [⟨(some 2), none, .mov (.con (.c (.d (.int .i64 (0)))))⟩,
 ⟨(some 3), none, .mov (.con (.c (.d (.int .i64 (0)))))⟩,
 ⟨(some 4), none, .mov (.con (.c (.d (.int .i64 (2)))))⟩] [2, 3, 4])
 (.ret))))⟩

/-- semvcs/lex.Class -/
def f65 : SFunc := ⟨1, [.tmp 2], true,
 .seq (.reg [⟨(some 2), none, .mov (.con (.c (.d (.int .i64 (0)))))⟩] [0])
 (.seq (.seq (.reg [⟨(some 6), none, .mov (.tmp 0)⟩,
 ⟨(some 7), none, .bin .eql (.tmp 6) (.con (.c (.d (.str []))))⟩] [7, 0])
 (.cond (.tmp 7) (.seq (.reg [⟨(some 2), none, .mov (.con (.c (.d (.int .i64 (0)))))⟩] [2])
 (.ret))
 (.skip)))
 (.seq (.reg [⟨(some 9), none, .mov (.tmp 0)⟩,
 ⟨(some 10), none, .call true 70 [.tmp 9]⟩,
 ⟨(some 8), none, .mov (.tmp 10)⟩,
 ⟨(some 11), none, .extract (.tmp 8) 0⟩,
 ⟨(some 12), none, .extract (.tmp 8) 1⟩,
 ⟨(some 13), none, .extract (.tmp 8) 2⟩,
 ⟨(some 3), none, .mov (.tmp 11)⟩,
 ⟨(some 4), none, .mov (.tmp 12)⟩,
 ⟨(some 5), none, .mov (.tmp 13)⟩] [3, 0, 4, 5])
 (.seq (.seq (.reg [⟨(some 14), none, .mov (.tmp 5)⟩,
 ⟨(some 15), none, .bin .neq (.tmp 14) (.con (.c (.d (.int .i64 (0)))))⟩,
 ⟨(some 16), none, .mov (.tmp 15)⟩,
 ⟨(some 17), (some (16, false)), .mov (.tmp 4)⟩,
 ⟨(some 18), (some (16, false)), .mov (.tmp 0)⟩,
 ⟨(some 19), (some (16, false)), .slen (.tmp 18)⟩,
 ⟨(some 20), (some (16, false)), .bin .neq (.tmp 17) (.tmp 19)⟩,
 ⟨(some 21), none, .pick (.tmp 16) (.con (.c (.d (.bool true)))) (.tmp 20)⟩] [21, 3])
 (.cond (.tmp 21) (.seq (.reg [⟨(some 2), none, .mov (.con (.c (.d (.int .i64 (0)))))⟩] [2])
 (.ret))
 (.skip)))
 (.seq (.reg [⟨(some 22), none, .mov (.tmp 3)⟩,
 ⟨(some 2), none, .mov (.tmp 22)⟩] [2])
 (.ret)))))⟩

/-- semvcs/model.name -/
def f60 : SFunc := ⟨2, [.tmp 4], true,
 .seq (.reg [⟨(some 3), none, .box 4 (.tmp 1)⟩,
 ⟨(some 4), none, .mov (.con (.c (.d (.bool false))))⟩] [3, 0])
 (.seq (.seq (.reg [⟨(some 5), none, .load true 4 (.tmp 3)⟩,
 ⟨(some 6), none, .faddr 2 (.tmp 3)⟩,
 ⟨(some 7), none, .load false 1 (.tmp 6)⟩,
 ⟨(some 8), none, .build [.d (.int .i64 (0)), .d (.bool false), .d (.str []), .d (.int .i64 (0))] [(2, 1, .tmp 7)]⟩,
 ⟨(some 9), none, .eqa true [.int .i64, .bool, .str, .int .i64] (.tmp 5) (.tmp 8)⟩] [9, 3, 0])
 (.cond (.tmp 9) (.seq (.reg [⟨(some 4), none, .mov (.con (.c (.d (.bool false))))⟩] [4])
 (.ret))
 (.skip)))
 (.seq (.seq (.reg [⟨(some 10), none, .mov (.tmp 0)⟩] [3, 10])
 (.block 0 (.seq (.seq (.reg [⟨(some 12), none, .bin .eql (.tmp 10) (.con (.c (.d (.int .i64 (1)))))⟩,
 ⟨(some 11), none, .mov (.tmp 12)⟩] [11, 3, 10])
 (.cond (.tmp 11) (.skip)
 (.reg [⟨(some 13), none, .bin .eql (.tmp 10) (.con (.c (.d (.int .i64 (3)))))⟩,
 ⟨(some 11), none, .mov (.tmp 13)⟩] [11, 3, 10])))
 (.cond (.tmp 11) (.seq (.reg [⟨(some 14), none, .faddr 2 (.tmp 3)⟩,
 ⟨(some 15), none, .load false 1 (.tmp 14)⟩,
 ⟨(some 16), none, .call true 65 [.tmp 15]⟩,
 ⟨(some 17), none, .bin .eql (.tmp 16) (.con (.c (.d (.int .i64 (2)))))⟩,
 ⟨(some 4), none, .mov (.tmp 17)⟩] [4])
 (.ret))
 (.seq (.seq (.reg [⟨(some 19), none, .bin .eql (.tmp 10) (.con (.c (.d (.int .i64 (2)))))⟩,
 ⟨(some 18), none, .mov (.tmp 19)⟩] [18, 3, 10])
 (.cond (.tmp 18) (.skip)
 (.reg [⟨(some 20), none, .bin .eql (.tmp 10) (.con (.c (.d (.int .i64 (4)))))⟩,
 ⟨(some 18), none, .mov (.tmp 20)⟩] [18, 3])))
 (.cond (.tmp 18) (.seq (.reg [⟨(some 21), none, .faddr 2 (.tmp 3)⟩,
 ⟨(some 22), none, .load false 1 (.tmp 21)⟩,
 ⟨(some 23), none, .call true 65 [.tmp 22]⟩,
 ⟨(some 24), none, .bin .eql (.tmp 23) (.con (.c (.d (.int .i64 (1)))))⟩,
 ⟨(some 4), none, .mov (.tmp 24)⟩] [4])
 (.ret))
 (.skip)))))))
 (.seq (.reg [⟨(some 4), none, .mov (.con (.c (.d (.bool false))))⟩] [4])
 (.ret))))⟩

/-- semvcs/model.operator -/
def f66 : SFunc := ⟨1, [.tmp 2], true,
 .seq (.reg [⟨(some 2), none, .mov (.con (.c (.d (.bool false))))⟩] [0])
 (.seq (.seq (.reg [⟨(some 3), none, .mov (.tmp 0)⟩] [3])
 (.block 0 (.seq (.seq (.reg [⟨(some 5), none, .bin .eql (.tmp 3) (.con (.c (.d (.str [43]))))⟩,
 ⟨(some 4), none, .mov (.tmp 5)⟩] [4, 3])
 (.cond (.tmp 4) (.skip)
 (.seq (.reg [⟨(some 6), none, .bin .eql (.tmp 3) (.con (.c (.d (.str [45]))))⟩,
 ⟨(some 4), none, .mov (.tmp 6)⟩] [4, 3])
 (.cond (.tmp 4) (.skip)
 (.seq (.reg [⟨(some 7), none, .bin .eql (.tmp 3) (.con (.c (.d (.str [42]))))⟩,
 ⟨(some 4), none, .mov (.tmp 7)⟩] [4, 3])
 (.cond (.tmp 4) (.skip)
 (.seq (.reg [⟨(some 8), none, .bin .eql (.tmp 3) (.con (.c (.d (.str [60]))))⟩,
 ⟨(some 4), none, .mov (.tmp 8)⟩] [4, 3])
 (.cond (.tmp 4) (.skip)
 (.reg [⟨(some 9), none, .bin .eql (.tmp 3) (.con (.c (.d (.str [61, 61]))))⟩,
 ⟨(some 4), none, .mov (.tmp 9)⟩] [4])))))))))
 (.cond (.tmp 4) (.seq (.reg [⟨(some 2), none, .mov (.con (.c (.d (.bool true))))⟩] [2])
 (.ret))
 (.skip)))))
 (.seq (.reg [⟨(some 2), none, .mov (.con (.c (.d (.bool false))))⟩] [2])
 (.ret)))⟩

/-- semvcs/model.shape -/
def f61 : SFunc := ⟨1, [.tmp 2], true,
 .seq (.reg [⟨(some 1), none, .box 4 (.tmp 0)⟩,
 ⟨(some 2), none, .mov (.con (.c (.d (.bool false))))⟩] [1])
 (.seq (.seq (.reg [⟨(some 5), none, .faddr 3 (.tmp 1)⟩,
 ⟨(some 6), none, .load false 1 (.tmp 5)⟩,
 ⟨(some 7), none, .bin .neq (.tmp 6) (.con (.c (.d (.int .i64 (0)))))⟩,
 ⟨(some 8), none, .mov (.tmp 7)⟩,
 ⟨(some 9), (some (8, true)), .faddr 3 (.tmp 1)⟩,
 ⟨(some 10), (some (8, true)), .load false 1 (.tmp 9)⟩,
 ⟨(some 11), (some (8, true)), .call true 13 [.tmp 10]⟩,
 ⟨(some 12), (some (8, true)), .un .not (.tmp 11)⟩,
 ⟨(some 13), none, .pick (.tmp 8) (.tmp 12) (.con (.c (.d (.bool false))))⟩] [13, 1])
 (.cond (.tmp 13) (.seq (.reg [⟨(some 2), none, .mov (.con (.c (.d (.bool false))))⟩] [2])
 (.ret))
 (.skip)))
 (.seq (.reg [⟨(some 14), none, .faddr 2 (.tmp 1)⟩,
 ⟨(some 15), none, .load false 1 (.tmp 14)⟩,
 ⟨(some 16), none, .call true 65 [.tmp 15]⟩,
 ⟨(some 3), none, .mov (.tmp 16)⟩] [1, 3])
 (.seq (.reg [⟨(some 17), none, .faddr 3 (.tmp 1)⟩,
 ⟨(some 18), none, .load false 1 (.tmp 17)⟩,
 ⟨(some 19), none, .bin .eql (.tmp 18) (.con (.c (.d (.int .i64 (0)))))⟩,
 ⟨(some 20), none, .mov (.tmp 19)⟩,
 ⟨(some 21), (some (20, true)), .faddr 1 (.tmp 1)⟩,
 ⟨(some 22), (some (20, true)), .load false 1 (.tmp 21)⟩,
 ⟨(some 23), (some (20, true)), .un .not (.tmp 22)⟩,
 ⟨(some 24), none, .pick (.tmp 20) (.tmp 23) (.con (.c (.d (.bool false))))⟩,
 ⟨(some 4), none, .mov (.tmp 24)⟩] [1, 4, 3])
 (.seq (.seq (.reg [⟨(some 25), none, .faddr 0 (.tmp 1)⟩,
 ⟨(some 26), none, .load false 1 (.tmp 25)⟩] [1, 4, 3, 26])
 (.block 0 (.seq (.seq (.reg [⟨(some 28), none, .bin .eql (.tmp 26) (.con (.c (.d (.int .i64 (5)))))⟩,
 ⟨(some 27), none, .mov (.tmp 28)⟩] [27, 1, 4, 3, 26])
 (.cond (.tmp 27) (.skip)
 (.seq (.reg [⟨(some 29), none, .bin .eql (.tmp 26) (.con (.c (.d (.int .i64 (6)))))⟩,
 ⟨(some 27), none, .mov (.tmp 29)⟩] [27, 1, 4, 3, 26])
 (.cond (.tmp 27) (.skip)
 (.seq (.reg [⟨(some 30), none, .bin .eql (.tmp 26) (.con (.c (.d (.int .i64 (7)))))⟩,
 ⟨(some 27), none, .mov (.tmp 30)⟩] [27, 1, 4, 3, 26])
 (.cond (.tmp 27) (.skip)
 (.seq (.reg [⟨(some 31), none, .bin .eql (.tmp 26) (.con (.c (.d (.int .i64 (8)))))⟩,
 ⟨(some 27), none, .mov (.tmp 31)⟩] [27, 1, 4, 3, 26])
 (.cond (.tmp 27) (.skip)
 (.seq (.reg [⟨(some 32), none, .bin .eql (.tmp 26) (.con (.c (.d (.int .i64 (13)))))⟩,
 ⟨(some 27), none, .mov (.tmp 32)⟩] [27, 1, 4, 3, 26])
 (.cond (.tmp 27) (.skip)
 (.seq (.reg [⟨(some 33), none, .bin .eql (.tmp 26) (.con (.c (.d (.int .i64 (14)))))⟩,
 ⟨(some 27), none, .mov (.tmp 33)⟩] [27, 1, 4, 3, 26])
 (.cond (.tmp 27) (.skip)
 (.seq (.reg [⟨(some 34), none, .bin .eql (.tmp 26) (.con (.c (.d (.int .i64 (15)))))⟩,
 ⟨(some 27), none, .mov (.tmp 34)⟩] [27, 1, 4, 3, 26])
 (.cond (.tmp 27) (.skip)
 (.seq (.reg [⟨(some 35), none, .bin .eql (.tmp 26) (.con (.c (.d (.int .i64 (18)))))⟩,
 ⟨(some 27), none, .mov (.tmp 35)⟩] [27, 1, 4, 3, 26])
 (.cond (.tmp 27) (.skip)
 (.seq (.reg [⟨(some 36), none, .bin .eql (.tmp 26) (.con (.c (.d (.int .i64 (19)))))⟩,
 ⟨(some 27), none, .mov (.tmp 36)⟩] [27, 1, 4, 3, 26])
 (.cond (.tmp 27) (.skip)
 (.reg [⟨(some 37), none, .bin .eql (.tmp 26) (.con (.c (.d (.int .i64 (22)))))⟩,
 ⟨(some 27), none, .mov (.tmp 37)⟩] [27, 1, 4, 3, 26])))))))))))))))))))
 (.cond (.tmp 27) (.seq (.reg [⟨(some 38), none, .mov (.tmp 4)⟩,
 ⟨(some 39), none, .mov (.tmp 38)⟩,
 ⟨(some 40), (some (39, true)), .faddr 2 (.tmp 1)⟩,
 ⟨(some 41), (some (39, true)), .load false 1 (.tmp 40)⟩,
 ⟨(some 42), (some (39, true)), .bin .eql (.tmp 41) (.con (.c (.d (.str []))))⟩,
 ⟨(some 43), none, .pick (.tmp 39) (.tmp 42) (.con (.c (.d (.bool false))))⟩,
 ⟨(some 2), none, .mov (.tmp 43)⟩] [2])
 (.ret))
 (.seq (.reg [⟨(some 45), none, .bin .eql (.tmp 26) (.con (.c (.d (.int .i64 (10)))))⟩,
 ⟨(some 44), none, .mov (.tmp 45)⟩] [44, 3, 4, 1, 26])
 (.cond (.tmp 44) (.seq (.reg [⟨(some 46), none, .mov (.tmp 4)⟩,
 ⟨(some 47), none, .mov (.tmp 46)⟩,
 ⟨(some 48), (some (47, true)), .mov (.tmp 3)⟩,
 ⟨(some 49), (some (47, true)), .bin .eql (.tmp 48) (.con (.c (.d (.int .i64 (5)))))⟩,
 ⟨(some 50), none, .pick (.tmp 47) (.tmp 49) (.con (.c (.d (.bool false))))⟩,
 ⟨(some 2), none, .mov (.tmp 50)⟩] [2])
 (.ret))
 (.seq (.reg [⟨(some 52), none, .bin .eql (.tmp 26) (.con (.c (.d (.int .i64 (11)))))⟩,
 ⟨(some 51), none, .mov (.tmp 52)⟩] [51, 3, 4, 1, 26])
 (.cond (.tmp 51) (.seq (.reg [⟨(some 53), none, .mov (.tmp 4)⟩,
 ⟨(some 54), none, .mov (.tmp 53)⟩,
 ⟨(some 55), (some (54, true)), .mov (.tmp 3)⟩,
 ⟨(some 56), (some (54, true)), .bin .eql (.tmp 55) (.con (.c (.d (.int .i64 (6)))))⟩,
 ⟨(some 57), none, .pick (.tmp 54) (.tmp 56) (.con (.c (.d (.bool false))))⟩,
 ⟨(some 2), none, .mov (.tmp 57)⟩] [2])
 (.ret))
 (.seq (.reg [⟨(some 59), none, .bin .eql (.tmp 26) (.con (.c (.d (.int .i64 (20)))))⟩,
 ⟨(some 58), none, .mov (.tmp 59)⟩] [58, 3, 4, 1, 26])
 (.cond (.tmp 58) (.seq (.reg [⟨(some 60), none, .mov (.tmp 4)⟩,
 ⟨(some 61), none, .mov (.tmp 60)⟩,
 ⟨(some 62), (some (61, true)), .mov (.tmp 3)⟩,
 ⟨(some 63), (some (61, true)), .bin .eql (.tmp 62) (.con (.c (.d (.int .i64 (1)))))⟩,
 ⟨(some 64), none, .pick (.tmp 61) (.tmp 63) (.con (.c (.d (.bool false))))⟩,
 ⟨(some 2), none, .mov (.tmp 64)⟩] [2])
 (.ret))
 (.seq (.reg [⟨(some 66), none, .bin .eql (.tmp 26) (.con (.c (.d (.int .i64 (21)))))⟩,
 ⟨(some 65), none, .mov (.tmp 66)⟩] [65, 1, 4, 3, 26])
 (.cond (.tmp 65) (.seq (.reg [⟨(some 67), none, .mov (.tmp 4)⟩,
 ⟨(some 68), none, .mov (.tmp 67)⟩,
 ⟨(some 69), (some (68, true)), .faddr 2 (.tmp 1)⟩,
 ⟨(some 70), (some (68, true)), .load false 1 (.tmp 69)⟩,
 ⟨(some 71), (some (68, true)), .call true 66 [.tmp 70]⟩,
 ⟨(some 72), none, .pick (.tmp 68) (.tmp 71) (.con (.c (.d (.bool false))))⟩,
 ⟨(some 2), none, .mov (.tmp 72)⟩] [2])
 (.ret))
 (.seq (.reg [⟨(some 74), none, .bin .eql (.tmp 26) (.con (.c (.d (.int .i64 (17)))))⟩,
 ⟨(some 73), none, .mov (.tmp 74)⟩] [73, 1, 3, 4, 26])
 (.cond (.tmp 73) (.seq (.reg [⟨(some 75), none, .faddr 1 (.tmp 1)⟩,
 ⟨(some 76), none, .load false 1 (.tmp 75)⟩,
 ⟨(some 77), none, .un .not (.tmp 76)⟩,
 ⟨(some 78), none, .mov (.tmp 77)⟩,
 ⟨(some 79), (some (78, true)), .faddr 2 (.tmp 1)⟩,
 ⟨(some 80), (some (78, true)), .load false 1 (.tmp 79)⟩,
 ⟨(some 81), (some (78, true)), .bin .eql (.tmp 80) (.con (.c (.d (.str []))))⟩,
 ⟨(some 82), none, .pick (.tmp 78) (.tmp 81) (.con (.c (.d (.bool false))))⟩,
 ⟨(some 2), none, .mov (.tmp 82)⟩] [2])
 (.ret))
 (.seq (.reg [⟨(some 84), none, .bin .eql (.tmp 26) (.con (.c (.d (.int .i64 (12)))))⟩,
 ⟨(some 83), none, .mov (.tmp 84)⟩] [83, 1, 3, 4, 26])
 (.cond (.tmp 83) (.seq (.seq (.reg [⟨(some 85), none, .faddr 3 (.tmp 1)⟩,
 ⟨(some 86), none, .load false 1 (.tmp 85)⟩,
 ⟨(some 87), none, .bin .neq (.tmp 86) (.con (.c (.d (.int .i64 (0)))))⟩] [87, 1, 3, 4])
 (.cond (.tmp 87) (.seq (.reg [⟨(some 88), none, .faddr 1 (.tmp 1)⟩,
 ⟨(some 89), none, .load false 1 (.tmp 88)⟩,
 ⟨(some 90), none, .un .not (.tmp 89)⟩,
 ⟨(some 91), none, .mov (.tmp 90)⟩,
 ⟨(some 92), (some (91, true)), .faddr 2 (.tmp 1)⟩,
 ⟨(some 93), (some (91, true)), .load false 1 (.tmp 92)⟩,
 ⟨(some 94), (some (91, true)), .bin .eql (.tmp 93) (.con (.c (.d (.str []))))⟩,
 ⟨(some 95), none, .pick (.tmp 91) (.tmp 94) (.con (.c (.d (.bool false))))⟩,
 ⟨(some 2), none, .mov (.tmp 95)⟩] [2])
 (.ret))
 (.skip)))
 (.seq (.reg [⟨(some 96), none, .mov (.tmp 4)⟩,
 ⟨(some 97), none, .mov (.tmp 96)⟩,
 ⟨(some 98), (some (97, true)), .mov (.tmp 3)⟩,
 ⟨(some 99), (some (97, true)), .bin .eql (.tmp 98) (.con (.c (.d (.int .i64 (1)))))⟩,
 ⟨(some 100), none, .pick (.tmp 97) (.tmp 99) (.con (.c (.d (.bool false))))⟩,
 ⟨(some 2), none, .mov (.tmp 100)⟩] [2])
 (.ret)))
 (.seq (.reg [⟨(some 102), none, .bin .eql (.tmp 26) (.con (.c (.d (.int .i64 (16)))))⟩,
 ⟨(some 101), none, .mov (.tmp 102)⟩] [101, 1, 3, 4, 26])
 (.cond (.tmp 101) (.seq (.seq (.reg [⟨(some 103), none, .faddr 3 (.tmp 1)⟩,
 ⟨(some 104), none, .load false 1 (.tmp 103)⟩,
 ⟨(some 105), none, .bin .neq (.tmp 104) (.con (.c (.d (.int .i64 (0)))))⟩] [105, 1, 3, 4])
 (.cond (.tmp 105) (.seq (.reg [⟨(some 106), none, .faddr 2 (.tmp 1)⟩,
 ⟨(some 107), none, .load false 1 (.tmp 106)⟩,
 ⟨(some 108), none, .bin .eql (.tmp 107) (.con (.c (.d (.str []))))⟩,
 ⟨(some 2), none, .mov (.tmp 108)⟩] [2])
 (.ret))
 (.skip)))
 (.seq (.reg [⟨(some 109), none, .mov (.tmp 4)⟩,
 ⟨(some 110), none, .mov (.tmp 109)⟩,
 ⟨(some 111), (some (110, true)), .mov (.tmp 3)⟩,
 ⟨(some 112), (some (110, true)), .bin .eql (.tmp 111) (.con (.c (.d (.int .i64 (1)))))⟩,
 ⟨(some 113), (some (110, true)), .mov (.tmp 112)⟩,
 ⟨(some 114), (some (113, false)), .mov (.tmp 3)⟩,
 ⟨(some 115), (some (113, false)), .bin .eql (.tmp 114) (.con (.c (.d (.int .i64 (3)))))⟩,
 ⟨(some 116), (some (110, true)), .pick (.tmp 113) (.con (.c (.d (.bool true)))) (.tmp 115)⟩,
 ⟨(some 117), none, .pick (.tmp 110) (.tmp 116) (.con (.c (.d (.bool false))))⟩,
 ⟨(some 2), none, .mov (.tmp 117)⟩] [2])
 (.ret)))
 (.seq (.reg [⟨(some 119), none, .bin .eql (.tmp 26) (.con (.c (.d (.int .i64 (9)))))⟩,
 ⟨(some 118), none, .mov (.tmp 119)⟩] [118, 1, 3, 4])
 (.cond (.tmp 118) (.seq (.seq (.reg [⟨(some 120), none, .faddr 3 (.tmp 1)⟩,
 ⟨(some 121), none, .load false 1 (.tmp 120)⟩,
 ⟨(some 122), none, .bin .neq (.tmp 121) (.con (.c (.d (.int .i64 (0)))))⟩] [122, 1, 3, 4])
 (.cond (.tmp 122) (.seq (.reg [⟨(some 123), none, .faddr 2 (.tmp 1)⟩,
 ⟨(some 124), none, .load false 1 (.tmp 123)⟩,
 ⟨(some 125), none, .bin .eql (.tmp 124) (.con (.c (.d (.str []))))⟩,
 ⟨(some 2), none, .mov (.tmp 125)⟩] [2])
 (.ret))
 (.skip)))
 (.seq (.reg [⟨(some 126), none, .mov (.tmp 4)⟩,
 ⟨(some 127), none, .mov (.tmp 126)⟩,
 ⟨(some 128), (some (127, true)), .mov (.tmp 3)⟩,
 ⟨(some 129), (some (127, true)), .bin .eql (.tmp 128) (.con (.c (.d (.int .i64 (2)))))⟩,
 ⟨(some 130), (some (127, true)), .mov (.tmp 129)⟩,
 ⟨(some 131), (some (130, false)), .mov (.tmp 3)⟩,
 ⟨(some 132), (some (130, false)), .bin .eql (.tmp 131) (.con (.c (.d (.int .i64 (4)))))⟩,
 ⟨(some 133), (some (127, true)), .pick (.tmp 130) (.con (.c (.d (.bool true)))) (.tmp 132)⟩,
 ⟨(some 134), none, .pick (.tmp 127) (.tmp 133) (.con (.c (.d (.bool false))))⟩,
 ⟨(some 2), none, .mov (.tmp 134)⟩] [2])
 (.ret)))
 (.skip)))))))))))))))))))))
 (.seq (.reg [⟨(some 2), none, .mov (.con (.c (.d (.bool false))))⟩] [2])
 (.ret))))))⟩

def f62_b1 : SCode :=
 .seq (.seq (.reg [⟨(some 8), none, .mov (.tmp 6)⟩,
 ⟨(some 9), none, .mov (.tmp 0)⟩,
 ⟨(some 10), none, .slen (.tmp 9)⟩,
 ⟨(some 11), none, .bin .lss (.tmp 8) (.tmp 10)⟩] [11, 6, 5, 0, 1])
 (.cond (.tmp 11) (.skip)
 (.exit 0)))
 (.seq (.block 1 (.seq (.reg [⟨(some 14), none, .mov (.tmp 0)⟩,
 ⟨(some 15), none, .mov (.tmp 6)⟩,
 ⟨(some 16), none, .sidx (.tmp 14) (.tmp 15)⟩,
 ⟨(some 7), none, .mov (.tmp 16)⟩] [6, 7, 5, 0, 1])
 (.block 2 (.seq (.reg [⟨(some 18), none, .mov (.tmp 7)⟩,
 ⟨(some 19), none, .call true 67 [.tmp 18]⟩,
 ⟨(some 20), none, .un .not (.tmp 19)⟩,
 ⟨(some 17), none, .mov (.tmp 20)⟩] [17, 6, 7, 5, 0, 1])
 (.cond (.tmp 17) (.seq (.reg [⟨(some 4), none, .mov (.con (.c (.d (.bool false))))⟩] [4])
 (.ret))
 (.seq (.reg [⟨(some 22), none, .mov (.tmp 5)⟩,
 ⟨(some 21), none, .mov (.tmp 22)⟩] [21, 6, 7, 0, 1, 5])
 (.cond (.tmp 21) (.reg [⟨(some 23), none, .mov (.tmp 7)⟩,
 ⟨(some 24), none, .bin .neq (.tmp 23) (.con (.c (.d (.int .u8 (10)))))⟩,
 ⟨(some 5), none, .mov (.tmp 24)⟩] [6, 5, 0, 1])
 (.seq (.reg [⟨(some 26), none, .mov (.tmp 7)⟩,
 ⟨(some 27), none, .bin .eql (.tmp 26) (.con (.c (.d (.int .u8 (35)))))⟩,
 ⟨(some 25), none, .mov (.tmp 27)⟩] [25, 6, 7, 0, 1, 5])
 (.cond (.tmp 25) (.reg [⟨(some 5), none, .mov (.con (.c (.d (.bool true))))⟩] [6, 5, 0, 1])
 (.seq (.reg [⟨(some 29), none, .mov (.tmp 7)⟩,
 ⟨(some 30), none, .call true 68 [.tmp 29]⟩,
 ⟨(some 31), none, .un .not (.tmp 30)⟩,
 ⟨(some 28), none, .mov (.tmp 31)⟩] [28, 6, 5, 0, 1])
 (.cond (.tmp 28) (.seq (.reg [⟨(some 4), none, .mov (.con (.c (.d (.bool false))))⟩] [4])
 (.ret))
 (.skip))))))))))))
 (.reg [⟨(some 12), none, .mov (.tmp 6)⟩,
 ⟨(some 13), none, .bin .add (.tmp 12) (.con (.c (.d (.int .i64 (1)))))⟩,
 ⟨(some 6), none, .mov (.tmp 13)⟩] [6, 5, 0, 1]))
/-- semvcs/lex.Trivia -/
def f62 : SFunc := ⟨2, [.tmp 4], true,
 .seq (.reg [⟨(some 4), none, .mov (.con (.c (.d (.bool false))))⟩] [0, 1])
 (.seq (.reg [⟨(some 5), none, .mov (.con (.c (.d (.bool false))))⟩] [5, 0, 1])
 (.seq (.seq (.reg [⟨(some 6), none, .mov (.con (.c (.d (.int .i64 (0)))))⟩] [6, 5, 0, 1])
 (.block 0 (.loop [6, 5, 0, 1] [] f62_b1)))
 (.seq (.reg [⟨(some 32), none, .mov (.tmp 5)⟩,
 ⟨(some 33), none, .un .not (.tmp 32)⟩,
 ⟨(some 34), none, .mov (.tmp 33)⟩,
 ⟨(some 35), (some (34, false)), .mov (.tmp 1)⟩,
 ⟨(some 36), none, .pick (.tmp 34) (.con (.c (.d (.bool true)))) (.tmp 35)⟩,
 ⟨(some 4), none, .mov (.tmp 36)⟩] [4])
 (.ret))))⟩

/-- semvcs/model.Fits -/
def f56 : SFunc := ⟨3, [.tmp 6], true,
 .seq (.reg [⟨(some 5), none, .box 4 (.tmp 2)⟩,
 ⟨(some 6), none, .mov (.con (.c (.d (.bool false))))⟩] [0, 5, 1])
 (.seq (.seq (.reg [⟨(some 8), none, .load true 4 (.tmp 5)⟩,
 ⟨(some 9), none, .build [.d (.int .i64 (0)), .d (.bool false), .d (.str []), .d (.int .i64 (0))] []⟩,
 ⟨(some 10), none, .eqa false [.int .i64, .bool, .str, .int .i64] (.tmp 8) (.tmp 9)⟩] [10, 0, 5, 1])
 (.cond (.tmp 10) (.seq (.reg [⟨(some 6), none, .mov (.con (.c (.d (.bool true))))⟩] [6])
 (.ret))
 (.skip)))
 (.seq (.seq (.reg [⟨(some 11), none, .mov (.tmp 0)⟩,
 ⟨(some 12), none, .bin .lss (.tmp 11) (.con (.c (.d (.int .i64 (1)))))⟩,
 ⟨(some 13), none, .mov (.tmp 12)⟩,
 ⟨(some 14), (some (13, false)), .mov (.tmp 0)⟩,
 ⟨(some 15), (some (13, false)), .bin .gtr (.tmp 14) (.con (.c (.d (.int .i64 (5)))))⟩,
 ⟨(some 16), none, .pick (.tmp 13) (.con (.c (.d (.bool true)))) (.tmp 15)⟩] [16, 0, 5, 1])
 (.cond (.tmp 16) (.seq (.reg [⟨(some 6), none, .mov (.con (.c (.d (.bool false))))⟩] [6])
 (.ret))
 (.skip)))
 (.seq (.seq (.reg [⟨(some 17), none, .mov (.tmp 1)⟩] [0, 5, 1, 17])
 (.block 0 (.seq (.reg [⟨(some 19), none, .bin .eql (.tmp 17) (.con (.c (.d (.int .i64 (1)))))⟩,
 ⟨(some 18), none, .mov (.tmp 19)⟩] [18, 0, 5, 1, 17])
 (.cond (.tmp 18) (.seq (.reg [⟨(some 20), none, .load true 4 (.tmp 5)⟩,
 ⟨(some 21), none, .mov (.tmp 0)⟩,
 ⟨(some 22), none, .build [.d (.int .i64 (0)), .d (.bool false), .d (.str []), .d (.int .i64 (0))] [(0, 1, .tmp 21)]⟩,
 ⟨(some 23), none, .eqa false [.int .i64, .bool, .str, .int .i64] (.tmp 20) (.tmp 22)⟩,
 ⟨(some 6), none, .mov (.tmp 23)⟩] [6])
 (.ret))
 (.seq (.reg [⟨(some 25), none, .bin .eql (.tmp 17) (.con (.c (.d (.int .i64 (2)))))⟩,
 ⟨(some 24), none, .mov (.tmp 25)⟩] [24, 5, 0, 1, 17])
 (.cond (.tmp 24) (.seq (.reg [⟨(some 26), none, .mov (.tmp 0)⟩,
 ⟨(some 27), none, .load true 4 (.tmp 5)⟩,
 ⟨(some 28), none, .call true 59 [.tmp 26, .tmp 27]⟩,
 ⟨(some 6), none, .mov (.tmp 28)⟩] [6])
 (.ret))
 (.seq (.reg [⟨(some 30), none, .bin .eql (.tmp 17) (.con (.c (.d (.int .i64 (3)))))⟩,
 ⟨(some 29), none, .mov (.tmp 30)⟩] [29, 5, 0, 1, 17])
 (.cond (.tmp 29) (.seq (.reg [⟨(some 31), none, .mov (.tmp 0)⟩,
 ⟨(some 32), none, .load true 4 (.tmp 5)⟩,
 ⟨(some 33), none, .call true 60 [.tmp 31, .tmp 32]⟩,
 ⟨(some 6), none, .mov (.tmp 33)⟩] [6])
 (.ret))
 (.seq (.reg [⟨(some 35), none, .bin .eql (.tmp 17) (.con (.c (.d (.int .i64 (4)))))⟩,
 ⟨(some 34), none, .mov (.tmp 35)⟩] [34, 5, 0, 1])
 (.cond (.tmp 34) (.seq (.reg [⟨(some 36), none, .mov (.tmp 0)⟩,
 ⟨(some 37), none, .bin .eql (.tmp 36) (.con (.c (.d (.int .i64 (5)))))⟩,
 ⟨(some 38), none, .mov (.tmp 37)⟩,
 ⟨(some 39), (some (38, true)), .load true 4 (.tmp 5)⟩,
 ⟨(some 40), (some (38, true)), .call true 61 [.tmp 39]⟩,
 ⟨(some 41), none, .pick (.tmp 38) (.tmp 40) (.con (.c (.d (.bool false))))⟩,
 ⟨(some 6), none, .mov (.tmp 41)⟩] [6])
 (.ret))
 (.skip)))))))))))
 (.seq (.seq (.reg [⟨(some 42), none, .mov (.tmp 1)⟩,
 ⟨(some 43), none, .bin .lss (.tmp 42) (.con (.c (.d (.int .i64 (8)))))⟩,
 ⟨(some 44), none, .mov (.tmp 43)⟩,
 ⟨(some 45), (some (44, false)), .mov (.tmp 1)⟩,
 ⟨(some 46), (some (44, false)), .bin .geq (.tmp 45) (.con (.c (.d (.int .i64 (48)))))⟩,
 ⟨(some 47), none, .pick (.tmp 44) (.con (.c (.d (.bool true)))) (.tmp 46)⟩] [47, 5, 1, 0])
 (.cond (.tmp 47) (.seq (.reg [⟨(some 6), none, .mov (.con (.c (.d (.bool false))))⟩] [6])
 (.ret))
 (.skip)))
 (.seq (.reg [⟨(some 48), none, .mov (.tmp 0)⟩,
 ⟨(some 49), none, .bin .eql (.tmp 48) (.con (.c (.d (.int .i64 (1)))))⟩,
 ⟨(some 50), none, .mov (.tmp 49)⟩,
 ⟨(some 51), (some (50, true)), .mov (.tmp 1)⟩,
 ⟨(some 52), (some (50, true)), .bin .eql (.tmp 51) (.con (.c (.d (.int .i64 (10)))))⟩,
 ⟨(some 53), none, .pick (.tmp 50) (.tmp 52) (.con (.c (.d (.bool false))))⟩,
 ⟨(some 7), none, .mov (.tmp 53)⟩] [7, 5])
 (.seq (.reg [⟨(some 54), none, .load true 4 (.tmp 5)⟩,
 ⟨(some 55), none, .faddr 2 (.tmp 5)⟩,
 ⟨(some 56), none, .load false 1 (.tmp 55)⟩,
 ⟨(some 57), none, .build [.d (.int .i64 (0)), .d (.bool false), .d (.str []), .d (.int .i64 (0))] [(2, 1, .tmp 56)]⟩,
 ⟨(some 58), none, .eqa false [.int .i64, .bool, .str, .int .i64] (.tmp 54) (.tmp 57)⟩,
 ⟨(some 59), none, .mov (.tmp 58)⟩,
 ⟨(some 60), (some (59, true)), .faddr 2 (.tmp 5)⟩,
 ⟨(some 61), (some (59, true)), .load false 1 (.tmp 60)⟩,
 ⟨(some 62), (some (59, true)), .mov (.tmp 7)⟩,
 ⟨(some 63), (some (59, true)), .call true 62 [.tmp 61, .tmp 62]⟩,
 ⟨(some 64), none, .pick (.tmp 59) (.tmp 63) (.con (.c (.d (.bool false))))⟩,
 ⟨(some 6), none, .mov (.tmp 64)⟩] [6])
 (.ret)))))))⟩

/-- semvcs/state.suits -/
def f52 : SFunc := ⟨3, [.tmp 6], true,
 .seq (.reg [⟨(some 5), none, .box 4 (.tmp 2)⟩,
 ⟨(some 6), none, .mov (.con (.c (.d (.bool false))))⟩] [5, 1, 0])
 (.seq (.seq (.reg [⟨(some 7), none, .load true 4 (.tmp 5)⟩,
 ⟨(some 8), none, .build [.d (.int .i64 (0)), .d (.bool false), .d (.str []), .d (.int .i64 (0))] []⟩,
 ⟨(some 9), none, .eqa false [.int .i64, .bool, .str, .int .i64] (.tmp 7) (.tmp 8)⟩,
 ⟨(some 10), none, .mov (.tmp 9)⟩,
 ⟨(some 11), (some (10, true)), .mov (.tmp 1)⟩,
 ⟨(some 12), (some (10, true)), .bin .eql (.tmp 11) (.con (.c (.d (.int .i64 (3)))))⟩,
 ⟨(some 13), (some (10, true)), .mov (.tmp 12)⟩,
 ⟨(some 14), (some (13, false)), .mov (.tmp 1)⟩,
 ⟨(some 15), (some (13, false)), .bin .eql (.tmp 14) (.con (.c (.d (.int .i64 (4)))))⟩,
 ⟨(some 16), (some (10, true)), .pick (.tmp 13) (.con (.c (.d (.bool true)))) (.tmp 15)⟩,
 ⟨(some 17), none, .pick (.tmp 10) (.tmp 16) (.con (.c (.d (.bool false))))⟩] [17, 5, 1, 0])
 (.cond (.tmp 17) (.seq (.reg [⟨(some 6), none, .mov (.con (.c (.d (.bool false))))⟩] [6])
 (.ret))
 (.skip)))
 (.seq (.reg [⟨(some 18), none, .mov (.tmp 0)⟩,
 ⟨(some 19), none, .mov (.tmp 1)⟩,
 ⟨(some 20), none, .load true 4 (.tmp 5)⟩,
 ⟨(some 21), none, .call true 56 [.tmp 18, .tmp 19, .tmp 20]⟩,
 ⟨(some 6), none, .mov (.tmp 21)⟩] [6])
 (.ret)))⟩

/-- semvcs/state.fault -/
def f40 : SFunc := ⟨3, [.tmp 6], true,
 .seq (.reg [⟨(some 3), none, .box 1 (.tmp 0)⟩,
 ⟨(some 4), none, .box 5 (.tmp 1)⟩,
 ⟨(some 5), none, .box 6 (.tmp 2)⟩,
 ⟨(some 6), none, .mov (.con (.c (.d (.int .i64 (0)))))⟩] [5, 4, 3])
 (.seq (.seq (.reg [⟨(some 11), none, .faddr 0 (.tmp 5)⟩,
 ⟨(some 12), none, .load false 1 (.tmp 11)⟩,
 ⟨(some 13), none, .call true 13 [.tmp 12]⟩,
 ⟨(some 14), none, .un .not (.tmp 13)⟩,
 ⟨(some 15), none, .mov (.tmp 14)⟩,
 ⟨(some 16), (some (15, false)), .faddr 0 (.tmp 5)⟩,
 ⟨(some 17), (some (15, false)), .load false 1 (.tmp 16)⟩,
 ⟨(some 18), (some (15, false)), .faddr 0 (.tmp 4)⟩,
 ⟨(some 19), (some (15, false)), .load false 1 (.tmp 18)⟩,
 ⟨(some 20), (some (15, false)), .bin .eql (.tmp 17) (.tmp 19)⟩,
 ⟨(some 21), none, .pick (.tmp 15) (.con (.c (.d (.bool true)))) (.tmp 20)⟩,
 ⟨(some 22), none, .mov (.tmp 21)⟩,
 ⟨(some 23), (some (22, false)), .faddr 1 (.tmp 5)⟩,
 ⟨(some 24), (some (22, false)), .load false 1 (.tmp 23)⟩,
 ⟨(some 25), (some (22, false)), .call true 14 [.tmp 24]⟩,
 ⟨(some 26), (some (22, false)), .un .not (.tmp 25)⟩,
 ⟨(some 27), none, .pick (.tmp 22) (.con (.c (.d (.bool true)))) (.tmp 26)⟩] [27, 5, 4, 3])
 (.cond (.tmp 27) (.seq (.reg [⟨(some 6), none, .mov (.con (.c (.d (.int .i64 (5)))))⟩] [6])
 (.ret))
 (.skip)))
 (.seq (.reg [⟨(some 28), none, .load true 1 (.tmp 3)⟩,
 ⟨(some 29), none, .faddr 0 (.tmp 5)⟩,
 ⟨(some 30), none, .load false 1 (.tmp 29)⟩,
 ⟨(some 31), none, .call true 21 [.tmp 28, .tmp 30]⟩,
 ⟨(some 7), none, .mov (.tmp 31)⟩] [7, 5, 4])
 (.seq (.seq (.reg [⟨(some 32), none, .faddr 1 (.tmp 5)⟩,
 ⟨(some 33), none, .load false 1 (.tmp 32)⟩,
 ⟨(some 34), none, .bin .eql (.tmp 33) (.con (.c (.d (.int .i64 (1)))))⟩] [34, 7, 5, 4])
 (.cond (.tmp 34) (.seq (.reg [⟨(some 35), none, .load true 5 (.tmp 4)⟩,
 ⟨(some 36), none, .load true 6 (.tmp 5)⟩,
 ⟨(some 37), none, .mov (.tmp 7)⟩,
 ⟨(some 38), none, .call true 51 [.tmp 35, .tmp 36, .tmp 37]⟩,
 ⟨(some 6), none, .mov (.tmp 38)⟩] [6])
 (.ret))
 (.skip)))
 (.seq (.reg [⟨(some 39), none, .mov (.tmp 7)⟩,
 ⟨(some 8), none, .mov (.tmp 39)⟩] [5, 4, 8])
 (.seq (.seq (.reg [⟨(some 40), none, .mov (.tmp 8)⟩,
 ⟨(some 41), none, .bin .eql (.tmp 40) (.con (.c (.d (.int .i64 (0)))))⟩] [41, 5, 4, 8])
 (.cond (.tmp 41) (.seq (.reg [⟨(some 43), none, .faddr 4 (.tmp 4)⟩,
 ⟨(some 44), none, .load false 1 (.tmp 43)⟩,
 ⟨(some 45), none, .faddr 0 (.tmp 5)⟩,
 ⟨(some 46), none, .load false 1 (.tmp 45)⟩,
 ⟨(some 47), none, .build [.d (.int .i64 (0)), .d (.int .i64 (0))] [(0, 1, .tmp 46), (1, 1, .con (.c (.d (.int .i64 (1)))))]⟩,
 ⟨(some 48), none, .call true 31 [.tmp 44, .tmp 47]⟩,
 ⟨(some 42), none, .mov (.tmp 48)⟩,
 ⟨(some 49), none, .extract (.tmp 42) 0⟩,
 ⟨(some 50), none, .extract (.tmp 42) 1⟩,
 ⟨(some 9), none, .mov (.tmp 49)⟩,
 ⟨(some 10), none, .mov (.tmp 50)⟩] [5, 9, 4, 8, 10])
 (.seq (.reg [⟨(some 51), none, .mov (.tmp 10)⟩] [51, 5, 9, 4, 8])
 (.cond (.tmp 51) (.reg [⟨(some 52), none, .faddr 4 (.tmp 4)⟩,
 ⟨(some 53), none, .load false 1 (.tmp 52)⟩,
 ⟨(some 54), none, .mov (.tmp 9)⟩,
 ⟨(some 55), none, .iaddr 6 (.tmp 53) (.tmp 54)⟩,
 ⟨(some 56), none, .faddr 2 (.tmp 55)⟩,
 ⟨(some 57), none, .faddr 0 (.tmp 56)⟩,
 ⟨(some 58), none, .load false 1 (.tmp 57)⟩,
 ⟨(some 8), none, .mov (.tmp 58)⟩] [5, 8])
 (.skip))))
 (.skip)))
 (.seq (.seq (.reg [⟨(some 59), none, .mov (.tmp 8)⟩,
 ⟨(some 60), none, .bin .eql (.tmp 59) (.con (.c (.d (.int .i64 (0)))))⟩] [60, 5, 8])
 (.cond (.tmp 60) (.seq (.reg [⟨(some 6), none, .mov (.con (.c (.d (.int .i64 (7)))))⟩] [6])
 (.ret))
 (.skip)))
 (.seq (.seq (.reg [⟨(some 61), none, .mov (.tmp 8)⟩,
 ⟨(some 62), none, .faddr 1 (.tmp 5)⟩,
 ⟨(some 63), none, .load false 1 (.tmp 62)⟩,
 ⟨(some 64), none, .faddr 2 (.tmp 5)⟩,
 ⟨(some 65), none, .load true 4 (.tmp 64)⟩,
 ⟨(some 66), none, .call true 52 [.tmp 61, .tmp 63, .tmp 65]⟩,
 ⟨(some 67), none, .un .not (.tmp 66)⟩] [67])
 (.cond (.tmp 67) (.seq (.reg [⟨(some 6), none, .mov (.con (.c (.d (.int .i64 (13)))))⟩] [6])
 (.ret))
 (.skip)))
 (.seq (.reg [⟨(some 6), none, .mov (.con (.c (.d (.int .i64 (0)))))⟩] [6])
 (.ret)))))))))⟩

def f20_b1 : SCode :=
 .seq (.seq (.reg [⟨(some 12), none, .mov (.tmp 5)⟩,
 ⟨(some 13), none, .faddr 4 (.tmp 3)⟩,
 ⟨(some 14), none, .load false 1 (.tmp 13)⟩,
 ⟨(some 15), none, .vlen (.tmp 14)⟩,
 ⟨(some 16), none, .bin .lss (.tmp 12) (.tmp 15)⟩] [16, 5, 3, 2])
 (.cond (.tmp 16) (.skip)
 (.exit 0)))
 (.seq (.block 1 (.seq (.draw (.step .quiet ⟨(some 19), none, .faddr 4 (.tmp 3)⟩ <|
 .step .quiet ⟨(some 20), none, .load false 1 (.tmp 19)⟩ <|
 .step .quiet ⟨(some 21), none, .mov (.tmp 5)⟩ <|
 .step .quiet ⟨(some 22), none, .bin .sub (.tmp 21) (.con (.c (.d (.int .i64 (1)))))⟩ <|
 .step .quiet ⟨(some 23), none, .iaddr 6 (.tmp 20) (.tmp 22)⟩ <|
 .step .quiet ⟨(some 24), none, .load true 6 (.tmp 23)⟩ <|
 .step .quiet ⟨(some 26), none, .faddr 4 (.tmp 3)⟩ <|
 .step .quiet ⟨(some 27), none, .load false 1 (.tmp 26)⟩ <|
 .step .quiet ⟨(some 28), none, .mov (.tmp 5)⟩ <|
 .step .quiet ⟨(some 29), none, .iaddr 6 (.tmp 27) (.tmp 28)⟩ <|
 .step .quiet ⟨(some 30), none, .load true 6 (.tmp 29)⟩ <|
 .step .mild ⟨(some 25), none, .call false 29 [.tmp 24]⟩ <|
 .step .mild ⟨(some 31), none, .call false 29 [.tmp 30]⟩ <|
 .step .mild ⟨(some 32), none, .call true 15 [.tmp 25, .tmp 31]⟩ <|
 .step .quiet ⟨(some 33), none, .bin .geq (.tmp 32) (.con (.c (.d (.int .i64 (0)))))⟩ <|
 .done) [33, 5, 3, 2])
 (.cond (.tmp 33) (.seq (.reg [⟨(some 4), none, .mov (.con (.c (.d (.int .i64 (12)))))⟩] [4])
 (.ret))
 (.skip))))
 (.reg [⟨(some 17), none, .mov (.tmp 5)⟩,
 ⟨(some 18), none, .bin .add (.tmp 17) (.con (.c (.d (.int .i64 (1)))))⟩,
 ⟨(some 5), none, .mov (.tmp 18)⟩] [5, 3, 2]))
def f20_b2 : SCode :=
 .seq (.reg [⟨(some 38), none, .bin .lss (.tmp 37) (.tmp 36)⟩] [38, 37, 3, 2, 35, 36])
 (.seq (.cond (.tmp 38) (.skip)
 (.exit 2))
 (.seq (.block 3 (.seq (.reg [⟨(some 39), none, .iaddr 6 (.tmp 35) (.tmp 37)⟩,
 ⟨(some 40), none, .load true 6 (.tmp 39)⟩,
 ⟨(some 7), none, .alloc [.d (.int .i64 (0)), .d (.int .i64 (0)), .d (.int .i64 (0)), .d (.bool false), .d (.str []), .d (.int .i64 (0))]⟩,
 ⟨none, none, .store 6 (.tmp 7) (.tmp 40)⟩] [37, 7, 3, 2, 35, 36])
 (.seq (.reg [⟨(some 41), none, .load true 1 (.tmp 2)⟩,
 ⟨(some 42), none, .load true 5 (.tmp 3)⟩,
 ⟨(some 43), none, .load true 6 (.tmp 7)⟩,
 ⟨(some 44), none, .call true 40 [.tmp 41, .tmp 42, .tmp 43]⟩,
 ⟨(some 8), none, .mov (.tmp 44)⟩] [8, 37, 3, 2, 35, 36])
 (.seq (.reg [⟨(some 45), none, .mov (.tmp 8)⟩,
 ⟨(some 46), none, .bin .neq (.tmp 45) (.con (.c (.d (.int .i64 (0)))))⟩] [46, 8, 37, 3, 2, 35, 36])
 (.cond (.tmp 46) (.seq (.reg [⟨(some 47), none, .mov (.tmp 8)⟩,
 ⟨(some 4), none, .mov (.tmp 47)⟩] [4])
 (.ret))
 (.skip))))))
 (.reg [⟨(some 48), none, .bin .add (.tmp 37) (.con (.c (.d (.int .i64 (1)))))⟩,
 ⟨(some 37), none, .mov (.tmp 48)⟩] [37, 3, 2, 35, 36])))
/-- semvcs/state.Fits -/
def f20 : SFunc := ⟨2, [.tmp 4], true,
 .seq (.reg [⟨(some 2), none, .box 1 (.tmp 0)⟩,
 ⟨(some 3), none, .box 5 (.tmp 1)⟩,
 ⟨(some 4), none, .mov (.con (.c (.d (.int .i64 (0)))))⟩] [3, 2])
 (.seq (.seq (.reg [⟨(some 9), none, .load true 5 (.tmp 3)⟩,
 ⟨(some 10), none, .call true 39 [.tmp 9]⟩,
 ⟨(some 11), none, .un .not (.tmp 10)⟩] [11, 3, 2])
 (.cond (.tmp 11) (.seq (.reg [⟨(some 4), none, .mov (.con (.c (.d (.int .i64 (5)))))⟩] [4])
 (.ret))
 (.skip)))
 (.seq (.seq (.reg [⟨(some 5), none, .mov (.con (.c (.d (.int .i64 (1)))))⟩] [5, 3, 2])
 (.block 0 (.loop [5, 3, 2] [] f20_b1)))
 (.seq (.seq (.reg [⟨(some 34), none, .faddr 4 (.tmp 3)⟩,
 ⟨(some 35), none, .load false 1 (.tmp 34)⟩,
 ⟨(some 36), none, .vlen (.tmp 35)⟩,
 ⟨(some 37), none, .mov (.con (.c (.d (.int .i64 (0)))))⟩] [37, 3, 2, 35, 36])
 (.block 2 (.loop [37, 3, 2, 35, 36] [] f20_b2)))
 (.seq (.reg [⟨(some 4), none, .mov (.con (.c (.d (.int .i64 (0)))))⟩] [4])
 (.ret)))))⟩

/-- semvcs/semvcslaw25.awake -/
def f6 : SFunc := ⟨0, [.tmp 0], true,
 .seq (.reg [⟨(some 0), none, .mov (.con (.c (.d (.bool false))))⟩] [])
 (.seq (.reg [⟨(some 1), none, .mov (.con (.c (.d (.int .i64 (1048577)))))⟩] [1])
 (.seq (.reg [⟨(some 5), none, .mov (.tmp 1)⟩,
 ⟨(some 6), none, .bin .add (.tmp 5) (.con (.c (.d (.int .i64 (2)))))⟩,
 ⟨(some 7), none, .mov (.tmp 1)⟩,
 ⟨(some 8), none, .build [.d (.int .i64 (0)), .d (.bool false), .d (.str []), .d (.int .i64 (0))] [(0, 1, .con (.c (.d (.int .i64 (1)))))]⟩,
 ⟨(some 9), none, .build [.d (.int .i64 (0)), .d (.int .i64 (0)), .d (.int .i64 (0)), .d (.bool false), .d (.str []), .d (.int .i64 (0))] [(0, 1, .tmp 7), (1, 1, .con (.c (.d (.int .i64 (1))))), (2, 4, .tmp 8)]⟩,
 ⟨(some 10), none, .mov (.tmp 1)⟩,
 ⟨(some 11), none, .build [.d (.int .i64 (0)), .d (.bool false), .d (.str []), .d (.int .i64 (0))] [(2, 1, .con (.c (.d (.str [77]))))]⟩,
 ⟨(some 12), none, .build [.d (.int .i64 (0)), .d (.int .i64 (0)), .d (.int .i64 (0)), .d (.bool false), .d (.str []), .d (.int .i64 (0))] [(0, 1, .tmp 10), (1, 1, .con (.c (.d (.int .i64 (3))))), (2, 4, .tmp 11)]⟩,
 ⟨(some 13), none, .bslice false 6 [.int .i64 (0), .int .i64 (0), .int .i64 (0), .bool false, .str [], .int .i64 (0)] 2 [(0, .tmp 9), (1, .tmp 12)]⟩,
 ⟨(some 14), none, .build [.d (.int .i64 (0)), .nils, .nils, .d (.str []), .nils] [(0, 1, .tmp 6), (4, 1, .tmp 13)]⟩,
 ⟨(some 2), none, .alloc [.d (.int .i64 (0)), .nils, .nils, .d (.str []), .nils]⟩,
 ⟨none, none, .store 5 (.tmp 2) (.tmp 14)⟩] [1, 2])
 (.seq (.reg [⟨(some 15), none, .build [.nils] []⟩,
 ⟨(some 16), none, .load true 5 (.tmp 2)⟩,
 ⟨(some 17), none, .call false 9 [.tmp 15, .tmp 16]⟩,
 ⟨(some 3), none, .alloc [.nils]⟩,
 ⟨none, none, .store 1 (.tmp 3) (.tmp 17)⟩] [3, 1, 2])
 (.seq (.reg [⟨(some 18), none, .mov (.tmp 1)⟩,
 ⟨(some 19), none, .bin .add (.tmp 18) (.con (.c (.d (.int .i64 (3)))))⟩,
 ⟨(some 20), none, .mov (.tmp 1)⟩,
 ⟨(some 21), none, .build [.d (.int .i64 (0)), .d (.int .i64 (0)), .d (.int .i64 (0)), .d (.bool false), .d (.str []), .d (.int .i64 (0))] [(0, 1, .tmp 20), (1, 1, .con (.c (.d (.int .i64 (3)))))]⟩,
 ⟨(some 22), none, .bslice false 6 [.int .i64 (0), .int .i64 (0), .int .i64 (0), .bool false, .str [], .int .i64 (0)] 1 [(0, .tmp 21)]⟩,
 ⟨(some 23), none, .build [.d (.int .i64 (0)), .nils, .nils, .d (.str []), .nils] [(0, 1, .tmp 19), (4, 1, .tmp 22)]⟩,
 ⟨(some 4), none, .alloc [.d (.int .i64 (0)), .nils, .nils, .d (.str []), .nils]⟩,
 ⟨none, none, .store 5 (.tmp 4) (.tmp 23)⟩] [3, 4, 1, 2])
 (.seq (.reg [⟨(some 24), none, .build [.nils] []⟩,
 ⟨(some 25), none, .load true 5 (.tmp 2)⟩,
 ⟨(some 26), none, .call true 20 [.tmp 24, .tmp 25]⟩,
 ⟨(some 27), none, .bin .eql (.tmp 26) (.con (.c (.d (.int .i64 (0)))))⟩,
 ⟨(some 28), none, .mov (.tmp 27)⟩,
 ⟨(some 29), (some (28, true)), .load true 1 (.tmp 3)⟩,
 ⟨(some 30), (some (28, true)), .call true 4 [.tmp 29]⟩,
 ⟨(some 31), none, .pick (.tmp 28) (.tmp 30) (.con (.c (.d (.bool false))))⟩,
 ⟨(some 32), none, .mov (.tmp 31)⟩,
 ⟨(some 33), (some (32, true)), .load true 1 (.tmp 3)⟩,
 ⟨(some 34), (some (32, true)), .mov (.tmp 1)⟩,
 ⟨(some 35), (some (32, true)), .call true 21 [.tmp 33, .tmp 34]⟩,
 ⟨(some 36), (some (32, true)), .bin .eql (.tmp 35) (.con (.c (.d (.int .i64 (1)))))⟩,
 ⟨(some 37), none, .pick (.tmp 32) (.tmp 36) (.con (.c (.d (.bool false))))⟩,
 ⟨(some 38), none, .mov (.tmp 37)⟩,
 ⟨(some 39), (some (38, true)), .load true 1 (.tmp 3)⟩,
 ⟨(some 40), (some (38, true)), .load true 5 (.tmp 4)⟩,
 ⟨(some 41), (some (38, true)), .call true 20 [.tmp 39, .tmp 40]⟩,
 ⟨(some 42), (some (38, true)), .bin .eql (.tmp 41) (.con (.c (.d (.int .i64 (13)))))⟩,
 ⟨(some 43), none, .pick (.tmp 38) (.tmp 42) (.con (.c (.d (.bool false))))⟩,
 ⟨(some 44), none, .mov (.tmp 43)⟩,
 ⟨(some 45), (some (44, true)), .load true 1 (.tmp 3)⟩,
 ⟨(some 46), (some (44, true)), .build [.nils] []⟩,
 ⟨(some 47), (some (44, true)), .call true 12 [.tmp 45, .tmp 46]⟩,
 ⟨(some 48), (some (44, true)), .un .not (.tmp 47)⟩,
 ⟨(some 49), none, .pick (.tmp 44) (.tmp 48) (.con (.c (.d (.bool false))))⟩,
 ⟨(some 0), none, .mov (.tmp 49)⟩] [0])
 (.ret))))))⟩

/-- semvcs/semvcslaw25.StateValid -/
def f0 : SFunc := ⟨1, [.tmp 2], true,
 .seq (.reg [⟨(some 1), none, .box 1 (.tmp 0)⟩,
 ⟨(some 2), none, .mov (.con (.c (.d (.bool false))))⟩] [1])
 (.seq (.draw (.step .quiet ⟨(some 3), none, .load true 1 (.tmp 1)⟩ <|
 .step .mild ⟨(some 4), none, .call true 3 [.tmp 3]⟩ <|
 .step .quiet ⟨(some 5), none, .un .not (.tmp 4)⟩ <|
 .step .quiet ⟨(some 6), none, .mov (.tmp 5)⟩ <|
 .step .quiet ⟨(some 7), (some (6, false)), .load true 1 (.tmp 1)⟩ <|
 .step .quiet ⟨(some 9), (some (6, false)), .load true 1 (.tmp 1)⟩ <|
 .step .mild ⟨(some 8), (some (6, false)), .call true 4 [.tmp 7]⟩ <|
 .step .mild ⟨(some 10), (some (6, false)), .call true 5 [.tmp 9]⟩ <|
 .step .quiet ⟨(some 11), (some (6, false)), .beq false (.tmp 8) (.tmp 10)⟩ <|
 .step .quiet ⟨(some 12), none, .pick (.tmp 6) (.con (.c (.d (.bool true)))) (.tmp 11)⟩ <|
 .step .quiet ⟨(some 13), none, .mov (.tmp 12)⟩ <|
 .step .mild ⟨(some 14), (some (13, true)), .call true 6 []⟩ <|
 .step .quiet ⟨(some 15), none, .pick (.tmp 13) (.tmp 14) (.con (.c (.d (.bool false))))⟩ <|
 .step .quiet ⟨(some 2), none, .mov (.tmp 15)⟩ <|
 .done) [2])
 (.ret))⟩

def table : List (Nat × SFunc) := [(3, f3), (36, f36), (13, f13), (14, f14), (37, f37), (49, f49), (38, f38), (15, f15), (16, f16), (4, f4), (17, f17), (18, f18), (19, f19), (5, f5), (29, f29), (44, f44), (57, f57), (69, f69), (63, f63), (58, f58), (55, f55), (45, f45), (46, f46), (28, f28), (30, f30), (47, f47), (48, f48), (31, f31), (32, f32), (9, f9), (33, f33), (35, f35), (34, f34), (12, f12), (50, f50), (39, f39), (53, f53), (54, f54), (41, f41), (21, f21), (51, f51), (64, f64), (59, f59), (68, f68), (67, f67), (77, f77), (78, f78), (71, f71), (73, f73), (79, f79), (80, f80), (72, f72), (74, f74), (75, f75), (76, f76), (70, f70), (65, f65), (60, f60), (66, f66), (61, f61), (62, f62), (56, f56), (52, f52), (40, f40), (20, f20), (6, f6), (0, f0)]
end Go.Aiv.Fn

