/- The program's functions are the interpreter's. -/
import Derived.Test.YtphppkakojdhbaaChecked
import Derived.Test.YtphppkakojdhbaaTypes
import Derived.Test.YtphppkakojdhbaaWConf
import Derived.KernelRfl
set_option linter.unusedSimpArgs false
set_option linter.unusedVariables false
namespace Go.Aiv.Chk
open Go.Proofs
def F : List (Nat × Nat) := [(3, 0), (4, 1), (5, 2), (6, 3), (7, 4), (8, 5), (9, 6), (10, 7), (11, 8), (12, 9), (13, 10), (14, 11), (15, 12), (16, 13), (17, 14), (18, 15), (19, 16), (20, 17), (21, 18), (22, 19), (23, 20), (24, 21), (25, 22), (26, 23), (27, 24), (28, 25), (29, 26), (30, 27), (31, 28), (32, 29), (33, 30), (34, 31), (35, 32), (36, 33), (37, 34), (38, 35), (39, 36), (40, 37), (41, 38), (42, 39), (43, 40), (44, 41), (45, 42), (46, 43), (47, 44), (48, 45), (49, 46), (50, 47), (51, 48), (52, 49), (53, 50), (54, 51), (55, 52), (56, 53), (57, 54), (58, 55), (59, 56), (60, 57), (61, 58), (62, 59), (63, 60), (64, 61), (65, 62), (66, 63), (67, 64), (68, 65), (69, 66), (70, 67), (71, 68), (72, 69), (73, 70), (74, 71), (75, 72), (76, 73), (77, 74), (78, 75), (79, 76), (80, 77), (81, 78), (82, 79), (83, 80), (84, 81)]
def k0 : Cfg := { fnOf := F, keep := [(1, [2]), (0, [1])], loops := [], nt := 16, mild := [4, 8, 10, 14], own := [], asData := true }
theorem c0 : (Try.prog.funcs[3]?).bind (compF Try.prog k0) = some Fn.f0 := by kernel_rfl
def k3 : Cfg := { fnOf := F, keep := [(6, [2]), (4, [4, 1, 3]), (5, [4, 1, 3]), (3, [16, 4, 1, 3]), (2, [4, 1, 3]), (1, [1, 3]), (0, [1])], loops := [(3, [4, 1, 3], [])], nt := 30, mild := [], own := [], asData := true }
theorem c3 : (Try.prog.funcs[6]?).bind (compF Try.prog k3) = some Fn.f3 := by kernel_rfl
def k4 : Cfg := { fnOf := F, keep := [(15, [2]), (14, [10, 1, 8, 9]), (13, [49, 4, 47, 10, 48, 1, 8, 9]), (12, [2]), (11, [73, 49, 4, 47, 10, 48, 1, 8, 9]), (10, [49, 6, 5, 4, 47, 10, 48, 1, 8, 9]), (9, [50, 49, 4, 47, 10, 48, 1, 8, 9]), (8, [49, 4, 47, 10, 48, 1, 8, 9]), (7, [2]), (6, [45, 4, 10, 1, 8, 9]), (5, [2]), (4, [30, 4, 10, 3, 1, 8, 9]), (3, [4, 10, 3, 1, 8, 9]), (2, [11, 10, 1, 8, 9]), (1, [10, 1, 8, 9]), (0, [1])], loops := [(2, [10, 1, 8, 9], []), (9, [49, 4, 47, 10, 48, 1, 8, 9], [])], nt := 76, mild := [17, 22, 40, 42, 43, 56], own := [], asData := true }
theorem c4 : (Try.prog.funcs[7]?).bind (compF Try.prog k4) = some Fn.f4 := by kernel_rfl
def k5 : Cfg := { fnOf := F, keep := [(14, [2]), (3, [3, 1]), (11, [5, 4, 3, 1]), (13, [2]), (12, [92, 5, 4, 3, 1]), (10, [62, 5, 4, 3, 1]), (9, [5, 4, 3, 1]), (8, [2]), (7, [57, 4, 3, 1]), (6, [2]), (5, [33, 4, 3, 1]), (4, [4, 3, 1]), (2, [10, 3, 1]), (1, [3, 1]), (0, [1])], loops := [(2, [3, 1], []), (10, [5, 4, 3, 1], [])], nt := 93, mild := [20, 25, 55, 71], own := [], asData := true }
theorem c5 : (Try.prog.funcs[8]?).bind (compF Try.prog k5) = some Fn.f5 := by kernel_rfl
def k6 : Cfg := { fnOf := F, keep := [(5, [0]), (4, [3, 4, 1, 2]), (3, [3, 1, 2]), (2, [1, 2]), (1, [1])], loops := [], nt := 50, mild := [17, 26, 30, 35, 41, 47], own := [], asData := true }
theorem c6 : (Try.prog.funcs[9]?).bind (compF Try.prog k6) = some Fn.f6 := by kernel_rfl
def k9 : Cfg := { fnOf := F, keep := [(20, [4]), (19, [77, 3, 6, 75, 4, 76]), (18, [77, 3, 6, 75, 4, 76]), (17, [77, 3, 14, 6, 75, 4, 76]), (16, [78, 77, 3, 6, 75, 4, 76]), (15, [77, 3, 6, 75, 4, 76]), (14, [7, 3, 5, 6, 21, 19, 4, 20]), (13, [21, 7, 3, 5, 6, 19, 4, 20]), (12, [60, 21, 9, 6, 7, 3, 5, 19, 4, 20]), (11, [21, 9, 6, 12, 7, 3, 5, 19, 4, 20]), (10, [7, 3, 5, 6, 21, 9, 10, 19, 4, 20]), (9, [7, 3, 5, 6, 21, 9, 10, 19, 4, 20]), (8, [40, 7, 3, 5, 6, 21, 9, 10, 19, 4, 20]), (7, [7, 3, 5, 6, 21, 9, 10, 19, 4, 20]), (6, [7, 3, 5, 6, 21, 9, 19, 4, 20]), (5, [22, 7, 3, 5, 6, 21, 19, 4, 20]), (4, [7, 3, 5, 6, 21, 19, 4, 20]), (3, [7, 3, 5, 6, 4, 2]), (2, [3, 5, 6, 4, 2]), (1, [3, 5, 4, 2]), (0, [3, 4, 2])], loops := [(5, [7, 3, 5, 6, 21, 19, 4, 20], [(6, none, 3)]), (8, [7, 3, 5, 6, 21, 9, 10, 19, 4, 20], [(6, none, 3)]), (16, [77, 3, 6, 75, 4, 76], [(6, none, 3)])], nt := 91, mild := [17, 26, 36, 38, 48, 56, 68, 85], own := [], asData := true }
theorem c9 : (Try.prog.funcs[12]?).bind (compF Try.prog k9) = some Fn.f9 := by kernel_rfl
def k12 : Cfg := { fnOf := F, keep := [(1, [4]), (0, [3, 2])], loops := [], nt := 10, mild := [], own := [], asData := true }
theorem c12 : (Try.prog.funcs[15]?).bind (compF Try.prog k12) = some Fn.f12 := by kernel_rfl
def k13 : Cfg := { fnOf := F, keep := [(1, [2]), (0, [0])], loops := [], nt := 10, mild := [4], own := [], asData := true }
theorem c13 : (Try.prog.funcs[16]?).bind (compF Try.prog k13) = some Fn.f13 := by kernel_rfl
def k14 : Cfg := { fnOf := F, keep := [(7, [2]), (6, [2]), (5, [4, 0]), (4, [4, 0, 3]), (3, [4, 0, 3]), (2, [4, 0, 3]), (1, [0, 3]), (0, [0])], loops := [], nt := 15, mild := [], own := [], asData := true }
theorem c14 : (Try.prog.funcs[17]?).bind (compF Try.prog k14) = some Fn.f14 := by kernel_rfl
def k15 : Cfg := { fnOf := F, keep := [(1, [4]), (0, [3, 2])], loops := [], nt := 17, mild := [9, 14, 16], own := [], asData := true }
theorem c15 : (Try.prog.funcs[18]?).bind (compF Try.prog k15) = some Fn.f15 := by kernel_rfl
def k16 : Cfg := { fnOf := F, keep := [(1, [2]), (0, [2, 1])], loops := [], nt := 8, mild := [], own := [], asData := true }
theorem c16 : (Try.prog.funcs[19]?).bind (compF Try.prog k16) = some Fn.f16 := by kernel_rfl
def k17 : Cfg := { fnOf := F, keep := [(1, [2]), (0, [0])], loops := [], nt := 14, mild := [], own := [], asData := true }
theorem c17 : (Try.prog.funcs[20]?).bind (compF Try.prog k17) = some Fn.f17 := by kernel_rfl
def k18 : Cfg := { fnOf := F, keep := [(1, [2]), (0, [0])], loops := [], nt := 17, mild := [], own := [], asData := true }
theorem c18 : (Try.prog.funcs[21]?).bind (compF Try.prog k18) = some Fn.f18 := by kernel_rfl
def k19 : Cfg := { fnOf := F, keep := [(1, [8]), (0, [3, 1, 2, 0])], loops := [], nt := 22, mild := [], own := [], asData := true }
theorem c19 : (Try.prog.funcs[22]?).bind (compF Try.prog k19) = some Fn.f19 := by kernel_rfl
def k20 : Cfg := { fnOf := F, keep := [(15, [4]), (14, [37, 3, 2, 35, 36]), (13, [4]), (12, [46, 8, 37, 3, 2, 35, 36]), (11, [8, 37, 3, 2, 35, 36]), (10, [37, 7, 3, 2, 35, 36]), (9, [38, 37, 3, 2, 35, 36]), (8, [37, 3, 2, 35, 36]), (5, [5, 3, 2]), (7, [4]), (6, [33, 5, 3, 2]), (4, [16, 5, 3, 2]), (3, [5, 3, 2]), (2, [4]), (1, [11, 3, 2]), (0, [3, 2])], loops := [(4, [5, 3, 2], []), (9, [37, 3, 2, 35, 36], [])], nt := 49, mild := [10, 25, 31, 32, 44], own := [], asData := true }
theorem c20 : (Try.prog.funcs[23]?).bind (compF Try.prog k20) = some Fn.f20 := by kernel_rfl
def k21 : Cfg := { fnOf := F, keep := [(4, [4]), (3, [4]), (2, [25, 5, 2]), (1, [5, 2, 6]), (0, [2, 1])], loops := [], nt := 36, mild := [11], own := [], asData := true }
theorem c21 : (Try.prog.funcs[24]?).bind (compF Try.prog k21) = some Fn.f21 := by kernel_rfl
def k28 : Cfg := { fnOf := F, keep := [(10, [2]), (9, [13, 4, 3, 11, 12]), (8, [13, 4, 3, 11, 12]), (7, [33, 13, 6, 4, 3, 11, 12]), (6, [13, 6, 4, 5, 3, 11, 12]), (5, [14, 13, 4, 3, 11, 12]), (4, [13, 4, 3, 11, 12]), (3, [4, 3]), (2, [3]), (1, [3]), (0, [0])], loops := [(5, [13, 4, 3, 11, 12], [(4, none, 6)])], nt := 40, mild := [8, 29, 31], own := [], asData := true }
theorem c28 : (Try.prog.funcs[31]?).bind (compF Try.prog k28) = some Fn.f28 := by kernel_rfl
def k29 : Cfg := { fnOf := F, keep := [(1, [2]), (0, [2, 1])], loops := [], nt := 8, mild := [], own := [], asData := true }
theorem c29 : (Try.prog.funcs[32]?).bind (compF Try.prog k29) = some Fn.f29 := by kernel_rfl
def k30 : Cfg := { fnOf := F, keep := [(1, [4]), (0, [4, 2, 1])], loops := [], nt := 15, mild := [], own := [], asData := true }
theorem c30 : (Try.prog.funcs[33]?).bind (compF Try.prog k30) = some Fn.f30 := by kernel_rfl
def k31 : Cfg := { fnOf := F, keep := [(1, [4, 5]), (0, [3, 0])], loops := [], nt := 11, mild := [], own := [], asData := true }
theorem c31 : (Try.prog.funcs[34]?).bind (compF Try.prog k31) = some Fn.f31 := by kernel_rfl
def k32 : Cfg := { fnOf := F, keep := [(1, [2]), (0, [0])], loops := [], nt := 7, mild := [], own := [], asData := true }
theorem c32 : (Try.prog.funcs[35]?).bind (compF Try.prog k32) = some Fn.f32 := by kernel_rfl
def k33 : Cfg := { fnOf := F, keep := [(10, [6]), (9, [17, 2, 1, 15, 16]), (8, [6]), (7, [30, 17, 2, 1, 15, 16]), (6, [17, 9, 8, 2, 1, 15, 16]), (5, [17, 8, 2, 7, 1, 15, 16]), (4, [18, 17, 2, 1, 15, 16]), (3, [17, 2, 1, 15, 16]), (2, [6]), (1, [14, 2, 1, 0]), (0, [2, 1, 0])], loops := [(4, [17, 2, 1, 15, 16], [])], nt := 32, mild := [], own := [], asData := true }
theorem c33 : (Try.prog.funcs[36]?).bind (compF Try.prog k33) = some Fn.f33 := by kernel_rfl
def k34 : Cfg := { fnOf := F, keep := [(1, [4]), (0, [3, 2])], loops := [], nt := 17, mild := [6, 8, 15], own := [], asData := true }
theorem c34 : (Try.prog.funcs[37]?).bind (compF Try.prog k34) = some Fn.f34 := by kernel_rfl
def k35 : Cfg := { fnOf := F, keep := [(9, [4]), (8, [13, 1, 0, 12]), (7, [4]), (6, [24, 13, 1, 0, 12]), (5, [13, 5, 1, 0, 12]), (4, [14, 13, 1, 0, 12]), (3, [13, 1, 0, 12]), (2, [4]), (1, [10, 1, 0]), (0, [1, 0])], loops := [(4, [13, 1, 0, 12], [])], nt := 26, mild := [], own := [], asData := true }
theorem c35 : (Try.prog.funcs[38]?).bind (compF Try.prog k35) = some Fn.f35 := by kernel_rfl
def k36 : Cfg := { fnOf := F, keep := [(1, [2]), (0, [0])], loops := [], nt := 11, mild := [], own := [], asData := true }
theorem c36 : (Try.prog.funcs[39]?).bind (compF Try.prog k36) = some Fn.f36 := by kernel_rfl
def k37 : Cfg := { fnOf := F, keep := [(8, [2]), (7, [8, 3, 6, 7]), (6, [2]), (5, [14, 5, 8, 3, 6, 7]), (4, [5, 8, 3, 6, 7]), (3, [9, 8, 3, 6, 7]), (2, [8, 3, 6, 7]), (1, [3, 0]), (0, [0])], loops := [(3, [8, 3, 6, 7], [])], nt := 18, mild := [], own := [], asData := true }
theorem c37 : (Try.prog.funcs[40]?).bind (compF Try.prog k37) = some Fn.f37 := by kernel_rfl
def k38 : Cfg := { fnOf := F, keep := [(13, [4]), (12, [4]), (11, [19]), (10, [4]), (9, [16, 1, 0]), (8, [4]), (7, [13, 1, 0]), (6, [4]), (5, [4]), (4, [12]), (3, [11, 6, 1, 0]), (2, [6, 1, 0, 5]), (1, [1, 0, 5]), (0, [1, 0])], loops := [], nt := 20, mild := [8, 10], own := [], asData := true }
theorem c38 : (Try.prog.funcs[41]?).bind (compF Try.prog k38) = some Fn.f38 := by kernel_rfl
def k39 : Cfg := { fnOf := F, keep := [(10, [2]), (7, [3, 1]), (9, [2]), (8, [46, 3, 1]), (6, [32, 3, 1]), (5, [3, 1]), (4, [2]), (3, [27, 1]), (2, [2]), (1, [23, 1]), (0, [1])], loops := [(6, [3, 1], [])], nt := 47, mild := [6, 13, 21], own := [], asData := true }
theorem c39 : (Try.prog.funcs[42]?).bind (compF Try.prog k39) = some Fn.f39 := by kernel_rfl
def k40 : Cfg := { fnOf := F, keep := [(15, [6]), (14, [6]), (13, [67]), (12, [6]), (11, [60, 5, 8]), (10, [5, 8]), (9, [51, 5, 9, 4, 8]), (8, [5, 9, 4, 8, 10]), (7, [41, 5, 4, 8]), (6, [5, 4, 8]), (5, [6]), (4, [34, 7, 5, 4]), (3, [7, 5, 4]), (2, [6]), (1, [27, 5, 4, 3]), (0, [5, 4, 3])], loops := [], nt := 68, mild := [13, 25, 31, 38, 48, 66], own := [], asData := true }
theorem c40 : (Try.prog.funcs[43]?).bind (compF Try.prog k40) = some Fn.f40 := by kernel_rfl
def k41 : Cfg := { fnOf := F, keep := [(1, [4, 5]), (0, [3, 2])], loops := [], nt := 12, mild := [], own := [], asData := true }
theorem c41 : (Try.prog.funcs[44]?).bind (compF Try.prog k41) = some Fn.f41 := by kernel_rfl
def k44 : Cfg := { fnOf := F, keep := [(3, [2]), (2, [2]), (1, [4, 0]), (0, [0])], loops := [], nt := 8, mild := [], own := [5], asData := true }
theorem c44 : (Try.prog.funcs[47]?).bind (compF Try.prog k44) = some Fn.f44 := by kernel_rfl
def k45 : Cfg := { fnOf := F, keep := [], loops := [], nt := 9, mild := [], own := [], asData := true }
theorem c45 : (Try.prog.funcs[48]?).bind (compF Try.prog k45) = some Fn.f45 := by kernel_rfl
def k46 : Cfg := { fnOf := F, keep := [(1, [4]), (0, [3, 2])], loops := [], nt := 10, mild := [6, 8, 9], own := [], asData := true }
theorem c46 : (Try.prog.funcs[49]?).bind (compF Try.prog k46) = some Fn.f46 := by kernel_rfl
def k47 : Cfg := { fnOf := F, keep := [(8, [6, 7]), (6, [4, 0, 2, 10, 9, 8]), (7, [4, 0, 2, 10, 9, 8]), (5, [31, 11, 4, 0, 2, 10, 8, 9]), (4, [11, 4, 0, 2, 10, 8, 9]), (3, [17, 4, 0, 2, 10, 9, 8]), (2, [4, 0, 2, 10, 9, 8]), (1, [4, 0, 2, 8]), (0, [4, 0, 2])], loops := [(3, [4, 0, 2, 10, 9, 8], [])], nt := 49, mild := [], own := [], asData := true }
theorem c47 : (Try.prog.funcs[50]?).bind (compF Try.prog k47) = some Fn.f47 := by kernel_rfl
def k48 : Cfg := { fnOf := F, keep := [(1, [4]), (0, [3, 2])], loops := [], nt := 9, mild := [6, 8], own := [], asData := true }
theorem c48 : (Try.prog.funcs[51]?).bind (compF Try.prog k48) = some Fn.f48 := by kernel_rfl
def k49 : Cfg := { fnOf := F, keep := [(1, [2]), (0, [0])], loops := [], nt := 6, mild := [], own := [], asData := true }
theorem c49 : (Try.prog.funcs[52]?).bind (compF Try.prog k49) = some Fn.f49 := by kernel_rfl
def k50 : Cfg := { fnOf := F, keep := [(9, [4]), (8, [12, 0, 1, 10, 11]), (7, [4]), (6, [37, 12, 0, 1, 10, 11]), (5, [12, 6, 5, 0, 1, 10, 11]), (4, [13, 12, 0, 1, 10, 11]), (3, [12, 0, 1, 10, 11]), (2, [4]), (1, [9, 0, 1]), (0, [0, 1])], loops := [(4, [12, 0, 1, 10, 11], [])], nt := 39, mild := [18], own := [], asData := true }
theorem c50 : (Try.prog.funcs[53]?).bind (compF Try.prog k50) = some Fn.f50 := by kernel_rfl
def k51 : Cfg := { fnOf := F, keep := [(14, [6]), (13, [6]), (12, [45]), (11, [10]), (10, [8, 4, 3]), (9, [33, 4, 3, 8]), (8, [4, 3, 8, 7]), (7, [6]), (6, [6]), (5, [31]), (4, [28, 7, 2, 4, 3]), (3, [6]), (2, [26, 7, 2, 4, 3]), (1, [7, 2, 4, 3]), (0, [2, 4, 3])], loops := [], nt := 46, mild := [41], own := [], asData := true }
theorem c51 : (Try.prog.funcs[54]?).bind (compF Try.prog k51) = some Fn.f51 := by kernel_rfl
def k52 : Cfg := { fnOf := F, keep := [(3, [6]), (2, [6]), (1, [17, 5, 1, 0]), (0, [5, 1, 0])], loops := [], nt := 22, mild := [21], own := [], asData := true }
theorem c52 : (Try.prog.funcs[55]?).bind (compF Try.prog k52) = some Fn.f52 := by kernel_rfl
def k53 : Cfg := { fnOf := F, keep := [(8, [6, 7]), (6, [4, 0, 2, 10, 9, 8]), (7, [4, 0, 2, 10, 9, 8]), (5, [31, 11, 4, 0, 2, 10, 8, 9]), (4, [11, 4, 0, 2, 10, 8, 9]), (3, [17, 4, 0, 2, 10, 9, 8]), (2, [4, 0, 2, 10, 9, 8]), (1, [4, 0, 2, 8]), (0, [4, 0, 2])], loops := [(3, [4, 0, 2, 10, 9, 8], [])], nt := 49, mild := [], own := [], asData := true }
theorem c53 : (Try.prog.funcs[56]?).bind (compF Try.prog k53) = some Fn.f53 := by kernel_rfl
def k54 : Cfg := { fnOf := F, keep := [(1, [4]), (0, [3, 2])], loops := [], nt := 9, mild := [6, 8], own := [], asData := true }
theorem c54 : (Try.prog.funcs[57]?).bind (compF Try.prog k54) = some Fn.f54 := by kernel_rfl
def k55 : Cfg := { fnOf := F, keep := [(16, [6, 2, 0, 1]), (15, [6, 2, 0, 1]), (14, [54, 6, 2, 1, 9, 7, 0]), (13, [6, 2, 1, 9, 7, 0]), (12, [6, 8, 2, 7, 0, 1]), (11, [6, 8, 2, 7, 0, 1]), (10, [6, 8, 2, 0, 1]), (9, [35, 6, 8, 2, 7, 0, 1]), (8, [6, 8, 2, 7, 0, 1]), (7, [30, 6, 2, 0, 1]), (6, [6, 2, 0, 1]), (5, [6, 8, 2, 7, 0, 1]), (4, [6, 8, 2, 7, 0, 1]), (3, [6, 8, 2, 0, 1]), (2, [13, 6, 8, 2, 7, 0, 1]), (1, [6, 8, 2, 7, 0, 1]), (0, [6, 2, 0, 1])], loops := [(2, [6, 8, 2, 7, 0, 1], []), (7, [6, 2, 0, 1], []), (9, [6, 8, 2, 7, 0, 1], [])], nt := 63, mild := [], own := [], asData := true }
theorem c55 : (Try.prog.funcs[58]?).bind (compF Try.prog k55) = some Fn.f55 := by kernel_rfl
def k56 : Cfg := { fnOf := F, keep := [(17, [6]), (16, [7, 5]), (15, [6]), (14, [47, 5, 1, 0]), (7, [6]), (9, [6]), (11, [6]), (13, [6]), (12, [34, 5, 0, 1]), (10, [29, 5, 0, 1, 17]), (8, [24, 5, 0, 1, 17]), (6, [18, 0, 5, 1, 17]), (5, [0, 5, 1, 17]), (4, [6]), (3, [16, 0, 5, 1]), (2, [6]), (1, [10, 0, 5, 1]), (0, [0, 5, 1])], loops := [], nt := 65, mild := [28, 33, 40, 63], own := [], asData := true }
theorem c56 : (Try.prog.funcs[59]?).bind (compF Try.prog k56) = some Fn.f56 := by kernel_rfl
def k57 : Cfg := { fnOf := F, keep := [(2, [0, 8, 3, 1, 2]), (5, [9, 0, 8, 3, 1, 2]), (6, [9, 0, 8, 3, 1, 2]), (4, [34, 9, 0, 8, 3, 1, 2]), (3, [9, 0, 8, 3, 1, 2]), (1, [14, 0, 8, 3, 1, 2]), (0, [0, 8, 3, 1, 2])], loops := [(1, [0, 8, 3, 1, 2], []), (4, [9, 0, 8, 3, 1, 2], [])], nt := 53, mild := [], own := [], asData := true }
theorem c57 : (Try.prog.funcs[60]?).bind (compF Try.prog k57) = some Fn.f57 := by kernel_rfl
def k58 : Cfg := { fnOf := F, keep := [(43, [213, 4, 3, 24, 18, 0]), (42, [4, 3, 24, 18, 0]), (41, [199, 4, 3, 24, 18, 0, 20, 1]), (40, [4, 3, 24, 18, 0, 20, 1]), (39, [185, 4, 3, 24, 18, 0, 20, 1, 2]), (38, [4, 3, 24, 18, 0, 20, 1, 2]), (36, [0, 22, 4, 21, 20, 3, 18, 1, 2, 19]), (37, [0, 22, 4, 21, 20, 3, 18, 1, 2, 19]), (35, [171, 23, 0, 22, 4, 21, 3, 18, 1, 2, 19, 20]), (34, [23, 0, 22, 4, 21, 3, 18, 1, 2, 19, 20]), (33, [151, 0, 22, 4, 21, 20, 3, 18, 1, 2, 19]), (32, [0, 22, 4, 21, 20, 3, 18, 1, 2, 19]), (29, [0, 4, 21, 20, 3, 18, 1, 2, 19]), (28, [0, 4, 20, 3, 18, 1, 2, 19]), (31, [0, 4, 21, 20, 3, 18, 1, 2, 19]), (30, [0, 4, 20, 3, 18, 1, 2, 19]), (27, [140, 0, 4, 3, 18, 1, 2, 19]), (26, [0, 4, 3, 18, 1, 2, 19]), (25, [0, 4, 3, 18, 1, 2, 19]), (24, [0, 4, 3, 18, 1, 2]), (22, [17, 0, 14]), (23, [17, 0, 14]), (21, [110, 17, 0, 14]), (20, [17, 0, 14]), (18, [0, 2, 4, 15, 14]), (19, [0, 2, 4, 15, 14]), (17, [103, 16, 0, 2, 4, 15, 14]), (16, [16, 0, 2, 4, 15, 14]), (15, [85, 0, 2, 4, 15, 14]), (14, [0, 2, 4, 15, 14]), (13, [0, 2, 4, 14]), (12, [80, 0, 2, 4, 1, 3]), (10, [13, 0, 10]), (11, [13, 0, 10]), (9, [58, 13, 0, 10]), (8, [13, 0, 10]), (6, [1, 0, 4, 11, 10]), (7, [1, 0, 4, 11, 10]), (5, [50, 12, 1, 0, 4, 11, 10]), (4, [12, 1, 0, 4, 11, 10]), (3, [33, 1, 0, 4, 11, 10]), (2, [1, 0, 4, 11, 10]), (1, [1, 0, 4, 10, 3]), (0, [28, 1, 0, 4, 3, 2])], loops := [(3, [1, 0, 4, 11, 10], []), (9, [13, 0, 10], []), (15, [0, 2, 4, 15, 14], []), (21, [17, 0, 14], []), (33, [0, 22, 4, 21, 20, 3, 18, 1, 2, 19], [])], nt := 220, mild := [], own := [], asData := true }
theorem c58 : (Try.prog.funcs[61]?).bind (compF Try.prog k58) = some Fn.f58 := by kernel_rfl
def k59 : Cfg := { fnOf := F, keep := [(12, [4]), (7, [4]), (11, [4]), (10, [25, 3]), (9, [25, 3, 19]), (8, [25, 3, 19]), (6, [20, 3, 19]), (5, [3, 19]), (4, [4]), (3, [17, 3]), (2, [4]), (1, [6, 3]), (0, [3, 0])], loops := [], nt := 32, mild := [15, 24], own := [], asData := true }
theorem c59 : (Try.prog.funcs[62]?).bind (compF Try.prog k59) = some Fn.f59 := by kernel_rfl
def k60 : Cfg := { fnOf := F, keep := [(10, [4]), (6, [4]), (9, [4]), (8, [18, 3]), (7, [18, 3, 10]), (5, [11, 3, 10]), (4, [11, 3, 10]), (3, [3, 10]), (2, [4]), (1, [9, 3, 0]), (0, [3, 0])], loops := [], nt := 25, mild := [16, 23], own := [], asData := true }
theorem c60 : (Try.prog.funcs[63]?).bind (compF Try.prog k60) = some Fn.f60 := by kernel_rfl
def k61 : Cfg := { fnOf := F, keep := [(39, [2]), (16, [2]), (18, [2]), (20, [2]), (22, [2]), (24, [2]), (26, [2]), (30, [2]), (29, [2]), (28, [87, 1, 3, 4]), (34, [2]), (33, [2]), (32, [105, 1, 3, 4]), (38, [2]), (37, [2]), (36, [122, 1, 3, 4]), (35, [118, 1, 3, 4]), (31, [101, 1, 3, 4, 26]), (27, [83, 1, 3, 4, 26]), (25, [73, 1, 3, 4, 26]), (23, [65, 1, 4, 3, 26]), (21, [58, 3, 4, 1, 26]), (19, [51, 3, 4, 1, 26]), (17, [44, 3, 4, 1, 26]), (15, [27, 1, 4, 3, 26]), (14, [27, 1, 4, 3, 26]), (13, [27, 1, 4, 3, 26]), (12, [27, 1, 4, 3, 26]), (11, [27, 1, 4, 3, 26]), (10, [27, 1, 4, 3, 26]), (9, [27, 1, 4, 3, 26]), (8, [27, 1, 4, 3, 26]), (7, [27, 1, 4, 3, 26]), (6, [27, 1, 4, 3, 26]), (5, [1, 4, 3, 26]), (4, [1, 4, 3]), (3, [1, 3]), (2, [2]), (1, [13, 1]), (0, [1])], loops := [], nt := 135, mild := [11, 16, 71], own := [], asData := true }
theorem c61 : (Try.prog.funcs[64]?).bind (compF Try.prog k61) = some Fn.f61 := by kernel_rfl
def k62 : Cfg := { fnOf := F, keep := [(14, [4]), (4, [6, 5, 0, 1]), (7, [4]), (9, [6, 5, 0, 1]), (11, [6, 5, 0, 1]), (13, [4]), (12, [28, 6, 5, 0, 1]), (10, [25, 6, 7, 0, 1, 5]), (8, [21, 6, 7, 0, 1, 5]), (6, [17, 6, 7, 5, 0, 1]), (5, [6, 7, 5, 0, 1]), (3, [11, 6, 5, 0, 1]), (2, [6, 5, 0, 1]), (1, [5, 0, 1]), (0, [0, 1])], loops := [(3, [6, 5, 0, 1], [])], nt := 37, mild := [19, 30], own := [], asData := true }
theorem c62 : (Try.prog.funcs[65]?).bind (compF Try.prog k62) = some Fn.f62 := by kernel_rfl
def k63 : Cfg := { fnOf := F, keep := [(5, [11, 10, 4, 2, 0]), (4, [11, 10, 4, 2, 0]), (7, [11, 10, 4, 2, 0]), (6, [10, 11, 4, 2, 0]), (3, [23, 11, 10, 4, 2, 0]), (2, [20, 11, 10, 4, 2, 0]), (1, [11, 10, 4, 2, 0]), (0, [10, 4, 2, 0, 3])], loops := [(2, [11, 10, 4, 2, 0], [])], nt := 58, mild := [], own := [], asData := true }
theorem c63 : (Try.prog.funcs[66]?).bind (compF Try.prog k63) = some Fn.f63 := by kernel_rfl
def k64 : Cfg := { fnOf := F, keep := [(9, [2]), (8, [14, 0, 13]), (7, [2]), (6, [26, 14, 0, 13]), (5, [14, 3, 0, 13]), (4, [15, 14, 0, 13]), (3, [14, 0, 13]), (2, [2]), (1, [11, 0]), (0, [0])], loops := [(4, [14, 0, 13], [])], nt := 34, mild := [], own := [], asData := true }
theorem c64 : (Try.prog.funcs[67]?).bind (compF Try.prog k64) = some Fn.f64 := by kernel_rfl
def k65 : Cfg := { fnOf := F, keep := [(6, [2]), (5, [2]), (4, [21, 3]), (3, [3, 0, 4, 5]), (2, [2]), (1, [7, 0]), (0, [0])], loops := [], nt := 23, mild := [10], own := [], asData := true }
theorem c65 : (Try.prog.funcs[68]?).bind (compF Try.prog k65) = some Fn.f65 := by kernel_rfl
def k66 : Cfg := { fnOf := F, keep := [(8, [2]), (7, [2]), (6, [4]), (5, [4, 3]), (4, [4, 3]), (3, [4, 3]), (2, [4, 3]), (1, [3]), (0, [0])], loops := [], nt := 10, mild := [], own := [], asData := true }
theorem c66 : (Try.prog.funcs[69]?).bind (compF Try.prog k66) = some Fn.f66 := by kernel_rfl
def k67 : Cfg := { fnOf := F, keep := [(1, [2]), (0, [0])], loops := [], nt := 13, mild := [4], own := [], asData := true }
theorem c67 : (Try.prog.funcs[70]?).bind (compF Try.prog k67) = some Fn.f67 := by kernel_rfl
def k68 : Cfg := { fnOf := F, keep := [(1, [2]), (0, [0])], loops := [], nt := 17, mild := [], own := [], asData := true }
theorem c68 : (Try.prog.funcs[71]?).bind (compF Try.prog k68) = some Fn.f68 := by kernel_rfl
def k69 : Cfg := { fnOf := F, keep := [(2, [10, 1, 0, 2, 3]), (3, [10, 1, 0, 2, 3]), (1, [13, 10, 1, 0, 2, 3]), (0, [10, 1, 0, 2, 3])], loops := [(1, [10, 1, 0, 2, 3], [])], nt := 38, mild := [], own := [], asData := true }
theorem c69 : (Try.prog.funcs[72]?).bind (compF Try.prog k69) = some Fn.f69 := by kernel_rfl
def k70 : Cfg := { fnOf := F, keep := [(16, [2, 3, 4]), (3, [2, 3, 4]), (5, [2, 3, 4]), (8, [2, 3, 4]), (7, [4, 3]), (11, [2, 3, 4]), (10, [4, 3]), (13, [2, 3, 4]), (15, [2, 3, 4]), (14, [53]), (12, [40, 5]), (9, [30, 0, 5]), (6, [20, 0, 5]), (4, [12, 0, 5]), (2, [8, 0, 5]), (1, [0, 5]), (0, [0])], loops := [], nt := 57, mild := [10, 14, 16, 22, 25, 35, 55], own := [], asData := true }
theorem c70 : (Try.prog.funcs[73]?).bind (compF Try.prog k70) = some Fn.f70 := by kernel_rfl
def k71 : Cfg := { fnOf := F, keep := [(1, [2]), (0, [0])], loops := [], nt := 9, mild := [4, 7], own := [], asData := true }
theorem c71 : (Try.prog.funcs[74]?).bind (compF Try.prog k71) = some Fn.f71 := by kernel_rfl
def k72 : Cfg := { fnOf := F, keep := [(19, [2, 3, 4]), (14, [2, 3, 4]), (16, [2, 3, 4]), (18, [2, 3, 4]), (17, [78, 3]), (15, [75, 3, 0]), (13, [72, 3, 0, 5]), (12, [2, 3, 4]), (7, [2, 3, 4]), (9, [2, 3, 4]), (11, [2, 3, 4]), (10, [64, 7]), (8, [57, 7, 3, 0]), (6, [50, 7, 3, 0]), (5, [7, 3, 0, 6]), (4, [3, 0, 6]), (3, [40, 3, 0, 5]), (2, [3, 0, 5]), (1, [3, 0]), (0, [0])], loops := [], nt := 84, mild := [9, 13, 16, 39, 45, 63, 69, 81], own := [], asData := true }
theorem c72 : (Try.prog.funcs[75]?).bind (compF Try.prog k72) = some Fn.f72 := by kernel_rfl
def k73 : Cfg := { fnOf := F, keep := [(1, [2]), (0, [0])], loops := [], nt := 9, mild := [], own := [], asData := true }
theorem c73 : (Try.prog.funcs[76]?).bind (compF Try.prog k73) = some Fn.f73 := by kernel_rfl
def k74 : Cfg := { fnOf := F, keep := [(8, [2, 3]), (7, [2, 3]), (6, [25, 4]), (5, [2, 3]), (4, [23, 4]), (3, [4, 0]), (2, [14, 4, 0]), (1, [4, 0]), (0, [0])], loops := [(2, [4, 0], [])], nt := 27, mild := [13], own := [], asData := true }
theorem c74 : (Try.prog.funcs[77]?).bind (compF Try.prog k74) = some Fn.f74 := by kernel_rfl
def k75 : Cfg := { fnOf := F, keep := [(10, [2, 3]), (3, [4, 0]), (9, [28, 4, 0]), (8, [2, 3]), (7, [20, 4, 5, 0]), (6, [2, 3]), (5, [17, 4, 5, 0]), (4, [4, 5, 0]), (2, [9, 4, 0]), (1, [4, 0]), (0, [0])], loops := [(2, [4, 0], [])], nt := 29, mild := [16], own := [], asData := true }
theorem c75 : (Try.prog.funcs[78]?).bind (compF Try.prog k75) = some Fn.f75 := by kernel_rfl
def k76 : Cfg := { fnOf := F, keep := [(1, [4]), (0, [1, 0])], loops := [], nt := 8, mild := [7], own := [], asData := true }
theorem c76 : (Try.prog.funcs[79]?).bind (compF Try.prog k76) = some Fn.f76 := by kernel_rfl
def k77 : Cfg := { fnOf := F, keep := [(1, [2]), (0, [0])], loops := [], nt := 9, mild := [], own := [], asData := true }
theorem c77 : (Try.prog.funcs[80]?).bind (compF Try.prog k77) = some Fn.f77 := by kernel_rfl
def k78 : Cfg := { fnOf := F, keep := [(1, [2]), (0, [0])], loops := [], nt := 9, mild := [], own := [], asData := true }
theorem c78 : (Try.prog.funcs[81]?).bind (compF Try.prog k78) = some Fn.f78 := by kernel_rfl
def k79 : Cfg := { fnOf := F, keep := [(4, [2]), (3, [3, 0]), (2, [25, 3, 0]), (1, [3, 0]), (0, [0])], loops := [(2, [3, 0], [])], nt := 29, mild := [12, 17], own := [], asData := true }
theorem c79 : (Try.prog.funcs[82]?).bind (compF Try.prog k79) = some Fn.f79 := by kernel_rfl
def k80 : Cfg := { fnOf := F, keep := [(17, [2]), (12, [2]), (16, [2]), (15, [15]), (14, [15, 3]), (13, [15, 3]), (11, [4, 3]), (10, [4, 3]), (9, [4, 3]), (8, [4, 3]), (7, [4, 3]), (6, [4, 3]), (5, [4, 3]), (4, [4, 3]), (3, [4, 3]), (2, [4, 3]), (1, [3]), (0, [0])], loops := [], nt := 19, mild := [], own := [], asData := true }
theorem c80 : (Try.prog.funcs[83]?).bind (compF Try.prog k80) = some Fn.f80 := by kernel_rfl
theorem codes : ∀ p ∈ F, CodeAt Try.prog F P0 p := List.forall_mem_cons.2 ⟨codeAt_of c0 rfl rfl,
 List.forall_mem_cons.2 ⟨codeAt_none rfl,
 List.forall_mem_cons.2 ⟨codeAt_none rfl,
 List.forall_mem_cons.2 ⟨codeAt_of c3 rfl rfl,
 List.forall_mem_cons.2 ⟨codeAt_of c4 rfl rfl,
 List.forall_mem_cons.2 ⟨codeAt_of c5 rfl rfl,
 List.forall_mem_cons.2 ⟨codeAt_of c6 rfl rfl,
 List.forall_mem_cons.2 ⟨codeAt_none rfl,
 List.forall_mem_cons.2 ⟨codeAt_none rfl,
 List.forall_mem_cons.2 ⟨codeAt_of c9 rfl rfl,
 List.forall_mem_cons.2 ⟨codeAt_none rfl,
 List.forall_mem_cons.2 ⟨codeAt_none rfl,
 List.forall_mem_cons.2 ⟨codeAt_of c12 rfl rfl,
 List.forall_mem_cons.2 ⟨codeAt_of c13 rfl rfl,
 List.forall_mem_cons.2 ⟨codeAt_of c14 rfl rfl,
 List.forall_mem_cons.2 ⟨codeAt_of c15 rfl rfl,
 List.forall_mem_cons.2 ⟨codeAt_of c16 rfl rfl,
 List.forall_mem_cons.2 ⟨codeAt_of c17 rfl rfl,
 List.forall_mem_cons.2 ⟨codeAt_of c18 rfl rfl,
 List.forall_mem_cons.2 ⟨codeAt_of c19 rfl rfl,
 List.forall_mem_cons.2 ⟨codeAt_of c20 rfl rfl,
 List.forall_mem_cons.2 ⟨codeAt_of c21 rfl rfl,
 List.forall_mem_cons.2 ⟨codeAt_none rfl,
 List.forall_mem_cons.2 ⟨codeAt_none rfl,
 List.forall_mem_cons.2 ⟨codeAt_none rfl,
 List.forall_mem_cons.2 ⟨codeAt_none rfl,
 List.forall_mem_cons.2 ⟨codeAt_none rfl,
 List.forall_mem_cons.2 ⟨codeAt_none rfl,
 List.forall_mem_cons.2 ⟨codeAt_of c28 rfl rfl,
 List.forall_mem_cons.2 ⟨codeAt_of c29 rfl rfl,
 List.forall_mem_cons.2 ⟨codeAt_of c30 rfl rfl,
 List.forall_mem_cons.2 ⟨codeAt_of c31 rfl rfl,
 List.forall_mem_cons.2 ⟨codeAt_of c32 rfl rfl,
 List.forall_mem_cons.2 ⟨codeAt_of c33 rfl rfl,
 List.forall_mem_cons.2 ⟨codeAt_of c34 rfl rfl,
 List.forall_mem_cons.2 ⟨codeAt_of c35 rfl rfl,
 List.forall_mem_cons.2 ⟨codeAt_of c36 rfl rfl,
 List.forall_mem_cons.2 ⟨codeAt_of c37 rfl rfl,
 List.forall_mem_cons.2 ⟨codeAt_of c38 rfl rfl,
 List.forall_mem_cons.2 ⟨codeAt_of c39 rfl rfl,
 List.forall_mem_cons.2 ⟨codeAt_of c40 rfl rfl,
 List.forall_mem_cons.2 ⟨codeAt_of c41 rfl rfl,
 List.forall_mem_cons.2 ⟨codeAt_none rfl,
 List.forall_mem_cons.2 ⟨codeAt_none rfl,
 List.forall_mem_cons.2 ⟨codeAt_of c44 rfl rfl,
 List.forall_mem_cons.2 ⟨codeAt_of c45 rfl rfl,
 List.forall_mem_cons.2 ⟨codeAt_of c46 rfl rfl,
 List.forall_mem_cons.2 ⟨codeAt_of c47 rfl rfl,
 List.forall_mem_cons.2 ⟨codeAt_of c48 rfl rfl,
 List.forall_mem_cons.2 ⟨codeAt_of c49 rfl rfl,
 List.forall_mem_cons.2 ⟨codeAt_of c50 rfl rfl,
 List.forall_mem_cons.2 ⟨codeAt_of c51 rfl rfl,
 List.forall_mem_cons.2 ⟨codeAt_of c52 rfl rfl,
 List.forall_mem_cons.2 ⟨codeAt_of c53 rfl rfl,
 List.forall_mem_cons.2 ⟨codeAt_of c54 rfl rfl,
 List.forall_mem_cons.2 ⟨codeAt_of c55 rfl rfl,
 List.forall_mem_cons.2 ⟨codeAt_of c56 rfl rfl,
 List.forall_mem_cons.2 ⟨codeAt_of c57 rfl rfl,
 List.forall_mem_cons.2 ⟨codeAt_of c58 rfl rfl,
 List.forall_mem_cons.2 ⟨codeAt_of c59 rfl rfl,
 List.forall_mem_cons.2 ⟨codeAt_of c60 rfl rfl,
 List.forall_mem_cons.2 ⟨codeAt_of c61 rfl rfl,
 List.forall_mem_cons.2 ⟨codeAt_of c62 rfl rfl,
 List.forall_mem_cons.2 ⟨codeAt_of c63 rfl rfl,
 List.forall_mem_cons.2 ⟨codeAt_of c64 rfl rfl,
 List.forall_mem_cons.2 ⟨codeAt_of c65 rfl rfl,
 List.forall_mem_cons.2 ⟨codeAt_of c66 rfl rfl,
 List.forall_mem_cons.2 ⟨codeAt_of c67 rfl rfl,
 List.forall_mem_cons.2 ⟨codeAt_of c68 rfl rfl,
 List.forall_mem_cons.2 ⟨codeAt_of c69 rfl rfl,
 List.forall_mem_cons.2 ⟨codeAt_of c70 rfl rfl,
 List.forall_mem_cons.2 ⟨codeAt_of c71 rfl rfl,
 List.forall_mem_cons.2 ⟨codeAt_of c72 rfl rfl,
 List.forall_mem_cons.2 ⟨codeAt_of c73 rfl rfl,
 List.forall_mem_cons.2 ⟨codeAt_of c74 rfl rfl,
 List.forall_mem_cons.2 ⟨codeAt_of c75 rfl rfl,
 List.forall_mem_cons.2 ⟨codeAt_of c76 rfl rfl,
 List.forall_mem_cons.2 ⟨codeAt_of c77 rfl rfl,
 List.forall_mem_cons.2 ⟨codeAt_of c78 rfl rfl,
 List.forall_mem_cons.2 ⟨codeAt_of c79 rfl rfl,
 List.forall_mem_cons.2 ⟨codeAt_of c80 rfl rfl,
 List.forall_mem_cons.2 ⟨codeAt_none rfl,
 List.forall_mem_nil _⟩⟩⟩⟩⟩⟩⟩⟩⟩⟩⟩⟩⟩⟩⟩⟩⟩⟩⟩⟩⟩⟩⟩⟩⟩⟩⟩⟩⟩⟩⟩⟩⟩⟩⟩⟩⟩⟩⟩⟩⟩⟩⟩⟩⟩⟩⟩⟩⟩⟩⟩⟩⟩⟩⟩⟩⟩⟩⟩⟩⟩⟩⟩⟩⟩⟩⟩⟩⟩⟩⟩⟩⟩⟩⟩⟩⟩⟩⟩⟩⟩⟩
theorem ok : ProgOk Try.prog F P0 := progOk_of (by kernel_rfl) (by kernel_rfl) codes (fun _ _ _ => rfl)
end Go.Aiv.Chk
