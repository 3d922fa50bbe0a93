/- Functions of the program, as plain functions. Part 1. -/
import Derived.Test.YtphppkakojdhbaaTypes
set_option linter.unusedSimpArgs false
set_option linter.unusedVariables false
set_option maxRecDepth 10000
namespace Go.Aiv
def f3_k1 {ρ : Type} (K : Ex × St → W ρ) (p1 : List Slot) : (Int × Int) → W ((Int × Int) ⊕ ρ) := fun z1 =>
  cond (decide (z1.1 < (p1.length : Int))) (
    cond (decide (z1.2 ≤ 200)) (
      W.idx p1 z1.1 fun (e1 : Slot) =>
      .pure (.inl ((w64 (z1.1 + 1)), (w64 (z1.2 + (e1.alts.length : Int)))))) (
      (K (.exit 0, ⟨[(16, .v (.c (.d (.bool false)))), (4, .v (.c (.d (.int .i64 z1.1)))), (1, .v (.c (.ptr (.l 0) 0))), (3, .v (.c (.d (.int .i64 z1.2))))], [.box [.d (.vec (p1.map Slot.enc))]], []⟩)).bind fun x => .pure (.inr x))) (
    (K (.exit 0, ⟨[(16, .v (.c (.d (.bool false)))), (4, .v (.c (.d (.int .i64 z1.1)))), (1, .v (.c (.ptr (.l 0) 0))), (3, .v (.c (.d (.int .i64 z1.2))))], [.box [.d (.vec (p1.map Slot.enc))]], []⟩)).bind fun x => .pure (.inr x))
theorem f3_l1 {ρ : Type} (K : Ex × St → W ρ) (p1 : List Slot) (a1 : Int) (a2 : Int) : LN P0 Fn.f3_b1 [4, 1, 3] [] ⟨[(4, .v (.c (.d (.int .i64 a1)))), (1, .v (.c (.ptr (.l 0) 0))), (3, .v (.c (.d (.int .i64 a2))))], [.box [.d (.vec (p1.map Slot.enc))]], []⟩ K = W.run (fun z => f3_k1 K p1 z) (a1, a2) := by
  refine LN_run (S := fun z1 => ⟨[(4, .v (.c (.d (.int .i64 z1.1)))), (1, .v (.c (.ptr (.l 0) 0))), (3, .v (.c (.d (.int .i64 z1.2))))], [.box [.d (.vec (p1.map Slot.enc))]], []⟩) (step := f3_k1 K p1) (x := (a1, a2)) ?_
  intro z1
  unfold Fn.f3_b1
  simp only [f3_k1, go_sem, ↓reduceIte, Nat.reduceEqDiff, Nat.reduceAdd, Nat.reduceSub, Nat.reduceMul, Nat.reduceLT, Nat.reduceLeDiff, Nat.reduceBEq, Nat.reduceBNe, Nat.reduceSubDiff, Nat.reduceBeqDiff, Int.reduceAdd, Int.reduceSub, Int.reduceMul, Int.reduceNeg, Int.reduceLT, Int.reduceLE, Int.reduceEq, Int.reduceNe, Int.reduceBEq, Int.reduceBNe, Int.reduceToNat, Int.reducePow, Int.reduceTDiv, Int.reduceTMod]
def f3_s1 (p1 : List Slot) : (Int × Int) → W ((Int × Int) ⊕ (Bool)) := fun z1 =>
  cond (decide (z1.1 < (p1.length : Int))) (
    cond (decide (z1.2 ≤ 200)) (
      W.idx p1 z1.1 fun (e1 : Slot) =>
      .pure (.inl ((w64 (z1.1 + 1)), (w64 (z1.2 + (e1.alts.length : Int)))))) (
      .pure (.inr (decide (z1.2 ≤ 200))))) (
    .pure (.inr (decide (z1.2 ≤ 200))))
/-- semvcs/semvcslaw25.small -/
def f3 (x0 : List Slot) : W (Bool) :=
  W.run (fun z => f3_s1 x0 z) (0, (x0.length : Int))
theorem f3_eq (x0 : List Slot) : WR P0 3 [.agg [.d (.vec (x0.map Slot.enc))]] [] = (f3 x0).bind fun r => .pure ⟨.v (.c (.d (.bool r))), [], []⟩ := by
  rw [WR_code (sf := Fn.f3) rfl rfl]
  dsimp only [Fn.f3]
  simp only [f3, f3_k1, f3_s1, f3_l1, go_sem, ↓reduceIte, Nat.reduceEqDiff, Nat.reduceAdd, Nat.reduceSub, Nat.reduceMul, Nat.reduceLT, Nat.reduceLeDiff, Nat.reduceBEq, Nat.reduceBNe, Nat.reduceSubDiff, Nat.reduceBeqDiff, Int.reduceAdd, Int.reduceSub, Int.reduceMul, Int.reduceNeg, Int.reduceLT, Int.reduceLE, Int.reduceEq, Int.reduceNe, Int.reduceBEq, Int.reduceBNe, Int.reduceToNat, Int.reducePow, Int.reduceTDiv, Int.reduceTMod]

/-- semvcs/ident.based -/
def f36 (x0 : Int) : W (Bool) :=
  cond (decide ((1 : Int) ≤ (x0.fdiv 1048576))) (
    .pure (decide ((x0.fdiv 1048576) ≤ 32))) (
    .pure false)
theorem f36_eq (x0 : Int) : WR P0 36 [.c (.d (.int .i64 x0))] [] = (f36 x0).bind fun r => .pure ⟨.v (.c (.d (.bool r))), [], []⟩ := by
  rw [WR_code (sf := Fn.f36) rfl rfl]
  dsimp only [Fn.f36]
  simp only [f36, go_sem, ↓reduceIte, Nat.reduceEqDiff, Nat.reduceAdd, Nat.reduceSub, Nat.reduceMul, Nat.reduceLT, Nat.reduceLeDiff, Nat.reduceBEq, Nat.reduceBNe, Nat.reduceSubDiff, Nat.reduceBeqDiff, Int.reduceAdd, Int.reduceSub, Int.reduceMul, Int.reduceNeg, Int.reduceLT, Int.reduceLE, Int.reduceEq, Int.reduceNe, Int.reduceBEq, Int.reduceBNe, Int.reduceToNat, Int.reducePow, Int.reduceTDiv, Int.reduceTMod]

/-- semvcs/ident.Valid -/
def f13 (x0 : Int) : W (Bool) :=
  (f36 x0).bind fun (r1 : Bool) =>
  cond r1 (
    .pure ((and64 x0 1048575) != 0)) (
    .pure false)
theorem f13_eq (x0 : Int) : WR P0 13 [.c (.d (.int .i64 x0))] [] = (f13 x0).bind fun r => .pure ⟨.v (.c (.d (.bool r))), [], []⟩ := by
  rw [WR_code (sf := Fn.f13) rfl rfl]
  dsimp only [Fn.f13]
  simp only [f13, f36_eq, go_sem, ↓reduceIte, Nat.reduceEqDiff, Nat.reduceAdd, Nat.reduceSub, Nat.reduceMul, Nat.reduceLT, Nat.reduceLeDiff, Nat.reduceBEq, Nat.reduceBNe, Nat.reduceSubDiff, Nat.reduceBeqDiff, Int.reduceAdd, Int.reduceSub, Int.reduceMul, Int.reduceNeg, Int.reduceLT, Int.reduceLE, Int.reduceEq, Int.reduceNe, Int.reduceBEq, Int.reduceBNe, Int.reduceToNat, Int.reducePow, Int.reduceTDiv, Int.reduceTMod]

/-- semvcs/state.isField -/
def f14 (x0 : Int) : W (Bool) :=
  cond (x0 == 1) (
    .pure true) (
    cond (x0 == 2) (
      .pure true) (
      cond (x0 == 3) (
        .pure true) (
        cond (x0 == 4) (
          .pure true) (
          cond (decide ((8 : Int) ≤ x0)) (
            .pure (decide (x0 < 48))) (
            .pure false)))))
theorem f14_eq (x0 : Int) : WR P0 14 [.c (.d (.int .i64 x0))] [] = (f14 x0).bind fun r => .pure ⟨.v (.c (.d (.bool r))), [], []⟩ := by
  rw [WR_code (sf := Fn.f14) rfl rfl]
  dsimp only [Fn.f14]
  simp only [f14, go_sem, ↓reduceIte, Nat.reduceEqDiff, Nat.reduceAdd, Nat.reduceSub, Nat.reduceMul, Nat.reduceLT, Nat.reduceLeDiff, Nat.reduceBEq, Nat.reduceBNe, Nat.reduceSubDiff, Nat.reduceBeqDiff, Int.reduceAdd, Int.reduceSub, Int.reduceMul, Int.reduceNeg, Int.reduceLT, Int.reduceLE, Int.reduceEq, Int.reduceNe, Int.reduceBEq, Int.reduceBNe, Int.reduceToNat, Int.reducePow, Int.reduceTDiv, Int.reduceTMod]

def f37_k1 {ρ : Type} (K : Ex × St → W ρ) (p1 : List Int) (p2 : Int) : Int → W (Int ⊕ ρ) := fun z1 =>
  cond (decide (z1 < p2)) (
    W.idx p1 z1 fun (e1 : Int) =>
    cond (e1 != 0) (
      (K (.ret, ⟨[(2, .v (.c (.d (.int .i64 e1))))], [], []⟩)).bind fun x => .pure (.inr x)) (
      .pure (.inl (w64 (z1 + 1))))) (
    (K (.exit 0, ⟨[(9, .v (.c (.d (.bool false)))), (8, .v (.c (.d (.int .i64 z1)))), (3, .v (.c (.d (.int .i64 0)))), (6, .v (.c (.d (.vec (p1.map encI))))), (7, .v (.c (.d (.int .i64 p2))))], [], []⟩)).bind fun x => .pure (.inr x))
theorem f37_l1 {ρ : Type} (K : Ex × St → W ρ) (p1 : List Int) (p2 : Int) (a1 : Int) : LN P0 Fn.f37_b1 [8, 3, 6, 7] [] ⟨[(8, .v (.c (.d (.int .i64 a1)))), (3, .v (.c (.d (.int .i64 0)))), (6, .v (.c (.d (.vec (p1.map encI))))), (7, .v (.c (.d (.int .i64 p2))))], [], []⟩ K = W.run (fun z => f37_k1 K p1 p2 z) a1 := by
  refine LN_run (S := fun z1 => ⟨[(8, .v (.c (.d (.int .i64 z1)))), (3, .v (.c (.d (.int .i64 0)))), (6, .v (.c (.d (.vec (p1.map encI))))), (7, .v (.c (.d (.int .i64 p2))))], [], []⟩) (step := f37_k1 K p1 p2) (x := a1) ?_
  intro z1
  unfold Fn.f37_b1
  simp only [f37_k1, go_sem, ↓reduceIte, Nat.reduceEqDiff, Nat.reduceAdd, Nat.reduceSub, Nat.reduceMul, Nat.reduceLT, Nat.reduceLeDiff, Nat.reduceBEq, Nat.reduceBNe, Nat.reduceSubDiff, Nat.reduceBeqDiff, Int.reduceAdd, Int.reduceSub, Int.reduceMul, Int.reduceNeg, Int.reduceLT, Int.reduceLE, Int.reduceEq, Int.reduceNe, Int.reduceBEq, Int.reduceBNe, Int.reduceToNat, Int.reducePow, Int.reduceTDiv, Int.reduceTMod]
def f37_s1 (p1 : List Int) (p2 : Int) : Int → W (Int ⊕ (Int)) := fun z1 =>
  cond (decide (z1 < p2)) (
    W.idx p1 z1 fun (e1 : Int) =>
    cond (e1 != 0) (
      .pure (.inr e1)) (
      .pure (.inl (w64 (z1 + 1))))) (
    .pure (.inr 0))
/-- cmp.Or[int] -/
def f37 (x0 : List Int) : W (Int) :=
  W.run (fun z => f37_s1 x0 (x0.length : Int) z) 0
theorem f37_eq (x0 : List Int) : WR P0 37 [.c (.d (.vec (x0.map encI)))] [] = (f37 x0).bind fun r => .pure ⟨.v (.c (.d (.int .i64 r))), [], []⟩ := by
  rw [WR_code (sf := Fn.f37) rfl rfl]
  dsimp only [Fn.f37]
  simp only [f37, f37_k1, f37_s1, f37_l1, go_sem, ↓reduceIte, Nat.reduceEqDiff, Nat.reduceAdd, Nat.reduceSub, Nat.reduceMul, Nat.reduceLT, Nat.reduceLeDiff, Nat.reduceBEq, Nat.reduceBNe, Nat.reduceSubDiff, Nat.reduceBeqDiff, Int.reduceAdd, Int.reduceSub, Int.reduceMul, Int.reduceNeg, Int.reduceLT, Int.reduceLE, Int.reduceEq, Int.reduceNe, Int.reduceBEq, Int.reduceBNe, Int.reduceToNat, Int.reducePow, Int.reduceTDiv, Int.reduceTMod]
theorem f37_v0 (y0_0_0 : Int) (y0_1_0 : Int) : WR P0 37 [.c (.d (.vec [[.int .i64 y0_0_0], [.int .i64 y0_1_0]]))] [] = (f37 [y0_0_0, y0_1_0]).bind fun r => .pure ⟨.v (.c (.d (.int .i64 r))), [], []⟩ := f37_eq [y0_0_0, y0_1_0]

/-- cmp.isNaN[int] -/
def f49 (x0 : Int) : W (Bool) :=
  .pure (x0 != x0)
theorem f49_eq (x0 : Int) : WR P0 49 [.c (.d (.int .i64 x0))] [] = (f49 x0).bind fun r => .pure ⟨.v (.c (.d (.bool r))), [], []⟩ := by
  rw [WR_code (sf := Fn.f49) rfl rfl]
  dsimp only [Fn.f49]
  simp only [f49, go_sem, ↓reduceIte, Nat.reduceEqDiff, Nat.reduceAdd, Nat.reduceSub, Nat.reduceMul, Nat.reduceLT, Nat.reduceLeDiff, Nat.reduceBEq, Nat.reduceBNe, Nat.reduceSubDiff, Nat.reduceBeqDiff, Int.reduceAdd, Int.reduceSub, Int.reduceMul, Int.reduceNeg, Int.reduceLT, Int.reduceLE, Int.reduceEq, Int.reduceNe, Int.reduceBEq, Int.reduceBNe, Int.reduceToNat, Int.reducePow, Int.reduceTDiv, Int.reduceTMod]

/-- cmp.Compare[int] -/
def f38 (x0 : Int) (x1 : Int) : W (Int) :=
  (f49 x0).bind fun (r1 : Bool) =>
  (f49 x1).bind fun (r2 : Bool) =>
  cond r1 (
    cond r2 (
      .pure 0) (
      .pure (-1))) (
    cond r2 (
      .pure 1) (
      cond (decide (x0 < x1)) (
        .pure (-1)) (
        cond (decide (x1 < x0)) (
          .pure 1) (
          .pure 0))))
theorem f38_eq (x0 : Int) (x1 : Int) : WR P0 38 [.c (.d (.int .i64 x0)), .c (.d (.int .i64 x1))] [] = (f38 x0 x1).bind fun r => .pure ⟨.v (.c (.d (.int .i64 r))), [], []⟩ := by
  rw [WR_code (sf := Fn.f38) rfl rfl]
  dsimp only [Fn.f38]
  simp only [f38, f49_eq, go_sem, ↓reduceIte, Nat.reduceEqDiff, Nat.reduceAdd, Nat.reduceSub, Nat.reduceMul, Nat.reduceLT, Nat.reduceLeDiff, Nat.reduceBEq, Nat.reduceBNe, Nat.reduceSubDiff, Nat.reduceBeqDiff, Int.reduceAdd, Int.reduceSub, Int.reduceMul, Int.reduceNeg, Int.reduceLT, Int.reduceLE, Int.reduceEq, Int.reduceNe, Int.reduceBEq, Int.reduceBNe, Int.reduceToNat, Int.reducePow, Int.reduceTDiv, Int.reduceTMod]

/-- semvcs/state.compare -/
def f15 (x0 : Int) (x1 : Int) (x2 : Int) (x3 : Int) : W (Int) :=
  (f38 x0 x2).bind fun (r1 : Int) =>
  (f38 x1 x3).bind fun (r2 : Int) =>
  (f37 [r1, r2]).bind fun (r3 : Int) =>
  .pure r3
theorem f15_eq (x0 : Int) (x1 : Int) (x2 : Int) (x3 : Int) : WR P0 15 [.agg [.d (.int .i64 x0), .d (.int .i64 x1)], .agg [.d (.int .i64 x2), .d (.int .i64 x3)]] [] = (f15 x0 x1 x2 x3).bind fun r => .pure ⟨.v (.c (.d (.int .i64 r))), [], []⟩ := by
  rw [WR_code (sf := Fn.f15) rfl rfl]
  dsimp only [Fn.f15]
  simp only [f15, f37_eq, f37_v0, f38_eq, go_sem, ↓reduceIte, Nat.reduceEqDiff, Nat.reduceAdd, Nat.reduceSub, Nat.reduceMul, Nat.reduceLT, Nat.reduceLeDiff, Nat.reduceBEq, Nat.reduceBNe, Nat.reduceSubDiff, Nat.reduceBeqDiff, Int.reduceAdd, Int.reduceSub, Int.reduceMul, Int.reduceNeg, Int.reduceLT, Int.reduceLE, Int.reduceEq, Int.reduceNe, Int.reduceBEq, Int.reduceBNe, Int.reduceToNat, Int.reducePow, Int.reduceTDiv, Int.reduceTMod]

/-- semvcs/state.ofSlot -/
def f16 (x0 : Int) (x1 : Int) (x2 : List Alt) : W (Int × Int) :=
  .pure (x0, x1)
theorem f16_eq (x0 : Int) (x1 : Int) (x2 : List Alt) : WR P0 16 [.agg [.d (.int .i64 x0), .d (.int .i64 x1), .d (.vec (x2.map Alt.enc))]] [] = (f16 x0 x1 x2).bind fun r => .pure ⟨.v (.agg [.d (.int .i64 r.1), .d (.int .i64 r.2)]), [], []⟩ := by
  rw [WR_code (sf := Fn.f16) rfl rfl]
  dsimp only [Fn.f16]
  simp only [f16, go_sem, ↓reduceIte, Nat.reduceEqDiff, Nat.reduceAdd, Nat.reduceSub, Nat.reduceMul, Nat.reduceLT, Nat.reduceLeDiff, Nat.reduceBEq, Nat.reduceBNe, Nat.reduceSubDiff, Nat.reduceBeqDiff, Int.reduceAdd, Int.reduceSub, Int.reduceMul, Int.reduceNeg, Int.reduceLT, Int.reduceLE, Int.reduceEq, Int.reduceNe, Int.reduceBEq, Int.reduceBNe, Int.reduceToNat, Int.reducePow, Int.reduceTDiv, Int.reduceTMod]

def f4_k2 {ρ : Type} (K : Ex × St → W ρ) (p1 : List Alt) (p2 : Int) (p3 : Int) (p4 : List Slot) (p5 : Int) (p6 : Int) (p7 : Int) : Int → W (Int ⊕ ρ) := fun z2 =>
  cond (decide (z2 < p3)) (
    W.idx p1 z2 fun (e1 : Alt) =>
    (f13 e1.stamp).bind fun (r1 : Bool) =>
    cond (!r1) (
      (K (.ret, ⟨[(2, .v (.c (.d (.bool false))))], [.box [.d (.int .i64 p6), .d (.int .i64 p7), .d (.vec (p1.map Alt.enc))], .box [.d (.vec (p4.map Slot.enc))], .box [.d (.int .i64 e1.stamp), .d (.int .i64 e1.n), .d (.bool e1.flag), .d (.str e1.text), .d (.int .i64 e1.ref)]], []⟩)).bind fun x => .pure (.inr x)) (
      cond (decide ((0 : Int) < z2)) (
        W.idx p1 (w64 (z2 - 1)) fun (e2 : Alt) =>
        cond (decide (e1.stamp ≤ e2.stamp)) (
          (K (.ret, ⟨[(2, .v (.c (.d (.bool false))))], [.box [.d (.int .i64 p6), .d (.int .i64 p7), .d (.vec (p1.map Alt.enc))], .box [.d (.vec (p4.map Slot.enc))], .box [.d (.int .i64 e1.stamp), .d (.int .i64 e1.n), .d (.bool e1.flag), .d (.str e1.text), .d (.int .i64 e1.ref)]], []⟩)).bind fun x => .pure (.inr x)) (
          .pure (.inl (w64 (z2 + 1))))) (
        .pure (.inl (w64 (z2 + 1)))))) (
    (K (.exit 2, ⟨[(50, .v (.c (.d (.bool false)))), (49, .v (.c (.d (.int .i64 z2)))), (4, .v (.c (.ptr (.l 0) 0))), (47, .v (.c (.d (.vec (p1.map Alt.enc))))), (10, .v (.c (.d (.int .i64 p2)))), (48, .v (.c (.d (.int .i64 p3)))), (1, .v (.c (.ptr (.l 1) 0))), (8, .v (.c (.d (.vec (p4.map Slot.enc))))), (9, .v (.c (.d (.int .i64 p5))))], [.box [.d (.int .i64 p6), .d (.int .i64 p7), .d (.vec (p1.map Alt.enc))], .box [.d (.vec (p4.map Slot.enc))]], []⟩)).bind fun x => .pure (.inr x))
theorem f4_l2 {ρ : Type} (K : Ex × St → W ρ) (p1 : List Alt) (p2 : Int) (p3 : Int) (p4 : List Slot) (p5 : Int) (p6 : Int) (p7 : Int) (a1 : Int) : LN P0 Fn.f4_b2 [49, 4, 47, 10, 48, 1, 8, 9] [] ⟨[(49, .v (.c (.d (.int .i64 a1)))), (4, .v (.c (.ptr (.l 0) 0))), (47, .v (.c (.d (.vec (p1.map Alt.enc))))), (10, .v (.c (.d (.int .i64 p2)))), (48, .v (.c (.d (.int .i64 p3)))), (1, .v (.c (.ptr (.l 1) 0))), (8, .v (.c (.d (.vec (p4.map Slot.enc))))), (9, .v (.c (.d (.int .i64 p5))))], [.box [.d (.int .i64 p6), .d (.int .i64 p7), .d (.vec (p1.map Alt.enc))], .box [.d (.vec (p4.map Slot.enc))]], []⟩ K = W.run (fun z => f4_k2 K p1 p2 p3 p4 p5 p6 p7 z) a1 := by
  refine LN_run (S := fun z2 => ⟨[(49, .v (.c (.d (.int .i64 z2)))), (4, .v (.c (.ptr (.l 0) 0))), (47, .v (.c (.d (.vec (p1.map Alt.enc))))), (10, .v (.c (.d (.int .i64 p2)))), (48, .v (.c (.d (.int .i64 p3)))), (1, .v (.c (.ptr (.l 1) 0))), (8, .v (.c (.d (.vec (p4.map Slot.enc))))), (9, .v (.c (.d (.int .i64 p5))))], [.box [.d (.int .i64 p6), .d (.int .i64 p7), .d (.vec (p1.map Alt.enc))], .box [.d (.vec (p4.map Slot.enc))]], []⟩) (step := f4_k2 K p1 p2 p3 p4 p5 p6 p7) (x := a1) ?_
  intro z2
  unfold Fn.f4_b2
  simp only [f4_k2, f13_eq, go_sem, ↓reduceIte, Nat.reduceEqDiff, Nat.reduceAdd, Nat.reduceSub, Nat.reduceMul, Nat.reduceLT, Nat.reduceLeDiff, Nat.reduceBEq, Nat.reduceBNe, Nat.reduceSubDiff, Nat.reduceBeqDiff, Int.reduceAdd, Int.reduceSub, Int.reduceMul, Int.reduceNeg, Int.reduceLT, Int.reduceLE, Int.reduceEq, Int.reduceNe, Int.reduceBEq, Int.reduceBNe, Int.reduceToNat, Int.reducePow, Int.reduceTDiv, Int.reduceTMod]
def f4_s1 {ρ : Type} (K : Ex × St → W ρ) (p1 : List Alt) (p2 : Int) (p3 : Int) (p4 : List Slot) (p5 : Int) (p6 : Int) : Int → W (Int ⊕ (Int ⊕ ρ)) := fun z2 =>
  cond (decide (z2 < p3)) (
    W.idx p1 z2 fun (e1 : Alt) =>
    (f13 e1.stamp).bind fun (r1 : Bool) =>
    cond (!r1) (
      (K (.ret, ⟨[(2, .v (.c (.d (.bool false))))], [.box [.d (.int .i64 p5), .d (.int .i64 p6), .d (.vec (p1.map Alt.enc))], .box [.d (.vec (p4.map Slot.enc))], .box [.d (.int .i64 e1.stamp), .d (.int .i64 e1.n), .d (.bool e1.flag), .d (.str e1.text), .d (.int .i64 e1.ref)]], []⟩)).bind fun x => .pure (.inr (.inr x))) (
      cond (decide ((0 : Int) < z2)) (
        W.idx p1 (w64 (z2 - 1)) fun (e2 : Alt) =>
        cond (decide (e1.stamp ≤ e2.stamp)) (
          (K (.ret, ⟨[(2, .v (.c (.d (.bool false))))], [.box [.d (.int .i64 p5), .d (.int .i64 p6), .d (.vec (p1.map Alt.enc))], .box [.d (.vec (p4.map Slot.enc))], .box [.d (.int .i64 e1.stamp), .d (.int .i64 e1.n), .d (.bool e1.flag), .d (.str e1.text), .d (.int .i64 e1.ref)]], []⟩)).bind fun x => .pure (.inr (.inr x))) (
          .pure (.inl (w64 (z2 + 1))))) (
        .pure (.inl (w64 (z2 + 1)))))) (
    .pure (.inr (.inl (w64 (p2 + 1)))))
def f4_k1 {ρ : Type} (K : Ex × St → W ρ) (p1 : List Slot) (p2 : Int) : Int → W (Int ⊕ ρ) := fun z1 =>
  cond (decide (z1 < p2)) (
    W.idx p1 z1 fun (e1 : Slot) =>
    (f13 e1.id).bind fun (r1 : Bool) =>
    cond (!r1) (
      (K (.ret, ⟨[(2, .v (.c (.d (.bool false))))], [.box [.d (.vec (p1.map Slot.enc))], .box [.d (.int .i64 e1.id), .d (.int .i64 e1.field), .d (.vec (e1.alts.map Alt.enc))]], []⟩)).bind fun x => .pure (.inr x)) (
      (f14 e1.field).bind fun (r2 : Bool) =>
      cond (!r2) (
        (K (.ret, ⟨[(2, .v (.c (.d (.bool false))))], [.box [.d (.vec (p1.map Slot.enc))], .box [.d (.int .i64 e1.id), .d (.int .i64 e1.field), .d (.vec (e1.alts.map Alt.enc))]], []⟩)).bind fun x => .pure (.inr x)) (
        cond ((e1.alts.length : Int) == 0) (
          (K (.ret, ⟨[(2, .v (.c (.d (.bool false))))], [.box [.d (.vec (p1.map Slot.enc))], .box [.d (.int .i64 e1.id), .d (.int .i64 e1.field), .d (.vec (e1.alts.map Alt.enc))]], []⟩)).bind fun x => .pure (.inr x)) (
          cond (decide ((0 : Int) < z1)) (
            W.idx p1 (w64 (z1 - 1)) fun (e2 : Slot) =>
            (f16 e2.id e2.field e2.alts).bind fun (r3 : Int × Int) =>
            (f16 e1.id e1.field e1.alts).bind fun (r4 : Int × Int) =>
            (f15 r3.1 r3.2 r4.1 r4.2).bind fun (r5 : Int) =>
            cond (decide ((0 : Int) ≤ r5)) (
              (K (.ret, ⟨[(2, .v (.c (.d (.bool false))))], [.box [.d (.vec (p1.map Slot.enc))], .box [.d (.int .i64 e1.id), .d (.int .i64 e1.field), .d (.vec (e1.alts.map Alt.enc))]], []⟩)).bind fun x => .pure (.inr x)) (
              W.run (fun z => f4_s1 K e1.alts z1 (e1.alts.length : Int) p1 e1.id e1.field z) 0)) (
            W.run (fun z => f4_s1 K e1.alts z1 (e1.alts.length : Int) p1 e1.id e1.field z) 0))))) (
    (K (.exit 0, ⟨[(11, .v (.c (.d (.bool false)))), (10, .v (.c (.d (.int .i64 z1)))), (1, .v (.c (.ptr (.l 0) 0))), (8, .v (.c (.d (.vec (p1.map Slot.enc))))), (9, .v (.c (.d (.int .i64 p2))))], [.box [.d (.vec (p1.map Slot.enc))]], []⟩)).bind fun x => .pure (.inr x))
theorem f4_l1 {ρ : Type} (K : Ex × St → W ρ) (p1 : List Slot) (p2 : Int) (a1 : Int) : LN P0 Fn.f4_b1 [10, 1, 8, 9] [] ⟨[(10, .v (.c (.d (.int .i64 a1)))), (1, .v (.c (.ptr (.l 0) 0))), (8, .v (.c (.d (.vec (p1.map Slot.enc))))), (9, .v (.c (.d (.int .i64 p2))))], [.box [.d (.vec (p1.map Slot.enc))]], []⟩ K = W.run (fun z => f4_k1 K p1 p2 z) a1 := by
  refine LN_run (S := fun z1 => ⟨[(10, .v (.c (.d (.int .i64 z1)))), (1, .v (.c (.ptr (.l 0) 0))), (8, .v (.c (.d (.vec (p1.map Slot.enc))))), (9, .v (.c (.d (.int .i64 p2))))], [.box [.d (.vec (p1.map Slot.enc))]], []⟩) (step := f4_k1 K p1 p2) (x := a1) ?_
  intro z1
  unfold Fn.f4_b1
  simp only [f4_k1, f4_k2, f4_s1, f4_l2, f13_eq, f14_eq, f15_eq, f16_eq, go_sem, ↓reduceIte, Nat.reduceEqDiff, Nat.reduceAdd, Nat.reduceSub, Nat.reduceMul, Nat.reduceLT, Nat.reduceLeDiff, Nat.reduceBEq, Nat.reduceBNe, Nat.reduceSubDiff, Nat.reduceBeqDiff, Int.reduceAdd, Int.reduceSub, Int.reduceMul, Int.reduceNeg, Int.reduceLT, Int.reduceLE, Int.reduceEq, Int.reduceNe, Int.reduceBEq, Int.reduceBNe, Int.reduceToNat, Int.reducePow, Int.reduceTDiv, Int.reduceTMod]
def f4_s2 (p1 : List Alt) (p2 : Int) (p3 : Int) : Int → W (Int ⊕ (Int ⊕ Bool)) := fun z2 =>
  cond (decide (z2 < p3)) (
    W.idx p1 z2 fun (e1 : Alt) =>
    (f13 e1.stamp).bind fun (r1 : Bool) =>
    cond (!r1) (
      .pure (.inr (.inr false))) (
      cond (decide ((0 : Int) < z2)) (
        W.idx p1 (w64 (z2 - 1)) fun (e2 : Alt) =>
        cond (decide (e1.stamp ≤ e2.stamp)) (
          .pure (.inr (.inr false))) (
          .pure (.inl (w64 (z2 + 1))))) (
        .pure (.inl (w64 (z2 + 1)))))) (
    .pure (.inr (.inl (w64 (p2 + 1)))))
def f4_s3 (p1 : List Slot) (p2 : Int) : Int → W (Int ⊕ (Bool)) := fun z1 =>
  cond (decide (z1 < p2)) (
    W.idx p1 z1 fun (e1 : Slot) =>
    (f13 e1.id).bind fun (r1 : Bool) =>
    cond (!r1) (
      .pure (.inr false)) (
      (f14 e1.field).bind fun (r2 : Bool) =>
      cond (!r2) (
        .pure (.inr false)) (
        cond ((e1.alts.length : Int) == 0) (
          .pure (.inr false)) (
          cond (decide ((0 : Int) < z1)) (
            W.idx p1 (w64 (z1 - 1)) fun (e2 : Slot) =>
            (f16 e2.id e2.field e2.alts).bind fun (r3 : Int × Int) =>
            (f16 e1.id e1.field e1.alts).bind fun (r4 : Int × Int) =>
            (f15 r3.1 r3.2 r4.1 r4.2).bind fun (r5 : Int) =>
            cond (decide ((0 : Int) ≤ r5)) (
              .pure (.inr false)) (
              W.run (fun z => f4_s2 e1.alts z1 (e1.alts.length : Int) z) 0)) (
            W.run (fun z => f4_s2 e1.alts z1 (e1.alts.length : Int) z) 0))))) (
    .pure (.inr true))
/-- semvcs/state.Valid -/
def f4 (x0 : List Slot) : W (Bool) :=
  W.run (fun z => f4_s3 x0 (x0.length : Int) z) 0
theorem f4_eq (x0 : List Slot) : WR P0 4 [.agg [.d (.vec (x0.map Slot.enc))]] [] = (f4 x0).bind fun r => .pure ⟨.v (.c (.d (.bool r))), [], []⟩ := by
  rw [WR_code (sf := Fn.f4) rfl rfl]
  dsimp only [Fn.f4]
  simp only [f4, f4_k1, f4_k2, f4_s1, f4_s2, f4_s3, f4_l1, f4_l2, f13_eq, f14_eq, f15_eq, f16_eq, go_sem, ↓reduceIte, Nat.reduceEqDiff, Nat.reduceAdd, Nat.reduceSub, Nat.reduceMul, Nat.reduceLT, Nat.reduceLeDiff, Nat.reduceBEq, Nat.reduceBNe, Nat.reduceSubDiff, Nat.reduceBeqDiff, Int.reduceAdd, Int.reduceSub, Int.reduceMul, Int.reduceNeg, Int.reduceLT, Int.reduceLE, Int.reduceEq, Int.reduceNe, Int.reduceBEq, Int.reduceBNe, Int.reduceToNat, Int.reducePow, Int.reduceTDiv, Int.reduceTMod]

/-- semvcs/semvcsref10.Valid -/
def f17 (x0 : Int) : W (Bool) :=
  cond (decide ((1048576 : Int) < x0)) (
    cond (decide (x0 < 34603008)) (
      .pure ((x0.tmod 1048576) != 0)) (
      .pure false)) (
    .pure false)
theorem f17_eq (x0 : Int) : WR P0 17 [.c (.d (.int .i64 x0))] [] = (f17 x0).bind fun r => .pure ⟨.v (.c (.d (.bool r))), [], []⟩ := by
  rw [WR_code (sf := Fn.f17) rfl rfl]
  dsimp only [Fn.f17]
  simp only [f17, go_sem, ↓reduceIte, Nat.reduceEqDiff, Nat.reduceAdd, Nat.reduceSub, Nat.reduceMul, Nat.reduceLT, Nat.reduceLeDiff, Nat.reduceBEq, Nat.reduceBNe, Nat.reduceSubDiff, Nat.reduceBeqDiff, Int.reduceAdd, Int.reduceSub, Int.reduceMul, Int.reduceNeg, Int.reduceLT, Int.reduceLE, Int.reduceEq, Int.reduceNe, Int.reduceBEq, Int.reduceBNe, Int.reduceToNat, Int.reducePow, Int.reduceTDiv, Int.reduceTMod]

/-- semvcs/semvcsref25.IsField -/
def f18 (x0 : Int) : W (Bool) :=
  cond (decide ((1 : Int) ≤ x0)) (
    cond (decide (x0 ≤ 4)) (
      .pure true) (
      cond (decide ((8 : Int) ≤ x0)) (
        .pure (decide (x0 < 48))) (
        .pure false))) (
    cond (decide ((8 : Int) ≤ x0)) (
      .pure (decide (x0 < 48))) (
      .pure false))
theorem f18_eq (x0 : Int) : WR P0 18 [.c (.d (.int .i64 x0))] [] = (f18 x0).bind fun r => .pure ⟨.v (.c (.d (.bool r))), [], []⟩ := by
  rw [WR_code (sf := Fn.f18) rfl rfl]
  dsimp only [Fn.f18]
  simp only [f18, go_sem, ↓reduceIte, Nat.reduceEqDiff, Nat.reduceAdd, Nat.reduceSub, Nat.reduceMul, Nat.reduceLT, Nat.reduceLeDiff, Nat.reduceBEq, Nat.reduceBNe, Nat.reduceSubDiff, Nat.reduceBeqDiff, Int.reduceAdd, Int.reduceSub, Int.reduceMul, Int.reduceNeg, Int.reduceLT, Int.reduceLE, Int.reduceEq, Int.reduceNe, Int.reduceBEq, Int.reduceBNe, Int.reduceToNat, Int.reducePow, Int.reduceTDiv, Int.reduceTMod]

/-- semvcs/semvcsref25.Ahead -/
def f19 (x0 : Int) (x1 : Int) (x2 : Int) (x3 : Int) : W (Bool) :=
  cond (decide (x0 < x2)) (
    .pure true) (
    cond (x0 == x2) (
      .pure (decide (x1 < x3))) (
      .pure false))
theorem f19_eq (x0 : Int) (x1 : Int) (x2 : Int) (x3 : Int) : WR P0 19 [.c (.d (.int .i64 x0)), .c (.d (.int .i64 x1)), .c (.d (.int .i64 x2)), .c (.d (.int .i64 x3))] [] = (f19 x0 x1 x2 x3).bind fun r => .pure ⟨.v (.c (.d (.bool r))), [], []⟩ := by
  rw [WR_code (sf := Fn.f19) rfl rfl]
  dsimp only [Fn.f19]
  simp only [f19, go_sem, ↓reduceIte, Nat.reduceEqDiff, Nat.reduceAdd, Nat.reduceSub, Nat.reduceMul, Nat.reduceLT, Nat.reduceLeDiff, Nat.reduceBEq, Nat.reduceBNe, Nat.reduceSubDiff, Nat.reduceBeqDiff, Int.reduceAdd, Int.reduceSub, Int.reduceMul, Int.reduceNeg, Int.reduceLT, Int.reduceLE, Int.reduceEq, Int.reduceNe, Int.reduceBEq, Int.reduceBNe, Int.reduceToNat, Int.reducePow, Int.reduceTDiv, Int.reduceTMod]

def f5_k2 {ρ : Type} (K : Ex × St → W ρ) (p1 : Int) (p2 : Int) (p3 : Int) (p4 : List Alt) (p5 : List Slot) : Int → W (Int ⊕ ρ) := fun z2 =>
  cond (decide (z2 < (p4.length : Int))) (
    W.idx p4 z2 fun (e1 : Alt) =>
    (f17 e1.stamp).bind fun (r1 : Bool) =>
    cond (!r1) (
      (K (.ret, ⟨[(2, .v (.c (.d (.bool false))))], [.box [.d (.int .i64 p2), .d (.int .i64 p3), .d (.vec (p4.map Alt.enc))], .box [.d (.vec (p5.map Slot.enc))]], []⟩)).bind fun x => .pure (.inr x)) (
      cond (decide ((0 : Int) < z2)) (
        W.idx p4 z2 fun (e2 : Alt) =>
        W.idx p4 (w64 (z2 - 1)) fun (e3 : Alt) =>
        cond (decide (e2.stamp ≤ e3.stamp)) (
          (K (.ret, ⟨[(2, .v (.c (.d (.bool false))))], [.box [.d (.int .i64 p2), .d (.int .i64 p3), .d (.vec (p4.map Alt.enc))], .box [.d (.vec (p5.map Slot.enc))]], []⟩)).bind fun x => .pure (.inr x)) (
          .pure (.inl (w64 (z2 + 1))))) (
        .pure (.inl (w64 (z2 + 1)))))) (
    (K (.exit 2, ⟨[(62, .v (.c (.d (.bool false)))), (5, .v (.c (.d (.int .i64 z2)))), (4, .v (.c (.ptr (.l 0) 0))), (3, .v (.c (.d (.int .i64 p1)))), (1, .v (.c (.ptr (.l 1) 0)))], [.box [.d (.int .i64 p2), .d (.int .i64 p3), .d (.vec (p4.map Alt.enc))], .box [.d (.vec (p5.map Slot.enc))]], []⟩)).bind fun x => .pure (.inr x))
theorem f5_l2 {ρ : Type} (K : Ex × St → W ρ) (p1 : Int) (p2 : Int) (p3 : Int) (p4 : List Alt) (p5 : List Slot) (a1 : Int) : LN P0 Fn.f5_b2 [5, 4, 3, 1] [] ⟨[(5, .v (.c (.d (.int .i64 a1)))), (4, .v (.c (.ptr (.l 0) 0))), (3, .v (.c (.d (.int .i64 p1)))), (1, .v (.c (.ptr (.l 1) 0)))], [.box [.d (.int .i64 p2), .d (.int .i64 p3), .d (.vec (p4.map Alt.enc))], .box [.d (.vec (p5.map Slot.enc))]], []⟩ K = W.run (fun z => f5_k2 K p1 p2 p3 p4 p5 z) a1 := by
  refine LN_run (S := fun z2 => ⟨[(5, .v (.c (.d (.int .i64 z2)))), (4, .v (.c (.ptr (.l 0) 0))), (3, .v (.c (.d (.int .i64 p1)))), (1, .v (.c (.ptr (.l 1) 0)))], [.box [.d (.int .i64 p2), .d (.int .i64 p3), .d (.vec (p4.map Alt.enc))], .box [.d (.vec (p5.map Slot.enc))]], []⟩) (step := f5_k2 K p1 p2 p3 p4 p5) (x := a1) ?_
  intro z2
  unfold Fn.f5_b2
  simp only [f5_k2, f17_eq, go_sem, ↓reduceIte, Nat.reduceEqDiff, Nat.reduceAdd, Nat.reduceSub, Nat.reduceMul, Nat.reduceLT, Nat.reduceLeDiff, Nat.reduceBEq, Nat.reduceBNe, Nat.reduceSubDiff, Nat.reduceBeqDiff, Int.reduceAdd, Int.reduceSub, Int.reduceMul, Int.reduceNeg, Int.reduceLT, Int.reduceLE, Int.reduceEq, Int.reduceNe, Int.reduceBEq, Int.reduceBNe, Int.reduceToNat, Int.reducePow, Int.reduceTDiv, Int.reduceTMod]
def f5_s1 {ρ : Type} (K : Ex × St → W ρ) (p1 : Int) (p2 : Int) (p3 : Int) (p4 : List Alt) (p5 : List Slot) : Int → W (Int ⊕ (Int ⊕ ρ)) := fun z2 =>
  cond (decide (z2 < (p4.length : Int))) (
    W.idx p4 z2 fun (e1 : Alt) =>
    (f17 e1.stamp).bind fun (r1 : Bool) =>
    cond (!r1) (
      (K (.ret, ⟨[(2, .v (.c (.d (.bool false))))], [.box [.d (.int .i64 p2), .d (.int .i64 p3), .d (.vec (p4.map Alt.enc))], .box [.d (.vec (p5.map Slot.enc))]], []⟩)).bind fun x => .pure (.inr (.inr x))) (
      cond (decide ((0 : Int) < z2)) (
        W.idx p4 z2 fun (e2 : Alt) =>
        W.idx p4 (w64 (z2 - 1)) fun (e3 : Alt) =>
        cond (decide (e2.stamp ≤ e3.stamp)) (
          (K (.ret, ⟨[(2, .v (.c (.d (.bool false))))], [.box [.d (.int .i64 p2), .d (.int .i64 p3), .d (.vec (p4.map Alt.enc))], .box [.d (.vec (p5.map Slot.enc))]], []⟩)).bind fun x => .pure (.inr (.inr x))) (
          .pure (.inl (w64 (z2 + 1))))) (
        .pure (.inl (w64 (z2 + 1)))))) (
    .pure (.inr (.inl (w64 (p1 + 1)))))
def f5_k1 {ρ : Type} (K : Ex × St → W ρ) (p1 : List Slot) : Int → W (Int ⊕ ρ) := fun z1 =>
  cond (decide (z1 < (p1.length : Int))) (
    W.idx p1 z1 fun (e1 : Slot) =>
    (f17 e1.id).bind fun (r1 : Bool) =>
    cond (!r1) (
      (K (.ret, ⟨[(2, .v (.c (.d (.bool false))))], [.box [.d (.vec (p1.map Slot.enc))], .box [.d (.int .i64 e1.id), .d (.int .i64 e1.field), .d (.vec (e1.alts.map Alt.enc))]], []⟩)).bind fun x => .pure (.inr x)) (
      (f18 e1.field).bind fun (r2 : Bool) =>
      cond (!r2) (
        (K (.ret, ⟨[(2, .v (.c (.d (.bool false))))], [.box [.d (.vec (p1.map Slot.enc))], .box [.d (.int .i64 e1.id), .d (.int .i64 e1.field), .d (.vec (e1.alts.map Alt.enc))]], []⟩)).bind fun x => .pure (.inr x)) (
        cond ((e1.alts.length : Int) == 0) (
          (K (.ret, ⟨[(2, .v (.c (.d (.bool false))))], [.box [.d (.vec (p1.map Slot.enc))], .box [.d (.int .i64 e1.id), .d (.int .i64 e1.field), .d (.vec (e1.alts.map Alt.enc))]], []⟩)).bind fun x => .pure (.inr x)) (
          cond (decide ((0 : Int) < z1)) (
            W.idx p1 (w64 (z1 - 1)) fun (e2 : Slot) =>
            W.idx p1 (w64 (z1 - 1)) fun (e3 : Slot) =>
            (f19 e2.id e3.field e1.id e1.field).bind fun (r3 : Bool) =>
            cond (!r3) (
              (K (.ret, ⟨[(2, .v (.c (.d (.bool false))))], [.box [.d (.vec (p1.map Slot.enc))], .box [.d (.int .i64 e1.id), .d (.int .i64 e1.field), .d (.vec (e1.alts.map Alt.enc))]], []⟩)).bind fun x => .pure (.inr x)) (
              W.run (fun z => f5_s1 K z1 e1.id e1.field e1.alts p1 z) 0)) (
            W.run (fun z => f5_s1 K z1 e1.id e1.field e1.alts p1 z) 0))))) (
    (K (.exit 0, ⟨[(10, .v (.c (.d (.bool false)))), (3, .v (.c (.d (.int .i64 z1)))), (1, .v (.c (.ptr (.l 0) 0)))], [.box [.d (.vec (p1.map Slot.enc))]], []⟩)).bind fun x => .pure (.inr x))
theorem f5_l1 {ρ : Type} (K : Ex × St → W ρ) (p1 : List Slot) (a1 : Int) : LN P0 Fn.f5_b1 [3, 1] [] ⟨[(3, .v (.c (.d (.int .i64 a1)))), (1, .v (.c (.ptr (.l 0) 0)))], [.box [.d (.vec (p1.map Slot.enc))]], []⟩ K = W.run (fun z => f5_k1 K p1 z) a1 := by
  refine LN_run (S := fun z1 => ⟨[(3, .v (.c (.d (.int .i64 z1)))), (1, .v (.c (.ptr (.l 0) 0)))], [.box [.d (.vec (p1.map Slot.enc))]], []⟩) (step := f5_k1 K p1) (x := a1) ?_
  intro z1
  unfold Fn.f5_b1
  simp only [f5_k1, f5_k2, f5_s1, f5_l2, f17_eq, f18_eq, f19_eq, go_sem, ↓reduceIte, Nat.reduceEqDiff, Nat.reduceAdd, Nat.reduceSub, Nat.reduceMul, Nat.reduceLT, Nat.reduceLeDiff, Nat.reduceBEq, Nat.reduceBNe, Nat.reduceSubDiff, Nat.reduceBeqDiff, Int.reduceAdd, Int.reduceSub, Int.reduceMul, Int.reduceNeg, Int.reduceLT, Int.reduceLE, Int.reduceEq, Int.reduceNe, Int.reduceBEq, Int.reduceBNe, Int.reduceToNat, Int.reducePow, Int.reduceTDiv, Int.reduceTMod]
def f5_s2 (p1 : Int) (p2 : List Alt) : Int → W (Int ⊕ (Int ⊕ Bool)) := fun z2 =>
  cond (decide (z2 < (p2.length : Int))) (
    W.idx p2 z2 fun (e1 : Alt) =>
    (f17 e1.stamp).bind fun (r1 : Bool) =>
    cond (!r1) (
      .pure (.inr (.inr false))) (
      cond (decide ((0 : Int) < z2)) (
        W.idx p2 z2 fun (e2 : Alt) =>
        W.idx p2 (w64 (z2 - 1)) fun (e3 : Alt) =>
        cond (decide (e2.stamp ≤ e3.stamp)) (
          .pure (.inr (.inr false))) (
          .pure (.inl (w64 (z2 + 1))))) (
        .pure (.inl (w64 (z2 + 1)))))) (
    .pure (.inr (.inl (w64 (p1 + 1)))))
def f5_s3 (p1 : List Slot) : Int → W (Int ⊕ (Bool)) := fun z1 =>
  cond (decide (z1 < (p1.length : Int))) (
    W.idx p1 z1 fun (e1 : Slot) =>
    (f17 e1.id).bind fun (r1 : Bool) =>
    cond (!r1) (
      .pure (.inr false)) (
      (f18 e1.field).bind fun (r2 : Bool) =>
      cond (!r2) (
        .pure (.inr false)) (
        cond ((e1.alts.length : Int) == 0) (
          .pure (.inr false)) (
          cond (decide ((0 : Int) < z1)) (
            W.idx p1 (w64 (z1 - 1)) fun (e2 : Slot) =>
            W.idx p1 (w64 (z1 - 1)) fun (e3 : Slot) =>
            (f19 e2.id e3.field e1.id e1.field).bind fun (r3 : Bool) =>
            cond (!r3) (
              .pure (.inr false)) (
              W.run (fun z => f5_s2 z1 e1.alts z) 0)) (
            W.run (fun z => f5_s2 z1 e1.alts z) 0))))) (
    .pure (.inr true))
/-- semvcs/semvcsref25.Valid -/
def f5 (x0 : List Slot) : W (Bool) :=
  W.run (fun z => f5_s3 x0 z) 0
theorem f5_eq (x0 : List Slot) : WR P0 5 [.agg [.d (.vec (x0.map Slot.enc))]] [] = (f5 x0).bind fun r => .pure ⟨.v (.c (.d (.bool r))), [], []⟩ := by
  rw [WR_code (sf := Fn.f5) rfl rfl]
  dsimp only [Fn.f5]
  simp only [f5, f5_k1, f5_k2, f5_s1, f5_s2, f5_s3, f5_l1, f5_l2, f17_eq, f18_eq, f19_eq, go_sem, ↓reduceIte, Nat.reduceEqDiff, Nat.reduceAdd, Nat.reduceSub, Nat.reduceMul, Nat.reduceLT, Nat.reduceLeDiff, Nat.reduceBEq, Nat.reduceBNe, Nat.reduceSubDiff, Nat.reduceBeqDiff, Int.reduceAdd, Int.reduceSub, Int.reduceMul, Int.reduceNeg, Int.reduceLT, Int.reduceLE, Int.reduceEq, Int.reduceNe, Int.reduceBEq, Int.reduceBNe, Int.reduceToNat, Int.reducePow, Int.reduceTDiv, Int.reduceTMod]

/-- semvcs/semvcslaw25.awake: a constant -/
def f6 : W Bool := .pure true
theorem f6_run : arun P0 100 6 [] [] = .ret ⟨.v (.c (.d (.bool true))), [], []⟩ := by kernel_rfl
theorem f6_eq : WR P0 6 [] [] = f6.bind fun r => .pure ⟨.v (.c (.d (.bool r))), [], []⟩ := WR_of f6_run

/-- semvcs/semvcslaw25.StateValid -/
def f0 (x0 : List Slot) : W (Bool) :=
  (f3 x0).bind fun (r1 : Bool) =>
  cond (!r1) (
    (f6).bind fun (r2 : Bool) =>
    .pure r2) (
    (f4 x0).bind fun (r3 : Bool) =>
    (f5 x0).bind fun (r4 : Bool) =>
    cond (r3 == r4) (
      (f6).bind fun (r5 : Bool) =>
      .pure r5) (
      .pure false))
theorem f0_eq (x0 : List Slot) : WR P0 0 [.agg [.d (.vec (x0.map Slot.enc))]] [] = (f0 x0).bind fun r => .pure ⟨.v (.c (.d (.bool r))), [], []⟩ := by
  rw [WR_code (sf := Fn.f0) rfl rfl]
  dsimp only [Fn.f0]
  simp only [f0, f3_eq, f4_eq, f5_eq, f6_eq, go_sem, ↓reduceIte, Nat.reduceEqDiff, Nat.reduceAdd, Nat.reduceSub, Nat.reduceMul, Nat.reduceLT, Nat.reduceLeDiff, Nat.reduceBEq, Nat.reduceBNe, Nat.reduceSubDiff, Nat.reduceBeqDiff, Int.reduceAdd, Int.reduceSub, Int.reduceMul, Int.reduceNeg, Int.reduceLT, Int.reduceLE, Int.reduceEq, Int.reduceNe, Int.reduceBEq, Int.reduceBNe, Int.reduceToNat, Int.reducePow, Int.reduceTDiv, Int.reduceTMod]
end Go.Aiv

