/- Layer 5's fixed answer. -/
import Derived.Test.YtnnkoghmglpnmaaWMatJ
namespace Go.Proofs.Ytnnkoghmglpnmaa.TM
open Go Go.RowKit
set_option linter.unusedVariables false
set_option linter.defProp false
set_option linter.unusedSimpArgs false
attribute [local irreducible] K W WOps Effs Xg Xo Xr Xdg Xdo Xdr Xif CallsP CallR

set_option maxHeartbeats 4000000 in
set_option maxRecDepth 100000 in
theorem awake05_walk : CallsP Try.prog 13 [] (bl true) := by
  have w4 : W64s [1, 2, 3, 4] := by show ∀ x ∈ _, 0 ≤ x ∧ x < _; decide
  have w2 : W64s [1, 1] := by show ∀ x ∈ _, 0 ≤ x ∧ x < _; decide
  have w1 : W64s [1, 0, 0, 1] := by show ∀ x ∈ _, 0 ≤ x ∧ x < _; decide
  have d1 := times_walk 7 2 2 [1, 2, 3, 4] [1, 1] (by decide) (by decide) w4 w2
  have d2 := left_walk 7 2 2 [1, 2, 3, 4] [1, 1] (by decide) (by decide) w4 w2
  have d3 := thin_walk 7 2 2 [1, 2, 3, 4] (by decide)
  have d4 := one_walk 2
  have d5 := mmul_walk 7 2 2 [1, 2, 3, 4] 2 2 [1, 0, 0, 1] (by decide) (by decide) w4 w1
  have d6 := same_walk [3, 0] [3, 0] (by decide)
  have d7 := same_walk [4, 6] [4, 6] (by decide)
  have d8 := msame_walk 2 2 [1, 2, 3, 4] 2 2 [1, 2, 3, 4] (by decide)
  have d9 := mright_walk 7 2 2 [1, 2, 3, 4] (by decide)
  have d10 := sparse_walk 7 2 2 [0, 2, 4] [0, 1, 0, 1] [1, 2, 3, 4] (by decide) (by decide) (by decide)
  rw [show timesR 7 2 2 [1, 2, 3, 4] [1, 1] = ([3, 0], 0) by decide +kernel] at d1
  rw [show mlR 7 [1, 1] 2 2 [1, 2, 3, 4] = ([4, 6], 0) by decide +kernel] at d2
  rw [show thinR 7 2 2 [1, 2, 3, 4] = ((2, 2, [0, 2, 4], [0, 1, 0, 1], [1, 2, 3, 4]), 0) by decide +kernel] at d3
  rw [show mOneR 2 = ((2, 2, [1, 0, 0, 1]), 0) by decide +kernel] at d4
  rw [show mulR 7 2 2 [1, 2, 3, 4] 2 2 [1, 0, 0, 1] = ((2, 2, [1, 2, 3, 4]), 0) by decide +kernel] at d5
  rw [decide_eq_true rfl] at d6 d7
  rw [show sameMB 2 2 [1, 2, 3, 4] 2 2 [1, 2, 3, 4] = true by decide +kernel] at d8
  rw [show MatB 7 2 2 [1, 2, 3, 4] = true by decide +kernel] at d9
  rw [show spB 7 2 2 [0, 2, 4] [0, 1, 0, 1] [1, 2, 3, 4] = true by decide +kernel] at d10
  refine X_startP (n := 88) (m := 0) (rs := [.tmp 0]) Try.func13 rfl rfl rfl rfl (by decide) fun base => ?_
  repeat (first | ((first | refine X_call_fn2 rfl (by simp only [tys]) ?_ | refine X_dcall_fn2 rfl (by simp only [tys]) ?_); apply Exists.intro; apply And.intro; (focus (simp -dsimp only [simx, zzC, zzB, tys, ite_self, opnL, callB, stepOp, ofVal, opBuiltin, opLen, PV.sk, scalBin, scalUn, intBin, opLoad, natOf, opConvert, opField, cellsP, oneP, Value.oneCell', opStore, toIV, scalT, scalA, scalC, boxesA, boxesC, ↓reduceIte, Nat.reduceSub, Nat.reduceEqDiff, Nat.reduceAdd, Nat.reduceMul, Nat.reduceLT, Nat.reduceLeDiff, Int.reduceToNat, Int.reduceLE, Int.reduceLT, Int.reduceNeg, reduceCtorEq, zzL, if_true, if_false] <;> rfl)); apply Exists.intro; apply And.intro; (focus (first | exact d1 | exact d2 | exact d3 | exact d4 | exact d5 | exact d6 | exact d7 | exact d8 | exact d9 | exact d10))) | refine ⟨(by show drawK _ _ = true; kernel_rfl : drawX _ _ _), ?_⟩ | exact (by show drawK _ _ = true; kernel_rfl : drawX _ _ _) | simp -dsimp (maxSteps := 20000000) (disch := omega) only [simx, zzC, zzB, tys, ite_self, opnL, callB, stepOp, ofVal, opBuiltin, opLen, PV.sk, scalBin, scalUn, intBin, opLoad, natOf, opConvert, opField, cellsP, oneP, Value.oneCell', opStore, toIV, scalT, scalA, scalC, boxesA, boxesC, ↓reduceIte, Nat.reduceSub, Nat.reduceEqDiff, Nat.reduceAdd, Nat.reduceMul, Nat.reduceLT, Nat.reduceLeDiff, Int.reduceToNat, Int.reduceLE, Int.reduceLT, Int.reduceNeg, reduceCtorEq, zzR, gos, Int.reduceAdd, Int.reduceSub, Int.reduceMul, Int.reduceEq])
end Go.Proofs.Ytnnkoghmglpnmaa.TM
