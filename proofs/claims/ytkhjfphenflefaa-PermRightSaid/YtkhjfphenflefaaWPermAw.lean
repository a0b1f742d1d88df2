/- Layer 6's fixed answer. -/
import Derived.Test.YtkhjfphenflefaaWPermF
namespace Go.Proofs.Ytkhjfphenflefaa.TM
open Go Go.RowKit
set_option linter.unusedVariables false
set_option linter.defProp false
set_option linter.unusedSimpArgs false
attribute [local irreducible] K W WOps Effs Xg Xo Xr Xdg Xdo Xdr Xif CallsP CallR

set_option maxHeartbeats 4000000 in
set_option maxRecDepth 100000 in
theorem awake06_walk : CallsP Try.prog 11 [] (bl true) := by
  have d1 := sign_walk [1, 2, 0, 4, 3] (by decide)
  have d2 := back_walk [1, 2, 0, 4, 3] (by decide)
  have d3 := do_walk [1, 2, 0, 4, 3] [5, 6, 7, 8, 9] (by decide) (by decide)
  have d4 := rings2_walk [1, 2, 0, 4, 3] (by decide)
  have d5 := pright_walk [1, 2, 0, 4, 3] (by decide)
  have d6 := same6_walk [2, 0, 1, 4, 3] [2, 0, 1, 4, 3] (by decide)
  have d7 := same1_walk [6, 7, 5, 9, 8] [6, 7, 5, 9, 8] (by decide)
  rw [show signR [1, 2, 0, 4, 3] = (-1, 0) by decide +kernel] at d1
  rw [show backR [1, 2, 0, 4, 3] = ([2, 0, 1, 4, 3], 0) by decide +kernel] at d2
  rw [show doR [1, 2, 0, 4, 3] [5, 6, 7, 8, 9] = ([6, 7, 5, 9, 8], 0) by decide +kernel] at d3
  rw [show ringsR [1, 2, 0, 4, 3] = ([[0, 1, 2], [3, 4]], 0) by decide +kernel] at d4
  rw [show orderB [1, 2, 0, 4, 3] = true by decide +kernel] at d5
  rw [decide_eq_true rfl] at d6 d7
  refine X_startP (n := 69) (m := 0) (rs := [.tmp 0]) Try.func11 rfl rfl rfl rfl (by decide) fun base => ?_
  repeat (first | ((first | refine X_call_fn2 rfl (by simp only [tys]) ?_ | refine X_dcall_fn2 rfl (by simp only [tys]) ?_); apply Exists.intro; apply And.intro; (focus (simp -dsimp only [simx, zzC, zzB, tys, ite_self, opnL, callB, readsB, stepOp, ofVal, opBuiltin, opLen, PV.sk, scalBin, scalUn, intBin, opLoad, natOf, opConvert, opField, cellsP, oneP, Value.oneCell', opStore, toIV, scalT, scalA, scalC, boxesA, boxesC, zipB_none, zipB_mx, isZ, opZip, zeroP, opAppendZ, opMakeMap, opLookup, mboxB, opUpdate, ↓reduceIte, Nat.reduceSub, Nat.reduceEqDiff, Nat.reduceAdd, Nat.reduceMul, Nat.reduceLT, Nat.reduceLeDiff, Int.reduceToNat, Int.reduceLE, Int.reduceLT, Int.reduceNeg, reduceCtorEq, zzL, if_true, if_false] <;> rfl)); apply Exists.intro; apply And.intro; (focus (first | exact d1 | exact d2 | exact d3 | exact d4 | exact d5 | exact d6 | exact d7))) | refine ⟨(by show drawK _ _ = true; kernel_rfl : drawX _ _ _), ?_⟩ | exact (by show drawK _ _ = true; kernel_rfl : drawX _ _ _) | simp -dsimp (maxSteps := 20000000) (disch := omega) only [simx, zzC, zzB, tys, ite_self, opnL, callB, readsB, stepOp, ofVal, opBuiltin, opLen, PV.sk, scalBin, scalUn, intBin, opLoad, natOf, opConvert, opField, cellsP, oneP, Value.oneCell', opStore, toIV, scalT, scalA, scalC, boxesA, boxesC, zipB_none, zipB_mx, isZ, opZip, zeroP, opAppendZ, opMakeMap, opLookup, mboxB, opUpdate, ↓reduceIte, Nat.reduceSub, Nat.reduceEqDiff, Nat.reduceAdd, Nat.reduceMul, Nat.reduceLT, Nat.reduceLeDiff, Int.reduceToNat, Int.reduceLE, Int.reduceLT, Int.reduceNeg, reduceCtorEq, zzR, gos, Int.reduceAdd, Int.reduceSub, Int.reduceMul, Int.reduceEq])
end Go.Proofs.Ytkhjfphenflefaa.TM
