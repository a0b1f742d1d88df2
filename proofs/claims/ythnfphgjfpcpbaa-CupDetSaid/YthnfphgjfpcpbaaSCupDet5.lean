/- What is proved of functions, and plain facts, part 5. Conditions: none. -/
import Derived.Test.YthnfphgjfpcpbaaSCupDet4
set_option linter.defProp false
set_option linter.unusedSectionVars false
set_option linter.unusedSimpArgs false
set_option linter.unusedVariables false
namespace Go.Proofs.Ythnfphgjfpcpbaa.TM
open Go Go.RowKit
attribute [local irreducible] K W WOps Effs Xg Xo Xr Xdg Xdo Xdr Xif CallsP CallR
def twoR (p a b v : Int) : Int × Int := if HasB p [a, b] then (v, 0) else (0, 1)
theorem has2 {p a b : Int} (h : HasB p [a, b] = true) (wa : W64 a) (wb : W64 b) : Md p ∧ In p a ∧ In p b := by
  obtain ⟨h1, h2, h3⟩ := (has_iff p _).1 h
  exact ⟨⟨h2, h3⟩, ⟨wa.1, h1 a (by simp)⟩, ⟨wb.1, h1 b (by simp)⟩⟩
theorem two_mul (p a b : Int) (wa : W64 a) (wb : W64 b) : CallsP Try.prog 78 [u64 p, u64 a, u64 b, fnc 81] (.tup [u64 (twoR p a b (a * b % p)).1, i64 (twoR p a b (a * b % p)).2]) := by
  have q := has_walk p [a, b] (by rw [mx_len]; simp)
  unfold twoR
  cases h : HasB p [a, b] with
  | false =>
    rw [h] at q
    refine X_startP (n := 21) (m := 4) (rs := [.tmp 8, .tmp 9]) Try.func78 rfl rfl rfl rfl (by decide) fun base => ?_
    repeat (first | ((first | refine X_call_fn2 rfl (by simp only [tys]) ?_ | refine X_dcall_fn2 rfl (by simp only [tys]) ?_); apply Exists.intro; apply And.intro; (focus (simp -dsimp only [simx, zzC, zzB, tys, ite_self, opnL, callB, callX, readsB, stepOp, nilCmp, ofVal, opBuiltin, opLen, PV.sk, scalBin, scalUn, intBin, opLoad, natOf, opConvert, opField, cellsP, oneP, Value.oneCell', opStore, toIV, scalT, scalA, scalC, boxesA, boxesC, zipB_none, zipB_mx, isZ, opZip, zeroP, opAppendZ, opMakeMap, opLookup, mboxB, opUpdate, ↓reduceIte, Nat.reduceSub, Nat.reduceEqDiff, Nat.reduceAdd, Nat.reduceMul, Nat.reduceLT, Nat.reduceLeDiff, Int.reduceToNat, Int.reduceLE, Int.reduceLT, Int.reduceNeg, reduceCtorEq, zzL, if_true, if_false] <;> rfl)); apply Exists.intro; apply And.intro; (focus (first | exact q))) | refine X_opc rfl ?_ | refine X_dopc rfl ?_ | refine ⟨(by show drawK _ _ = true; kernel_rfl : drawX _ _ _), ?_⟩ | exact (by show drawK _ _ = true; kernel_rfl : drawX _ _ _) | simp -dsimp (maxSteps := 20000000) (disch := omega) only [simx, zzC, zzB, tys, ite_self, opnL, callB, callX, readsB, stepOp, nilCmp, ofVal, opBuiltin, opLen, PV.sk, scalBin, scalUn, intBin, opLoad, natOf, opConvert, opField, cellsP, oneP, Value.oneCell', opStore, toIV, scalT, scalA, scalC, boxesA, boxesC, zipB_none, zipB_mx, isZ, opZip, zeroP, opAppendZ, opMakeMap, opLookup, mboxB, opUpdate, ↓reduceIte, Nat.reduceSub, Nat.reduceEqDiff, Nat.reduceAdd, Nat.reduceMul, Nat.reduceLT, Nat.reduceLeDiff, Int.reduceToNat, Int.reduceLE, Int.reduceLT, Int.reduceNeg, reduceCtorEq, zzR, gos, Int.reduceAdd, Int.reduceSub, Int.reduceMul, Int.reduceEq])
  | true =>
    rw [h] at q
    obtain ⟨h1, h2, h3⟩ := has2 h wa wb
    have d := mul_walk p a b h1 h2 h3
    refine X_startP (n := 21) (m := 4) (rs := [.tmp 8, .tmp 9]) Try.func78 rfl rfl rfl rfl (by decide) fun base => ?_
    repeat (first | ((first | refine X_call_fn2 rfl (by simp only [tys]) ?_ | refine X_dcall_fn2 rfl (by simp only [tys]) ?_); apply Exists.intro; apply And.intro; (focus (simp -dsimp only [simx, zzC, zzB, tys, ite_self, opnL, callB, callX, readsB, stepOp, nilCmp, ofVal, opBuiltin, opLen, PV.sk, scalBin, scalUn, intBin, opLoad, natOf, opConvert, opField, cellsP, oneP, Value.oneCell', opStore, toIV, scalT, scalA, scalC, boxesA, boxesC, zipB_none, zipB_mx, isZ, opZip, zeroP, opAppendZ, opMakeMap, opLookup, mboxB, opUpdate, ↓reduceIte, Nat.reduceSub, Nat.reduceEqDiff, Nat.reduceAdd, Nat.reduceMul, Nat.reduceLT, Nat.reduceLeDiff, Int.reduceToNat, Int.reduceLE, Int.reduceLT, Int.reduceNeg, reduceCtorEq, zzL, if_true, if_false] <;> rfl)); apply Exists.intro; apply And.intro; (focus (first | exact q | exact d))) | (refine X_call_val2 rfl ?_; apply Exists.intro; apply And.intro; (focus (simp -dsimp only [simx, zzC, zzB, tys, ite_self, opnL, callB, callX, readsB, stepOp, nilCmp, ofVal, opBuiltin, opLen, PV.sk, scalBin, scalUn, intBin, opLoad, natOf, opConvert, opField, cellsP, oneP, Value.oneCell', opStore, toIV, scalT, scalA, scalC, boxesA, boxesC, zipB_none, zipB_mx, isZ, opZip, zeroP, opAppendZ, opMakeMap, opLookup, mboxB, opUpdate, ↓reduceIte, Nat.reduceSub, Nat.reduceEqDiff, Nat.reduceAdd, Nat.reduceMul, Nat.reduceLT, Nat.reduceLeDiff, Int.reduceToNat, Int.reduceLE, Int.reduceLT, Int.reduceNeg, reduceCtorEq, zzL, if_true, if_false] <;> rfl)); apply And.intro; (focus (first | simp only [tys] | exact such_enter _)); apply Exists.intro; apply And.intro; (focus (simp -dsimp only [simx, zzC, zzB, tys, ite_self, opnL, callB, callX, readsB, stepOp, nilCmp, ofVal, opBuiltin, opLen, PV.sk, scalBin, scalUn, intBin, opLoad, natOf, opConvert, opField, cellsP, oneP, Value.oneCell', opStore, toIV, scalT, scalA, scalC, boxesA, boxesC, zipB_none, zipB_mx, isZ, opZip, zeroP, opAppendZ, opMakeMap, opLookup, mboxB, opUpdate, ↓reduceIte, Nat.reduceSub, Nat.reduceEqDiff, Nat.reduceAdd, Nat.reduceMul, Nat.reduceLT, Nat.reduceLeDiff, Int.reduceToNat, Int.reduceLE, Int.reduceLT, Int.reduceNeg, reduceCtorEq, zzL, if_true, if_false] <;> rfl)); apply Exists.intro; apply And.intro; (focus (first | exact q | exact d))) | refine X_opc rfl ?_ | refine X_dopc rfl ?_ | refine ⟨(by show drawK _ _ = true; kernel_rfl : drawX _ _ _), ?_⟩ | exact (by show drawK _ _ = true; kernel_rfl : drawX _ _ _) | simp -dsimp (maxSteps := 20000000) (disch := omega) only [simx, zzC, zzB, tys, ite_self, opnL, callB, callX, readsB, stepOp, nilCmp, ofVal, opBuiltin, opLen, PV.sk, scalBin, scalUn, intBin, opLoad, natOf, opConvert, opField, cellsP, oneP, Value.oneCell', opStore, toIV, scalT, scalA, scalC, boxesA, boxesC, zipB_none, zipB_mx, isZ, opZip, zeroP, opAppendZ, opMakeMap, opLookup, mboxB, opUpdate, ↓reduceIte, Nat.reduceSub, Nat.reduceEqDiff, Nat.reduceAdd, Nat.reduceMul, Nat.reduceLT, Nat.reduceLeDiff, Int.reduceToNat, Int.reduceLE, Int.reduceLT, Int.reduceNeg, reduceCtorEq, zzR, gos, Int.reduceAdd, Int.reduceSub, Int.reduceMul, Int.reduceEq])
theorem two_add (p a b : Int) (wa : W64 a) (wb : W64 b) : CallsP Try.prog 78 [u64 p, u64 a, u64 b, fnc 79] (.tup [u64 (twoR p a b ((a + b) % p)).1, i64 (twoR p a b ((a + b) % p)).2]) := by
  have q := has_walk p [a, b] (by rw [mx_len]; simp)
  unfold twoR
  cases h : HasB p [a, b] with
  | false =>
    rw [h] at q
    refine X_startP (n := 21) (m := 4) (rs := [.tmp 8, .tmp 9]) Try.func78 rfl rfl rfl rfl (by decide) fun base => ?_
    repeat (first | ((first | refine X_call_fn2 rfl (by simp only [tys]) ?_ | refine X_dcall_fn2 rfl (by simp only [tys]) ?_); apply Exists.intro; apply And.intro; (focus (simp -dsimp only [simx, zzC, zzB, tys, ite_self, opnL, callB, callX, readsB, stepOp, nilCmp, ofVal, opBuiltin, opLen, PV.sk, scalBin, scalUn, intBin, opLoad, natOf, opConvert, opField, cellsP, oneP, Value.oneCell', opStore, toIV, scalT, scalA, scalC, boxesA, boxesC, zipB_none, zipB_mx, isZ, opZip, zeroP, opAppendZ, opMakeMap, opLookup, mboxB, opUpdate, ↓reduceIte, Nat.reduceSub, Nat.reduceEqDiff, Nat.reduceAdd, Nat.reduceMul, Nat.reduceLT, Nat.reduceLeDiff, Int.reduceToNat, Int.reduceLE, Int.reduceLT, Int.reduceNeg, reduceCtorEq, zzL, if_true, if_false] <;> rfl)); apply Exists.intro; apply And.intro; (focus (first | exact q))) | refine X_opc rfl ?_ | refine X_dopc rfl ?_ | refine ⟨(by show drawK _ _ = true; kernel_rfl : drawX _ _ _), ?_⟩ | exact (by show drawK _ _ = true; kernel_rfl : drawX _ _ _) | simp -dsimp (maxSteps := 20000000) (disch := omega) only [simx, zzC, zzB, tys, ite_self, opnL, callB, callX, readsB, stepOp, nilCmp, ofVal, opBuiltin, opLen, PV.sk, scalBin, scalUn, intBin, opLoad, natOf, opConvert, opField, cellsP, oneP, Value.oneCell', opStore, toIV, scalT, scalA, scalC, boxesA, boxesC, zipB_none, zipB_mx, isZ, opZip, zeroP, opAppendZ, opMakeMap, opLookup, mboxB, opUpdate, ↓reduceIte, Nat.reduceSub, Nat.reduceEqDiff, Nat.reduceAdd, Nat.reduceMul, Nat.reduceLT, Nat.reduceLeDiff, Int.reduceToNat, Int.reduceLE, Int.reduceLT, Int.reduceNeg, reduceCtorEq, zzR, gos, Int.reduceAdd, Int.reduceSub, Int.reduceMul, Int.reduceEq])
  | true =>
    rw [h] at q
    obtain ⟨h1, h2, h3⟩ := has2 h wa wb
    have d := add_walk p a b h1 h2 h3
    refine X_startP (n := 21) (m := 4) (rs := [.tmp 8, .tmp 9]) Try.func78 rfl rfl rfl rfl (by decide) fun base => ?_
    repeat (first | ((first | refine X_call_fn2 rfl (by simp only [tys]) ?_ | refine X_dcall_fn2 rfl (by simp only [tys]) ?_); apply Exists.intro; apply And.intro; (focus (simp -dsimp only [simx, zzC, zzB, tys, ite_self, opnL, callB, callX, readsB, stepOp, nilCmp, ofVal, opBuiltin, opLen, PV.sk, scalBin, scalUn, intBin, opLoad, natOf, opConvert, opField, cellsP, oneP, Value.oneCell', opStore, toIV, scalT, scalA, scalC, boxesA, boxesC, zipB_none, zipB_mx, isZ, opZip, zeroP, opAppendZ, opMakeMap, opLookup, mboxB, opUpdate, ↓reduceIte, Nat.reduceSub, Nat.reduceEqDiff, Nat.reduceAdd, Nat.reduceMul, Nat.reduceLT, Nat.reduceLeDiff, Int.reduceToNat, Int.reduceLE, Int.reduceLT, Int.reduceNeg, reduceCtorEq, zzL, if_true, if_false] <;> rfl)); apply Exists.intro; apply And.intro; (focus (first | exact q | exact d))) | (refine X_call_val2 rfl ?_; apply Exists.intro; apply And.intro; (focus (simp -dsimp only [simx, zzC, zzB, tys, ite_self, opnL, callB, callX, readsB, stepOp, nilCmp, ofVal, opBuiltin, opLen, PV.sk, scalBin, scalUn, intBin, opLoad, natOf, opConvert, opField, cellsP, oneP, Value.oneCell', opStore, toIV, scalT, scalA, scalC, boxesA, boxesC, zipB_none, zipB_mx, isZ, opZip, zeroP, opAppendZ, opMakeMap, opLookup, mboxB, opUpdate, ↓reduceIte, Nat.reduceSub, Nat.reduceEqDiff, Nat.reduceAdd, Nat.reduceMul, Nat.reduceLT, Nat.reduceLeDiff, Int.reduceToNat, Int.reduceLE, Int.reduceLT, Int.reduceNeg, reduceCtorEq, zzL, if_true, if_false] <;> rfl)); apply And.intro; (focus (first | simp only [tys] | exact such_enter _)); apply Exists.intro; apply And.intro; (focus (simp -dsimp only [simx, zzC, zzB, tys, ite_self, opnL, callB, callX, readsB, stepOp, nilCmp, ofVal, opBuiltin, opLen, PV.sk, scalBin, scalUn, intBin, opLoad, natOf, opConvert, opField, cellsP, oneP, Value.oneCell', opStore, toIV, scalT, scalA, scalC, boxesA, boxesC, zipB_none, zipB_mx, isZ, opZip, zeroP, opAppendZ, opMakeMap, opLookup, mboxB, opUpdate, ↓reduceIte, Nat.reduceSub, Nat.reduceEqDiff, Nat.reduceAdd, Nat.reduceMul, Nat.reduceLT, Nat.reduceLeDiff, Int.reduceToNat, Int.reduceLE, Int.reduceLT, Int.reduceNeg, reduceCtorEq, zzL, if_true, if_false] <;> rfl)); apply Exists.intro; apply And.intro; (focus (first | exact q | exact d))) | refine X_opc rfl ?_ | refine X_dopc rfl ?_ | refine ⟨(by show drawK _ _ = true; kernel_rfl : drawX _ _ _), ?_⟩ | exact (by show drawK _ _ = true; kernel_rfl : drawX _ _ _) | simp -dsimp (maxSteps := 20000000) (disch := omega) only [simx, zzC, zzB, tys, ite_self, opnL, callB, callX, readsB, stepOp, nilCmp, ofVal, opBuiltin, opLen, PV.sk, scalBin, scalUn, intBin, opLoad, natOf, opConvert, opField, cellsP, oneP, Value.oneCell', opStore, toIV, scalT, scalA, scalC, boxesA, boxesC, zipB_none, zipB_mx, isZ, opZip, zeroP, opAppendZ, opMakeMap, opLookup, mboxB, opUpdate, ↓reduceIte, Nat.reduceSub, Nat.reduceEqDiff, Nat.reduceAdd, Nat.reduceMul, Nat.reduceLT, Nat.reduceLeDiff, Int.reduceToNat, Int.reduceLE, Int.reduceLT, Int.reduceNeg, reduceCtorEq, zzR, gos, Int.reduceAdd, Int.reduceSub, Int.reduceMul, Int.reduceEq])
theorem Mul_walk (p a b : Int) (wa : W64 a) (wb : W64 b) : CallsP Try.prog 51 [u64 p, u64 a, u64 b] (.tup [u64 (twoR p a b (a * b % p)).1, i64 (twoR p a b (a * b % p)).2]) := by
  have q := two_mul p a b wa wb
  refine X_startP (n := 14) (m := 3) (rs := [.tmp 6, .tmp 7]) Try.func51 rfl rfl rfl rfl (by decide) fun base => ?_
  repeat (first | ((first | refine X_call_fn2 rfl (by simp only [tys]) ?_ | refine X_dcall_fn2 rfl (by simp only [tys]) ?_); apply Exists.intro; apply And.intro; (focus (simp -dsimp only [simx, zzC, zzB, tys, ite_self, opnL, callB, callX, readsB, stepOp, nilCmp, ofVal, opBuiltin, opLen, PV.sk, scalBin, scalUn, intBin, opLoad, natOf, opConvert, opField, cellsP, oneP, Value.oneCell', opStore, toIV, scalT, scalA, scalC, boxesA, boxesC, zipB_none, zipB_mx, isZ, opZip, zeroP, opAppendZ, opMakeMap, opLookup, mboxB, opUpdate, ↓reduceIte, Nat.reduceSub, Nat.reduceEqDiff, Nat.reduceAdd, Nat.reduceMul, Nat.reduceLT, Nat.reduceLeDiff, Int.reduceToNat, Int.reduceLE, Int.reduceLT, Int.reduceNeg, reduceCtorEq, zzL, if_true, if_false] <;> rfl)); apply Exists.intro; apply And.intro; (focus (first | exact q))) | refine X_opc rfl ?_ | refine X_dopc rfl ?_ | refine ⟨(by show drawK _ _ = true; kernel_rfl : drawX _ _ _), ?_⟩ | exact (by show drawK _ _ = true; kernel_rfl : drawX _ _ _) | simp -dsimp (maxSteps := 20000000) (disch := omega) only [simx, zzC, zzB, tys, ite_self, opnL, callB, callX, readsB, stepOp, nilCmp, ofVal, opBuiltin, opLen, PV.sk, scalBin, scalUn, intBin, opLoad, natOf, opConvert, opField, cellsP, oneP, Value.oneCell', opStore, toIV, scalT, scalA, scalC, boxesA, boxesC, zipB_none, zipB_mx, isZ, opZip, zeroP, opAppendZ, opMakeMap, opLookup, mboxB, opUpdate, ↓reduceIte, Nat.reduceSub, Nat.reduceEqDiff, Nat.reduceAdd, Nat.reduceMul, Nat.reduceLT, Nat.reduceLeDiff, Int.reduceToNat, Int.reduceLE, Int.reduceLT, Int.reduceNeg, reduceCtorEq, zzR, gos, Int.reduceAdd, Int.reduceSub, Int.reduceMul, Int.reduceEq])
theorem Add_walk (p a b : Int) (wa : W64 a) (wb : W64 b) : CallsP Try.prog 30 [u64 p, u64 a, u64 b] (.tup [u64 (twoR p a b ((a + b) % p)).1, i64 (twoR p a b ((a + b) % p)).2]) := by
  have q := two_add p a b wa wb
  refine X_startP (n := 14) (m := 3) (rs := [.tmp 6, .tmp 7]) Try.func30 rfl rfl rfl rfl (by decide) fun base => ?_
  repeat (first | ((first | refine X_call_fn2 rfl (by simp only [tys]) ?_ | refine X_dcall_fn2 rfl (by simp only [tys]) ?_); apply Exists.intro; apply And.intro; (focus (simp -dsimp only [simx, zzC, zzB, tys, ite_self, opnL, callB, callX, readsB, stepOp, nilCmp, ofVal, opBuiltin, opLen, PV.sk, scalBin, scalUn, intBin, opLoad, natOf, opConvert, opField, cellsP, oneP, Value.oneCell', opStore, toIV, scalT, scalA, scalC, boxesA, boxesC, zipB_none, zipB_mx, isZ, opZip, zeroP, opAppendZ, opMakeMap, opLookup, mboxB, opUpdate, ↓reduceIte, Nat.reduceSub, Nat.reduceEqDiff, Nat.reduceAdd, Nat.reduceMul, Nat.reduceLT, Nat.reduceLeDiff, Int.reduceToNat, Int.reduceLE, Int.reduceLT, Int.reduceNeg, reduceCtorEq, zzL, if_true, if_false] <;> rfl)); apply Exists.intro; apply And.intro; (focus (first | exact q))) | refine X_opc rfl ?_ | refine X_dopc rfl ?_ | refine ⟨(by show drawK _ _ = true; kernel_rfl : drawX _ _ _), ?_⟩ | exact (by show drawK _ _ = true; kernel_rfl : drawX _ _ _) | simp -dsimp (maxSteps := 20000000) (disch := omega) only [simx, zzC, zzB, tys, ite_self, opnL, callB, callX, readsB, stepOp, nilCmp, ofVal, opBuiltin, opLen, PV.sk, scalBin, scalUn, intBin, opLoad, natOf, opConvert, opField, cellsP, oneP, Value.oneCell', opStore, toIV, scalT, scalA, scalC, boxesA, boxesC, zipB_none, zipB_mx, isZ, opZip, zeroP, opAppendZ, opMakeMap, opLookup, mboxB, opUpdate, ↓reduceIte, Nat.reduceSub, Nat.reduceEqDiff, Nat.reduceAdd, Nat.reduceMul, Nat.reduceLT, Nat.reduceLeDiff, Int.reduceToNat, Int.reduceLE, Int.reduceLT, Int.reduceNeg, reduceCtorEq, zzR, gos, Int.reduceAdd, Int.reduceSub, Int.reduceMul, Int.reduceEq])
end Go.Proofs.Ythnfphgjfpcpbaa.TM
namespace Go.Proofs.Ythnfphgjfpcpbaa.TM
open Go Go.RowKit
attribute [local irreducible] K W WOps Effs Xg Xo Xr Xdg Xdo Xdr Xif CallsP CallR
theorem subm_ge {p a b : Int} (ha : In p a) (hb : In p b) (h : b ≤ a) : (a - b) % p = a - b := Int.emod_eq_of_lt (by omega) (by have := ha.2; have := hb.1; omega)
theorem subm_lt {p a b : Int} (ha : In p a) (hb : In p b) (h : ¬ b ≤ a) : (a - b) % p = a + (p - b) := by
  rw [show a - b = a + (p - b) + p * (-1) by omega, Int.add_mul_emod_self_left]
  exact Int.emod_eq_of_lt (by have := ha.1; have := hb.2; omega) (by omega)
theorem sub_walk (p a b : Int) (hp : Md p) (ha : In p a) (hb : In p b) : CallsP Try.prog 97 [u64 p, u64 a, u64 b] (u64 ((a - b) % p)) := by
  have p1 := hp.1; have p2 := hp.2
  have a1 := ha.1; have a2 := ha.2; have b1 := hb.1; have b2 := hb.2
  by_cases c : b ≤ a
  · rw [subm_ge ha hb c]
    refine X_startP (n := 18) (m := 3) (rs := [.tmp 6]) Try.func97 rfl rfl rfl rfl (by decide) fun base => ?_
    repeat (first | refine X_opc rfl ?_ | refine X_dopc rfl ?_ | refine ⟨(by show drawK _ _ = true; kernel_rfl : drawX _ _ _), ?_⟩ | exact (by show drawK _ _ = true; kernel_rfl : drawX _ _ _) | simp -dsimp (maxSteps := 20000000) (disch := omega) only [simx, zzC, zzB, tys, ite_self, opnL, callB, callX, readsB, stepOp, nilCmp, ofVal, opBuiltin, opLen, PV.sk, scalBin, scalUn, intBin, opLoad, natOf, opConvert, opField, cellsP, oneP, Value.oneCell', opStore, toIV, scalT, scalA, scalC, boxesA, boxesC, zipB_none, zipB_mx, isZ, opZip, zeroP, opAppendZ, opMakeMap, opLookup, mboxB, opUpdate, ↓reduceIte, Nat.reduceSub, Nat.reduceEqDiff, Nat.reduceAdd, Nat.reduceMul, Nat.reduceLT, Nat.reduceLeDiff, Int.reduceToNat, Int.reduceLE, Int.reduceLT, Int.reduceNeg, reduceCtorEq, zzR, gos, Int.reduceAdd, Int.reduceSub, Int.reduceMul, Int.reduceEq])
  · rw [subm_lt ha hb c]
    refine X_startP (n := 18) (m := 3) (rs := [.tmp 6]) Try.func97 rfl rfl rfl rfl (by decide) fun base => ?_
    repeat (first | refine X_opc rfl ?_ | refine X_dopc rfl ?_ | refine ⟨(by show drawK _ _ = true; kernel_rfl : drawX _ _ _), ?_⟩ | exact (by show drawK _ _ = true; kernel_rfl : drawX _ _ _) | simp -dsimp (maxSteps := 20000000) (disch := omega) only [simx, zzC, zzB, tys, ite_self, opnL, callB, callX, readsB, stepOp, nilCmp, ofVal, opBuiltin, opLen, PV.sk, scalBin, scalUn, intBin, opLoad, natOf, opConvert, opField, cellsP, oneP, Value.oneCell', opStore, toIV, scalT, scalA, scalC, boxesA, boxesC, zipB_none, zipB_mx, isZ, opZip, zeroP, opAppendZ, opMakeMap, opLookup, mboxB, opUpdate, ↓reduceIte, Nat.reduceSub, Nat.reduceEqDiff, Nat.reduceAdd, Nat.reduceMul, Nat.reduceLT, Nat.reduceLeDiff, Int.reduceToNat, Int.reduceLE, Int.reduceLT, Int.reduceNeg, reduceCtorEq, zzR, gos, Int.reduceAdd, Int.reduceSub, Int.reduceMul, Int.reduceEq])
theorem two_sub (p a b : Int) (wa : W64 a) (wb : W64 b) : CallsP Try.prog 78 [u64 p, u64 a, u64 b, fnc 97] (.tup [u64 (twoR p a b ((a - b) % p)).1, i64 (twoR p a b ((a - b) % p)).2]) := by
  have h := has_walk p [a, b] (by rw [mx_len]; simp)
  unfold twoR
  cases c : HasB p [a, b] with
  | false =>
    rw [c] at h
    refine X_startP (n := 21) (m := 4) (rs := [.tmp 8, .tmp 9]) Try.func78 rfl rfl rfl rfl (by decide) fun base => ?_
    repeat (first | ((first | refine X_call_fn2 rfl (by simp only [tys]) ?_ | refine X_dcall_fn2 rfl (by simp only [tys]) ?_); apply Exists.intro; apply And.intro; (focus (simp -dsimp only [simx, zzC, zzB, tys, ite_self, opnL, callB, callX, readsB, stepOp, nilCmp, ofVal, opBuiltin, opLen, PV.sk, scalBin, scalUn, intBin, opLoad, natOf, opConvert, opField, cellsP, oneP, Value.oneCell', opStore, toIV, scalT, scalA, scalC, boxesA, boxesC, zipB_none, zipB_mx, isZ, opZip, zeroP, opAppendZ, opMakeMap, opLookup, mboxB, opUpdate, ↓reduceIte, Nat.reduceSub, Nat.reduceEqDiff, Nat.reduceAdd, Nat.reduceMul, Nat.reduceLT, Nat.reduceLeDiff, Int.reduceToNat, Int.reduceLE, Int.reduceLT, Int.reduceNeg, reduceCtorEq, zzL, if_true, if_false] <;> rfl)); apply Exists.intro; apply And.intro; (focus (first | exact h))) | (refine X_call_val2 rfl ?_; apply Exists.intro; apply And.intro; (focus (simp -dsimp only [simx, zzC, zzB, tys, ite_self, opnL, callB, callX, readsB, stepOp, nilCmp, ofVal, opBuiltin, opLen, PV.sk, scalBin, scalUn, intBin, opLoad, natOf, opConvert, opField, cellsP, oneP, Value.oneCell', opStore, toIV, scalT, scalA, scalC, boxesA, boxesC, zipB_none, zipB_mx, isZ, opZip, zeroP, opAppendZ, opMakeMap, opLookup, mboxB, opUpdate, ↓reduceIte, Nat.reduceSub, Nat.reduceEqDiff, Nat.reduceAdd, Nat.reduceMul, Nat.reduceLT, Nat.reduceLeDiff, Int.reduceToNat, Int.reduceLE, Int.reduceLT, Int.reduceNeg, reduceCtorEq, zzL, if_true, if_false] <;> rfl)); apply And.intro; (focus (first | simp only [tys] | exact such_enter _)); apply Exists.intro; apply And.intro; (focus (simp -dsimp only [simx, zzC, zzB, tys, ite_self, opnL, callB, callX, readsB, stepOp, nilCmp, ofVal, opBuiltin, opLen, PV.sk, scalBin, scalUn, intBin, opLoad, natOf, opConvert, opField, cellsP, oneP, Value.oneCell', opStore, toIV, scalT, scalA, scalC, boxesA, boxesC, zipB_none, zipB_mx, isZ, opZip, zeroP, opAppendZ, opMakeMap, opLookup, mboxB, opUpdate, ↓reduceIte, Nat.reduceSub, Nat.reduceEqDiff, Nat.reduceAdd, Nat.reduceMul, Nat.reduceLT, Nat.reduceLeDiff, Int.reduceToNat, Int.reduceLE, Int.reduceLT, Int.reduceNeg, reduceCtorEq, zzL, if_true, if_false] <;> rfl)); apply Exists.intro; apply And.intro; (focus (first | exact h))) | refine X_opc rfl ?_ | refine X_dopc rfl ?_ | refine ⟨(by show drawK _ _ = true; kernel_rfl : drawX _ _ _), ?_⟩ | exact (by show drawK _ _ = true; kernel_rfl : drawX _ _ _) | simp -dsimp (maxSteps := 20000000) (disch := omega) only [simx, zzC, zzB, tys, ite_self, opnL, callB, callX, readsB, stepOp, nilCmp, ofVal, opBuiltin, opLen, PV.sk, scalBin, scalUn, intBin, opLoad, natOf, opConvert, opField, cellsP, oneP, Value.oneCell', opStore, toIV, scalT, scalA, scalC, boxesA, boxesC, zipB_none, zipB_mx, isZ, opZip, zeroP, opAppendZ, opMakeMap, opLookup, mboxB, opUpdate, ↓reduceIte, Nat.reduceSub, Nat.reduceEqDiff, Nat.reduceAdd, Nat.reduceMul, Nat.reduceLT, Nat.reduceLeDiff, Int.reduceToNat, Int.reduceLE, Int.reduceLT, Int.reduceNeg, reduceCtorEq, zzR, gos, Int.reduceAdd, Int.reduceSub, Int.reduceMul, Int.reduceEq])
  | true =>
    rw [c] at h
    obtain ⟨hp, ha, hb⟩ := has2 c wa wb
    have d := sub_walk p a b hp ha hb
    refine X_startP (n := 21) (m := 4) (rs := [.tmp 8, .tmp 9]) Try.func78 rfl rfl rfl rfl (by decide) fun base => ?_
    repeat (first | ((first | refine X_call_fn2 rfl (by simp only [tys]) ?_ | refine X_dcall_fn2 rfl (by simp only [tys]) ?_); apply Exists.intro; apply And.intro; (focus (simp -dsimp only [simx, zzC, zzB, tys, ite_self, opnL, callB, callX, readsB, stepOp, nilCmp, ofVal, opBuiltin, opLen, PV.sk, scalBin, scalUn, intBin, opLoad, natOf, opConvert, opField, cellsP, oneP, Value.oneCell', opStore, toIV, scalT, scalA, scalC, boxesA, boxesC, zipB_none, zipB_mx, isZ, opZip, zeroP, opAppendZ, opMakeMap, opLookup, mboxB, opUpdate, ↓reduceIte, Nat.reduceSub, Nat.reduceEqDiff, Nat.reduceAdd, Nat.reduceMul, Nat.reduceLT, Nat.reduceLeDiff, Int.reduceToNat, Int.reduceLE, Int.reduceLT, Int.reduceNeg, reduceCtorEq, zzL, if_true, if_false] <;> rfl)); apply Exists.intro; apply And.intro; (focus (first | exact h | exact d))) | (refine X_call_val2 rfl ?_; apply Exists.intro; apply And.intro; (focus (simp -dsimp only [simx, zzC, zzB, tys, ite_self, opnL, callB, callX, readsB, stepOp, nilCmp, ofVal, opBuiltin, opLen, PV.sk, scalBin, scalUn, intBin, opLoad, natOf, opConvert, opField, cellsP, oneP, Value.oneCell', opStore, toIV, scalT, scalA, scalC, boxesA, boxesC, zipB_none, zipB_mx, isZ, opZip, zeroP, opAppendZ, opMakeMap, opLookup, mboxB, opUpdate, ↓reduceIte, Nat.reduceSub, Nat.reduceEqDiff, Nat.reduceAdd, Nat.reduceMul, Nat.reduceLT, Nat.reduceLeDiff, Int.reduceToNat, Int.reduceLE, Int.reduceLT, Int.reduceNeg, reduceCtorEq, zzL, if_true, if_false] <;> rfl)); apply And.intro; (focus (first | simp only [tys] | exact such_enter _)); apply Exists.intro; apply And.intro; (focus (simp -dsimp only [simx, zzC, zzB, tys, ite_self, opnL, callB, callX, readsB, stepOp, nilCmp, ofVal, opBuiltin, opLen, PV.sk, scalBin, scalUn, intBin, opLoad, natOf, opConvert, opField, cellsP, oneP, Value.oneCell', opStore, toIV, scalT, scalA, scalC, boxesA, boxesC, zipB_none, zipB_mx, isZ, opZip, zeroP, opAppendZ, opMakeMap, opLookup, mboxB, opUpdate, ↓reduceIte, Nat.reduceSub, Nat.reduceEqDiff, Nat.reduceAdd, Nat.reduceMul, Nat.reduceLT, Nat.reduceLeDiff, Int.reduceToNat, Int.reduceLE, Int.reduceLT, Int.reduceNeg, reduceCtorEq, zzL, if_true, if_false] <;> rfl)); apply Exists.intro; apply And.intro; (focus (first | exact h | exact d))) | refine X_opc rfl ?_ | refine X_dopc rfl ?_ | refine ⟨(by show drawK _ _ = true; kernel_rfl : drawX _ _ _), ?_⟩ | exact (by show drawK _ _ = true; kernel_rfl : drawX _ _ _) | simp -dsimp (maxSteps := 20000000) (disch := omega) only [simx, zzC, zzB, tys, ite_self, opnL, callB, callX, readsB, stepOp, nilCmp, ofVal, opBuiltin, opLen, PV.sk, scalBin, scalUn, intBin, opLoad, natOf, opConvert, opField, cellsP, oneP, Value.oneCell', opStore, toIV, scalT, scalA, scalC, boxesA, boxesC, zipB_none, zipB_mx, isZ, opZip, zeroP, opAppendZ, opMakeMap, opLookup, mboxB, opUpdate, ↓reduceIte, Nat.reduceSub, Nat.reduceEqDiff, Nat.reduceAdd, Nat.reduceMul, Nat.reduceLT, Nat.reduceLeDiff, Int.reduceToNat, Int.reduceLE, Int.reduceLT, Int.reduceNeg, reduceCtorEq, zzR, gos, Int.reduceAdd, Int.reduceSub, Int.reduceMul, Int.reduceEq])
theorem Sub_walk (p a b : Int) (wa : W64 a) (wb : W64 b) : CallsP Try.prog 54 [u64 p, u64 a, u64 b] (.tup [u64 (twoR p a b ((a - b) % p)).1, i64 (twoR p a b ((a - b) % p)).2]) := by
  have d := two_sub p a b wa wb
  refine X_startP (n := 14) (m := 3) (rs := [.tmp 6, .tmp 7]) Try.func54 rfl rfl rfl rfl (by decide) fun base => ?_
  repeat (first | ((first | refine X_call_fn2 rfl (by simp only [tys]) ?_ | refine X_dcall_fn2 rfl (by simp only [tys]) ?_); apply Exists.intro; apply And.intro; (focus (simp -dsimp only [simx, zzC, zzB, tys, ite_self, opnL, callB, callX, readsB, stepOp, nilCmp, ofVal, opBuiltin, opLen, PV.sk, scalBin, scalUn, intBin, opLoad, natOf, opConvert, opField, cellsP, oneP, Value.oneCell', opStore, toIV, scalT, scalA, scalC, boxesA, boxesC, zipB_none, zipB_mx, isZ, opZip, zeroP, opAppendZ, opMakeMap, opLookup, mboxB, opUpdate, ↓reduceIte, Nat.reduceSub, Nat.reduceEqDiff, Nat.reduceAdd, Nat.reduceMul, Nat.reduceLT, Nat.reduceLeDiff, Int.reduceToNat, Int.reduceLE, Int.reduceLT, Int.reduceNeg, reduceCtorEq, zzL, if_true, if_false] <;> rfl)); apply Exists.intro; apply And.intro; (focus (first | exact d))) | refine X_opc rfl ?_ | refine X_dopc rfl ?_ | refine ⟨(by show drawK _ _ = true; kernel_rfl : drawX _ _ _), ?_⟩ | exact (by show drawK _ _ = true; kernel_rfl : drawX _ _ _) | simp -dsimp (maxSteps := 20000000) (disch := omega) only [simx, zzC, zzB, tys, ite_self, opnL, callB, callX, readsB, stepOp, nilCmp, ofVal, opBuiltin, opLen, PV.sk, scalBin, scalUn, intBin, opLoad, natOf, opConvert, opField, cellsP, oneP, Value.oneCell', opStore, toIV, scalT, scalA, scalC, boxesA, boxesC, zipB_none, zipB_mx, isZ, opZip, zeroP, opAppendZ, opMakeMap, opLookup, mboxB, opUpdate, ↓reduceIte, Nat.reduceSub, Nat.reduceEqDiff, Nat.reduceAdd, Nat.reduceMul, Nat.reduceLT, Nat.reduceLeDiff, Int.reduceToNat, Int.reduceLE, Int.reduceLT, Int.reduceNeg, reduceCtorEq, zzR, gos, Int.reduceAdd, Int.reduceSub, Int.reduceMul, Int.reduceEq])
theorem inv_walk (p a : Int) (hp : Md p) (ha : In p a) : ∃ v, CallsP Try.prog 82 [u64 p, u64 a] (.tup [u64 v, bl (decide (Int.gcd p a = 1))]) ∧ (Int.gcd p a = 1 → v = finv p a) := by
  have p1 := hp.1; have p2 := hp.2
  have a1 := ha.1; have a2 := ha.2
  obtain ⟨N, g1, g2⟩ := eu_run p2 p1 ha
  obtain ⟨E, _⟩ := g2 N (Nat.le_refl _)
  rw [g1] at E
  obtain ⟨k1, k2⟩ := eu_end p1 E
  have hx2 := E.hx2
  refine ⟨if (itJ euT N (p, a, 0, 1)).2.2.1 < 0 then (itJ euT N (p, a, 0, 1)).2.2.1 + p else (itJ euT N (p, a, 0, 1)).2.2.1, ?_, fun h => (finv_spec (k2 h).1 (k2 h).2).symm⟩
  clear k2
  rw [← k1]
  refine X_startP (n := 42) (m := 2) (rs := [.tmp 4, .tmp 5]) Try.func82 rfl rfl rfl rfl (by decide) fun base => ?_
  repeat (first | refine X_opc rfl ?_ | refine X_dopc rfl ?_ | refine ⟨(by show drawK _ _ = true; kernel_rfl : drawX _ _ _), ?_⟩ | exact (by show drawK _ _ = true; kernel_rfl : drawX _ _ _) | simp -dsimp (maxSteps := 20000000) (disch := omega) only [simx, zzC, zzB, tys, ite_self, opnL, callB, callX, readsB, stepOp, nilCmp, ofVal, opBuiltin, opLen, PV.sk, scalBin, scalUn, intBin, opLoad, natOf, opConvert, opField, cellsP, oneP, Value.oneCell', opStore, toIV, scalT, scalA, scalC, boxesA, boxesC, zipB_none, zipB_mx, isZ, opZip, zeroP, opAppendZ, opMakeMap, opLookup, mboxB, opUpdate, ↓reduceIte, Nat.reduceSub, Nat.reduceEqDiff, Nat.reduceAdd, Nat.reduceMul, Nat.reduceLT, Nat.reduceLeDiff, Int.reduceToNat, Int.reduceLE, Int.reduceLT, Int.reduceNeg, reduceCtorEq, gos, Int.reduceAdd, Int.reduceSub, Int.reduceMul, Int.reduceEq])
  refine X_loopH [0, 6, 7, 8, 9] [] (0) (N) (fun j => True) (fun j => [(6, i64 (itJ euT j (p, a, 0, 1)).1), (7, i64 (itJ euT j (p, a, 0, 1)).2.1), (8, i64 (itJ euT j (p, a, 0, 1)).2.2.1), (9, i64 (itJ euT j (p, a, 0, 1)).2.2.2)]) (fun j => Heap.none) ?_ ?_ ?_ ?_ ?_ (by decide) ?_
  · exact (fgt_nil)
  · ((simp -dsimp (disch := omega) only [simx, zzB, tys, ite_self, opnL, callB, callX, readsB, stepOp, nilCmp, ofVal, opBuiltin, opLen, PV.sk, scalBin, scalUn, intBin, opLoad, natOf, opConvert, opField, cellsP, oneP, Value.oneCell', opStore, toIV, scalT, scalA, scalC, boxesA, boxesC, zipB_none, zipB_mx, isZ, opZip, zeroP, opAppendZ, opMakeMap, opLookup, mboxB, opUpdate, ↓reduceIte, Nat.reduceSub, Nat.reduceEqDiff, Nat.reduceAdd, Nat.reduceMul, Nat.reduceLT, Nat.reduceLeDiff, Int.reduceToNat, Int.reduceLE, Int.reduceLT, Int.reduceNeg, reduceCtorEq, gos, Int.reduceAdd, Int.reduceSub, Int.reduceMul, Int.reduceEq]) <;> first | rfl | simp [itJ])
  · exact drop_nil _
  · omega
  · trivial
  · intro j hj _
    by_cases cj : j < N
    · obtain ⟨E, hs⟩ := g2 j hj
      replace hs := hs cj
      obtain ⟨r, s, x, y, ht⟩ : ∃ r s x y, itJ euT j (p, a, 0, 1) = (r, s, x, y) := ⟨_, _, _, _, rfl⟩
      have nx : itJ euT (j + 1) (p, a, 0, 1) = (s, r - r / s * s, y, x - r / s * y) := by rw [itJ, ht]; rfl
      rw [ht] at E hs ⊢
      clear g1 g2 k1 hx2 ht
      simp only at E hs ⊢
      obtain ⟨E2, bd, h3, h4, h5, h6⟩ := eu_next E p2 hs
      have b2 := bd _ rfl
      have hs0 := E.hs0; have hsr := E.hsr; have hrp := E.hrp
      clear bd E2
      have w1 : IntKind.i64.wrap (r / s) = r / s := iw_of (by omega) (by omega)
      have w2 : IntKind.i64.wrap (r / s * s) = r / s * s := iw_of (by omega) (by omega)
      have w3 : IntKind.i64.wrap (r - r / s * s) = r - r / s * s := iw_of (by omega) (by omega)
      have w4 : IntKind.i64.wrap (r / s * y) = r / s * y := iw_of b2.1 b2.2.1
      have w5 : IntKind.i64.wrap (x - r / s * y) = x - r / s * y := iw_of b2.2.2.1 b2.2.2.2
      have w6 : Int.tdiv r s = r / s := tdiv_nn (by omega)
      repeat (first | refine X_opc rfl ?_ | refine X_dopc rfl ?_ | refine ⟨(by show drawK _ _ = true; kernel_rfl : drawX _ _ _), ?_⟩ | exact (by show drawK _ _ = true; kernel_rfl : drawX _ _ _) | simp -dsimp (maxSteps := 20000000) (disch := omega) only [simx, zzC, zzB, tys, ite_self, opnL, callB, callX, readsB, stepOp, nilCmp, ofVal, opBuiltin, opLen, PV.sk, scalBin, scalUn, intBin, opLoad, natOf, opConvert, opField, cellsP, oneP, Value.oneCell', opStore, toIV, scalT, scalA, scalC, boxesA, boxesC, zipB_none, zipB_mx, isZ, opZip, zeroP, opAppendZ, opMakeMap, opLookup, mboxB, opUpdate, ↓reduceIte, Nat.reduceSub, Nat.reduceEqDiff, Nat.reduceAdd, Nat.reduceMul, Nat.reduceLT, Nat.reduceLeDiff, Int.reduceToNat, Int.reduceLE, Int.reduceLT, Int.reduceNeg, reduceCtorEq, gos, Int.reduceAdd, Int.reduceSub, Int.reduceMul, Int.reduceEq, w1, w2, w3, w4, w5, w6, hs])
      refine ⟨cj, (fgt_nil), ?_, drop_nil _⟩
      rw [nx]
      repeat' first | rfl | apply And.intro
    · obtain rfl : N = j := by omega
      clear g2 k1
      have r0 := E.hsr
      have r1 := E.hrp
      clear E
      generalize itJ euT N (p, a, 0, 1) = t at g1 hx2 r0 r1 ⊢
      obtain ⟨r, s, x, y⟩ := t
      simp only at g1 hx2 r0 r1 ⊢
      subst g1
      by_cases cx : x < 0
      · rw [if_pos cx]
        repeat (first | refine X_opc rfl ?_ | refine X_dopc rfl ?_ | refine ⟨(by show drawK _ _ = true; kernel_rfl : drawX _ _ _), ?_⟩ | exact (by show drawK _ _ = true; kernel_rfl : drawX _ _ _) | simp -dsimp (maxSteps := 20000000) (disch := omega) only [simx, zzC, zzB, tys, ite_self, opnL, callB, callX, readsB, stepOp, nilCmp, ofVal, opBuiltin, opLen, PV.sk, scalBin, scalUn, intBin, opLoad, natOf, opConvert, opField, cellsP, oneP, Value.oneCell', opStore, toIV, scalT, scalA, scalC, boxesA, boxesC, zipB_none, zipB_mx, isZ, opZip, zeroP, opAppendZ, opMakeMap, opLookup, mboxB, opUpdate, ↓reduceIte, Nat.reduceSub, Nat.reduceEqDiff, Nat.reduceAdd, Nat.reduceMul, Nat.reduceLT, Nat.reduceLeDiff, Int.reduceToNat, Int.reduceLE, Int.reduceLT, Int.reduceNeg, reduceCtorEq, zzR, gos, Int.reduceAdd, Int.reduceSub, Int.reduceMul, Int.reduceEq])
      · rw [if_neg cx]
        repeat (first | refine X_opc rfl ?_ | refine X_dopc rfl ?_ | refine ⟨(by show drawK _ _ = true; kernel_rfl : drawX _ _ _), ?_⟩ | exact (by show drawK _ _ = true; kernel_rfl : drawX _ _ _) | simp -dsimp (maxSteps := 20000000) (disch := omega) only [simx, zzC, zzB, tys, ite_self, opnL, callB, callX, readsB, stepOp, nilCmp, ofVal, opBuiltin, opLen, PV.sk, scalBin, scalUn, intBin, opLoad, natOf, opConvert, opField, cellsP, oneP, Value.oneCell', opStore, toIV, scalT, scalA, scalC, boxesA, boxesC, zipB_none, zipB_mx, isZ, opZip, zeroP, opAppendZ, opMakeMap, opLookup, mboxB, opUpdate, ↓reduceIte, Nat.reduceSub, Nat.reduceEqDiff, Nat.reduceAdd, Nat.reduceMul, Nat.reduceLT, Nat.reduceLeDiff, Int.reduceToNat, Int.reduceLE, Int.reduceLT, Int.reduceNeg, reduceCtorEq, zzR, gos, Int.reduceAdd, Int.reduceSub, Int.reduceMul, Int.reduceEq])
theorem Inv_walk (p a : Int) (wa : W64 a) : ∃ r : Int × Int, r = (if HasB p [a] then invR p a else (0, 1)) ∧ CallsP Try.prog 40 [u64 p, u64 a] (.tup [u64 r.1, i64 r.2]) := by
  refine ⟨_, rfl, ?_⟩
  have h := has_walk p [a] (by rw [mx_len]; simp)
  cases c : HasB p [a] with
  | false =>
    rw [c] at h
    refine X_startP (n := 22) (m := 2) (rs := [.tmp 4, .tmp 5]) Try.func40 rfl rfl rfl rfl (by decide) fun base => ?_
    repeat (first | ((first | refine X_call_fn2 rfl (by simp only [tys]) ?_ | refine X_dcall_fn2 rfl (by simp only [tys]) ?_); apply Exists.intro; apply And.intro; (focus (simp -dsimp only [simx, zzC, zzB, tys, ite_self, opnL, callB, callX, readsB, stepOp, nilCmp, ofVal, opBuiltin, opLen, PV.sk, scalBin, scalUn, intBin, opLoad, natOf, opConvert, opField, cellsP, oneP, Value.oneCell', opStore, toIV, scalT, scalA, scalC, boxesA, boxesC, zipB_none, zipB_mx, isZ, opZip, zeroP, opAppendZ, opMakeMap, opLookup, mboxB, opUpdate, ↓reduceIte, Nat.reduceSub, Nat.reduceEqDiff, Nat.reduceAdd, Nat.reduceMul, Nat.reduceLT, Nat.reduceLeDiff, Int.reduceToNat, Int.reduceLE, Int.reduceLT, Int.reduceNeg, reduceCtorEq, zzL, if_true, if_false] <;> rfl)); apply Exists.intro; apply And.intro; (focus (first | exact h))) | refine X_opc rfl ?_ | refine X_dopc rfl ?_ | refine ⟨(by show drawK _ _ = true; kernel_rfl : drawX _ _ _), ?_⟩ | exact (by show drawK _ _ = true; kernel_rfl : drawX _ _ _) | simp -dsimp (maxSteps := 20000000) (disch := omega) only [simx, zzC, zzB, tys, ite_self, opnL, callB, callX, readsB, stepOp, nilCmp, ofVal, opBuiltin, opLen, PV.sk, scalBin, scalUn, intBin, opLoad, natOf, opConvert, opField, cellsP, oneP, Value.oneCell', opStore, toIV, scalT, scalA, scalC, boxesA, boxesC, zipB_none, zipB_mx, isZ, opZip, zeroP, opAppendZ, opMakeMap, opLookup, mboxB, opUpdate, ↓reduceIte, Nat.reduceSub, Nat.reduceEqDiff, Nat.reduceAdd, Nat.reduceMul, Nat.reduceLT, Nat.reduceLeDiff, Int.reduceToNat, Int.reduceLE, Int.reduceLT, Int.reduceNeg, reduceCtorEq, zzR, gos, Int.reduceAdd, Int.reduceSub, Int.reduceMul, Int.reduceEq])
  | true =>
    rw [c] at h
    obtain ⟨c1, c2, c3⟩ := (has_iff _ _).1 c
    have ha : In p a := ⟨wa.1, c1 a (by simp)⟩
    obtain ⟨v, d, e⟩ := inv_walk p a ⟨c2, c3⟩ ha
    rw [if_pos rfl]
    unfold invR
    by_cases g : Int.gcd p a = 1
    · rw [if_pos g, ← e g]
      rw [decide_eq_true g] at d
      refine X_startP (n := 22) (m := 2) (rs := [.tmp 4, .tmp 5]) Try.func40 rfl rfl rfl rfl (by decide) fun base => ?_
      repeat (first | ((first | refine X_call_fn2 rfl (by simp only [tys]) ?_ | refine X_dcall_fn2 rfl (by simp only [tys]) ?_); apply Exists.intro; apply And.intro; (focus (simp -dsimp only [simx, zzC, zzB, tys, ite_self, opnL, callB, callX, readsB, stepOp, nilCmp, ofVal, opBuiltin, opLen, PV.sk, scalBin, scalUn, intBin, opLoad, natOf, opConvert, opField, cellsP, oneP, Value.oneCell', opStore, toIV, scalT, scalA, scalC, boxesA, boxesC, zipB_none, zipB_mx, isZ, opZip, zeroP, opAppendZ, opMakeMap, opLookup, mboxB, opUpdate, ↓reduceIte, Nat.reduceSub, Nat.reduceEqDiff, Nat.reduceAdd, Nat.reduceMul, Nat.reduceLT, Nat.reduceLeDiff, Int.reduceToNat, Int.reduceLE, Int.reduceLT, Int.reduceNeg, reduceCtorEq, zzL, if_true, if_false] <;> rfl)); apply Exists.intro; apply And.intro; (focus (first | exact h | exact d))) | refine X_opc rfl ?_ | refine X_dopc rfl ?_ | refine ⟨(by show drawK _ _ = true; kernel_rfl : drawX _ _ _), ?_⟩ | exact (by show drawK _ _ = true; kernel_rfl : drawX _ _ _) | simp -dsimp (maxSteps := 20000000) (disch := omega) only [simx, zzC, zzB, tys, ite_self, opnL, callB, callX, readsB, stepOp, nilCmp, ofVal, opBuiltin, opLen, PV.sk, scalBin, scalUn, intBin, opLoad, natOf, opConvert, opField, cellsP, oneP, Value.oneCell', opStore, toIV, scalT, scalA, scalC, boxesA, boxesC, zipB_none, zipB_mx, isZ, opZip, zeroP, opAppendZ, opMakeMap, opLookup, mboxB, opUpdate, ↓reduceIte, Nat.reduceSub, Nat.reduceEqDiff, Nat.reduceAdd, Nat.reduceMul, Nat.reduceLT, Nat.reduceLeDiff, Int.reduceToNat, Int.reduceLE, Int.reduceLT, Int.reduceNeg, reduceCtorEq, zzR, gos, Int.reduceAdd, Int.reduceSub, Int.reduceMul, Int.reduceEq])
    · rw [if_neg g]
      rw [decide_eq_false g] at d
      refine X_startP (n := 22) (m := 2) (rs := [.tmp 4, .tmp 5]) Try.func40 rfl rfl rfl rfl (by decide) fun base => ?_
      repeat (first | ((first | refine X_call_fn2 rfl (by simp only [tys]) ?_ | refine X_dcall_fn2 rfl (by simp only [tys]) ?_); apply Exists.intro; apply And.intro; (focus (simp -dsimp only [simx, zzC, zzB, tys, ite_self, opnL, callB, callX, readsB, stepOp, nilCmp, ofVal, opBuiltin, opLen, PV.sk, scalBin, scalUn, intBin, opLoad, natOf, opConvert, opField, cellsP, oneP, Value.oneCell', opStore, toIV, scalT, scalA, scalC, boxesA, boxesC, zipB_none, zipB_mx, isZ, opZip, zeroP, opAppendZ, opMakeMap, opLookup, mboxB, opUpdate, ↓reduceIte, Nat.reduceSub, Nat.reduceEqDiff, Nat.reduceAdd, Nat.reduceMul, Nat.reduceLT, Nat.reduceLeDiff, Int.reduceToNat, Int.reduceLE, Int.reduceLT, Int.reduceNeg, reduceCtorEq, zzL, if_true, if_false] <;> rfl)); apply Exists.intro; apply And.intro; (focus (first | exact h | exact d))) | refine X_opc rfl ?_ | refine X_dopc rfl ?_ | refine ⟨(by show drawK _ _ = true; kernel_rfl : drawX _ _ _), ?_⟩ | exact (by show drawK _ _ = true; kernel_rfl : drawX _ _ _) | simp -dsimp (maxSteps := 20000000) (disch := omega) only [simx, zzC, zzB, tys, ite_self, opnL, callB, callX, readsB, stepOp, nilCmp, ofVal, opBuiltin, opLen, PV.sk, scalBin, scalUn, intBin, opLoad, natOf, opConvert, opField, cellsP, oneP, Value.oneCell', opStore, toIV, scalT, scalA, scalC, boxesA, boxesC, zipB_none, zipB_mx, isZ, opZip, zeroP, opAppendZ, opMakeMap, opLookup, mboxB, opUpdate, ↓reduceIte, Nat.reduceSub, Nat.reduceEqDiff, Nat.reduceAdd, Nat.reduceMul, Nat.reduceLT, Nat.reduceLeDiff, Int.reduceToNat, Int.reduceLE, Int.reduceLT, Int.reduceNeg, reduceCtorEq, zzR, gos, Int.reduceAdd, Int.reduceSub, Int.reduceMul, Int.reduceEq])
end Go.Proofs.Ythnfphgjfpcpbaa.TM
namespace Go.Proofs.Ythnfphgjfpcpbaa.TM
open Go Go.RowKit
def dotI : List Int → List Int → Int
  | x :: a, y :: b => x * y + dotI a b
  | _, _ => 0
abbrev matP (r c : Int) (l : List Int) : PV := .agg [i64 r, i64 c, lu l]
def SideB (n : Int) : Bool := decide (1 ≤ n) && decide (n ≤ 64)
theorem side_iff (n : Int) : SideB n = true ↔ 1 ≤ n ∧ n ≤ 64 := by simp [SideB]
def MatB (p r c : Int) (l : List Int) : Bool := SideB r && (SideB c && (decide ((l.length : Int) = r * c) && HasB p l))
structure Mt (p : Int) (r c : Nat) (l : List Int) : Prop where
  hp : Md p
  r1 : 1 ≤ r
  r2 : r ≤ 64
  c1 : 1 ≤ c
  c2 : c ≤ 64
  len : l.length = r * c
  has : ∀ a ∈ l, a < p
theorem mat_of {p r c : Int} {l : List Int} (h : MatB p r c l = true) : ∃ R C : Nat, r = R ∧ c = C ∧ Mt p R C l := by
  simp only [MatB, Bool.and_eq_true, side_iff, decide_eq_true_eq] at h
  obtain ⟨h1, h2, h3, h4⟩ := h
  obtain ⟨R, rfl⟩ := Int.eq_ofNat_of_zero_le (show 0 ≤ r by omega)
  obtain ⟨C, rfl⟩ := Int.eq_ofNat_of_zero_le (show 0 ≤ c by omega)
  obtain ⟨g1, g2, g3⟩ := (has_iff p l).1 h4
  refine ⟨R, C, rfl, rfl, ⟨g2, g3⟩, by omega, by omega, by omega, by omega, ?_, g1⟩
  have : (l.length : Int) = ((R * C : Nat) : Int) := by rw [h3]; push_cast; rfl
  omega
theorem mat_mk {p : Int} {r c : Nat} {l : List Int} (h : Mt p r c l) : MatB p r c l = true := by
  simp only [MatB, Bool.and_eq_true, side_iff, decide_eq_true_eq]
  have h1 := h.r1; have h2 := h.r2; have h3 := h.c1; have h4 := h.c2
  refine ⟨by omega, by omega, ?_, (has_iff p l).2 ⟨h.has, h.hp.1, h.hp.2⟩⟩
  rw [h.len]; push_cast; rfl
theorem rc_bd {r c : Nat} (h1 : r ≤ 64) (h2 : c ≤ 64) : r * c ≤ 4096 := Nat.mul_le_mul h1 h2
theorem ic_bd {i r c : Nat} (h : i < r) : i * c + c ≤ r * c := by rw [← Nat.succ_mul]; exact Nat.mul_le_mul_right c h
def rowM (c : Nat) (l : List Int) (i : Nat) : List Int := (l.drop (i * c)).take c
theorem rowM_len {r c i : Nat} {l : List Int} (hl : l.length = r * c) (h : i < r) : (rowM c l i).length = c := by
  have := ic_bd (c := c) h
  unfold rowM; rw [List.length_take, List.length_drop]; omega
theorem rowM_mem {c i : Nat} {l : List Int} {a : Int} (h : a ∈ rowM c l i) : a ∈ l := List.mem_of_mem_drop (List.mem_of_mem_take h)
def timesM (p : Int) (r c : Nat) (l x : List Int) : List Int := (List.range r).map fun i => dotI (rowM c l i) x % p
def W64s (l : List Int) : Prop := ∀ a ∈ l, W64 a
theorem in_of {p : Int} {l : List Int} (h : ∀ a ∈ l, a < p) (hw : W64s l) {a : Int} (ha : a ∈ l) : In p a := ⟨(hw a ha).1, h a ha⟩
def srcT (r c q : Nat) : Nat := (q % r) * c + q / r
def turnM (r c : Nat) (l : List Int) : List Int := (List.range (c * r)).map fun q => l.getD (srcT r c q) 0
theorem turnM_len (r c : Nat) (l : List Int) : (turnM r c l).length = c * r := by simp [turnM]
end Go.Proofs.Ythnfphgjfpcpbaa.TM
namespace Go.Proofs.Ythnfphgjfpcpbaa.TM
open Go Go.RowKit
attribute [local irreducible] K W WOps Effs Xg Xo Xr Xdg Xdo Xdr Xif CallsP CallR
theorem side_walk (n : Int) : CallsP Try.prog 76 [i64 n] (bl (SideB n)) := by
  by_cases c1 : 1 ≤ n
  · by_cases c2 : n ≤ 64
    · rw [show SideB n = true by simp [SideB, c1, c2]]
      refine X_startP (n := 9) (m := 1) (rs := [.tmp 2]) Try.func76 rfl rfl rfl rfl (by decide) fun base => ?_
      repeat (first | refine X_opc rfl ?_ | refine X_dopc rfl ?_ | refine ⟨(by show drawK _ _ = true; kernel_rfl : drawX _ _ _), ?_⟩ | exact (by show drawK _ _ = true; kernel_rfl : drawX _ _ _) | simp -dsimp (maxSteps := 20000000) (disch := omega) only [simx, zzC, zzB, tys, ite_self, opnL, callB, callX, readsB, stepOp, nilCmp, ofVal, opBuiltin, opLen, PV.sk, scalBin, scalUn, intBin, opLoad, natOf, opConvert, opField, cellsP, oneP, Value.oneCell', opStore, toIV, scalT, scalA, scalC, boxesA, boxesC, zipB_none, zipB_mx, isZ, opZip, zeroP, opAppendZ, opMakeMap, opLookup, mboxB, opUpdate, ↓reduceIte, Nat.reduceSub, Nat.reduceEqDiff, Nat.reduceAdd, Nat.reduceMul, Nat.reduceLT, Nat.reduceLeDiff, Int.reduceToNat, Int.reduceLE, Int.reduceLT, Int.reduceNeg, reduceCtorEq, zzR, gos, Int.reduceAdd, Int.reduceSub, Int.reduceMul, Int.reduceEq])
    · rw [show SideB n = false by simp [SideB, c2]]
      refine X_startP (n := 9) (m := 1) (rs := [.tmp 2]) Try.func76 rfl rfl rfl rfl (by decide) fun base => ?_
      repeat (first | refine X_opc rfl ?_ | refine X_dopc rfl ?_ | refine ⟨(by show drawK _ _ = true; kernel_rfl : drawX _ _ _), ?_⟩ | exact (by show drawK _ _ = true; kernel_rfl : drawX _ _ _) | simp -dsimp (maxSteps := 20000000) (disch := omega) only [simx, zzC, zzB, tys, ite_self, opnL, callB, callX, readsB, stepOp, nilCmp, ofVal, opBuiltin, opLen, PV.sk, scalBin, scalUn, intBin, opLoad, natOf, opConvert, opField, cellsP, oneP, Value.oneCell', opStore, toIV, scalT, scalA, scalC, boxesA, boxesC, zipB_none, zipB_mx, isZ, opZip, zeroP, opAppendZ, opMakeMap, opLookup, mboxB, opUpdate, ↓reduceIte, Nat.reduceSub, Nat.reduceEqDiff, Nat.reduceAdd, Nat.reduceMul, Nat.reduceLT, Nat.reduceLeDiff, Int.reduceToNat, Int.reduceLE, Int.reduceLT, Int.reduceNeg, reduceCtorEq, zzR, gos, Int.reduceAdd, Int.reduceSub, Int.reduceMul, Int.reduceEq])
  · rw [show SideB n = false by simp [SideB, c1]]
    refine X_startP (n := 9) (m := 1) (rs := [.tmp 2]) Try.func76 rfl rfl rfl rfl (by decide) fun base => ?_
    repeat (first | refine X_opc rfl ?_ | refine X_dopc rfl ?_ | refine ⟨(by show drawK _ _ = true; kernel_rfl : drawX _ _ _), ?_⟩ | exact (by show drawK _ _ = true; kernel_rfl : drawX _ _ _) | simp -dsimp (maxSteps := 20000000) (disch := omega) only [simx, zzC, zzB, tys, ite_self, opnL, callB, callX, readsB, stepOp, nilCmp, ofVal, opBuiltin, opLen, PV.sk, scalBin, scalUn, intBin, opLoad, natOf, opConvert, opField, cellsP, oneP, Value.oneCell', opStore, toIV, scalT, scalA, scalC, boxesA, boxesC, zipB_none, zipB_mx, isZ, opZip, zeroP, opAppendZ, opMakeMap, opLookup, mboxB, opUpdate, ↓reduceIte, Nat.reduceSub, Nat.reduceEqDiff, Nat.reduceAdd, Nat.reduceMul, Nat.reduceLT, Nat.reduceLeDiff, Int.reduceToNat, Int.reduceLE, Int.reduceLT, Int.reduceNeg, reduceCtorEq, zzR, gos, Int.reduceAdd, Int.reduceSub, Int.reduceMul, Int.reduceEq])
theorem mright_walk (p r c : Int) (l : List Int) (hl : l.length ≤ maxLen) : CallsP Try.prog 28 [u64 p, matP r c l] (bl (MatB p r c l)) := by
  have s1 := side_walk r
  have s2 := side_walk c
  have h := has_walk p l hl
  rw [mx_len] at hl
  unfold MatB
  cases h1 : SideB r with
  | false =>
    rw [h1] at s1
    refine X_startP (n := 30) (m := 2) (rs := [.tmp 4]) Try.func28 rfl rfl rfl rfl (by decide) fun base => ?_
    repeat (first | ((first | refine X_call_fn2 rfl (by simp only [tys]) ?_ | refine X_dcall_fn2 rfl (by simp only [tys]) ?_); apply Exists.intro; apply And.intro; (focus (simp -dsimp only [simx, zzC, zzB, tys, ite_self, opnL, callB, callX, readsB, stepOp, nilCmp, ofVal, opBuiltin, opLen, PV.sk, scalBin, scalUn, intBin, opLoad, natOf, opConvert, opField, cellsP, oneP, Value.oneCell', opStore, toIV, scalT, scalA, scalC, boxesA, boxesC, zipB_none, zipB_mx, isZ, opZip, zeroP, opAppendZ, opMakeMap, opLookup, mboxB, opUpdate, ↓reduceIte, Nat.reduceSub, Nat.reduceEqDiff, Nat.reduceAdd, Nat.reduceMul, Nat.reduceLT, Nat.reduceLeDiff, Int.reduceToNat, Int.reduceLE, Int.reduceLT, Int.reduceNeg, reduceCtorEq, zzL, if_true, if_false] <;> rfl)); apply Exists.intro; apply And.intro; (focus (first | exact s1))) | refine X_opc rfl ?_ | refine X_dopc rfl ?_ | refine ⟨(by show drawK _ _ = true; kernel_rfl : drawX _ _ _), ?_⟩ | exact (by show drawK _ _ = true; kernel_rfl : drawX _ _ _) | simp -dsimp (maxSteps := 20000000) (disch := omega) only [simx, zzC, zzB, tys, ite_self, opnL, callB, callX, readsB, stepOp, nilCmp, ofVal, opBuiltin, opLen, PV.sk, scalBin, scalUn, intBin, opLoad, natOf, opConvert, opField, cellsP, oneP, Value.oneCell', opStore, toIV, scalT, scalA, scalC, boxesA, boxesC, zipB_none, zipB_mx, isZ, opZip, zeroP, opAppendZ, opMakeMap, opLookup, mboxB, opUpdate, ↓reduceIte, Nat.reduceSub, Nat.reduceEqDiff, Nat.reduceAdd, Nat.reduceMul, Nat.reduceLT, Nat.reduceLeDiff, Int.reduceToNat, Int.reduceLE, Int.reduceLT, Int.reduceNeg, reduceCtorEq, zzR, gos, Int.reduceAdd, Int.reduceSub, Int.reduceMul, Int.reduceEq])
  | true =>
    rw [h1] at s1
    cases h2 : SideB c with
    | false =>
      rw [h2] at s2
      refine X_startP (n := 30) (m := 2) (rs := [.tmp 4]) Try.func28 rfl rfl rfl rfl (by decide) fun base => ?_
      repeat (first | ((first | refine X_call_fn2 rfl (by simp only [tys]) ?_ | refine X_dcall_fn2 rfl (by simp only [tys]) ?_); apply Exists.intro; apply And.intro; (focus (simp -dsimp only [simx, zzC, zzB, tys, ite_self, opnL, callB, callX, readsB, stepOp, nilCmp, ofVal, opBuiltin, opLen, PV.sk, scalBin, scalUn, intBin, opLoad, natOf, opConvert, opField, cellsP, oneP, Value.oneCell', opStore, toIV, scalT, scalA, scalC, boxesA, boxesC, zipB_none, zipB_mx, isZ, opZip, zeroP, opAppendZ, opMakeMap, opLookup, mboxB, opUpdate, ↓reduceIte, Nat.reduceSub, Nat.reduceEqDiff, Nat.reduceAdd, Nat.reduceMul, Nat.reduceLT, Nat.reduceLeDiff, Int.reduceToNat, Int.reduceLE, Int.reduceLT, Int.reduceNeg, reduceCtorEq, zzL, if_true, if_false] <;> rfl)); apply Exists.intro; apply And.intro; (focus (first | exact s1 | exact s2))) | refine X_opc rfl ?_ | refine X_dopc rfl ?_ | refine ⟨(by show drawK _ _ = true; kernel_rfl : drawX _ _ _), ?_⟩ | exact (by show drawK _ _ = true; kernel_rfl : drawX _ _ _) | simp -dsimp (maxSteps := 20000000) (disch := omega) only [simx, zzC, zzB, tys, ite_self, opnL, callB, callX, readsB, stepOp, nilCmp, ofVal, opBuiltin, opLen, PV.sk, scalBin, scalUn, intBin, opLoad, natOf, opConvert, opField, cellsP, oneP, Value.oneCell', opStore, toIV, scalT, scalA, scalC, boxesA, boxesC, zipB_none, zipB_mx, isZ, opZip, zeroP, opAppendZ, opMakeMap, opLookup, mboxB, opUpdate, ↓reduceIte, Nat.reduceSub, Nat.reduceEqDiff, Nat.reduceAdd, Nat.reduceMul, Nat.reduceLT, Nat.reduceLeDiff, Int.reduceToNat, Int.reduceLE, Int.reduceLT, Int.reduceNeg, reduceCtorEq, zzR, gos, Int.reduceAdd, Int.reduceSub, Int.reduceMul, Int.reduceEq])
    | true =>
      rw [h2] at s2
      rw [side_iff] at h1 h2
      obtain ⟨a1, a2⟩ := h1
      obtain ⟨b1, b2⟩ := h2
      have m := mul_bd (a := r) (b := c) (m := 64) (n := 64) (by omega) (by omega) a2 b2
      have e : IntKind.i64.wrap (r * c) = r * c := iw_of (by omega) (by omega)
      by_cases h3 : (l.length : Int) = r * c
      · rw [decide_eq_true h3]
        refine X_startP (n := 30) (m := 2) (rs := [.tmp 4]) Try.func28 rfl rfl rfl rfl (by decide) fun base => ?_
        repeat (first | ((first | refine X_call_fn2 rfl (by simp only [tys]) ?_ | refine X_dcall_fn2 rfl (by simp only [tys]) ?_); apply Exists.intro; apply And.intro; (focus (simp -dsimp only [simx, zzC, zzB, tys, ite_self, opnL, callB, callX, readsB, stepOp, nilCmp, ofVal, opBuiltin, opLen, PV.sk, scalBin, scalUn, intBin, opLoad, natOf, opConvert, opField, cellsP, oneP, Value.oneCell', opStore, toIV, scalT, scalA, scalC, boxesA, boxesC, zipB_none, zipB_mx, isZ, opZip, zeroP, opAppendZ, opMakeMap, opLookup, mboxB, opUpdate, ↓reduceIte, Nat.reduceSub, Nat.reduceEqDiff, Nat.reduceAdd, Nat.reduceMul, Nat.reduceLT, Nat.reduceLeDiff, Int.reduceToNat, Int.reduceLE, Int.reduceLT, Int.reduceNeg, reduceCtorEq, zzL, if_true, if_false] <;> rfl)); apply Exists.intro; apply And.intro; (focus (first | exact s1 | exact s2 | exact h))) | refine X_opc rfl ?_ | refine X_dopc rfl ?_ | refine ⟨(by show drawK _ _ = true; kernel_rfl : drawX _ _ _), ?_⟩ | exact (by show drawK _ _ = true; kernel_rfl : drawX _ _ _) | simp -dsimp (maxSteps := 20000000) (disch := omega) only [simx, zzC, zzB, tys, ite_self, opnL, callB, callX, readsB, stepOp, nilCmp, ofVal, opBuiltin, opLen, PV.sk, scalBin, scalUn, intBin, opLoad, natOf, opConvert, opField, cellsP, oneP, Value.oneCell', opStore, toIV, scalT, scalA, scalC, boxesA, boxesC, zipB_none, zipB_mx, isZ, opZip, zeroP, opAppendZ, opMakeMap, opLookup, mboxB, opUpdate, ↓reduceIte, Nat.reduceSub, Nat.reduceEqDiff, Nat.reduceAdd, Nat.reduceMul, Nat.reduceLT, Nat.reduceLeDiff, Int.reduceToNat, Int.reduceLE, Int.reduceLT, Int.reduceNeg, reduceCtorEq, zzR, gos, Int.reduceAdd, Int.reduceSub, Int.reduceMul, Int.reduceEq, e])
      · rw [decide_eq_false h3]
        refine X_startP (n := 30) (m := 2) (rs := [.tmp 4]) Try.func28 rfl rfl rfl rfl (by decide) fun base => ?_
        repeat (first | ((first | refine X_call_fn2 rfl (by simp only [tys]) ?_ | refine X_dcall_fn2 rfl (by simp only [tys]) ?_); apply Exists.intro; apply And.intro; (focus (simp -dsimp only [simx, zzC, zzB, tys, ite_self, opnL, callB, callX, readsB, stepOp, nilCmp, ofVal, opBuiltin, opLen, PV.sk, scalBin, scalUn, intBin, opLoad, natOf, opConvert, opField, cellsP, oneP, Value.oneCell', opStore, toIV, scalT, scalA, scalC, boxesA, boxesC, zipB_none, zipB_mx, isZ, opZip, zeroP, opAppendZ, opMakeMap, opLookup, mboxB, opUpdate, ↓reduceIte, Nat.reduceSub, Nat.reduceEqDiff, Nat.reduceAdd, Nat.reduceMul, Nat.reduceLT, Nat.reduceLeDiff, Int.reduceToNat, Int.reduceLE, Int.reduceLT, Int.reduceNeg, reduceCtorEq, zzL, if_true, if_false] <;> rfl)); apply Exists.intro; apply And.intro; (focus (first | exact s1 | exact s2 | exact h))) | refine X_opc rfl ?_ | refine X_dopc rfl ?_ | refine ⟨(by show drawK _ _ = true; kernel_rfl : drawX _ _ _), ?_⟩ | exact (by show drawK _ _ = true; kernel_rfl : drawX _ _ _) | simp -dsimp (maxSteps := 20000000) (disch := omega) only [simx, zzC, zzB, tys, ite_self, opnL, callB, callX, readsB, stepOp, nilCmp, ofVal, opBuiltin, opLen, PV.sk, scalBin, scalUn, intBin, opLoad, natOf, opConvert, opField, cellsP, oneP, Value.oneCell', opStore, toIV, scalT, scalA, scalC, boxesA, boxesC, zipB_none, zipB_mx, isZ, opZip, zeroP, opAppendZ, opMakeMap, opLookup, mboxB, opUpdate, ↓reduceIte, Nat.reduceSub, Nat.reduceEqDiff, Nat.reduceAdd, Nat.reduceMul, Nat.reduceLT, Nat.reduceLeDiff, Int.reduceToNat, Int.reduceLE, Int.reduceLT, Int.reduceNeg, reduceCtorEq, zzR, gos, Int.reduceAdd, Int.reduceSub, Int.reduceMul, Int.reduceEq, e])
end Go.Proofs.Ythnfphgjfpcpbaa.TM
namespace Go.Proofs.Ythnfphgjfpcpbaa.TM
open Go Go.RowKit
def tbl (n : Nat) (f : Nat → Int) : List Int := (List.range n).map f
theorem tbl_len (n : Nat) (f : Nat → Int) : (tbl n f).length = n := by simp [tbl]
theorem tbl_get? {n : Nat} (f : Nat → Int) {i : Nat} (h : i < n) : (tbl n f)[i]? = some (f i) := by unfold tbl; rw [List.getElem?_map, List.getElem?_range h]; rfl
theorem tbl_getD {n : Nat} (f : Nat → Int) {i : Nat} (h : i < n) : (tbl n f).getD i 0 = f i := by rw [List.getD_eq_getElem?_getD, tbl_get? f h]; rfl
theorem tbl_succ (n : Nat) (f : Nat → Int) : tbl (n + 1) f = tbl n f ++ [f n] := by unfold tbl; rw [List.range_succ, List.map_append]; rfl
theorem tbl_congr {n : Nat} {f g : Nat → Int} (h : ∀ i, i < n → f i = g i) : tbl n f = tbl n g := by
  unfold tbl
  exact List.map_congr_left fun i hi => h i (List.mem_range.1 hi)
theorem tbl_of {n : Nat} {l : List Int} (h : l.length = n) : l = tbl n (fun i => l.getD i 0) := by
  apply List.ext_getElem?
  intro i
  by_cases hi : i < n
  · rw [tbl_get? _ hi, List.getD_eq_getElem?_getD, List.getElem?_eq_getElem (by omega)]; rfl
  · rw [List.getElem?_eq_none (by omega), List.getElem?_eq_none (by rw [tbl_len]; omega)]
theorem tbl_zero (n : Nat) : tbl n (fun _ => 0) = List.replicate n 0 := by
  unfold tbl
  rw [List.map_const', List.length_range]
theorem tbl_mem {n : Nat} {f : Nat → Int} {a : Int} (h : a ∈ tbl n f) : ∃ i, i < n ∧ f i = a := by
  unfold tbl at h
  obtain ⟨i, hi, e⟩ := List.mem_map.1 h
  exact ⟨i, List.mem_range.1 hi, e⟩
theorem tbl_put {n d : Nat} (f : Nat → Int) (x : Int) (hd : d < n) : (tbl n f).take d ++ [x] ++ (tbl n f).drop (d + 1) = tbl n (fun q => if q = d then x else f q) := by
  have h1 : ((tbl n f).take d).length = d := by rw [List.length_take, tbl_len]; omega
  apply List.ext_getElem?
  intro i
  rw [List.append_assoc, List.getElem?_append, h1]
  by_cases hi : i < n
  · rw [tbl_get? _ hi]
    by_cases a : i < d
    · rw [if_pos a, List.getElem?_take, if_pos a, tbl_get? _ hi, if_neg (by omega)]
    · rw [if_neg a, List.getElem?_append]
      by_cases b : i = d
      · subst b; rw [if_pos (by simp), if_pos rfl]; simp
      · rw [if_neg (by simp; omega), List.getElem?_drop, List.length_singleton, show d + 1 + (i - d - 1) = i by omega, tbl_get? _ hi, if_neg b]
  · rw [List.getElem?_eq_none (l := tbl n _) (by rw [tbl_len]; omega), if_neg (by omega), List.getElem?_append_right (by simp; omega), List.getElem?_drop, List.length_singleton, List.getElem?_eq_none (by rw [tbl_len]; omega)]
theorem tbl_put_iu {n d : Nat} (f : Nat → Int) (x : Int) (hd : d < n) : ((tbl n f).map iu).take d ++ [iu x] ++ ((tbl n f).map iu).drop (d + 1) = (tbl n (fun q => if q = d then x else f q)).map iu := by
  rw [← tbl_put f x hd]; simp
theorem zero_tbl (n : Nat) : List.map IV.v (zeroRow [Value.int .u64 0] n) = (tbl n (fun _ => 0)).map iu := by
  rw [tbl_zero, List.map_replicate]
  induction n with
  | zero => rfl
  | succ n ih => rw [zeroRow_succ, List.map_append, ih]; rfl
theorem tbl_put_ii {n d : Nat} (f : Nat → Int) (x : Int) (hd : d < n) : ((tbl n f).map ii).take d ++ [ii x] ++ ((tbl n f).map ii).drop (d + 1) = (tbl n (fun q => if q = d then x else f q)).map ii := by
  rw [← tbl_put f x hd]; simp
end Go.Proofs.Ythnfphgjfpcpbaa.TM
namespace Go.Proofs.Ythnfphgjfpcpbaa.TM
open Go Go.RowKit
attribute [local irreducible] K W WOps Effs Xg Xo Xr Xdg Xdo Xdr Xif CallsP CallR
theorem Mul_in {p a b : Int} (hp : Md p) (ha : In p a) (hb : In p b) : CallsP Try.prog 51 [u64 p, u64 a, u64 b] (.tup [u64 (a * b % p), i64 0]) := by
  have h := Mul_walk p a b ⟨ha.1, by have := ha.2; have := hp.2; omega⟩ ⟨hb.1, by have := hb.2; have := hp.2; omega⟩
  rw [twoR, if_pos ((has_iff p _).2 ⟨fun x hx => by simp at hx; rcases hx with rfl | rfl; exact ha.2; exact hb.2, hp.1, hp.2⟩)] at h
  exact h
theorem Sub_in {p a b : Int} (hp : Md p) (ha : In p a) (hb : In p b) : CallsP Try.prog 54 [u64 p, u64 a, u64 b] (.tup [u64 ((a - b) % p), i64 0]) := by
  have h := Sub_walk p a b ⟨ha.1, by have := ha.2; have := hp.2; omega⟩ ⟨hb.1, by have := hb.2; have := hp.2; omega⟩
  rw [twoR, if_pos ((has_iff p _).2 ⟨fun x hx => by simp at hx; rcases hx with rfl | rfl; exact ha.2; exact hb.2, hp.1, hp.2⟩)] at h
  exact h
theorem Add_in {p a b : Int} (hp : Md p) (ha : In p a) (hb : In p b) : CallsP Try.prog 30 [u64 p, u64 a, u64 b] (.tup [u64 ((a + b) % p), i64 0]) := by
  have h := Add_walk p a b ⟨ha.1, by have := ha.2; have := hp.2; omega⟩ ⟨hb.1, by have := hb.2; have := hp.2; omega⟩
  rw [twoR, if_pos ((has_iff p _).2 ⟨fun x hx => by simp at hx; rcases hx with rfl | rfl; exact ha.2; exact hb.2, hp.1, hp.2⟩)] at h
  exact h
theorem in_emod {p : Int} (hp : Md p) (a : Int) : In p (a % p) := ⟨Int.emod_nonneg _ (by have := hp.1; omega), Int.emod_lt_of_pos _ (by have := hp.1; omega)⟩
def lessJ (p c : Int) (x y : List Int) (j : Nat) : List Int := tbl x.length (fun i => if i < j then (x.getD i 0 - c * y.getD i 0 % p) % p else x.getD i 0)
def lessV (p c : Int) (x y : List Int) : List Int := tbl x.length (fun i => (x.getD i 0 - c * y.getD i 0 % p) % p)
theorem lessV_len (p c : Int) (x y : List Int) : (lessV p c x y).length = x.length := tbl_len ..
theorem lessV_get (p c : Int) (x y : List Int) {i : Nat} (h : i < x.length) : (lessV p c x y).getD i 0 = (x.getD i 0 - c * y.getD i 0 % p) % p := tbl_getD _ h
theorem lessV_in {p : Int} (hp : Md p) (c : Int) (x y : List Int) : ∀ a ∈ lessV p c x y, In p a := fun a ha => by
  obtain ⟨i, hi, rfl⟩ := tbl_mem ha
  exact in_emod hp _
theorem lessJ_zero (p c : Int) (x y : List Int) : lessJ p c x y 0 = x := by
  unfold lessJ
  simp only [Nat.not_lt_zero, if_false]
  exact (tbl_of rfl).symm
theorem lessJ_all (p c : Int) (x y : List Int) : lessJ p c x y x.length = lessV p c x y := tbl_congr fun i hi => if_pos hi
theorem lessJ_next {p c : Int} {x y : List Int} {j n : Nat} (hl : x.length = n) (hj : j < n) : ((lessJ p c x y j).map iu).take j ++ [iu ((x.getD j 0 - c * y.getD j 0 % p) % p)] ++ ((lessJ p c x y j).map iu).drop (j + 1) = (lessJ p c x y (j + 1)).map iu := by
  subst hl
  rw [lessJ, tbl_put_iu (fun i => if i < j then (x.getD i 0 - c * y.getD i 0 % p) % p else x.getD i 0) ((x.getD j 0 - c * y.getD j 0 % p) % p) hj]
  congr 1
  apply tbl_congr
  intro i _
  by_cases e : i = j
  · subst e; rw [if_pos rfl, if_pos (by omega)]
  · rw [if_neg e]
    by_cases d : i < j
    · rw [if_pos d, if_pos (by omega)]
    · rw [if_neg d, if_neg (by omega)]
theorem lessJ_len (p c : Int) (x y : List Int) (j : Nat) : (lessJ p c x y j).length = x.length := tbl_len ..
theorem lessJ_at {p c : Int} {x y : List Int} {j n : Nat} (hl : x.length = n) (hj : j < n) : ((lessJ p c x y j).map iu)[j]? = some (iu (x.getD j 0)) := by
  rw [List.getElem?_map, lessJ, tbl_get? _ (by omega), if_neg (by omega)]; rfl
theorem getD_some {l : List Int} {i n : Nat} (hl : l.length = n) (h : i < n) : l[i]? = some (l.getD i 0) := by rw [List.getD_eq_getElem?_getD, List.getElem?_eq_getElem (by omega)]; rfl
theorem getD_of {p : Int} {l : List Int} (hi : ∀ a ∈ l, In p a) {i : Nat} (h : i < l.length) : In p (l.getD i 0) := by
  rw [List.getD_eq_getElem?_getD, List.getElem?_eq_getElem h]; exact hi _ (List.getElem_mem h)
set_option maxHeartbeats 1000000 in
theorem cless_walk {h : Heap} {base bT bX : Name} {a0 a1 a2 a3 a5 : PV} {p c : Int} {x y : List Int} {n : Nat} (hp : Md p) (hc : In p c) (hx : ∀ a ∈ x, In p a) (hy : ∀ a ∈ y, In p a) (hl : x.length = n) (hl2 : y.length = n) (hn : n ≤ 64)
    (hT : h ((3, 2) :: bT) = some (.var [a0, a1, a2, a3, u64 p, a5])) (hX : h ((1, 1) :: bX) = some (.row false (x.map iu))) :
    CallR Try.prog base 105 [.ref ((3, 2) :: bT) 0 6, .view ((1, 1) :: bX) 0 1 n n, u64 c, .i (.l n (y.map iu))] h (.tup []) (h.put ((1, 1) :: bX) (.row false ((lessV p c x y).map iu))) := by
  refine X_startR (n := 46) (m := 4) (rs := []) Try.func105 rfl rfl rfl rfl (by decide) ?_
  repeat (first | refine X_opc rfl ?_ | refine X_dopc rfl ?_ | refine ⟨(by show drawK _ _ = true; kernel_rfl : drawX _ _ _), ?_⟩ | exact (by show drawK _ _ = true; kernel_rfl : drawX _ _ _) | simp -dsimp (maxSteps := 20000000) (disch := omega) only [simx, zzC, zzB, tys, ite_self, opnL, callB, callX, readsB, stepOp, nilCmp, ofVal, opBuiltin, opLen, PV.sk, scalBin, scalUn, intBin, opLoad, natOf, opConvert, opField, cellsP, oneP, Value.oneCell', opStore, toIV, scalT, scalA, scalC, boxesA, boxesC, zipB_none, zipB_mx, isZ, opZip, zeroP, opAppendZ, opMakeMap, opLookup, mboxB, opUpdate, ↓reduceIte, Nat.reduceSub, Nat.reduceEqDiff, Nat.reduceAdd, Nat.reduceMul, Nat.reduceLT, Nat.reduceLeDiff, Int.reduceToNat, Int.reduceLE, Int.reduceLT, Int.reduceNeg, reduceCtorEq, gos, Int.reduceAdd, Int.reduceSub, Int.reduceMul, Int.reduceEq])
  refine X_loopH [0, 1, 2, 12, 13, 14] [] (0) (n) (fun j => True) (fun j => [(0, .ref ((3, 2) :: bT) 0 6), (1, .view ((1, 1) :: bX) 0 1 n n), (2, u64 c), (12, .i (.l n (y.map iu))), (13, i64 n), (14, i64 j)]) (fun j => h.put ((1, 1) :: bX) (.row false ((lessJ p c x y j).map iu))) ?_ ?_ ?_ ?_ ?_ (by decide) ?_
  · exact (fgt_nil)
  · ((simp -dsimp (disch := omega) only [simx, zzB, tys, ite_self, opnL, callB, callX, readsB, stepOp, nilCmp, ofVal, opBuiltin, opLen, PV.sk, scalBin, scalUn, intBin, opLoad, natOf, opConvert, opField, cellsP, oneP, Value.oneCell', opStore, toIV, scalT, scalA, scalC, boxesA, boxesC, zipB_none, zipB_mx, isZ, opZip, zeroP, opAppendZ, opMakeMap, opLookup, mboxB, opUpdate, ↓reduceIte, Nat.reduceSub, Nat.reduceEqDiff, Nat.reduceAdd, Nat.reduceMul, Nat.reduceLT, Nat.reduceLeDiff, Int.reduceToNat, Int.reduceLE, Int.reduceLT, Int.reduceNeg, reduceCtorEq, gos, Int.reduceAdd, Int.reduceSub, Int.reduceMul, Int.reduceEq]) <;> first | rfl | simp)
  · rw [drop_nil, lessJ_zero]
    funext b
    rw [Heap.put_at]
    split
    · rename_i e; rw [e, hX]
    · rfl
  · omega
  · trivial
  · intro j hj _
    by_cases cj : j < n
    · have g1 := lessJ_at (p := p) (c := c) (y := y) hl cj
      have g2 := getD_some hl2 cj
      have g3 := lessJ_len p c x y j
      have ix := getD_of hx (i := j) (by omega)
      have iy := getD_of hy (i := j) (by omega)
      have m1 := Mul_in hp hc iy
      have m2 := Sub_in hp ix (in_emod hp (c * y.getD j 0))
      have nx := lessJ_next (p := p) (c := c) (y := y) hl cj
      rw [hl] at g3
      have cj1 : j + 1 ≤ n := by omega
      clear hx hy
      repeat (first | ((first | refine X_call_fn2 rfl (by simp only [tys]) ?_ | refine X_dcall_fn2 rfl (by simp only [tys]) ?_); apply Exists.intro; apply And.intro; (focus (simp -dsimp only [simx, zzC, zzB, tys, ite_self, opnL, callB, callX, readsB, stepOp, nilCmp, ofVal, opBuiltin, opLen, PV.sk, scalBin, scalUn, intBin, opLoad, natOf, opConvert, opField, cellsP, oneP, Value.oneCell', opStore, toIV, scalT, scalA, scalC, boxesA, boxesC, zipB_none, zipB_mx, isZ, opZip, zeroP, opAppendZ, opMakeMap, opLookup, mboxB, opUpdate, ↓reduceIte, Nat.reduceSub, Nat.reduceEqDiff, Nat.reduceAdd, Nat.reduceMul, Nat.reduceLT, Nat.reduceLeDiff, Int.reduceToNat, Int.reduceLE, Int.reduceLT, Int.reduceNeg, reduceCtorEq, zzL, if_true, if_false] <;> rfl)); apply Exists.intro; apply And.intro; (focus (first | exact m1 | exact m2))) | refine X_opc rfl ?_ | refine X_dopc rfl ?_ | refine ⟨(by show drawK _ _ = true; kernel_rfl : drawX _ _ _), ?_⟩ | exact (by show drawK _ _ = true; kernel_rfl : drawX _ _ _) | simp -dsimp (maxSteps := 20000000) (disch := omega) only [simx, zzC, zzB, tys, ite_self, opnL, callB, callX, readsB, stepOp, nilCmp, ofVal, opBuiltin, opLen, PV.sk, scalBin, scalUn, intBin, opLoad, natOf, opConvert, opField, cellsP, oneP, Value.oneCell', opStore, toIV, scalT, scalA, scalC, boxesA, boxesC, zipB_none, zipB_mx, isZ, opZip, zeroP, opAppendZ, opMakeMap, opLookup, mboxB, opUpdate, ↓reduceIte, Nat.reduceSub, Nat.reduceEqDiff, Nat.reduceAdd, Nat.reduceMul, Nat.reduceLT, Nat.reduceLeDiff, Int.reduceToNat, Int.reduceLE, Int.reduceLT, Int.reduceNeg, reduceCtorEq, gos, Int.reduceAdd, Int.reduceSub, Int.reduceMul, Int.reduceEq, cj, cj1, hT, hX, g1, g2, g3, List.length_map])
      refine ⟨cj, (fgt_nil), rfl, ?_⟩
      rw [drop_nil, nx]
      funext b
      simp only [Heap.put_at]
      split <;> rfl
    · have : j = n := by omega
      subst this
      rw [← hl, lessJ_all]
      repeat (first | refine X_opc rfl ?_ | refine X_dopc rfl ?_ | refine ⟨(by show drawK _ _ = true; kernel_rfl : drawX _ _ _), ?_⟩ | exact (by show drawK _ _ = true; kernel_rfl : drawX _ _ _) | simp -dsimp (maxSteps := 20000000) (disch := omega) only [simx, zzC, zzB, tys, ite_self, opnL, callB, callX, readsB, stepOp, nilCmp, ofVal, opBuiltin, opLen, PV.sk, scalBin, scalUn, intBin, opLoad, natOf, opConvert, opField, cellsP, oneP, Value.oneCell', opStore, toIV, scalT, scalA, scalC, boxesA, boxesC, zipB_none, zipB_mx, isZ, opZip, zeroP, opAppendZ, opMakeMap, opLookup, mboxB, opUpdate, ↓reduceIte, Nat.reduceSub, Nat.reduceEqDiff, Nat.reduceAdd, Nat.reduceMul, Nat.reduceLT, Nat.reduceLeDiff, Int.reduceToNat, Int.reduceLE, Int.reduceLT, Int.reduceNeg, reduceCtorEq, zzR, gos, Int.reduceAdd, Int.reduceSub, Int.reduceMul, Int.reduceEq])
      rfl
end Go.Proofs.Ythnfphgjfpcpbaa.TM
namespace Go.Proofs.Ythnfphgjfpcpbaa.TM
open Go
section
variable {P : Program} {C : CallRel} {h0 : Heap} {base : Name} {Qf : Ex → List PV → Heap → Prop} {k : List It} {t : List PV} {h : Heap}
theorem Xdr_eq {r : Option Out} {out : Out} {d : Option Tmp} {p : Op} {nm : Name} {id : Nat} {ops : Array Oper} {ds : List (Option Tmp)} {i : Nat} {os : List Oper} {pf : XPf ops ds i os} {acc : List Keys} (hr : r = some out)
    (hk : K P C h0 base Qf (.xdops id ops ds i os pf ((keysU out.ups, keysT nm p ((opnL p).map (St.opnd t))) :: acc) :: k) .normal (putT t d out.val) (h.ups out.ups)) : Xdr P C h0 base Qf r d p nm (mkD id ops ds i os pf) acc k t h := by
  subst hr; exact hk
theorem X_dappend_one {d : Option Tmp} {p : Op} {nm : Name} {id : Nat} {ops : Array Oper} {ds : List (Option Tmp)} {i : Nat} {os : List Oper} {pf : XPf ops ds i os} {acc : List Keys} {s b : Name} {ty : TypeId} (e : TypeId) (zs : List Value) {n z : Nat} {cs : List IV} (xs : List IV) {fz : Bool}
    (he : elemB P ty = some e) (hz : zeroB P e = some zs) (hzl : zs.length = z) (hz0 : 0 < z) (hn : cs.length = n * z) (hs : h s = if n = 0 then none else some (.row false cs)) (hb : h b = some (.row fz xs)) (hx : xs.length = z)
    (hby : (n + 1) * P.bytesOf e ≤ 140737488355328) (hl : n + 1 ≤ maxLen)
    (hk : K P C h0 base Qf (.xdops id ops ds i os pf ((keysU [(s, Box.row false (cs ++ xs))], keysT nm p ((opnL p).map (St.opnd t))) :: acc) :: k) .normal (putT t d (rowP s z (n + 1) (cs ++ xs))) (h.put s (.row false (cs ++ xs)))) :
    Xdr P C h0 base Qf (opAppend P h s ty (rowP s z n cs) (.view b 0 z 1 z)) d p nm (mkD id ops ds i os pf) acc k t h := by
  refine Xdr_eq (append_row he hz hzl hz0 hn hs rfl (m := 1) rfl (by decide) (xs := xs) ?_ hby hl) hk
  simp only [SK.cells, hb, hx, Nat.zero_add, Nat.one_mul, Nat.le_refl, and_self, if_true, List.drop_zero]
  rw [← hx, List.take_length]
theorem X_call_shared {id : Nat} {ops : Array Oper} {ds : List (Option Tmp)} {i : Nat} {d : Option Tmp} {p : Op} {ty : TypeId} {ps : String} {af : Array Edge} {g0 : Option (Nat × Bool)} {os : List Oper} {pf : XPf ops ds i ({ dst := d, op := p, type := ty, pos := ps, after := af, guard := g0 } :: os)} {c : Call} {g : FuncId} {args : List PV} {v : PV} {h' : Heap}
    (hs : CallR P ((id, i) :: base) g args h v h') (ho : p = .call c) (hcal : calleeOf t c = some (g, args)) (he : enterB P g = true)
    (hk : K P (CallR P) h0 base Qf (.xops id ops (d :: ds) (i + 1) os ⟨pf.h.step⟩ :: k) .normal (putT t d v) h') :
    K P (CallR P) h0 base Qf (.xcall id ops ds i { dst := d, op := p, type := ty, pos := ps, after := af, guard := g0 } os pf :: k) .normal t h :=
  K_call_shared (i := i) (ops := ops) (id := id) (os := os) (o := { dst := d, op := p, type := ty, pos := ps, after := af, guard := g0 }) hs ho hcal he hk
theorem keysL_row0 (s : Name) (z : Nat) (cs : List IV) (ps : List PV) : keysL (rowP s z 0 cs :: ps) = keysL ps := rfl
theorem keysL_rowS (s : Name) (z n : Nat) (cs : List IV) (ps : List PV) : keysL (rowP s z (n + 1) cs :: ps) = keyN s :: keysL ps := rfl
end
end Go.Proofs.Ythnfphgjfpcpbaa.TM
namespace Go.Proofs.Ythnfphgjfpcpbaa.TM
open Go Go.RowKit
attribute [local irreducible] K W WOps Effs Xg Xo Xr Xdg Xdo Xdr Xif CallsP CallR
theorem X_app_full {P : Program} {C : CallRel} {h h0 : Heap} {base : Name} {Qf : Ex → List PV → Heap → Prop} {k : List It} {t : List PV} {R : It} {d : Option Tmp} {s b : Name} {ty : TypeId} (e : TypeId) (zs : List Value) {n m : Nat} {cs : List IV} (xs : List IV)
    (he : elemB P ty = some e) (hz : zeroB P e = some zs) (hzl : zs.length = 1) (hb : h b = some (.row false cs)) (hl : cs.length = n) (hm : 0 < m) (hx : xs.length = m)
    (hby : (n + m) * P.bytesOf e ≤ 140737488355328) (hmx : n + m ≤ maxLen)
    (hk : K P C h0 base Qf (R :: k) .normal (putT t d (.view b 0 1 (n + m) (n + m))) (h.put b (.row false (cs ++ xs)))) :
    Xr P C h0 base Qf (opAppend P h s ty (.view b 0 1 n n) (.i (.l m xs))) d R k t h := by
  refine Xr_eq (out := ⟨.view b 0 1 (n + m) (n + m), [(b, .row false (cs ++ xs))]⟩) ?_ hk
  have h1 : ¬ m = 0 := by omega
  subst hl
  simp only [opAppend, he, hz, hzl, PV.sk, SK.cells, SK.len, hx, hb, Nat.mul_one, if_true, h1, if_false, hby, hmx, Nat.zero_lt_one, and_self, true_and, List.length_append]
theorem cloneU_own {n : Nat} {l : List Int} (hl : l.length = n) (h0 : 0 < n) (hn : n ≤ 4096) : CallsO Try.prog 101 [.i (.l n (l.map iu))] 1 n n (l.map iu) := by
  intro base
  refine ⟨(3, 0) :: base, Heap.none.put ((3, 0) :: base) (.row false (l.map iu)), ?_, by simp [Heap.put_at], by simp [hl]⟩
  have h1 : ¬ n = 0 := by omega
  refine X_startR (n := 8) (m := 1) (rs := [.tmp 2]) Try.func101 rfl rfl rfl rfl (by decide) ?_
  repeat (first | refine X_opc rfl ?_ | refine X_dopc rfl ?_ | refine ⟨(by show drawK _ _ = true; kernel_rfl : drawX _ _ _), ?_⟩ | exact (by show drawK _ _ = true; kernel_rfl : drawX _ _ _) | simp -dsimp (maxSteps := 20000000) (disch := omega) only [simx, zzC, zzB, tys, ite_self, opnL, callB, callX, readsB, stepOp, nilCmp, ofVal, opBuiltin, opLen, PV.sk, scalBin, scalUn, intBin, opLoad, natOf, opConvert, opField, cellsP, oneP, Value.oneCell', opStore, toIV, scalT, scalA, scalC, boxesA, boxesC, zipB_none, zipB_mx, isZ, opZip, zeroP, opAppendZ, opMakeMap, opLookup, mboxB, opUpdate, ↓reduceIte, Nat.reduceSub, Nat.reduceEqDiff, Nat.reduceAdd, Nat.reduceMul, Nat.reduceLT, Nat.reduceLeDiff, Int.reduceToNat, Int.reduceLE, Int.reduceLT, Int.reduceNeg, reduceCtorEq, gos, Int.reduceAdd, Int.reduceSub, Int.reduceMul, Int.reduceEq, h1, h0])
  refine X_app_full (cs := []) 22 [.int .u64 0] (l.map iu) (by simp only [tys]) (by simp only [tys]) rfl (by simp [Heap.put_at]) rfl h0 (by simp [hl]) (by simp only [tys]; omega) (by rw [mx_len]; omega) ?_
  repeat (first | refine X_opc rfl ?_ | refine X_dopc rfl ?_ | refine ⟨(by show drawK _ _ = true; kernel_rfl : drawX _ _ _), ?_⟩ | exact (by show drawK _ _ = true; kernel_rfl : drawX _ _ _) | simp -dsimp (maxSteps := 20000000) (disch := omega) only [simx, zzC, zzB, tys, ite_self, opnL, callB, callX, readsB, stepOp, nilCmp, ofVal, opBuiltin, opLen, PV.sk, scalBin, scalUn, intBin, opLoad, natOf, opConvert, opField, cellsP, oneP, Value.oneCell', opStore, toIV, scalT, scalA, scalC, boxesA, boxesC, zipB_none, zipB_mx, isZ, opZip, zeroP, opAppendZ, opMakeMap, opLookup, mboxB, opUpdate, ↓reduceIte, Nat.reduceSub, Nat.reduceEqDiff, Nat.reduceAdd, Nat.reduceMul, Nat.reduceLT, Nat.reduceLeDiff, Int.reduceToNat, Int.reduceLE, Int.reduceLT, Int.reduceNeg, reduceCtorEq, zzR, gos, Int.reduceAdd, Int.reduceSub, Int.reduceMul, Int.reduceEq])
  funext c
  simp only [Heap.put_at, List.nil_append]
  split <;> rfl
def nzA : List Int → Nat → Int
  | [], _ => -1
  | a :: l, k => if a = 0 then nzA l (k + 1) else k
theorem row1_walk (a : Int) : CallsP Try.prog 107 [u64 a] (bl (a != 0)) := by
  refine X_startP (n := 5) (m := 1) (rs := [.tmp 2]) Try.func107 rfl rfl rfl rfl (by decide) fun base => ?_
  repeat (first | refine X_opc rfl ?_ | refine X_dopc rfl ?_ | refine ⟨(by show drawK _ _ = true; kernel_rfl : drawX _ _ _), ?_⟩ | exact (by show drawK _ _ = true; kernel_rfl : drawX _ _ _) | simp -dsimp (maxSteps := 20000000) (disch := omega) only [simx, zzC, zzB, tys, ite_self, opnL, callB, callX, readsB, stepOp, nilCmp, ofVal, opBuiltin, opLen, PV.sk, scalBin, scalUn, intBin, opLoad, natOf, opConvert, opField, cellsP, oneP, Value.oneCell', opStore, toIV, scalT, scalA, scalC, boxesA, boxesC, zipB_none, zipB_mx, isZ, opZip, zeroP, opAppendZ, opMakeMap, opLookup, mboxB, opUpdate, ↓reduceIte, Nat.reduceSub, Nat.reduceEqDiff, Nat.reduceAdd, Nat.reduceMul, Nat.reduceLT, Nat.reduceLeDiff, Int.reduceToNat, Int.reduceLE, Int.reduceLT, Int.reduceNeg, reduceCtorEq, zzR, gos, Int.reduceAdd, Int.reduceSub, Int.reduceMul, Int.reduceEq])
theorem indexA_walk {l : List Int} (hl : l.length ≤ maxLen) : CallsP Try.prog 106 [lu l, fnc 107] (i64 (nzA l 0)) := by
  rw [mx_len] at hl
  refine X_startP (n := 19) (m := 2) (rs := [.tmp 4]) Try.func106 rfl rfl rfl rfl (by decide) fun base => ?_
  repeat (first | refine X_opc rfl ?_ | refine X_dopc rfl ?_ | refine ⟨(by show drawK _ _ = true; kernel_rfl : drawX _ _ _), ?_⟩ | exact (by show drawK _ _ = true; kernel_rfl : drawX _ _ _) | simp -dsimp (maxSteps := 20000000) (disch := omega) only [simx, zzC, zzB, tys, ite_self, opnL, callB, callX, readsB, stepOp, nilCmp, ofVal, opBuiltin, opLen, PV.sk, scalBin, scalUn, intBin, opLoad, natOf, opConvert, opField, cellsP, oneP, Value.oneCell', opStore, toIV, scalT, scalA, scalC, boxesA, boxesC, zipB_none, zipB_mx, isZ, opZip, zeroP, opAppendZ, opMakeMap, opLookup, mboxB, opUpdate, ↓reduceIte, Nat.reduceSub, Nat.reduceEqDiff, Nat.reduceAdd, Nat.reduceMul, Nat.reduceLT, Nat.reduceLeDiff, Int.reduceToNat, Int.reduceLE, Int.reduceLT, Int.reduceNeg, reduceCtorEq, gos, Int.reduceAdd, Int.reduceSub, Int.reduceMul, Int.reduceEq])
  refine X_loopH [0, 1, 7, 8] [] (0) (l.length) (fun j => nzA (l.drop j) j = nzA l 0) (fun j => [(8, i64 j)]) (fun j => Heap.none) ?_ ?_ ?_ ?_ ?_ (by decide) ?_
  · exact (fgt_nil)
  · ((simp -dsimp (disch := omega) only [simx, zzB, tys, ite_self, opnL, callB, callX, readsB, stepOp, nilCmp, ofVal, opBuiltin, opLen, PV.sk, scalBin, scalUn, intBin, opLoad, natOf, opConvert, opField, cellsP, oneP, Value.oneCell', opStore, toIV, scalT, scalA, scalC, boxesA, boxesC, zipB_none, zipB_mx, isZ, opZip, zeroP, opAppendZ, opMakeMap, opLookup, mboxB, opUpdate, ↓reduceIte, Nat.reduceSub, Nat.reduceEqDiff, Nat.reduceAdd, Nat.reduceMul, Nat.reduceLT, Nat.reduceLeDiff, Int.reduceToNat, Int.reduceLE, Int.reduceLT, Int.reduceNeg, reduceCtorEq, gos, Int.reduceAdd, Int.reduceSub, Int.reduceMul, Int.reduceEq]) <;> first | rfl | simp)
  · exact drop_nil _
  · omega
  · rfl
  · intro j hj hf
    by_cases c : j < l.length
    · have g1 : l[j]? = some l[j] := List.getElem?_eq_getElem c
      have d := row1_walk l[j]
      rw [List.drop_eq_getElem_cons c, nzA] at hf
      generalize l[j] = a at g1 d hf
      by_cases e : a = 0
      · rw [if_pos e] at hf
        subst e
        rw [show ((0 : Int) != 0) = false from rfl] at d
        repeat (first | ((first | refine X_call_fn2 rfl (by simp only [tys]) ?_ | refine X_dcall_fn2 rfl (by simp only [tys]) ?_); apply Exists.intro; apply And.intro; (focus (simp -dsimp only [simx, zzC, zzB, tys, ite_self, opnL, callB, callX, readsB, stepOp, nilCmp, ofVal, opBuiltin, opLen, PV.sk, scalBin, scalUn, intBin, opLoad, natOf, opConvert, opField, cellsP, oneP, Value.oneCell', opStore, toIV, scalT, scalA, scalC, boxesA, boxesC, zipB_none, zipB_mx, isZ, opZip, zeroP, opAppendZ, opMakeMap, opLookup, mboxB, opUpdate, ↓reduceIte, Nat.reduceSub, Nat.reduceEqDiff, Nat.reduceAdd, Nat.reduceMul, Nat.reduceLT, Nat.reduceLeDiff, Int.reduceToNat, Int.reduceLE, Int.reduceLT, Int.reduceNeg, reduceCtorEq, zzL, if_true, if_false] <;> rfl)); apply Exists.intro; apply And.intro; (focus (first | exact d))) | (refine X_call_val2 rfl ?_; apply Exists.intro; apply And.intro; (focus (simp -dsimp only [simx, zzC, zzB, tys, ite_self, opnL, callB, callX, readsB, stepOp, nilCmp, ofVal, opBuiltin, opLen, PV.sk, scalBin, scalUn, intBin, opLoad, natOf, opConvert, opField, cellsP, oneP, Value.oneCell', opStore, toIV, scalT, scalA, scalC, boxesA, boxesC, zipB_none, zipB_mx, isZ, opZip, zeroP, opAppendZ, opMakeMap, opLookup, mboxB, opUpdate, ↓reduceIte, Nat.reduceSub, Nat.reduceEqDiff, Nat.reduceAdd, Nat.reduceMul, Nat.reduceLT, Nat.reduceLeDiff, Int.reduceToNat, Int.reduceLE, Int.reduceLT, Int.reduceNeg, reduceCtorEq, zzL, if_true, if_false] <;> rfl)); apply And.intro; (focus (first | simp only [tys] | exact such_enter _)); apply Exists.intro; apply And.intro; (focus (simp -dsimp only [simx, zzC, zzB, tys, ite_self, opnL, callB, callX, readsB, stepOp, nilCmp, ofVal, opBuiltin, opLen, PV.sk, scalBin, scalUn, intBin, opLoad, natOf, opConvert, opField, cellsP, oneP, Value.oneCell', opStore, toIV, scalT, scalA, scalC, boxesA, boxesC, zipB_none, zipB_mx, isZ, opZip, zeroP, opAppendZ, opMakeMap, opLookup, mboxB, opUpdate, ↓reduceIte, Nat.reduceSub, Nat.reduceEqDiff, Nat.reduceAdd, Nat.reduceMul, Nat.reduceLT, Nat.reduceLeDiff, Int.reduceToNat, Int.reduceLE, Int.reduceLT, Int.reduceNeg, reduceCtorEq, zzL, if_true, if_false] <;> rfl)); apply Exists.intro; apply And.intro; (focus (first | exact d))) | refine X_opc rfl ?_ | refine X_dopc rfl ?_ | refine ⟨(by show drawK _ _ = true; kernel_rfl : drawX _ _ _), ?_⟩ | exact (by show drawK _ _ = true; kernel_rfl : drawX _ _ _) | simp -dsimp (maxSteps := 20000000) (disch := omega) only [simx, zzC, zzB, tys, ite_self, opnL, callB, callX, readsB, stepOp, nilCmp, ofVal, opBuiltin, opLen, PV.sk, scalBin, scalUn, intBin, opLoad, natOf, opConvert, opField, cellsP, oneP, Value.oneCell', opStore, toIV, scalT, scalA, scalC, boxesA, boxesC, zipB_none, zipB_mx, isZ, opZip, zeroP, opAppendZ, opMakeMap, opLookup, mboxB, opUpdate, ↓reduceIte, Nat.reduceSub, Nat.reduceEqDiff, Nat.reduceAdd, Nat.reduceMul, Nat.reduceLT, Nat.reduceLeDiff, Int.reduceToNat, Int.reduceLE, Int.reduceLT, Int.reduceNeg, reduceCtorEq, zzR, gos, Int.reduceAdd, Int.reduceSub, Int.reduceMul, Int.reduceEq, c, g1])
        exact ⟨c, (fgt_nil), hf, rfl, drop_nil _⟩
      · rw [if_neg e] at hf
        rw [← hf]
        rw [show (a != 0) = true by simp [e]] at d
        repeat (first | ((first | refine X_call_fn2 rfl (by simp only [tys]) ?_ | refine X_dcall_fn2 rfl (by simp only [tys]) ?_); apply Exists.intro; apply And.intro; (focus (simp -dsimp only [simx, zzC, zzB, tys, ite_self, opnL, callB, callX, readsB, stepOp, nilCmp, ofVal, opBuiltin, opLen, PV.sk, scalBin, scalUn, intBin, opLoad, natOf, opConvert, opField, cellsP, oneP, Value.oneCell', opStore, toIV, scalT, scalA, scalC, boxesA, boxesC, zipB_none, zipB_mx, isZ, opZip, zeroP, opAppendZ, opMakeMap, opLookup, mboxB, opUpdate, ↓reduceIte, Nat.reduceSub, Nat.reduceEqDiff, Nat.reduceAdd, Nat.reduceMul, Nat.reduceLT, Nat.reduceLeDiff, Int.reduceToNat, Int.reduceLE, Int.reduceLT, Int.reduceNeg, reduceCtorEq, zzL, if_true, if_false] <;> rfl)); apply Exists.intro; apply And.intro; (focus (first | exact d))) | (refine X_call_val2 rfl ?_; apply Exists.intro; apply And.intro; (focus (simp -dsimp only [simx, zzC, zzB, tys, ite_self, opnL, callB, callX, readsB, stepOp, nilCmp, ofVal, opBuiltin, opLen, PV.sk, scalBin, scalUn, intBin, opLoad, natOf, opConvert, opField, cellsP, oneP, Value.oneCell', opStore, toIV, scalT, scalA, scalC, boxesA, boxesC, zipB_none, zipB_mx, isZ, opZip, zeroP, opAppendZ, opMakeMap, opLookup, mboxB, opUpdate, ↓reduceIte, Nat.reduceSub, Nat.reduceEqDiff, Nat.reduceAdd, Nat.reduceMul, Nat.reduceLT, Nat.reduceLeDiff, Int.reduceToNat, Int.reduceLE, Int.reduceLT, Int.reduceNeg, reduceCtorEq, zzL, if_true, if_false] <;> rfl)); apply And.intro; (focus (first | simp only [tys] | exact such_enter _)); apply Exists.intro; apply And.intro; (focus (simp -dsimp only [simx, zzC, zzB, tys, ite_self, opnL, callB, callX, readsB, stepOp, nilCmp, ofVal, opBuiltin, opLen, PV.sk, scalBin, scalUn, intBin, opLoad, natOf, opConvert, opField, cellsP, oneP, Value.oneCell', opStore, toIV, scalT, scalA, scalC, boxesA, boxesC, zipB_none, zipB_mx, isZ, opZip, zeroP, opAppendZ, opMakeMap, opLookup, mboxB, opUpdate, ↓reduceIte, Nat.reduceSub, Nat.reduceEqDiff, Nat.reduceAdd, Nat.reduceMul, Nat.reduceLT, Nat.reduceLeDiff, Int.reduceToNat, Int.reduceLE, Int.reduceLT, Int.reduceNeg, reduceCtorEq, zzL, if_true, if_false] <;> rfl)); apply Exists.intro; apply And.intro; (focus (first | exact d))) | refine X_opc rfl ?_ | refine X_dopc rfl ?_ | refine ⟨(by show drawK _ _ = true; kernel_rfl : drawX _ _ _), ?_⟩ | exact (by show drawK _ _ = true; kernel_rfl : drawX _ _ _) | simp -dsimp (maxSteps := 20000000) (disch := omega) only [simx, zzC, zzB, tys, ite_self, opnL, callB, callX, readsB, stepOp, nilCmp, ofVal, opBuiltin, opLen, PV.sk, scalBin, scalUn, intBin, opLoad, natOf, opConvert, opField, cellsP, oneP, Value.oneCell', opStore, toIV, scalT, scalA, scalC, boxesA, boxesC, zipB_none, zipB_mx, isZ, opZip, zeroP, opAppendZ, opMakeMap, opLookup, mboxB, opUpdate, ↓reduceIte, Nat.reduceSub, Nat.reduceEqDiff, Nat.reduceAdd, Nat.reduceMul, Nat.reduceLT, Nat.reduceLeDiff, Int.reduceToNat, Int.reduceLE, Int.reduceLT, Int.reduceNeg, reduceCtorEq, zzR, gos, Int.reduceAdd, Int.reduceSub, Int.reduceMul, Int.reduceEq, c, g1])
    · have hj : j = l.length := by omega
      subst hj
      rw [List.drop_length, nzA] at hf
      rw [← hf]
      repeat (first | refine X_opc rfl ?_ | refine X_dopc rfl ?_ | refine ⟨(by show drawK _ _ = true; kernel_rfl : drawX _ _ _), ?_⟩ | exact (by show drawK _ _ = true; kernel_rfl : drawX _ _ _) | simp -dsimp (maxSteps := 20000000) (disch := omega) only [simx, zzC, zzB, tys, ite_self, opnL, callB, callX, readsB, stepOp, nilCmp, ofVal, opBuiltin, opLen, PV.sk, scalBin, scalUn, intBin, opLoad, natOf, opConvert, opField, cellsP, oneP, Value.oneCell', opStore, toIV, scalT, scalA, scalC, boxesA, boxesC, zipB_none, zipB_mx, isZ, opZip, zeroP, opAppendZ, opMakeMap, opLookup, mboxB, opUpdate, ↓reduceIte, Nat.reduceSub, Nat.reduceEqDiff, Nat.reduceAdd, Nat.reduceMul, Nat.reduceLT, Nat.reduceLeDiff, Int.reduceToNat, Int.reduceLE, Int.reduceLT, Int.reduceNeg, reduceCtorEq, zzR, gos, Int.reduceAdd, Int.reduceSub, Int.reduceMul, Int.reduceEq])
end Go.Proofs.Ythnfphgjfpcpbaa.TM
namespace Go.Proofs.Ythnfphgjfpcpbaa.TM
open Go Go.RowKit
def finvC (p a : Int) : Int := match (List.range p.toNat).find? (fun x : Nat => a * (x : Int) % p == 1) with
  | some x => (x : Int)
  | none => 0
theorem finv_c (p a : Int) : finv p a = finvC p a := by
  unfold finvC
  cases h : (List.range p.toNat).find? (fun x : Nat => a * (x : Int) % p == 1) with
  | some x =>
    have h1 := List.find?_some h
    have h2 := List.mem_range.1 (List.mem_of_find?_eq_some h)
    show finv p a = (x : Int)
    exact finv_spec ⟨by omega, by omega⟩ (by simpa using h1)
  | none =>
    have h1 := List.find?_eq_none.1 h
    unfold finv
    rw [dif_neg]
    · rintro ⟨x, hx, hm⟩
      have h0 := hx.1
      have h2 := hx.2
      have := h1 x.toNat (List.mem_range.2 (by omega))
      rw [show ((x.toNat : Nat) : Int) = x by have := hx.1; omega, hm] at this
      simp at this
theorem finvC_in {p a : Int} (hp2 : 2 ≤ p) (hp : p < 9223372036854775808) (ha : In p a) (h : Int.gcd p a = 1) : In p (finvC p a) ∧ a * finvC p a % p = 1 := by
  rw [← finv_c]; exact finv_in hp2 hp ha h
structure Tk where
  rows : List Int
  cols : List Int
  cs : List (List Int)
  us : List (List Int)
  vs : List Int
def elR (p : Int) (T : Tk) (row : List Int) : Nat → List Int
  | 0 => row
  | k + 1 => lessV p ((elR p T row k).getD (T.cols.getD k 0).toNat 0 * T.vs.getD k 0 % p) (elR p T row k) (T.us.getD k [])
def elX (p : Int) (T : Tk) (row : List Int) (k : Nat) : Int := (elR p T row k).getD (T.cols.getD k 0).toNat 0 * T.vs.getD k 0 % p
theorem elR_succ (p : Int) (T : Tk) (row : List Int) (k : Nat) : elR p T row (k + 1) = lessV p (elX p T row k) (elR p T row k) (T.us.getD k []) := rfl
theorem elR_len (p : Int) (T : Tk) (row : List Int) : ∀ k, (elR p T row k).length = row.length
  | 0 => rfl
  | k + 1 => by rw [elR_succ, lessV_len, elR_len p T row k]
theorem elR_in {p : Int} (hp : Md p) (T : Tk) {row : List Int} (h : ∀ a ∈ row, In p a) : ∀ k, ∀ a ∈ elR p T row k, In p a
  | 0 => h
  | k + 1 => by rw [elR_succ]; exact lessV_in hp _ _ _
theorem elX_in {p : Int} (hp : Md p) (T : Tk) (row : List Int) (k : Nat) : In p (elX p T row k) := in_emod hp _
def rstT (p : Int) (T : Tk) (row : List Int) : List Int := elR p T row T.us.length
def xsT (p : Int) (T : Tk) (row : List Int) : List Int := tbl T.us.length (elX p T row)
def tkRow (p : Int) (T : Tk) (i : Int) (row : List Int) : Tk :=
  if nzA (rstT p T row) 0 < 0 then { T with cs := T.cs ++ [xsT p T row] } else
  { rows := T.rows ++ [i], cols := T.cols ++ [nzA (rstT p T row) 0], cs := T.cs ++ [xsT p T row ++ [1]], us := T.us ++ [rstT p T row], vs := T.vs ++ [finvC p ((rstT p T row).getD (nzA (rstT p T row) 0).toNat 0)] }
def tkN (p : Int) (C : Nat) (l : List Int) : Nat → Tk
  | 0 => ⟨[], [], [], [], []⟩
  | i + 1 => tkRow p (tkN p C l i) i (rowM C l i)
structure TkI (p : Int) (C i : Nat) (T : Tk) : Prop where
  rl : T.rows.length = T.us.length
  ql : T.cols.length = T.us.length
  vl : T.vs.length = T.us.length
  cl : T.cs.length = i
  ri : T.us.length ≤ i
  rb : ∀ a ∈ T.rows, 0 ≤ a ∧ a < i
  qb : ∀ a ∈ T.cols, 0 ≤ a ∧ a < C
  ul : ∀ u ∈ T.us, u.length = C ∧ ∀ a ∈ u, In p a
  vb : ∀ a ∈ T.vs, In p a
  cb : ∀ c ∈ T.cs, c.length ≤ T.us.length ∧ ∀ a ∈ c, In p a
theorem TkI.zero (p : Int) (C : Nat) : TkI p C 0 ⟨[], [], [], [], []⟩ := ⟨rfl, rfl, rfl, rfl, Nat.le_refl _, by simp, by simp, by simp, by simp, by simp⟩
theorem nzA_spec : ∀ (l : List Int) (k : Nat), (nzA l k = -1 ∧ ∀ a ∈ l, a = 0) ∨ ∃ n : Nat, nzA l k = ((k + n : Nat) : Int) ∧ n < l.length ∧ l.getD n 0 ≠ 0 ∧ ∀ j, j < n → l.getD j 0 = 0
  | [], k => .inl ⟨rfl, by simp⟩
  | a :: l, k => by
    by_cases h : a = 0
    · rcases nzA_spec l (k + 1) with ⟨h1, h2⟩ | ⟨n, h1, h2, h3, h4⟩
      · left; rw [nzA, if_pos h]; exact ⟨h1, by intro b hb; rcases List.mem_cons.1 hb with rfl | hb; exact h; exact h2 b hb⟩
      · right
        refine ⟨n + 1, by rw [nzA, if_pos h, h1]; congr 1; omega, by simpa using h2, by simpa using h3, ?_⟩
        intro j hj
        cases j with
        | zero => simpa using h
        | succ j => simpa using h4 j (by omega)
    · right
      exact ⟨0, by rw [nzA, if_neg h]; rfl, by simp, by simpa using h, by intro j hj; omega⟩
end Go.Proofs.Ythnfphgjfpcpbaa.TM
namespace Go.Proofs.Ythnfphgjfpcpbaa.TM
open Go
theorem X_startE {P : Program} {base : Name} {f : FuncId} {fn : Func} {c : Code} {args : List PV} {h : Heap} {v : PV} {Φ : Heap → Prop} {n m : Nat} {rs : List ResultVar} (hf : P.funcs[f]? = some fn) (hb : fn.body = some c) (hn : fn.ntmps = n) (hrs : fn.results.toList = rs) (hm : args.length = m) (hmn : m ≤ n)
    (hw : K P (CallR P) h base (LkQ (fun e t hh => (e = .normal ∨ e = .ret) ∧ resB P rs t hh = some v ∧ Φ hh) .mk) [.lk c .mk] .normal (toL n (argsF args)) h) : ∃ h', CallR P base f args h v h' ∧ Φ h' := by
  obtain ⟨e, t', h', ⟨he, hr, hp⟩, hw'⟩ := W_point c _ _ (show W P (CallR P) h base c (toL n (argsF args)) h _ from hw)
  refine ⟨h', CallR.startF (v := v) hf hb hn hrs hm hmn ?_, hp⟩
  show W P (CallR P) h base c (toL n (argsF args)) h _
  refine W_mono (fun _ _ _ _ _ _ h => h) c _ _ (fun e2 t2 h2 hh => ?_) hw'
  obtain ⟨rfl, rfl, rfl⟩ := hh
  exact ⟨he, hr, rfl⟩
end Go.Proofs.Ythnfphgjfpcpbaa.TM
namespace Go.Proofs.Ythnfphgjfpcpbaa.TM
open Go Go.RowKit
def Prm (p : Nat) : Prop := 2 ≤ p ∧ ∀ a, 0 < a → a < p → Nat.gcd p a = 1
theorem prm_of {p : Nat} (h2 : 2 ≤ p) (h : ∀ d, 2 ≤ d → d * d ≤ p → p % d ≠ 0) : Prm p := by
  refine ⟨h2, fun a h0 h1 => ?_⟩
  have d1 := Nat.gcd_dvd_left p a
  have d2 := Nat.gcd_dvd_right p a
  have gp : 0 < Nat.gcd p a := Nat.gcd_pos_of_pos_left _ (by omega)
  have ga : Nat.gcd p a ≤ a := Nat.le_of_dvd h0 d2
  generalize Nat.gcd p a = g at *
  by_cases e : g = 1
  · exact e
  exfalso
  obtain ⟨c, hc⟩ := d1
  by_cases e2 : g * g ≤ p
  · exact h g (by omega) e2 (Nat.mod_eq_zero_of_dvd ⟨c, hc⟩)
  · have c1 : c ≠ 0 := by rintro rfl; omega
    have c2 : c ≠ 1 := by rintro rfl; omega
    have c3 : c < g := by
      rcases Nat.lt_or_ge c g with h | h
      · exact h
      · exact absurd (by rw [hc]; exact Nat.mul_le_mul_left g h) e2
    refine h c (by omega) ?_ (Nat.mod_eq_zero_of_dvd ⟨g, by rw [hc, Nat.mul_comm]⟩)
    rw [hc]; exact Nat.mul_le_mul_right c (Nat.le_of_lt c3)
def noDiv (p : Nat) : Nat → Nat → Bool
  | 0, lo => p % lo != 0
  | k + 1, lo => noDiv p k lo && noDiv p k (lo + 2 ^ k)
theorem noDiv_all (p : Nat) : ∀ (k lo : Nat), noDiv p k lo = true → ∀ d, lo ≤ d → d < lo + 2 ^ k → p % d ≠ 0
  | 0, lo, h, d, h1, h2 => by
    obtain rfl : d = lo := by omega
    simpa [noDiv] using h
  | k + 1, lo, h, d, h1, h2 => by
    rw [noDiv, Bool.and_eq_true] at h
    by_cases c : d < lo + 2 ^ k
    · exact noDiv_all p k lo h.1 d h1 c
    · exact noDiv_all p k _ h.2 d (by omega) (by rw [Nat.pow_succ] at h2; omega)
theorem sq_lt {d n : Nat} (h : d * d < n * n) : d < n := by
  rcases Nat.lt_or_ge d n with g | g
  · exact g
  · exact absurd (Nat.mul_le_mul g g) (by omega)
theorem prm31 : Prm 2147483647 := by
  refine prm_of (by decide) fun d h2 hd => ?_
  have hk : noDiv 2147483647 16 2 = true := by decide +kernel
  exact noDiv_all _ 16 2 hk d h2 (by have : d < 46341 := sq_lt (Nat.lt_of_le_of_lt hd (by decide)); omega)
theorem least (Q : Nat → Prop) : ∀ n, Q n → ∃ m, Q m ∧ ∀ k, k < m → ¬ Q k := by
  intro n
  induction n using Nat.strongRecOn with
  | _ n ih =>
  intro h
  by_cases c : ∃ k, k < n ∧ Q k
  · obtain ⟨k, hk, hq⟩ := c
    exact ih k hk hq
  · exact ⟨n, h, fun k hk hq => c ⟨k, hk, hq⟩⟩
theorem pigeon : ∀ (g n : Nat) (f : Nat → Nat), (∀ i, i < n → f i < g) → (∀ i j, i < j → j < n → f i ≠ f j) → n ≤ g
  | 0, n, f, h, _ => by
    rcases Nat.eq_zero_or_pos n with h0 | h0
    · omega
    · exact absurd (h 0 h0) (by omega)
  | g + 1, n, f, h, hd => by
    by_cases c : ∃ i, i < n ∧ f i = g
    · obtain ⟨i, hi, he⟩ := c
      have := pigeon g (n - 1) (fun j => if j < i then f j else f (j + 1)) (fun j hj => by
        by_cases e : j < i
        · simp only [if_pos e]
          have h1 := h j (by omega)
          have h2 := hd j i e hi
          omega
        · simp only [if_neg e]
          have h1 := h (j + 1) (by omega)
          have h2 := hd i (j + 1) (by omega) (by omega)
          omega) (fun j k hjk hk => by
        by_cases e : j < i
        · by_cases e2 : k < i
          · simp only [if_pos e, if_pos e2]; exact hd j k hjk (by omega)
          · simp only [if_pos e, if_neg e2]; exact hd j (k + 1) (by omega) (by omega)
        · simp only [if_neg e, if_neg (show ¬ k < i by omega)]; exact hd (j + 1) (k + 1) (by omega) (by omega))
      omega
    · have := pigeon g n f (fun i hi => by
        have h1 := h i hi
        have h2 : f i ≠ g := fun e => c ⟨i, hi, e⟩
        omega) hd
      omega
theorem mod_pow (a n : Nat) : ∀ k, (a % n) ^ k % n = a ^ k % n
  | 0 => rfl
  | k + 1 => by rw [Nat.pow_succ, Nat.pow_succ, Nat.mul_mod, mod_pow a n k, Nat.mod_mod, ← Nat.mul_mod]
theorem lucas {n a : Nat} (hn : 3 ≤ n) (L : List Nat) (h1 : a ^ (n - 1) % n = 1) (hL : ∀ q ∈ L, ∃ c, (a ^ ((n - 1) / q) % n + (n - 1)) * c % n = 1) (hm : ∀ m, m ∣ n - 1 → m ≠ 1 → ∃ q ∈ L, q ∣ m) : Prm n := by
  refine ⟨by omega, fun x x0 x1 => ?_⟩
  have d1 := Nat.gcd_dvd_left n x
  have d2 := Nat.gcd_dvd_right n x
  have gp : 0 < Nat.gcd n x := Nat.gcd_pos_of_pos_left _ (by omega)
  have gx : Nat.gcd n x ≤ x := Nat.le_of_dvd x0 d2
  generalize Nat.gcd n x = g at *
  by_cases e : g = 1
  · exact e
  exfalso
  have g2 : 2 ≤ g := by omega
  have one : 1 % g = 1 := Nat.mod_eq_of_lt (by omega)
  have tog : ∀ {y : Nat}, y % n = 1 → y % g = 1 := by
    intro y hy
    rw [← Nat.mod_mod_of_dvd y d1, hy, one]
  have a1 := tog h1
  obtain ⟨d, ⟨dp, hd⟩, dl⟩ := least (fun k => 0 < k ∧ a ^ k % g = 1) (n - 1) ⟨by omega, a1⟩
  have mul1 : ∀ {u v : Nat}, u % g = 1 → u * v % g = v % g := fun {u v} hu => by rw [Nat.mul_mod, hu, Nat.one_mul, Nat.mod_mod]
  have powd : ∀ k, a ^ (d * k) % g = 1 := by
    intro k
    rw [Nat.pow_mul, ← mod_pow, hd, Nat.one_pow, one]
  have dd : d ∣ n - 1 := by
    have e1 := Nat.div_add_mod (n - 1) d
    have : a ^ ((n - 1) % d) % g = 1 := by
      have h := a1
      rw [← e1, Nat.pow_add, mul1 (powd _)] at h
      exact h
    by_cases z : (n - 1) % d = 0
    · exact Nat.dvd_of_mod_eq_zero z
    · exact absurd ⟨by omega, this⟩ (dl _ (Nat.mod_lt _ dp))
  obtain ⟨m, hmd⟩ := dd
  have m1 : m = 1 := by
    by_cases m1 : m = 1
    · exact m1
    exfalso
    obtain ⟨q, hq, ⟨s, hs⟩⟩ := hm m ⟨d, by rw [hmd, Nat.mul_comm]⟩ m1
    have q0 : 0 < q := by
      rcases Nat.eq_zero_or_pos q with h | h
      · subst h; rw [hs, Nat.zero_mul, Nat.mul_zero] at hmd; omega
      · exact h
    obtain ⟨c, hc⟩ := hL q hq
    have e2 : (n - 1) / q = d * s := by
      rw [hmd, hs, show d * (q * s) = d * s * q by rw [Nat.mul_comm q s, Nat.mul_assoc], Nat.mul_div_cancel _ q0]
    rw [e2] at hc
    have h3 := tog hc
    obtain ⟨u, hu⟩ := d1
    have h4 : (a ^ (d * s) % n + (n - 1)) % g = 0 := by
      have h5 : a ^ (d * s) % n % g = 1 := by rw [Nat.mod_mod_of_dvd _ ⟨u, hu⟩]; exact powd s
      rw [Nat.add_mod, h5]
      have h6 : (n - 1) % g = g - 1 := by
        have u0 : 0 < u := by
          rcases Nat.eq_zero_or_pos u with h | h
          · subst h; omega
          · exact h
        obtain ⟨w, rfl⟩ : ∃ w, u = w + 1 := ⟨u - 1, by omega⟩
        rw [show n - 1 = g - 1 + g * w by rw [hu, Nat.mul_succ]; omega, Nat.add_mul_mod_self_left]
        exact Nat.mod_eq_of_lt (by omega)
      rw [h6, show 1 + (g - 1) = g by omega, Nat.mod_self]
    rw [Nat.mul_mod, h4, Nat.zero_mul, Nat.zero_mod] at h3
    omega
  have dn : d = n - 1 := by rw [hmd, m1, Nat.mul_one]
  have inj : ∀ i j, i < j → j < n - 1 → a ^ i % g ≠ a ^ j % g := by
    intro i j hij hj he
    have h7 : a ^ (j - i) % g = 1 := by
      have k1 : a ^ (n - 1 - i) * a ^ i % g = 1 := by rw [← Nat.pow_add, show n - 1 - i + i = n - 1 by omega]; exact a1
      have k2 : a ^ (n - 1 - i) * a ^ j % g = a ^ (j - i) % g := by
        rw [show j = i + (j - i) by omega, Nat.pow_add, ← Nat.mul_assoc, mul1 k1, show i + (j - i) - i = j - i by omega]
      rw [← k2, Nat.mul_mod, ← he, ← Nat.mul_mod, k1]
    exact dl (j - i) (by omega) ⟨by omega, h7⟩
  have nz : ∀ i, i < n - 1 → a ^ i % g ≠ 0 := by
    intro i hi h0
    have k1 : a ^ (n - 1 - i) * a ^ i % g = 1 := by rw [← Nat.pow_add, show n - 1 - i + i = n - 1 by omega]; exact a1
    rw [Nat.mul_mod, h0, Nat.mul_zero, Nat.zero_mod] at k1
    omega
  have := pigeon (g - 1) (n - 1) (fun i => a ^ i % g - 1) (fun i hi => by have := nz i hi; have := Nat.mod_lt (a ^ i) gp; omega) (fun i j hij hj he => by
    have h8 := inj i j hij hj
    have h9 := nz i (by omega)
    have h10 := nz j hj
    omega)
  omega
def pm2 (n : Nat) : Nat → Nat → Nat → Nat
  | 0, _, _ => 1 % n
  | k + 1, a, e => if e % 2 = 1 then a * pm2 n k (a * a % n) (e / 2) % n else pm2 n k (a * a % n) (e / 2)
theorem pm2_eq (n : Nat) : ∀ (k a e : Nat), e < 2 ^ k → pm2 n k a e = a ^ e % n
  | 0, a, e, h => by obtain rfl : e = 0 := by omega
                     rfl
  | k + 1, a, e, h => by
    have h2 : e / 2 < 2 ^ k := by rw [Nat.pow_succ] at h; omega
    have e1 : a ^ e = (a * a) ^ (e / 2) * a ^ (e % 2) := by
      rw [show a * a = a ^ 2 by rw [Nat.pow_succ, Nat.pow_succ, Nat.pow_zero, Nat.one_mul], ← Nat.pow_mul, ← Nat.pow_add]
      congr 1; omega
    rw [pm2, pm2_eq n k _ _ h2, mod_pow]
    rcases Nat.mod_two_eq_zero_or_one e with c | c
    · rw [if_neg (by omega), e1, c, Nat.pow_zero, Nat.mul_one]
    · rw [if_pos c, e1, c, Nat.pow_one, Nat.mul_comm, Nat.mod_mul_mod]
theorem prime_div {q : Nat} (h : (List.range (q + 1)).all (fun d => d == 1 || d == q || q % d != 0) = true) (hq : 2 ≤ q) {m : Nat} (hm : ¬ q ∣ m) : Nat.gcd m q = 1 := by
  have d1 := Nat.gcd_dvd_left m q
  have d2 := Nat.gcd_dvd_right m q
  have := List.all_eq_true.1 h (Nat.gcd m q) (List.mem_range.2 (by have := Nat.le_of_dvd (by omega) d2; omega))
  simp only [Bool.or_eq_true, beq_iff_eq, bne_iff_ne] at this
  rcases this with (h1 | h1) | h1
  · exact h1
  · exact absurd (h1 ▸ d1) hm
  · exact absurd (Nat.mod_eq_zero_of_dvd d2) h1
theorem lucas' {n a k : Nat} (hn : 3 ≤ n) (hk : n ≤ 2 ^ k) (L : List (Nat × Nat)) (h1 : pm2 n k a (n - 1) = 1) (hL : L.all (fun w => (pm2 n k a ((n - 1) / w.1) + (n - 1)) * w.2 % n == 1) = true) (hm : ∀ m, m ∣ n - 1 → m ≠ 1 → ∃ q ∈ L.map (·.1), q ∣ m) : Prm n := by
  refine lucas (a := a) hn (L.map (·.1)) (by rw [← pm2_eq n k _ _ (by omega)]; exact h1) (fun q hq => ?_) hm
  obtain ⟨w, hw, rfl⟩ := List.mem_map.1 hq
  refine ⟨w.2, ?_⟩
  rw [← pm2_eq n k _ _ (by have := Nat.div_le_self (n - 1) w.1; omega)]
  have := List.all_eq_true.1 hL w hw
  simpa using this
def wit61 : List (Nat × Nat) := [(2, 1152921504606846975), (3, 212086872990781878), (5, 1436392118636136522), (7, 62135951423208583), (11, 2117382201747708966), (13, 1243296897272292213), (31, 42235654463646013), (41, 730874616585150915), (61, 329365932848850065), (151, 68233547637592170), (331, 1960352316127796739), (1321, 2165998172066445805)]
def fac61 : List Nat := wit61.map (·.1)
theorem prm61 : Prm 2305843009213693951 := by
  refine lucas' (a := 37) (k := 62) (by decide) (by decide) wit61 (by decide +kernel) (by decide +kernel) ?_
  · intro m hm h1
    show ∃ q ∈ fac61, q ∣ m
    by_cases c : ∃ q ∈ fac61, q ∣ m
    · exact c
    exfalso
    have cop : ∀ q ∈ fac61, Nat.gcd m q = 1 := by
      intro q hq
      have hn : ¬ q ∣ m := fun h => c ⟨q, hq, h⟩
      have hall : fac61.all (fun q => (List.range (q + 1)).all (fun d => d == 1 || d == q || q % d != 0) && decide (2 ≤ q)) = true := by decide +kernel
      have := List.all_eq_true.1 hall q hq
      rw [Bool.and_eq_true, decide_eq_true_eq] at this
      exact prime_div this.1 this.2 hn
    have e : (2305843009213693951 - 1 : Nat) = 2 * (3 * (3 * (5 * (5 * (7 * (11 * (13 * (31 * (41 * (61 * (151 * (331 * 1321)))))))))))) := by decide
    have cm : ∀ {u v : Nat}, Nat.gcd m u = 1 → Nat.gcd m v = 1 → Nat.gcd m (u * v) = 1 := fun {u v} h1 h2 => Nat.Coprime.mul_right h1 h2
    have : Nat.gcd m (2305843009213693951 - 1) = 1 := by
      rw [e]
      have k := fun q hq => cop q hq
      exact cm (k 2 (by decide)) (cm (k 3 (by decide)) (cm (k 3 (by decide)) (cm (k 5 (by decide)) (cm (k 5 (by decide)) (cm (k 7 (by decide)) (cm (k 11 (by decide)) (cm (k 13 (by decide)) (cm (k 31 (by decide)) (cm (k 41 (by decide)) (cm (k 61 (by decide)) (cm (k 151 (by decide)) (cm (k 331 (by decide)) (k 1321 (by decide))))))))))))))
    rw [Nat.gcd_eq_left hm] at this
    exact h1 this
end Go.Proofs.Ythnfphgjfpcpbaa.TM
namespace Go.Proofs.Ythnfphgjfpcpbaa.TM
open Go Go.RowKit
attribute [local irreducible] K W WOps Effs Xg Xo Xr Xdg Xdo Xdr Xif CallsP CallR
def clmP (s : Name) (n : Nat) : PV := if n = 0 then nilP else .view s 0 1 n n
def clmB (n : Nat) (L : List PV) : Option Box := if n = 0 then none else some (.var L)
theorem clmP_zero (s : Name) : clmP s 0 = nilP := rfl
theorem clmP_succ (s : Name) (n : Nat) : clmP s (n + 1) = .view s 0 1 (n + 1) (n + 1) := rfl
theorem mem_refs_clmP {b s : Name} {n : Nat} : b ∈ refsP (clmP s n) ↔ n ≠ 0 ∧ b = s := by
  unfold clmP
  by_cases h : n = 0
  · simp [h, refsP]
  · simp [h, refsP]
theorem X_appendV {P : Program} {C : CallRel} {h h0 : Heap} {base : Name} {Qf : Ex → List PV → Heap → Prop} {k : List It} {t : List PV} {R : It} {d : Option Tmp} {s b : Name} {ty : TypeId} (e : TypeId) (zs : List Value) {n : Nat} {L : List PV} {v : PV} {s' : Name}
    (he : elemB P ty = some e) (hz : zeroB P e = some zs) (hzl : zs.length = 1) (hn : L.length = n) (hs : h s = clmB n L) (hb : h b = some (.var [v]))
    (hby : (n + 1) * P.bytesOf e ≤ 140737488355328) (hl : n + 1 ≤ maxLen) (hss : n = 0 → s' = s)
    (hk : K P C h0 base Qf (R :: k) .normal (putT t d (clmP s (n + 1))) (h.put s (.var (L ++ [v])))) :
    Xr P C h0 base Qf (opAppendV P h s' ty (clmP s n) (.view b 0 1 1 1)) d R k t h := by
  refine Xr_eq (out := ⟨clmP s (n + 1), [(s, .var (L ++ [v]))]⟩) ?_ hk
  unfold opAppendV
  rw [he]
  simp only [hz, hzl, hb]
  rw [if_pos (by simp)]
  unfold clmP clmB at *
  by_cases h0 : n = 0
  · subst h0
    rw [if_pos rfl] at hs
    have := List.eq_nil_of_length_eq_zero hn
    subst this
    have := hss rfl
    subst this
    simp only [if_true, nilP]
    rw [if_pos (by rw [mx_len]; simpa using hby)]
    simp [newBox, hs]
  · rw [if_neg h0] at hs ⊢
    simp only [hs]
    rw [if_pos (by simp [hn]; exact ⟨hby, hl⟩)]
    simp [hn]
theorem X_dappend_own {P : Program} {C : CallRel} {h0 : Heap} {base : Name} {Qf : Ex → List PV → Heap → Prop} {k : List It} {t : List PV} {h : Heap} {d : Option Tmp} {p : Op} {nm : Name} {id : Nat} {ops : Array Oper} {ds : List (Option Tmp)} {i : Nat} {os : List Oper} {pf : XPf ops ds i os} {acc : List Keys} {s b bx : Name} {ty : TypeId} (e : TypeId) (zs : List Value) {n z top : Nat} {cs : List IV} (xs : List IV) {fz : Bool}
    (he : elemB P ty = some e) (hz : zeroB P e = some zs) (hzl : zs.length = z) (hz0 : 0 < z) (hb : h b = some (.row false cs)) (ht : top = cs.length) (hn : cs.length = n * z) (hx : h bx = some (.row fz xs)) (hxl : xs.length = z)
    (hby : (n + 1) * P.bytesOf e ≤ 140737488355328) (hl : n + 1 ≤ maxLen)
    (hk : K P C h0 base Qf (.xdops id ops ds i os pf ((keysU [(b, Box.row false (cs ++ xs))], keysT nm p ((opnL p).map (St.opnd t))) :: acc) :: k) .normal (putT t d (.view b 0 z (n + 1) (cs ++ xs).length)) (h.put b (.row false (cs ++ xs)))) :
    Xdr P C h0 base Qf (opAppend P h s ty (.view b 0 z n top) (.view bx 0 z 1 z)) d p nm (mkD id ops ds i os pf) acc k t h := by
  subst ht
  subst hzl
  refine Xdr_eq (out := ⟨.view b 0 zs.length (n + 1) (cs ++ xs).length, [(b, .row false (cs ++ xs))]⟩) ?_ hk
  unfold opAppend
  rw [he]
  simp only [hz]
  simp only [show (PV.view b 0 zs.length n cs.length).sk = some (SK.own b 0 zs.length n cs.length) from rfl, show (PV.view bx 0 zs.length 1 zs.length).sk = some (SK.own bx 0 zs.length 1 zs.length) from rfl, SK.cells, SK.len, hx, hxl, Nat.zero_add, Nat.one_mul, Nat.le_refl, and_self, if_true, List.drop_zero]
  rw [← hxl, List.take_length, if_pos ⟨hxl ▸ hz0, hby, hl⟩, if_neg (by omega), hb]
  simp only [hxl, hn, and_self, if_true, true_and]
abbrev lv (C : Nat) (u : List Int) : IV := .l C (u.map iu)
def cupH (h : Heap) (base bT : Name) (P C i : Nat) (L : List PV) (T T' : Tk) (r : Nat) : Heap :=
  rowH (rowH (rowH (rowH (rowH ((h.put ((3, 2) :: bT) (.var [rowP ((16, 11) :: base) 1 r (T'.rows.map ii), rowP ((16, 19) :: base) 1 r (T'.cols.map ii), clmP ((10, 8) :: base) (i + 1), rowP ((16, 27) :: base) 1 r (T'.us.map (lv C)), u64 P, rowP ((16, 34) :: base) 1 r (T'.vs.map iu)])).put ((10, 8) :: base) (.var (L ++ [rowP ((900, i) :: base) 1 (T'.cs.getD i []).length ((T'.cs.getD i []).map iu)])))
    ((900, i) :: base) (T'.cs.getD i []).length ((T'.cs.getD i []).map iu)) ((16, 11) :: base) r (T'.rows.map ii)) ((16, 19) :: base) r (T'.cols.map ii)) ((16, 27) :: base) r (T'.us.map (lv C))) ((16, 34) :: base) r (T'.vs.map iu)
theorem in_w64 {p a : Int} (hp : Md p) (h : In p a) : W64 a := ⟨h.1, by have := h.2; have := hp.2; omega⟩
theorem prm_gcd {P : Nat} (hP : Prm P) {a : Int} (h : In P a) (h0 : a ≠ 0) : Int.gcd P a = 1 := by
  have := hP.2 a.toNat (by have := h.1; omega) (by have := h.1; have := h.2; omega)
  rw [Int.gcd_eq_natAbs_gcd_natAbs]
  rw [show (P : Int).natAbs = P from rfl, show a.natAbs = a.toNat by have := h.1; omega]
  exact this
theorem Inv_in {P : Nat} (hP : Prm P) (hp : Md P) {a : Int} (h : In P a) (h0 : a ≠ 0) : CallsP Try.prog 40 [u64 P, u64 a] (.tup [u64 (finvC P a), i64 0]) := by
  obtain ⟨r, hr, hc⟩ := Inv_walk P a (in_w64 hp h)
  rw [if_pos ((has_iff _ _).2 ⟨fun x hx => by simp at hx; subst hx; exact h.2, hp.1, hp.2⟩), invR, if_pos (prm_gcd hP h h0)] at hr
  subst hr
  rw [← finv_c]
  exact hc
theorem tk_end {p : Int} {C i : Nat} {T : Tk} (I : TkI p C i T) (row : List Int) (x : Int) (hi : x = (i : Int)) :
    (nzA (rstT p T row) 0 < 0 → (tkRow p T x row).cs.getD i [] = xsT p T row) ∧ (¬ nzA (rstT p T row) 0 < 0 → (tkRow p T x row).cs.getD i [] = xsT p T row ++ [1]) := by
  unfold tkRow
  constructor
  · intro h
    rw [if_pos h]
    simp [List.getD_eq_getElem?_getD, List.getElem?_append_right, I.cl]
  · intro h
    rw [if_neg h]
    simp [List.getD_eq_getElem?_getD, List.getElem?_append_right, I.cl]
theorem nv_col {h : Heap} {s : Name} {i : Nat} {L : List PV} {bs : List Name} (hCol : h s = clmB i L) (hL : L.length = i) (nv : ∀ b ∈ bs, noVar b h) : ∀ b ∈ bs, b ∉ refsL L := fun b hb => by
  unfold clmB at hCol
  split at hCol
  · rename_i h0
    have : L = [] := List.eq_nil_of_length_eq_zero (by omega)
    subst this; simp [refsL]
  · exact nv b hb _ _ hCol
theorem tk_no {p : Int} {T : Tk} {row : List Int} {x : Int} (h : nzA (rstT p T row) 0 < 0) : (tkRow p T x row).rows = T.rows ∧ (tkRow p T x row).cols = T.cols ∧ (tkRow p T x row).us = T.us ∧ (tkRow p T x row).vs = T.vs := by
  unfold tkRow; rw [if_pos h]; exact ⟨rfl, rfl, rfl, rfl⟩
theorem tk_yes {p : Int} {T : Tk} {row : List Int} {x : Int} (h : ¬ nzA (rstT p T row) 0 < 0) : (tkRow p T x row).rows = T.rows ++ [x] ∧ (tkRow p T x row).cols = T.cols ++ [nzA (rstT p T row) 0] ∧ (tkRow p T x row).us = T.us ++ [rstT p T row] ∧ (tkRow p T x row).vs = T.vs ++ [finvC p ((rstT p T row).getD (nzA (rstT p T row) 0).toNat 0)] := by
  unfold tkRow; rw [if_neg h]; exact ⟨rfl, rfl, rfl, rfl⟩
set_option maxHeartbeats 4000000 in
theorem rowA0_walk {h : Heap} {base bT : Name} {P C i : Nat} {T : Tk} {row : List Int} {L : List PV} (hP : Prm P) (hp : Md P) (I : TkI P C i T) (hrow : ∀ a ∈ row, In P a) (hl : row.length = C) (h0 : 0 < C) (hC : C ≤ 64) (hi : i < 64) (hL : L.length = i) (hr : T.us.length = 0)
    (hT : h ((3, 2) :: bT) = some (.var [rowP ((16, 11) :: base) 1 0 (T.rows.map ii), rowP ((16, 19) :: base) 1 0 (T.cols.map ii), clmP ((10, 8) :: base) i, rowP ((16, 27) :: base) 1 0 (T.us.map (lv C)), u64 P, rowP ((16, 34) :: base) 1 0 (T.vs.map iu)]))
    (hR : h ((16, 11) :: base) = if 0 = 0 then none else some (.row false (T.rows.map ii))) (hQ : h ((16, 19) :: base) = if 0 = 0 then none else some (.row false (T.cols.map ii))) (hU : h ((16, 27) :: base) = if 0 = 0 then none else some (.row false (T.us.map (lv C)))) (hV : h ((16, 34) :: base) = if 0 = 0 then none else some (.row false (T.vs.map iu)))
    (hCol : h ((10, 8) :: base) = clmB i L) (hNi : h ((900, i) :: base) = none)
    (j1 : h ((1, 1) :: base) = none) (j2 : h ((8, 2) :: base) = none) (j3 : h ((10, 7) :: base) = none) (j4 : h ((15, 7) :: base) = none) (j5 : h ((16, 10) :: base) = none) (j6 : h ((16, 18) :: base) = none) (j7 : h ((16, 26) :: base) = none) (j8 : h ((16, 33) :: base) = none)
    (nv : ∀ b ∈ [(1, 1) :: base, (8, 2) :: base, (10, 7) :: base, (15, 7) :: base, (16, 10) :: base, (16, 18) :: base, (16, 26) :: base, (16, 33) :: base], noVar b h) :
    ∃ h', CallR Try.prog base 85 [.ref ((3, 2) :: bT) 0 6, i64 i, .i (.l C (row.map iu))] h (bl true) h' ∧ (h'.drop [(1, 1) :: base, (8, 2) :: base, (10, 7) :: base, (15, 7) :: base, (16, 10) :: base, (16, 18) :: base, (16, 26) :: base, (16, 33) :: base] = cupH h base bT P C i L T (tkRow P T i row) (tkRow P T i row).us.length ∧ ∀ b ∈ [(1, 1) :: base, (8, 2) :: base, (10, 7) :: base, (15, 7) :: base, (16, 10) :: base, (16, 18) :: base, (16, 26) :: base, (16, 33) :: base], noVar b h') := by
  have nvL := nv_col hCol hL nv
  have dc := (cloneU_own hl h0 (by omega)).toA
  have rl : (rstT P T row) = row := by unfold rstT; rw [hr]; rfl
  have x0 : xsT P T row = [] := by unfold xsT; rw [hr]; rfl
  have hix := indexA_walk (l := row) (by rw [mx_len]; omega)
  rw [lu, hl] at hix
  have hrows : T.rows = [] := List.eq_nil_of_length_eq_zero (by rw [I.rl, hr])
  have hcols : T.cols = [] := List.eq_nil_of_length_eq_zero (by rw [I.ql, hr])
  have hvs : T.vs = [] := List.eq_nil_of_length_eq_zero (by rw [I.vl, hr])
  have hus : T.us = [] := List.eq_nil_of_length_eq_zero hr
  obtain ⟨te1, te2⟩ := tk_end I row (i : Int) rfl
  rw [rl, x0] at te1 te2
  rw [if_pos rfl] at hR hQ hU hV
  rcases nzA_spec row 0 with ⟨z1, z2⟩ | ⟨n, z1, z2, z3, z4⟩
  · rw [z1] at hix
    have te := te1 (by rw [z1]; decide)
    obtain ⟨t1, t2, t3, t4⟩ := tk_no (p := P) (T := T) (row := row) (x := i) (by rw [rl, z1]; decide)
    unfold cupH
    rw [te, t1, t2, t3, t4, hr]
    refine X_startE (n := 151) (m := 3) (rs := [.tmp 6]) Try.func85 rfl rfl rfl rfl (by decide) ?_
    repeat (first | refine X_opc rfl ?_ | refine X_dopc rfl ?_ | refine ⟨(by show drawK _ _ = true; kernel_rfl : drawX _ _ _), ?_⟩ | exact (by show drawK _ _ = true; kernel_rfl : drawX _ _ _) | simp -dsimp (maxSteps := 20000000) (disch := omega) only [simx, zzC, zzB, tys, ite_self, opnL, callB, callX, readsB, stepOp, nilCmp, ofVal, opBuiltin, opLen, PV.sk, scalBin, scalUn, intBin, opLoad, natOf, opConvert, opField, cellsP, oneP, Value.oneCell', opStore, toIV, scalT, scalA, scalC, boxesA, boxesC, zipB_none, zipB_mx, isZ, opZip, zeroP, opAppendZ, opMakeMap, opLookup, mboxB, opUpdate, ↓reduceIte, Nat.reduceSub, Nat.reduceEqDiff, Nat.reduceAdd, Nat.reduceMul, Nat.reduceLT, Nat.reduceLeDiff, Int.reduceToNat, Int.reduceLE, Int.reduceLT, Int.reduceNeg, reduceCtorEq, gos, Int.reduceAdd, Int.reduceSub, Int.reduceMul, Int.reduceEq])
    ((first | refine X_call_ad (dc) rfl (by simp only [tys]) (by (simp -dsimp only [simx, zzC, zzB, tys, ite_self, opnL, callB, callX, readsB, stepOp, nilCmp, ofVal, opBuiltin, opLen, PV.sk, scalBin, scalUn, intBin, opLoad, natOf, opConvert, opField, cellsP, oneP, Value.oneCell', opStore, toIV, scalT, scalA, scalC, boxesA, boxesC, zipB_none, zipB_mx, isZ, opZip, zeroP, opAppendZ, opMakeMap, opLookup, mboxB, opUpdate, ↓reduceIte, Nat.reduceSub, Nat.reduceEqDiff, Nat.reduceAdd, Nat.reduceMul, Nat.reduceLT, Nat.reduceLeDiff, Int.reduceToNat, Int.reduceLE, Int.reduceLT, Int.reduceNeg, reduceCtorEq, zzL, if_true, if_false] <;> rfl)) (by simp [Heap.put_at, Heap.none_at, rowH_app, j1]) ?_ | refine X_dcall_ad (dc) rfl (by simp only [tys]) (by (simp -dsimp only [simx, zzC, zzB, tys, ite_self, opnL, callB, callX, readsB, stepOp, nilCmp, ofVal, opBuiltin, opLen, PV.sk, scalBin, scalUn, intBin, opLoad, natOf, opConvert, opField, cellsP, oneP, Value.oneCell', opStore, toIV, scalT, scalA, scalC, boxesA, boxesC, zipB_none, zipB_mx, isZ, opZip, zeroP, opAppendZ, opMakeMap, opLookup, mboxB, opUpdate, ↓reduceIte, Nat.reduceSub, Nat.reduceEqDiff, Nat.reduceAdd, Nat.reduceMul, Nat.reduceLT, Nat.reduceLeDiff, Int.reduceToNat, Int.reduceLE, Int.reduceLT, Int.reduceNeg, reduceCtorEq, zzL, if_true, if_false] <;> rfl)) (by simp [Heap.put_at, Heap.none_at, rowH_app, j1]) ?_))
    repeat (first | refine X_opc rfl ?_ | refine X_dopc rfl ?_ | refine ⟨(by show drawK _ _ = true; kernel_rfl : drawX _ _ _), ?_⟩ | exact (by show drawK _ _ = true; kernel_rfl : drawX _ _ _) | simp -dsimp (maxSteps := 20000000) (disch := omega) only [simx, zzC, zzB, tys, ite_self, opnL, callB, callX, readsB, stepOp, nilCmp, ofVal, opBuiltin, opLen, PV.sk, scalBin, scalUn, intBin, opLoad, natOf, opConvert, opField, cellsP, oneP, Value.oneCell', opStore, toIV, scalT, scalA, scalC, boxesA, boxesC, zipB_none, zipB_mx, isZ, opZip, zeroP, opAppendZ, opMakeMap, opLookup, mboxB, opUpdate, ↓reduceIte, Nat.reduceSub, Nat.reduceEqDiff, Nat.reduceAdd, Nat.reduceMul, Nat.reduceLT, Nat.reduceLeDiff, Int.reduceToNat, Int.reduceLE, Int.reduceLT, Int.reduceNeg, reduceCtorEq, gos, Int.reduceAdd, Int.reduceSub, Int.reduceMul, Int.reduceEq, hT, rowP_zero])
    refine X_loopH [0, 1, 7, 8, 22, 23, 24] [(8, 2) :: base] (0) (0) (fun j => True) (fun j => [(8, nilP), (24, i64 j)]) (fun j => h.put ((1, 1) :: base) (.row false (row.map iu))) ?_ ?_ ?_ ?_ ?_ (by decide) ?_
    · exact fgt_cons j2 (by simp -dsimp only [simx, zzC, zzB, tys, ite_self, opnL, notIn_cons, notIn_nil] <;> simp [refsP]) (noVar_row (nv _ (by simp))) fgt_nil
    · repeat (first | refine X_opc rfl ?_ | refine X_dopc rfl ?_ | refine ⟨(by show drawK _ _ = true; kernel_rfl : drawX _ _ _), ?_⟩ | exact (by show drawK _ _ = true; kernel_rfl : drawX _ _ _) | simp -dsimp (maxSteps := 20000000) (disch := omega) only [simx, zzC, zzB, tys, ite_self, opnL, callB, callX, readsB, stepOp, nilCmp, ofVal, opBuiltin, opLen, PV.sk, scalBin, scalUn, intBin, opLoad, natOf, opConvert, opField, cellsP, oneP, Value.oneCell', opStore, toIV, scalT, scalA, scalC, boxesA, boxesC, zipB_none, zipB_mx, isZ, opZip, zeroP, opAppendZ, opMakeMap, opLookup, mboxB, opUpdate, ↓reduceIte, Nat.reduceSub, Nat.reduceEqDiff, Nat.reduceAdd, Nat.reduceMul, Nat.reduceLT, Nat.reduceLeDiff, Int.reduceToNat, Int.reduceLE, Int.reduceLT, Int.reduceNeg, reduceCtorEq, gos, Int.reduceAdd, Int.reduceSub, Int.reduceMul, Int.reduceEq])
      rfl
    · funext c
      rw [Heap.drop_at]
      split
      · rename_i e
        rw [List.mem_singleton.1 e]
        simp [Heap.put_at, j2]
      · rfl
    · omega
    · trivial
    · intro j hj _
      have : j = 0 := by omega
      subst this
      repeat (first | refine ⟨(by show drawK _ _ = true; kernel_rfl : drawX _ _ _), ?_⟩ | exact (by show drawK _ _ = true; kernel_rfl : drawX _ _ _) | simp -dsimp (maxSteps := 20000000) (disch := omega) only [simx, zzC, zzB, tys, ite_self, opnL, callB, callX, readsB, stepOp, nilCmp, ofVal, opBuiltin, opLen, PV.sk, scalBin, scalUn, intBin, opLoad, natOf, opConvert, opField, cellsP, oneP, Value.oneCell', opStore, toIV, scalT, scalA, scalC, boxesA, boxesC, zipB_none, zipB_mx, isZ, opZip, zeroP, opAppendZ, opMakeMap, opLookup, mboxB, opUpdate, ↓reduceIte, Nat.reduceSub, Nat.reduceEqDiff, Nat.reduceAdd, Nat.reduceMul, Nat.reduceLT, Nat.reduceLeDiff, Int.reduceToNat, Int.reduceLE, Int.reduceLT, Int.reduceNeg, reduceCtorEq, gos, Int.reduceAdd, Int.reduceSub, Int.reduceMul, Int.reduceEq, hT])
      refine X_opa ((10, 7) :: base) rfl ?_
      repeat (first | refine ⟨(by show drawK _ _ = true; kernel_rfl : drawX _ _ _), ?_⟩ | exact (by show drawK _ _ = true; kernel_rfl : drawX _ _ _) | simp -dsimp (maxSteps := 20000000) (disch := omega) only [simx, zzC, zzB, tys, ite_self, opnL, callB, callX, readsB, stepOp, nilCmp, ofVal, opBuiltin, opLen, PV.sk, scalBin, scalUn, intBin, opLoad, natOf, opConvert, opField, cellsP, oneP, Value.oneCell', opStore, toIV, scalT, scalA, scalC, boxesA, boxesC, zipB_none, zipB_mx, isZ, opZip, zeroP, opAppendZ, opMakeMap, opLookup, mboxB, opUpdate, ↓reduceIte, Nat.reduceSub, Nat.reduceEqDiff, Nat.reduceAdd, Nat.reduceMul, Nat.reduceLT, Nat.reduceLeDiff, Int.reduceToNat, Int.reduceLE, Int.reduceLT, Int.reduceNeg, reduceCtorEq, gos, Int.reduceAdd, Int.reduceSub, Int.reduceMul, Int.reduceEq, stepAlt, opBuildSliceV, j3])
      refine X_opa ((10, 8) :: base) rfl ?_
      repeat (first | refine ⟨(by show drawK _ _ = true; kernel_rfl : drawX _ _ _), ?_⟩ | exact (by show drawK _ _ = true; kernel_rfl : drawX _ _ _) | simp -dsimp (maxSteps := 20000000) (disch := omega) only [simx, zzC, zzB, tys, ite_self, opnL, callB, callX, readsB, stepOp, nilCmp, ofVal, opBuiltin, opLen, PV.sk, scalBin, scalUn, intBin, opLoad, natOf, opConvert, opField, cellsP, oneP, Value.oneCell', opStore, toIV, scalT, scalA, scalC, boxesA, boxesC, zipB_none, zipB_mx, isZ, opZip, zeroP, opAppendZ, opMakeMap, opLookup, mboxB, opUpdate, ↓reduceIte, Nat.reduceSub, Nat.reduceEqDiff, Nat.reduceAdd, Nat.reduceMul, Nat.reduceLT, Nat.reduceLeDiff, Int.reduceToNat, Int.reduceLE, Int.reduceLT, Int.reduceNeg, reduceCtorEq, gos, Int.reduceAdd, Int.reduceSub, Int.reduceMul, Int.reduceEq, stepAlt])
      refine X_appendV 23 [.slice none 0 0] (by simp only [tys]) (by simp only [tys]) rfl hL (by simp [Heap.put_at]; exact hCol) (by simp [Heap.put_at]; rfl) (by simp only [tys]; omega) (by rw [mx_len]; omega) (fun _ => rfl) ?_
      have hp1 := clmP_succ ((10, 8) :: base) i
      have z0 : (-1 : Int) < 0 := by decide
      have nt : (row.map iu).take C = row.map iu := List.take_of_length_le (by simp [hl])
      repeat (first | ((first | refine X_call_fn2 rfl (by simp only [tys]) ?_ | refine X_dcall_fn2 rfl (by simp only [tys]) ?_); apply Exists.intro; apply And.intro; (focus (simp -dsimp only [simx, zzC, zzB, tys, ite_self, opnL, callB, callX, readsB, stepOp, nilCmp, ofVal, opBuiltin, opLen, PV.sk, scalBin, scalUn, intBin, opLoad, natOf, opConvert, opField, cellsP, oneP, Value.oneCell', opStore, toIV, scalT, scalA, scalC, boxesA, boxesC, zipB_none, zipB_mx, isZ, opZip, zeroP, opAppendZ, opMakeMap, opLookup, mboxB, opUpdate, ↓reduceIte, Nat.reduceSub, Nat.reduceEqDiff, Nat.reduceAdd, Nat.reduceMul, Nat.reduceLT, Nat.reduceLeDiff, Int.reduceToNat, Int.reduceLE, Int.reduceLT, Int.reduceNeg, reduceCtorEq, zzL, if_true, if_false, List.length_map, hl, nt] <;> rfl)); apply Exists.intro; apply And.intro; (focus (first | exact hix))) | refine X_opc rfl ?_ | refine X_dopc rfl ?_ | refine ⟨(by show drawK _ _ = true; kernel_rfl : drawX _ _ _), ?_⟩ | exact (by show drawK _ _ = true; kernel_rfl : drawX _ _ _) | simp -dsimp (maxSteps := 20000000) (disch := omega) only [simx, zzC, zzB, tys, ite_self, opnL, callB, callX, readsB, stepOp, nilCmp, ofVal, opBuiltin, opLen, PV.sk, scalBin, scalUn, intBin, opLoad, natOf, opConvert, opField, cellsP, oneP, Value.oneCell', opStore, toIV, scalT, scalA, scalC, boxesA, boxesC, zipB_none, zipB_mx, isZ, opZip, zeroP, opAppendZ, opMakeMap, opLookup, mboxB, opUpdate, ↓reduceIte, Nat.reduceSub, Nat.reduceEqDiff, Nat.reduceAdd, Nat.reduceMul, Nat.reduceLT, Nat.reduceLeDiff, Int.reduceToNat, Int.reduceLE, Int.reduceLT, Int.reduceNeg, reduceCtorEq, zzR, gos, Int.reduceAdd, Int.reduceSub, Int.reduceMul, Int.reduceEq, hT, hp1, z0, List.length_map, hl, nt])
      refine ⟨?_, fun b hb => ?_⟩
      · funext c
        simp (maxSteps := 20000000) only [Heap.drop_at, rowH_app, Heap.put_at, Heap.none_at, List.mem_cons, List.not_mem_nil, or_false]
        by_cases e0 : c = (3, 2) :: bT
        · subst e0; simp [j1, j2, j3, j4, j5, j6, j7, j8, rowP_zero]
        by_cases e1 : c = (10, 8) :: base
        · subst e1; simp [j1, j2, j3, j4, j5, j6, j7, j8, rowP_zero]
        by_cases e2 : c = (1, 1) :: base
        · subst e2; simp [j1, j2, j3, j4, j5, j6, j7, j8, rowP_zero]
        by_cases e3 : c = (8, 2) :: base
        · subst e3; simp [j1, j2, j3, j4, j5, j6, j7, j8, rowP_zero]
        by_cases e4 : c = (10, 7) :: base
        · subst e4; simp [j1, j2, j3, j4, j5, j6, j7, j8, rowP_zero]
        by_cases e5 : c = (15, 7) :: base
        · subst e5; simp [j1, j2, j3, j4, j5, j6, j7, j8, rowP_zero]
        by_cases e6 : c = (16, 10) :: base
        · subst e6; simp [j1, j2, j3, j4, j5, j6, j7, j8, rowP_zero]
        by_cases e7 : c = (16, 18) :: base
        · subst e7; simp [j1, j2, j3, j4, j5, j6, j7, j8, rowP_zero]
        by_cases e8 : c = (16, 26) :: base
        · subst e8; simp [j1, j2, j3, j4, j5, j6, j7, j8, rowP_zero]
        by_cases e9 : c = (16, 33) :: base
        · subst e9; simp [j1, j2, j3, j4, j5, j6, j7, j8, rowP_zero]
        simp [e0, e1, e2, e3, e4, e5, e6, e7, e8, e9, j1, j2, j3, j4, j5, j6, j7, j8, rowP_zero]
      · have n0 := nv b hb
        have n1 := nvL b hb
        clear nv nvL
        simp only [List.mem_cons, List.not_mem_nil, or_false] at hb
        rcases hb with rfl | rfl | rfl | rfl | rfl | rfl | rfl | rfl
        all_goals (repeat (first | exact n0 | refine noVar_row ?_ | refine noVar_var ?_ (by simp [refsL, refsP, refsL_append, mem_refs_rowP, mem_refs_clmP, n1])))
  · have zn : (0 + n : Nat) = n := by omega
    rw [z1, zn] at hix
    have te := te2 (by rw [z1]; omega)
    obtain ⟨t1, t2, t3, t4⟩ := tk_yes (p := P) (T := T) (row := row) (x := i) (by rw [rl, z1]; omega)
    generalize hHH : cupH h base bT P C i L T (tkRow P T i row) (tkRow P T i row).us.length = HH
    unfold cupH at hHH
    rw [te, t1, t2, t3, t4, rl, z1, zn, show (T.us ++ [row]).length = 0 + 1 by simp [hr], Int.toNat_natCast] at hHH
    have ln : (row.map iu)[n]? = some (iu (row.getD n 0)) := by rw [List.getElem?_map, getD_some hl (by omega)]; rfl
    have ii1 := Inv_in hP hp (getD_of hrow (i := n) z2) z3
    generalize row.getD n 0 = a at ln ii1 hHH
    have z0 : ¬ (n : Int) < 0 := by omega
    have nC : n < C := by omega
    have nt : (row.map iu).take C = row.map iu := List.take_of_length_le (by simp [hl])
    have hp1 := clmP_succ ((10, 8) :: base) i
    have ilt : i < i + 1 := Nat.lt_succ_self i
    have ile : i + 1 ≤ i + 1 := Nat.le_refl _
    have lt : ∀ x : PV, (L ++ [x]).take i = L := fun x => List.take_left' hL
    have ld : ∀ x : PV, (L ++ [x]).drop (i + 1) = [] := fun x => List.drop_eq_nil_of_le (by simp [hL])
    refine X_startE (n := 151) (m := 3) (rs := [.tmp 6]) Try.func85 rfl rfl rfl rfl (by decide) ?_
    repeat (first | refine X_opc rfl ?_ | refine X_dopc rfl ?_ | refine ⟨(by show drawK _ _ = true; kernel_rfl : drawX _ _ _), ?_⟩ | exact (by show drawK _ _ = true; kernel_rfl : drawX _ _ _) | simp -dsimp (maxSteps := 20000000) (disch := omega) only [simx, zzC, zzB, tys, ite_self, opnL, callB, callX, readsB, stepOp, nilCmp, ofVal, opBuiltin, opLen, PV.sk, scalBin, scalUn, intBin, opLoad, natOf, opConvert, opField, cellsP, oneP, Value.oneCell', opStore, toIV, scalT, scalA, scalC, boxesA, boxesC, zipB_none, zipB_mx, isZ, opZip, zeroP, opAppendZ, opMakeMap, opLookup, mboxB, opUpdate, ↓reduceIte, Nat.reduceSub, Nat.reduceEqDiff, Nat.reduceAdd, Nat.reduceMul, Nat.reduceLT, Nat.reduceLeDiff, Int.reduceToNat, Int.reduceLE, Int.reduceLT, Int.reduceNeg, reduceCtorEq, gos, Int.reduceAdd, Int.reduceSub, Int.reduceMul, Int.reduceEq])
    ((first | refine X_call_ad (dc) rfl (by simp only [tys]) (by (simp -dsimp only [simx, zzC, zzB, tys, ite_self, opnL, callB, callX, readsB, stepOp, nilCmp, ofVal, opBuiltin, opLen, PV.sk, scalBin, scalUn, intBin, opLoad, natOf, opConvert, opField, cellsP, oneP, Value.oneCell', opStore, toIV, scalT, scalA, scalC, boxesA, boxesC, zipB_none, zipB_mx, isZ, opZip, zeroP, opAppendZ, opMakeMap, opLookup, mboxB, opUpdate, ↓reduceIte, Nat.reduceSub, Nat.reduceEqDiff, Nat.reduceAdd, Nat.reduceMul, Nat.reduceLT, Nat.reduceLeDiff, Int.reduceToNat, Int.reduceLE, Int.reduceLT, Int.reduceNeg, reduceCtorEq, zzL, if_true, if_false] <;> rfl)) (by simp [Heap.put_at, Heap.none_at, rowH_app, j1]) ?_ | refine X_dcall_ad (dc) rfl (by simp only [tys]) (by (simp -dsimp only [simx, zzC, zzB, tys, ite_self, opnL, callB, callX, readsB, stepOp, nilCmp, ofVal, opBuiltin, opLen, PV.sk, scalBin, scalUn, intBin, opLoad, natOf, opConvert, opField, cellsP, oneP, Value.oneCell', opStore, toIV, scalT, scalA, scalC, boxesA, boxesC, zipB_none, zipB_mx, isZ, opZip, zeroP, opAppendZ, opMakeMap, opLookup, mboxB, opUpdate, ↓reduceIte, Nat.reduceSub, Nat.reduceEqDiff, Nat.reduceAdd, Nat.reduceMul, Nat.reduceLT, Nat.reduceLeDiff, Int.reduceToNat, Int.reduceLE, Int.reduceLT, Int.reduceNeg, reduceCtorEq, zzL, if_true, if_false] <;> rfl)) (by simp [Heap.put_at, Heap.none_at, rowH_app, j1]) ?_))
    repeat (first | refine X_opc rfl ?_ | refine X_dopc rfl ?_ | refine ⟨(by show drawK _ _ = true; kernel_rfl : drawX _ _ _), ?_⟩ | exact (by show drawK _ _ = true; kernel_rfl : drawX _ _ _) | simp -dsimp (maxSteps := 20000000) (disch := omega) only [simx, zzC, zzB, tys, ite_self, opnL, callB, callX, readsB, stepOp, nilCmp, ofVal, opBuiltin, opLen, PV.sk, scalBin, scalUn, intBin, opLoad, natOf, opConvert, opField, cellsP, oneP, Value.oneCell', opStore, toIV, scalT, scalA, scalC, boxesA, boxesC, zipB_none, zipB_mx, isZ, opZip, zeroP, opAppendZ, opMakeMap, opLookup, mboxB, opUpdate, ↓reduceIte, Nat.reduceSub, Nat.reduceEqDiff, Nat.reduceAdd, Nat.reduceMul, Nat.reduceLT, Nat.reduceLeDiff, Int.reduceToNat, Int.reduceLE, Int.reduceLT, Int.reduceNeg, reduceCtorEq, gos, Int.reduceAdd, Int.reduceSub, Int.reduceMul, Int.reduceEq, hT, rowP_zero])
    refine X_loopH [0, 1, 7, 8, 22, 23, 24] [(8, 2) :: base] (0) (0) (fun j => True) (fun j => [(8, nilP), (24, i64 j)]) (fun j => h.put ((1, 1) :: base) (.row false (row.map iu))) ?_ ?_ ?_ ?_ ?_ (by decide) ?_
    · exact fgt_cons j2 (by simp -dsimp only [simx, zzC, zzB, tys, ite_self, opnL, notIn_cons, notIn_nil] <;> simp [refsP]) (noVar_row (nv _ (by simp))) fgt_nil
    · repeat (first | refine X_opc rfl ?_ | refine X_dopc rfl ?_ | refine ⟨(by show drawK _ _ = true; kernel_rfl : drawX _ _ _), ?_⟩ | exact (by show drawK _ _ = true; kernel_rfl : drawX _ _ _) | simp -dsimp (maxSteps := 20000000) (disch := omega) only [simx, zzC, zzB, tys, ite_self, opnL, callB, callX, readsB, stepOp, nilCmp, ofVal, opBuiltin, opLen, PV.sk, scalBin, scalUn, intBin, opLoad, natOf, opConvert, opField, cellsP, oneP, Value.oneCell', opStore, toIV, scalT, scalA, scalC, boxesA, boxesC, zipB_none, zipB_mx, isZ, opZip, zeroP, opAppendZ, opMakeMap, opLookup, mboxB, opUpdate, ↓reduceIte, Nat.reduceSub, Nat.reduceEqDiff, Nat.reduceAdd, Nat.reduceMul, Nat.reduceLT, Nat.reduceLeDiff, Int.reduceToNat, Int.reduceLE, Int.reduceLT, Int.reduceNeg, reduceCtorEq, gos, Int.reduceAdd, Int.reduceSub, Int.reduceMul, Int.reduceEq])
      rfl
    · funext c
      rw [Heap.drop_at]
      split
      · rename_i e
        rw [List.mem_singleton.1 e]
        simp [Heap.put_at, j2]
      · rfl
    · omega
    · trivial
    · intro j hj _
      have : j = 0 := by omega
      subst this
      repeat (first | refine ⟨(by show drawK _ _ = true; kernel_rfl : drawX _ _ _), ?_⟩ | exact (by show drawK _ _ = true; kernel_rfl : drawX _ _ _) | simp -dsimp (maxSteps := 20000000) (disch := omega) only [simx, zzC, zzB, tys, ite_self, opnL, callB, callX, readsB, stepOp, nilCmp, ofVal, opBuiltin, opLen, PV.sk, scalBin, scalUn, intBin, opLoad, natOf, opConvert, opField, cellsP, oneP, Value.oneCell', opStore, toIV, scalT, scalA, scalC, boxesA, boxesC, zipB_none, zipB_mx, isZ, opZip, zeroP, opAppendZ, opMakeMap, opLookup, mboxB, opUpdate, ↓reduceIte, Nat.reduceSub, Nat.reduceEqDiff, Nat.reduceAdd, Nat.reduceMul, Nat.reduceLT, Nat.reduceLeDiff, Int.reduceToNat, Int.reduceLE, Int.reduceLT, Int.reduceNeg, reduceCtorEq, gos, Int.reduceAdd, Int.reduceSub, Int.reduceMul, Int.reduceEq, hT])
      refine X_opa ((10, 7) :: base) rfl ?_
      repeat (first | refine ⟨(by show drawK _ _ = true; kernel_rfl : drawX _ _ _), ?_⟩ | exact (by show drawK _ _ = true; kernel_rfl : drawX _ _ _) | simp -dsimp (maxSteps := 20000000) (disch := omega) only [simx, zzC, zzB, tys, ite_self, opnL, callB, callX, readsB, stepOp, nilCmp, ofVal, opBuiltin, opLen, PV.sk, scalBin, scalUn, intBin, opLoad, natOf, opConvert, opField, cellsP, oneP, Value.oneCell', opStore, toIV, scalT, scalA, scalC, boxesA, boxesC, zipB_none, zipB_mx, isZ, opZip, zeroP, opAppendZ, opMakeMap, opLookup, mboxB, opUpdate, ↓reduceIte, Nat.reduceSub, Nat.reduceEqDiff, Nat.reduceAdd, Nat.reduceMul, Nat.reduceLT, Nat.reduceLeDiff, Int.reduceToNat, Int.reduceLE, Int.reduceLT, Int.reduceNeg, reduceCtorEq, gos, Int.reduceAdd, Int.reduceSub, Int.reduceMul, Int.reduceEq, stepAlt, opBuildSliceV, j3])
      refine X_opa ((10, 8) :: base) rfl ?_
      repeat (first | refine ⟨(by show drawK _ _ = true; kernel_rfl : drawX _ _ _), ?_⟩ | exact (by show drawK _ _ = true; kernel_rfl : drawX _ _ _) | simp -dsimp (maxSteps := 20000000) (disch := omega) only [simx, zzC, zzB, tys, ite_self, opnL, callB, callX, readsB, stepOp, nilCmp, ofVal, opBuiltin, opLen, PV.sk, scalBin, scalUn, intBin, opLoad, natOf, opConvert, opField, cellsP, oneP, Value.oneCell', opStore, toIV, scalT, scalA, scalC, boxesA, boxesC, zipB_none, zipB_mx, isZ, opZip, zeroP, opAppendZ, opMakeMap, opLookup, mboxB, opUpdate, ↓reduceIte, Nat.reduceSub, Nat.reduceEqDiff, Nat.reduceAdd, Nat.reduceMul, Nat.reduceLT, Nat.reduceLeDiff, Int.reduceToNat, Int.reduceLE, Int.reduceLT, Int.reduceNeg, reduceCtorEq, gos, Int.reduceAdd, Int.reduceSub, Int.reduceMul, Int.reduceEq, stepAlt])
      refine X_appendV 23 [.slice none 0 0] (by simp only [tys]) (by simp only [tys]) rfl hL (by simp [Heap.put_at]; exact hCol) (by simp [Heap.put_at]; rfl) (by simp only [tys]; omega) (by rw [mx_len]; omega) (fun _ => rfl) ?_
      repeat (first | ((first | refine X_call_fn2 rfl (by simp only [tys]) ?_ | refine X_dcall_fn2 rfl (by simp only [tys]) ?_); apply Exists.intro; apply And.intro; (focus (simp -dsimp only [simx, zzC, zzB, tys, ite_self, opnL, callB, callX, readsB, stepOp, nilCmp, ofVal, opBuiltin, opLen, PV.sk, scalBin, scalUn, intBin, opLoad, natOf, opConvert, opField, cellsP, oneP, Value.oneCell', opStore, toIV, scalT, scalA, scalC, boxesA, boxesC, zipB_none, zipB_mx, isZ, opZip, zeroP, opAppendZ, opMakeMap, opLookup, mboxB, opUpdate, ↓reduceIte, Nat.reduceSub, Nat.reduceEqDiff, Nat.reduceAdd, Nat.reduceMul, Nat.reduceLT, Nat.reduceLeDiff, Int.reduceToNat, Int.reduceLE, Int.reduceLT, Int.reduceNeg, reduceCtorEq, zzL, if_true, if_false, List.length_map, hl, nt] <;> rfl)); apply Exists.intro; apply And.intro; (focus (first | exact hix | exact ii1))) | refine ⟨(by show drawK _ _ = true; kernel_rfl : drawX _ _ _), ?_⟩ | exact (by show drawK _ _ = true; kernel_rfl : drawX _ _ _) | simp -dsimp (maxSteps := 20000000) (disch := omega) only [simx, zzC, zzB, tys, ite_self, opnL, callB, callX, readsB, stepOp, nilCmp, ofVal, opBuiltin, opLen, PV.sk, scalBin, scalUn, intBin, opLoad, natOf, opConvert, opField, cellsP, oneP, Value.oneCell', opStore, toIV, scalT, scalA, scalC, boxesA, boxesC, zipB_none, zipB_mx, isZ, opZip, zeroP, opAppendZ, opMakeMap, opLookup, mboxB, opUpdate, ↓reduceIte, Nat.reduceSub, Nat.reduceEqDiff, Nat.reduceAdd, Nat.reduceMul, Nat.reduceLT, Nat.reduceLeDiff, Int.reduceToNat, Int.reduceLE, Int.reduceLT, Int.reduceNeg, reduceCtorEq, gos, Int.reduceAdd, Int.reduceSub, Int.reduceMul, Int.reduceEq, hT, hp1, z0, List.length_map, hl, nt, ln, nC])
      refine X_dopc rfl ?_
      repeat (first | refine ⟨(by show drawK _ _ = true; kernel_rfl : drawX _ _ _), ?_⟩ | exact (by show drawK _ _ = true; kernel_rfl : drawX _ _ _) | simp -dsimp (maxSteps := 20000000) (disch := omega) only [simx, zzC, zzB, tys, ite_self, opnL, callB, callX, readsB, stepOp, nilCmp, ofVal, opBuiltin, opLen, PV.sk, scalBin, scalUn, intBin, opLoad, natOf, opConvert, opField, cellsP, oneP, Value.oneCell', opStore, toIV, scalT, scalA, scalC, boxesA, boxesC, zipB_none, zipB_mx, isZ, opZip, zeroP, opAppendZ, opMakeMap, opLookup, mboxB, opUpdate, ↓reduceIte, Nat.reduceSub, Nat.reduceEqDiff, Nat.reduceAdd, Nat.reduceMul, Nat.reduceLT, Nat.reduceLeDiff, Int.reduceToNat, Int.reduceLE, Int.reduceLT, Int.reduceNeg, reduceCtorEq, gos, Int.reduceAdd, Int.reduceSub, Int.reduceMul, Int.reduceEq, j4])
      refine X_dopn ((900, i) :: base) rfl ?_
      repeat (first | refine ⟨(by show drawK _ _ = true; kernel_rfl : drawX _ _ _), ?_⟩ | exact (by show drawK _ _ = true; kernel_rfl : drawX _ _ _) | simp -dsimp (maxSteps := 20000000) (disch := omega) only [simx, zzC, zzB, tys, ite_self, opnL, callB, callX, readsB, stepOp, nilCmp, ofVal, opBuiltin, opLen, PV.sk, scalBin, scalUn, intBin, opLoad, natOf, opConvert, opField, cellsP, oneP, Value.oneCell', opStore, toIV, scalT, scalA, scalC, boxesA, boxesC, zipB_none, zipB_mx, isZ, opZip, zeroP, opAppendZ, opMakeMap, opLookup, mboxB, opUpdate, ↓reduceIte, Nat.reduceSub, Nat.reduceEqDiff, Nat.reduceAdd, Nat.reduceMul, Nat.reduceLT, Nat.reduceLeDiff, Int.reduceToNat, Int.reduceLE, Int.reduceLT, Int.reduceNeg, reduceCtorEq, gos, Int.reduceAdd, Int.reduceSub, Int.reduceMul, Int.reduceEq])
      refine X_dappend_one (s := (900, i) :: base) (n := 0) (z := 1) (cs := []) 22 [.int .u64 0] [iu 1] (by simp only [tys]) (by simp only [tys]) rfl (by decide) rfl (by simp [Heap.put_at]; exact hNi) (by simp [Heap.put_at]; rfl) rfl (by simp only [tys]; omega) (by rw [mx_len]; omega) ?_
      repeat (first | refine ⟨(by show drawK _ _ = true; kernel_rfl : drawX _ _ _), ?_⟩ | exact (by show drawK _ _ = true; kernel_rfl : drawX _ _ _) | simp -dsimp (maxSteps := 20000000) (disch := omega) only [simx, zzC, zzB, tys, ite_self, opnL, callB, callX, readsB, stepOp, nilCmp, ofVal, opBuiltin, opLen, PV.sk, scalBin, scalUn, intBin, opLoad, natOf, opConvert, opField, cellsP, oneP, Value.oneCell', opStore, toIV, scalT, scalA, scalC, boxesA, boxesC, zipB_none, zipB_mx, isZ, opZip, zeroP, opAppendZ, opMakeMap, opLookup, mboxB, opUpdate, ↓reduceIte, Nat.reduceSub, Nat.reduceEqDiff, Nat.reduceAdd, Nat.reduceMul, Nat.reduceLT, Nat.reduceLeDiff, Int.reduceToNat, Int.reduceLE, Int.reduceLT, Int.reduceNeg, reduceCtorEq, gos, Int.reduceAdd, Int.reduceSub, Int.reduceMul, Int.reduceEq, List.length_append, hL, lt, ld, rowP_succ, Nat.zero_add, ilt, ile])
      refine X_dopc rfl ?_
      repeat (first | refine ⟨(by show drawK _ _ = true; kernel_rfl : drawX _ _ _), ?_⟩ | exact (by show drawK _ _ = true; kernel_rfl : drawX _ _ _) | simp -dsimp (maxSteps := 20000000) (disch := omega) only [simx, zzC, zzB, tys, ite_self, opnL, callB, callX, readsB, stepOp, nilCmp, ofVal, opBuiltin, opLen, PV.sk, scalBin, scalUn, intBin, opLoad, natOf, opConvert, opField, cellsP, oneP, Value.oneCell', opStore, toIV, scalT, scalA, scalC, boxesA, boxesC, zipB_none, zipB_mx, isZ, opZip, zeroP, opAppendZ, opMakeMap, opLookup, mboxB, opUpdate, ↓reduceIte, Nat.reduceSub, Nat.reduceEqDiff, Nat.reduceAdd, Nat.reduceMul, Nat.reduceLT, Nat.reduceLeDiff, Int.reduceToNat, Int.reduceLE, Int.reduceLT, Int.reduceNeg, reduceCtorEq, gos, Int.reduceAdd, Int.reduceSub, Int.reduceMul, Int.reduceEq, j5, List.length_map, hl, nt])
      refine X_dopc rfl ?_
      repeat (first | refine ⟨(by show drawK _ _ = true; kernel_rfl : drawX _ _ _), ?_⟩ | exact (by show drawK _ _ = true; kernel_rfl : drawX _ _ _) | simp -dsimp (maxSteps := 20000000) (disch := omega) only [simx, zzC, zzB, tys, ite_self, opnL, callB, callX, readsB, stepOp, nilCmp, ofVal, opBuiltin, opLen, PV.sk, scalBin, scalUn, intBin, opLoad, natOf, opConvert, opField, cellsP, oneP, Value.oneCell', opStore, toIV, scalT, scalA, scalC, boxesA, boxesC, zipB_none, zipB_mx, isZ, opZip, zeroP, opAppendZ, opMakeMap, opLookup, mboxB, opUpdate, ↓reduceIte, Nat.reduceSub, Nat.reduceEqDiff, Nat.reduceAdd, Nat.reduceMul, Nat.reduceLT, Nat.reduceLeDiff, Int.reduceToNat, Int.reduceLE, Int.reduceLT, Int.reduceNeg, reduceCtorEq, gos, Int.reduceAdd, Int.reduceSub, Int.reduceMul, Int.reduceEq])
      refine X_dappend_one (s := (16, 11) :: base) (n := 0) (z := 1) 3 [.int .i64 0] [ii i] (by simp only [tys]) (by simp only [tys]) rfl (by decide) (by rw [hrows]; rfl) (by simp [Heap.put_at]; exact hR) (by simp [Heap.put_at]; rfl) rfl (by simp only [tys]; omega) (by rw [mx_len]; omega) ?_
      rw [rowP_succ]
      repeat (first | refine ⟨(by show drawK _ _ = true; kernel_rfl : drawX _ _ _), ?_⟩ | exact (by show drawK _ _ = true; kernel_rfl : drawX _ _ _) | simp -dsimp (maxSteps := 20000000) (disch := omega) only [simx, zzC, zzB, tys, ite_self, opnL, callB, callX, readsB, stepOp, nilCmp, ofVal, opBuiltin, opLen, PV.sk, scalBin, scalUn, intBin, opLoad, natOf, opConvert, opField, cellsP, oneP, Value.oneCell', opStore, toIV, scalT, scalA, scalC, boxesA, boxesC, zipB_none, zipB_mx, isZ, opZip, zeroP, opAppendZ, opMakeMap, opLookup, mboxB, opUpdate, ↓reduceIte, Nat.reduceSub, Nat.reduceEqDiff, Nat.reduceAdd, Nat.reduceMul, Nat.reduceLT, Nat.reduceLeDiff, Int.reduceToNat, Int.reduceLE, Int.reduceLT, Int.reduceNeg, reduceCtorEq, gos, Int.reduceAdd, Int.reduceSub, Int.reduceMul, Int.reduceEq, hT])
      refine X_dopc rfl ?_
      repeat (first | refine ⟨(by show drawK _ _ = true; kernel_rfl : drawX _ _ _), ?_⟩ | exact (by show drawK _ _ = true; kernel_rfl : drawX _ _ _) | simp -dsimp (maxSteps := 20000000) (disch := omega) only [simx, zzC, zzB, tys, ite_self, opnL, callB, callX, readsB, stepOp, nilCmp, ofVal, opBuiltin, opLen, PV.sk, scalBin, scalUn, intBin, opLoad, natOf, opConvert, opField, cellsP, oneP, Value.oneCell', opStore, toIV, scalT, scalA, scalC, boxesA, boxesC, zipB_none, zipB_mx, isZ, opZip, zeroP, opAppendZ, opMakeMap, opLookup, mboxB, opUpdate, ↓reduceIte, Nat.reduceSub, Nat.reduceEqDiff, Nat.reduceAdd, Nat.reduceMul, Nat.reduceLT, Nat.reduceLeDiff, Int.reduceToNat, Int.reduceLE, Int.reduceLT, Int.reduceNeg, reduceCtorEq, gos, Int.reduceAdd, Int.reduceSub, Int.reduceMul, Int.reduceEq, j6, List.length_map, hl, nt])
      refine X_dopc rfl ?_
      repeat (first | refine ⟨(by show drawK _ _ = true; kernel_rfl : drawX _ _ _), ?_⟩ | exact (by show drawK _ _ = true; kernel_rfl : drawX _ _ _) | simp -dsimp (maxSteps := 20000000) (disch := omega) only [simx, zzC, zzB, tys, ite_self, opnL, callB, callX, readsB, stepOp, nilCmp, ofVal, opBuiltin, opLen, PV.sk, scalBin, scalUn, intBin, opLoad, natOf, opConvert, opField, cellsP, oneP, Value.oneCell', opStore, toIV, scalT, scalA, scalC, boxesA, boxesC, zipB_none, zipB_mx, isZ, opZip, zeroP, opAppendZ, opMakeMap, opLookup, mboxB, opUpdate, ↓reduceIte, Nat.reduceSub, Nat.reduceEqDiff, Nat.reduceAdd, Nat.reduceMul, Nat.reduceLT, Nat.reduceLeDiff, Int.reduceToNat, Int.reduceLE, Int.reduceLT, Int.reduceNeg, reduceCtorEq, gos, Int.reduceAdd, Int.reduceSub, Int.reduceMul, Int.reduceEq])
      refine X_dappend_one (s := (16, 19) :: base) (n := 0) (z := 1) 3 [.int .i64 0] [ii n] (by simp only [tys]) (by simp only [tys]) rfl (by decide) (by rw [hcols]; rfl) (by simp [Heap.put_at]; exact hQ) (by simp [Heap.put_at]; rfl) rfl (by simp only [tys]; omega) (by rw [mx_len]; omega) ?_
      rw [rowP_succ]
      repeat (first | refine ⟨(by show drawK _ _ = true; kernel_rfl : drawX _ _ _), ?_⟩ | exact (by show drawK _ _ = true; kernel_rfl : drawX _ _ _) | simp -dsimp (maxSteps := 20000000) (disch := omega) only [simx, zzC, zzB, tys, ite_self, opnL, callB, callX, readsB, stepOp, nilCmp, ofVal, opBuiltin, opLen, PV.sk, scalBin, scalUn, intBin, opLoad, natOf, opConvert, opField, cellsP, oneP, Value.oneCell', opStore, toIV, scalT, scalA, scalC, boxesA, boxesC, zipB_none, zipB_mx, isZ, opZip, zeroP, opAppendZ, opMakeMap, opLookup, mboxB, opUpdate, ↓reduceIte, Nat.reduceSub, Nat.reduceEqDiff, Nat.reduceAdd, Nat.reduceMul, Nat.reduceLT, Nat.reduceLeDiff, Int.reduceToNat, Int.reduceLE, Int.reduceLT, Int.reduceNeg, reduceCtorEq, gos, Int.reduceAdd, Int.reduceSub, Int.reduceMul, Int.reduceEq, hT])
      refine X_dopc rfl ?_
      repeat (first | refine ⟨(by show drawK _ _ = true; kernel_rfl : drawX _ _ _), ?_⟩ | exact (by show drawK _ _ = true; kernel_rfl : drawX _ _ _) | simp -dsimp (maxSteps := 20000000) (disch := omega) only [simx, zzC, zzB, tys, ite_self, opnL, callB, callX, readsB, stepOp, nilCmp, ofVal, opBuiltin, opLen, PV.sk, scalBin, scalUn, intBin, opLoad, natOf, opConvert, opField, cellsP, oneP, Value.oneCell', opStore, toIV, scalT, scalA, scalC, boxesA, boxesC, zipB_none, zipB_mx, isZ, opZip, zeroP, opAppendZ, opMakeMap, opLookup, mboxB, opUpdate, ↓reduceIte, Nat.reduceSub, Nat.reduceEqDiff, Nat.reduceAdd, Nat.reduceMul, Nat.reduceLT, Nat.reduceLeDiff, Int.reduceToNat, Int.reduceLE, Int.reduceLT, Int.reduceNeg, reduceCtorEq, gos, Int.reduceAdd, Int.reduceSub, Int.reduceMul, Int.reduceEq, j7, List.length_map, hl, nt])
      refine X_dopc rfl ?_
      repeat (first | refine ⟨(by show drawK _ _ = true; kernel_rfl : drawX _ _ _), ?_⟩ | exact (by show drawK _ _ = true; kernel_rfl : drawX _ _ _) | simp -dsimp (maxSteps := 20000000) (disch := omega) only [simx, zzC, zzB, tys, ite_self, opnL, callB, callX, readsB, stepOp, nilCmp, ofVal, opBuiltin, opLen, PV.sk, scalBin, scalUn, intBin, opLoad, natOf, opConvert, opField, cellsP, oneP, Value.oneCell', opStore, toIV, scalT, scalA, scalC, boxesA, boxesC, zipB_none, zipB_mx, isZ, opZip, zeroP, opAppendZ, opMakeMap, opLookup, mboxB, opUpdate, ↓reduceIte, Nat.reduceSub, Nat.reduceEqDiff, Nat.reduceAdd, Nat.reduceMul, Nat.reduceLT, Nat.reduceLeDiff, Int.reduceToNat, Int.reduceLE, Int.reduceLT, Int.reduceNeg, reduceCtorEq, gos, Int.reduceAdd, Int.reduceSub, Int.reduceMul, Int.reduceEq])
      refine X_dappend_one (s := (16, 27) :: base) (n := 0) (z := 1) 23 [.slice none 0 0] [lv C row] (by simp only [tys]) (by simp only [tys]) rfl (by decide) (by rw [hus]; rfl) (by simp [Heap.put_at]; exact hU) (by simp [Heap.put_at]; rfl) rfl (by simp only [tys]; omega) (by rw [mx_len]; omega) ?_
      rw [rowP_succ]
      repeat (first | refine ⟨(by show drawK _ _ = true; kernel_rfl : drawX _ _ _), ?_⟩ | exact (by show drawK _ _ = true; kernel_rfl : drawX _ _ _) | simp -dsimp (maxSteps := 20000000) (disch := omega) only [simx, zzC, zzB, tys, ite_self, opnL, callB, callX, readsB, stepOp, nilCmp, ofVal, opBuiltin, opLen, PV.sk, scalBin, scalUn, intBin, opLoad, natOf, opConvert, opField, cellsP, oneP, Value.oneCell', opStore, toIV, scalT, scalA, scalC, boxesA, boxesC, zipB_none, zipB_mx, isZ, opZip, zeroP, opAppendZ, opMakeMap, opLookup, mboxB, opUpdate, ↓reduceIte, Nat.reduceSub, Nat.reduceEqDiff, Nat.reduceAdd, Nat.reduceMul, Nat.reduceLT, Nat.reduceLeDiff, Int.reduceToNat, Int.reduceLE, Int.reduceLT, Int.reduceNeg, reduceCtorEq, gos, Int.reduceAdd, Int.reduceSub, Int.reduceMul, Int.reduceEq, hT])
      refine X_dopc rfl ?_
      repeat (first | refine ⟨(by show drawK _ _ = true; kernel_rfl : drawX _ _ _), ?_⟩ | exact (by show drawK _ _ = true; kernel_rfl : drawX _ _ _) | simp -dsimp (maxSteps := 20000000) (disch := omega) only [simx, zzC, zzB, tys, ite_self, opnL, callB, callX, readsB, stepOp, nilCmp, ofVal, opBuiltin, opLen, PV.sk, scalBin, scalUn, intBin, opLoad, natOf, opConvert, opField, cellsP, oneP, Value.oneCell', opStore, toIV, scalT, scalA, scalC, boxesA, boxesC, zipB_none, zipB_mx, isZ, opZip, zeroP, opAppendZ, opMakeMap, opLookup, mboxB, opUpdate, ↓reduceIte, Nat.reduceSub, Nat.reduceEqDiff, Nat.reduceAdd, Nat.reduceMul, Nat.reduceLT, Nat.reduceLeDiff, Int.reduceToNat, Int.reduceLE, Int.reduceLT, Int.reduceNeg, reduceCtorEq, gos, Int.reduceAdd, Int.reduceSub, Int.reduceMul, Int.reduceEq, j8, List.length_map, hl, nt])
      refine X_dopc rfl ?_
      repeat (first | refine ⟨(by show drawK _ _ = true; kernel_rfl : drawX _ _ _), ?_⟩ | exact (by show drawK _ _ = true; kernel_rfl : drawX _ _ _) | simp -dsimp (maxSteps := 20000000) (disch := omega) only [simx, zzC, zzB, tys, ite_self, opnL, callB, callX, readsB, stepOp, nilCmp, ofVal, opBuiltin, opLen, PV.sk, scalBin, scalUn, intBin, opLoad, natOf, opConvert, opField, cellsP, oneP, Value.oneCell', opStore, toIV, scalT, scalA, scalC, boxesA, boxesC, zipB_none, zipB_mx, isZ, opZip, zeroP, opAppendZ, opMakeMap, opLookup, mboxB, opUpdate, ↓reduceIte, Nat.reduceSub, Nat.reduceEqDiff, Nat.reduceAdd, Nat.reduceMul, Nat.reduceLT, Nat.reduceLeDiff, Int.reduceToNat, Int.reduceLE, Int.reduceLT, Int.reduceNeg, reduceCtorEq, gos, Int.reduceAdd, Int.reduceSub, Int.reduceMul, Int.reduceEq])
      refine X_dappend_one (s := (16, 34) :: base) (n := 0) (z := 1) 22 [.int .u64 0] [iu (finvC P a)] (by simp only [tys]) (by simp only [tys]) rfl (by decide) (by rw [hvs]; rfl) (by simp [Heap.put_at]; exact hV) (by simp [Heap.put_at]; rfl) rfl (by simp only [tys]; omega) (by rw [mx_len]; omega) ?_
      rw [rowP_succ]
      repeat (first | refine ⟨(by show drawK _ _ = true; kernel_rfl : drawX _ _ _), ?_⟩ | exact (by show drawK _ _ = true; kernel_rfl : drawX _ _ _) | simp -dsimp (maxSteps := 20000000) (disch := omega) only [simx, zzC, zzB, tys, ite_self, opnL, callB, callX, readsB, stepOp, nilCmp, ofVal, opBuiltin, opLen, PV.sk, scalBin, scalUn, intBin, opLoad, natOf, opConvert, opField, cellsP, oneP, Value.oneCell', opStore, toIV, scalT, scalA, scalC, boxesA, boxesC, zipB_none, zipB_mx, isZ, opZip, zeroP, opAppendZ, opMakeMap, opLookup, mboxB, opUpdate, ↓reduceIte, Nat.reduceSub, Nat.reduceEqDiff, Nat.reduceAdd, Nat.reduceMul, Nat.reduceLT, Nat.reduceLeDiff, Int.reduceToNat, Int.reduceLE, Int.reduceLT, Int.reduceNeg, reduceCtorEq, gos, Int.reduceAdd, Int.reduceSub, Int.reduceMul, Int.reduceEq, hT])
      repeat (first | refine X_opc rfl ?_ | refine X_dopc rfl ?_ | refine ⟨(by show drawK _ _ = true; kernel_rfl : drawX _ _ _), ?_⟩ | exact (by show drawK _ _ = true; kernel_rfl : drawX _ _ _) | simp -dsimp (maxSteps := 20000000) (disch := omega) only [simx, zzC, zzB, tys, ite_self, opnL, callB, callX, readsB, stepOp, nilCmp, ofVal, opBuiltin, opLen, PV.sk, scalBin, scalUn, intBin, opLoad, natOf, opConvert, opField, cellsP, oneP, Value.oneCell', opStore, toIV, scalT, scalA, scalC, boxesA, boxesC, zipB_none, zipB_mx, isZ, opZip, zeroP, opAppendZ, opMakeMap, opLookup, mboxB, opUpdate, ↓reduceIte, Nat.reduceSub, Nat.reduceEqDiff, Nat.reduceAdd, Nat.reduceMul, Nat.reduceLT, Nat.reduceLeDiff, Int.reduceToNat, Int.reduceLE, Int.reduceLT, Int.reduceNeg, reduceCtorEq, zzR, gos, Int.reduceAdd, Int.reduceSub, Int.reduceMul, Int.reduceEq])
      rw [← hHH]
      refine ⟨?_, fun b hb => ?_⟩
      · funext c
        simp (maxSteps := 20000000) only [Heap.drop_at, rowH_app, Heap.put_at, Heap.none_at, List.mem_cons, List.not_mem_nil, or_false]
        by_cases e0 : c = (3, 2) :: bT
        · subst e0; simp [j1, j2, j3, j4, j5, j6, j7, j8, rowP_zero, rowP_succ, hR, hQ, hU, hV, hNi, clmP_succ]
        by_cases e1 : c = (10, 8) :: base
        · subst e1; simp [j1, j2, j3, j4, j5, j6, j7, j8, rowP_zero, rowP_succ, hR, hQ, hU, hV, hNi, clmP_succ]
        by_cases e2 : c = (1, 1) :: base
        · subst e2; simp [j1, j2, j3, j4, j5, j6, j7, j8, rowP_zero, rowP_succ, hR, hQ, hU, hV, hNi, clmP_succ]
        by_cases e3 : c = (8, 2) :: base
        · subst e3; simp [j1, j2, j3, j4, j5, j6, j7, j8, rowP_zero, rowP_succ, hR, hQ, hU, hV, hNi, clmP_succ]
        by_cases e4 : c = (10, 7) :: base
        · subst e4; simp [j1, j2, j3, j4, j5, j6, j7, j8, rowP_zero, rowP_succ, hR, hQ, hU, hV, hNi, clmP_succ]
        by_cases e5 : c = (15, 7) :: base
        · subst e5; simp [j1, j2, j3, j4, j5, j6, j7, j8, rowP_zero, rowP_succ, hR, hQ, hU, hV, hNi, clmP_succ]
        by_cases e6 : c = (16, 10) :: base
        · subst e6; simp [j1, j2, j3, j4, j5, j6, j7, j8, rowP_zero, rowP_succ, hR, hQ, hU, hV, hNi, clmP_succ]
        by_cases e7 : c = (16, 18) :: base
        · subst e7; simp [j1, j2, j3, j4, j5, j6, j7, j8, rowP_zero, rowP_succ, hR, hQ, hU, hV, hNi, clmP_succ]
        by_cases e8 : c = (16, 26) :: base
        · subst e8; simp [j1, j2, j3, j4, j5, j6, j7, j8, rowP_zero, rowP_succ, hR, hQ, hU, hV, hNi, clmP_succ]
        by_cases e9 : c = (16, 33) :: base
        · subst e9; simp [j1, j2, j3, j4, j5, j6, j7, j8, rowP_zero, rowP_succ, hR, hQ, hU, hV, hNi, clmP_succ]
        by_cases e10 : c = (16, 11) :: base
        · subst e10; simp [j1, j2, j3, j4, j5, j6, j7, j8, rowP_zero, rowP_succ, hR, hQ, hU, hV, hNi, clmP_succ]
        by_cases e11 : c = (16, 19) :: base
        · subst e11; simp [j1, j2, j3, j4, j5, j6, j7, j8, rowP_zero, rowP_succ, hR, hQ, hU, hV, hNi, clmP_succ]
        by_cases e12 : c = (16, 27) :: base
        · subst e12; simp [j1, j2, j3, j4, j5, j6, j7, j8, rowP_zero, rowP_succ, hR, hQ, hU, hV, hNi, clmP_succ]
        by_cases e13 : c = (16, 34) :: base
        · subst e13; simp [j1, j2, j3, j4, j5, j6, j7, j8, rowP_zero, rowP_succ, hR, hQ, hU, hV, hNi, clmP_succ]
        by_cases e14 : c = (900, i) :: base
        · subst e14; simp [j1, j2, j3, j4, j5, j6, j7, j8, rowP_zero, rowP_succ, hR, hQ, hU, hV, hNi, clmP_succ]
        simp [e0, e1, e2, e3, e4, e5, e6, e7, e8, e9, e10, e11, e12, e13, e14, j1, j2, j3, j4, j5, j6, j7, j8, rowP_zero, rowP_succ, hR, hQ, hU, hV, hNi, clmP_succ]
      · have n0 := nv b hb
        have n1 := nvL b hb
        clear nv nvL
        simp only [List.mem_cons, List.not_mem_nil, or_false] at hb
        rcases hb with rfl | rfl | rfl | rfl | rfl | rfl | rfl | rfl
        all_goals (repeat (first | exact n0 | refine noVar_row ?_ | refine noVar_var ?_ (by simp [refsL, refsP, refsL_append, mem_refs_rowP, mem_refs_clmP, n1])))
end Go.Proofs.Ythnfphgjfpcpbaa.TM
namespace Go.Proofs.Ythnfphgjfpcpbaa.TM
open Go Go.RowKit
attribute [local irreducible] K W WOps Effs Xg Xo Xr Xdg Xdo Xdr Xif CallsP CallR
set_option maxHeartbeats 4000000 in
theorem rowA1_walk {h : Heap} {base bT : Name} {P C i r : Nat} {T : Tk} {row : List Int} {L : List PV} (hP : Prm P) (hp : Md P) (I : TkI P C i T) (hrow : ∀ a ∈ row, In P a) (hl : row.length = C) (h0 : 0 < C) (hC : C ≤ 64) (hi : i < 64) (hL : L.length = i) (hr : T.us.length = r + 1)
    (hT : h ((3, 2) :: bT) = some (.var [rowP ((16, 11) :: base) 1 (r + 1) (T.rows.map ii), rowP ((16, 19) :: base) 1 (r + 1) (T.cols.map ii), clmP ((10, 8) :: base) i, rowP ((16, 27) :: base) 1 (r + 1) (T.us.map (lv C)), u64 P, rowP ((16, 34) :: base) 1 (r + 1) (T.vs.map iu)]))
    (hR : h ((16, 11) :: base) = if r + 1 = 0 then none else some (.row false (T.rows.map ii))) (hQ : h ((16, 19) :: base) = if r + 1 = 0 then none else some (.row false (T.cols.map ii))) (hU : h ((16, 27) :: base) = if r + 1 = 0 then none else some (.row false (T.us.map (lv C)))) (hV : h ((16, 34) :: base) = if r + 1 = 0 then none else some (.row false (T.vs.map iu)))
    (hCol : h ((10, 8) :: base) = clmB i L) (hNi : h ((900, i) :: base) = none)
    (j1 : h ((1, 1) :: base) = none) (j2 : h ((8, 2) :: base) = none) (j3 : h ((10, 7) :: base) = none) (j4 : h ((15, 7) :: base) = none) (j5 : h ((16, 10) :: base) = none) (j6 : h ((16, 18) :: base) = none) (j7 : h ((16, 26) :: base) = none) (j8 : h ((16, 33) :: base) = none)
    (nv : ∀ b ∈ [(1, 1) :: base, (8, 2) :: base, (10, 7) :: base, (15, 7) :: base, (16, 10) :: base, (16, 18) :: base, (16, 26) :: base, (16, 33) :: base], noVar b h) :
    ∃ h', CallR Try.prog base 85 [.ref ((3, 2) :: bT) 0 6, i64 i, .i (.l C (row.map iu))] h (bl true) h' ∧ (h'.drop [(1, 1) :: base, (8, 2) :: base, (10, 7) :: base, (15, 7) :: base, (16, 10) :: base, (16, 18) :: base, (16, 26) :: base, (16, 33) :: base] = cupH h base bT P C i L T (tkRow P T i row) (tkRow P T i row).us.length ∧ ∀ b ∈ [(1, 1) :: base, (8, 2) :: base, (10, 7) :: base, (15, 7) :: base, (16, 10) :: base, (16, 18) :: base, (16, 26) :: base, (16, 33) :: base], noVar b h') := by
  have nvL := nv_col hCol hL nv
  have rb : r + 1 ≤ i := by have := I.ri; omega
  have dc := (cloneU_own hl h0 (by omega)).toA
  have rl : (rstT P T row) = elR P T row (r + 1) := by unfold rstT; rw [hr]
  have x0 : xsT P T row = tbl (r + 1) (elX P T row) := by unfold xsT; rw [hr]
  have rn : ((elR P T row (r + 1))).length = C := by rw [elR_len, hl]
  have hix := indexA_walk (l := elR P T row (r + 1)) (by rw [mx_len]; omega)
  rw [lu, rn] at hix
  obtain ⟨te1, te2⟩ := tk_end I row (i : Int) rfl
  rw [rl, x0] at te1 te2
  rw [if_neg (by omega)] at hR hQ hU hV
  generalize hHH : cupH h base bT P C i L T (tkRow P T i row) (tkRow P T i row).us.length = HH
  refine X_startE (n := 151) (m := 3) (rs := [.tmp 6]) Try.func85 rfl rfl rfl rfl (by decide) ?_
  repeat (first | refine X_opc rfl ?_ | refine X_dopc rfl ?_ | refine ⟨(by show drawK _ _ = true; kernel_rfl : drawX _ _ _), ?_⟩ | exact (by show drawK _ _ = true; kernel_rfl : drawX _ _ _) | simp -dsimp (maxSteps := 20000000) (disch := omega) only [simx, zzC, zzB, tys, ite_self, opnL, callB, callX, readsB, stepOp, nilCmp, ofVal, opBuiltin, opLen, PV.sk, scalBin, scalUn, intBin, opLoad, natOf, opConvert, opField, cellsP, oneP, Value.oneCell', opStore, toIV, scalT, scalA, scalC, boxesA, boxesC, zipB_none, zipB_mx, isZ, opZip, zeroP, opAppendZ, opMakeMap, opLookup, mboxB, opUpdate, ↓reduceIte, Nat.reduceSub, Nat.reduceEqDiff, Nat.reduceAdd, Nat.reduceMul, Nat.reduceLT, Nat.reduceLeDiff, Int.reduceToNat, Int.reduceLE, Int.reduceLT, Int.reduceNeg, reduceCtorEq, gos, Int.reduceAdd, Int.reduceSub, Int.reduceMul, Int.reduceEq])
  ((first | refine X_call_ad (dc) rfl (by simp only [tys]) (by (simp -dsimp only [simx, zzC, zzB, tys, ite_self, opnL, callB, callX, readsB, stepOp, nilCmp, ofVal, opBuiltin, opLen, PV.sk, scalBin, scalUn, intBin, opLoad, natOf, opConvert, opField, cellsP, oneP, Value.oneCell', opStore, toIV, scalT, scalA, scalC, boxesA, boxesC, zipB_none, zipB_mx, isZ, opZip, zeroP, opAppendZ, opMakeMap, opLookup, mboxB, opUpdate, ↓reduceIte, Nat.reduceSub, Nat.reduceEqDiff, Nat.reduceAdd, Nat.reduceMul, Nat.reduceLT, Nat.reduceLeDiff, Int.reduceToNat, Int.reduceLE, Int.reduceLT, Int.reduceNeg, reduceCtorEq, zzL, if_true, if_false] <;> rfl)) (by simp [Heap.put_at, Heap.none_at, rowH_app, j1]) ?_ | refine X_dcall_ad (dc) rfl (by simp only [tys]) (by (simp -dsimp only [simx, zzC, zzB, tys, ite_self, opnL, callB, callX, readsB, stepOp, nilCmp, ofVal, opBuiltin, opLen, PV.sk, scalBin, scalUn, intBin, opLoad, natOf, opConvert, opField, cellsP, oneP, Value.oneCell', opStore, toIV, scalT, scalA, scalC, boxesA, boxesC, zipB_none, zipB_mx, isZ, opZip, zeroP, opAppendZ, opMakeMap, opLookup, mboxB, opUpdate, ↓reduceIte, Nat.reduceSub, Nat.reduceEqDiff, Nat.reduceAdd, Nat.reduceMul, Nat.reduceLT, Nat.reduceLeDiff, Int.reduceToNat, Int.reduceLE, Int.reduceLT, Int.reduceNeg, reduceCtorEq, zzL, if_true, if_false] <;> rfl)) (by simp [Heap.put_at, Heap.none_at, rowH_app, j1]) ?_))
  repeat (first | refine X_opc rfl ?_ | refine X_dopc rfl ?_ | refine ⟨(by show drawK _ _ = true; kernel_rfl : drawX _ _ _), ?_⟩ | exact (by show drawK _ _ = true; kernel_rfl : drawX _ _ _) | simp -dsimp (maxSteps := 20000000) (disch := omega) only [simx, zzC, zzB, tys, ite_self, opnL, callB, callX, readsB, stepOp, nilCmp, ofVal, opBuiltin, opLen, PV.sk, scalBin, scalUn, intBin, opLoad, natOf, opConvert, opField, cellsP, oneP, Value.oneCell', opStore, toIV, scalT, scalA, scalC, boxesA, boxesC, zipB_none, zipB_mx, isZ, opZip, zeroP, opAppendZ, opMakeMap, opLookup, mboxB, opUpdate, ↓reduceIte, Nat.reduceSub, Nat.reduceEqDiff, Nat.reduceAdd, Nat.reduceMul, Nat.reduceLT, Nat.reduceLeDiff, Int.reduceToNat, Int.reduceLE, Int.reduceLT, Int.reduceNeg, reduceCtorEq, gos, Int.reduceAdd, Int.reduceSub, Int.reduceMul, Int.reduceEq, hT, rowP_succ, List.length_map, hr])
  refine X_loopH [0, 1, 7, 8, 22, 23, 24] [(8, 2) :: base] (0) (r + 1) (fun j => True) (fun j => [(8, rowP ((900, i) :: base) 1 j ((tbl j (elX P T row)).map iu)), (23, i64 ((r + 1 : Nat) : Int)), (24, i64 j)]) (fun j => rowH (h.put ((1, 1) :: base) (.row false ((elR P T row j).map iu))) ((900, i) :: base) j ((tbl j (elX P T row)).map iu)) ?_ ?_ ?_ ?_ ?_ (by decide) ?_
  · exact fgt_cons j2 (by simp -dsimp only [simx, zzC, zzB, tys, ite_self, opnL, notIn_cons, notIn_nil] <;> simp [refsP]) (noVar_row (nv _ (by simp))) fgt_nil
  · repeat (first | refine X_opc rfl ?_ | refine X_dopc rfl ?_ | refine ⟨(by show drawK _ _ = true; kernel_rfl : drawX _ _ _), ?_⟩ | exact (by show drawK _ _ = true; kernel_rfl : drawX _ _ _) | simp -dsimp (maxSteps := 20000000) (disch := omega) only [simx, zzC, zzB, tys, ite_self, opnL, callB, callX, readsB, stepOp, nilCmp, ofVal, opBuiltin, opLen, PV.sk, scalBin, scalUn, intBin, opLoad, natOf, opConvert, opField, cellsP, oneP, Value.oneCell', opStore, toIV, scalT, scalA, scalC, boxesA, boxesC, zipB_none, zipB_mx, isZ, opZip, zeroP, opAppendZ, opMakeMap, opLookup, mboxB, opUpdate, ↓reduceIte, Nat.reduceSub, Nat.reduceEqDiff, Nat.reduceAdd, Nat.reduceMul, Nat.reduceLT, Nat.reduceLeDiff, Int.reduceToNat, Int.reduceLE, Int.reduceLT, Int.reduceNeg, reduceCtorEq, gos, Int.reduceAdd, Int.reduceSub, Int.reduceMul, Int.reduceEq, rowP_zero])
    exact ⟨rfl, rfl⟩
  · funext c
    rw [Heap.drop_at, rowH_zero]
    split
    · rename_i e
      rw [List.mem_singleton.1 e]
      simp [Heap.put_at, j2]
    · rfl
  · omega
  · trivial
  · intro j hj _
    by_cases cj : j < r + 1
    · have g1 : (T.us.map (lv C))[j]? = some (lv C (T.us.getD j [])) := by rw [List.getElem?_map, List.getD_eq_getElem?_getD, List.getElem?_eq_getElem (by omega)]; rfl
      have g2 : (T.cols.map ii)[j]? = some (ii (T.cols.getD j 0)) := by rw [List.getElem?_map, getD_some I.ql (by omega)]; rfl
      have g3 : (T.vs.map iu)[j]? = some (iu (T.vs.getD j 0)) := by rw [List.getElem?_map, getD_some I.vl (by omega)]; rfl
      obtain ⟨q0, q1⟩ := I.qb (T.cols.getD j 0) (by rw [List.getD_eq_getElem?_getD, List.getElem?_eq_getElem (by have := I.ql; omega)]; exact List.getElem_mem _)
      obtain ⟨q, hq⟩ : ∃ q : Nat, T.cols.getD j 0 = q := ⟨(T.cols.getD j 0).toNat, by omega⟩
      have qC : q < C := by omega
      have el := elR_len P T row j
      rw [hl] at el
      have ei := elR_in hp T hrow j
      have g4 : ((elR P T row j).map iu)[q]? = some (iu ((elR P T row j).getD q 0)) := by rw [List.getElem?_map, getD_some el qC]; rfl
      have m1 := Mul_in hp (getD_of ei (i := q) (by omega)) (getD_of I.vb (i := j) (by have := I.vl; omega))
      have ex : (elR P T row j).getD q 0 * T.vs.getD j 0 % P = elX P T row j := by unfold elX; rw [hq, Int.toNat_natCast]
      rw [ex] at m1
      rw [hq] at g2
      obtain ⟨u1, u2⟩ := I.ul (T.us.getD j []) (by rw [List.getD_eq_getElem?_getD, List.getElem?_eq_getElem (by omega)]; exact List.getElem_mem _)
      have hT' : (rowH (h.put ((1, 1) :: base) (.row false ((elR P T row j).map iu))) ((900, i) :: base) j ((tbl j (elX P T row)).map iu)) ((3, 2) :: bT) = some (.var [rowP ((16, 11) :: base) 1 (r + 1) (T.rows.map ii), rowP ((16, 19) :: base) 1 (r + 1) (T.cols.map ii), clmP ((10, 8) :: base) i, rowP ((16, 27) :: base) 1 (r + 1) (T.us.map (lv C)), u64 P, rowP ((16, 34) :: base) 1 (r + 1) (T.vs.map iu)]) := by simp [rowH_app, Heap.put_at]; exact hT
      have hX' : (rowH (h.put ((1, 1) :: base) (.row false ((elR P T row j).map iu))) ((900, i) :: base) j ((tbl j (elX P T row)).map iu)) ((1, 1) :: base) = some (.row false ((elR P T row j).map iu)) := by simp [rowH_app, Heap.put_at]
      have hN' : (rowH (h.put ((1, 1) :: base) (.row false ((elR P T row j).map iu))) ((900, i) :: base) j ((tbl j (elX P T row)).map iu)) ((900, i) :: base) = if j = 0 then none else some (.row false ((tbl j (elX P T row)).map iu)) := by simp [rowH_app, Heap.put_at, hNi]
      have hw := fun (b0 : Name) => cless_walk (base := b0) hp (elX_in hp T row j) ei u2 el u1 hC hT' hX'
      have nx := elR_succ P T row j
      have tx := tbl_succ j (elX P T row)
      have tl := tbl_len j (elX P T row)
      rw [← nx] at hw
      generalize T.us.getD j [] = U at g1 hw u1
      generalize T.vs.getD j 0 = V at g3 m1 ex
      generalize elX P T row j = x at m1 hw tx
      generalize (elR P T row j).getD q 0 = y at g4 m1
      generalize hR1 : elR P T row (j + 1) = R1 at hw ⊢
      have hne1 : ¬ j = 0 → (0 < j) := by omega
      repeat (first | ((first | refine X_call_fn2 rfl (by simp only [tys]) ?_ | refine X_dcall_fn2 rfl (by simp only [tys]) ?_); apply Exists.intro; apply And.intro; (focus (simp -dsimp only [simx, zzC, zzB, tys, ite_self, opnL, callB, callX, readsB, stepOp, nilCmp, ofVal, opBuiltin, opLen, PV.sk, scalBin, scalUn, intBin, opLoad, natOf, opConvert, opField, cellsP, oneP, Value.oneCell', opStore, toIV, scalT, scalA, scalC, boxesA, boxesC, zipB_none, zipB_mx, isZ, opZip, zeroP, opAppendZ, opMakeMap, opLookup, mboxB, opUpdate, ↓reduceIte, Nat.reduceSub, Nat.reduceEqDiff, Nat.reduceAdd, Nat.reduceMul, Nat.reduceLT, Nat.reduceLeDiff, Int.reduceToNat, Int.reduceLE, Int.reduceLT, Int.reduceNeg, reduceCtorEq, zzL, if_true, if_false] <;> rfl)); apply Exists.intro; apply And.intro; (focus (first | exact m1))) | refine ⟨(by show drawK _ _ = true; kernel_rfl : drawX _ _ _), ?_⟩ | exact (by show drawK _ _ = true; kernel_rfl : drawX _ _ _) | simp -dsimp (maxSteps := 20000000) (disch := omega) only [simx, zzC, zzB, tys, ite_self, opnL, callB, callX, readsB, stepOp, nilCmp, ofVal, opBuiltin, opLen, PV.sk, scalBin, scalUn, intBin, opLoad, natOf, opConvert, opField, cellsP, oneP, Value.oneCell', opStore, toIV, scalT, scalA, scalC, boxesA, boxesC, zipB_none, zipB_mx, isZ, opZip, zeroP, opAppendZ, opMakeMap, opLookup, mboxB, opUpdate, ↓reduceIte, Nat.reduceSub, Nat.reduceEqDiff, Nat.reduceAdd, Nat.reduceMul, Nat.reduceLT, Nat.reduceLeDiff, Int.reduceToNat, Int.reduceLE, Int.reduceLT, Int.reduceNeg, reduceCtorEq, gos, Int.reduceAdd, Int.reduceSub, Int.reduceMul, Int.reduceEq, hT, hR, hQ, hU, hV, rowP_succ, cj, g1, g2, g3, g4, qC, List.length_map, hr, I.ql, I.vl, I.rl, el])
      refine X_call_sh rfl (by simp only [tys]) rfl (hw _) ?_
      repeat (first | refine ⟨(by show drawK _ _ = true; kernel_rfl : drawX _ _ _), ?_⟩ | exact (by show drawK _ _ = true; kernel_rfl : drawX _ _ _) | simp -dsimp (maxSteps := 20000000) (disch := omega) only [simx, zzC, zzB, tys, ite_self, opnL, callB, callX, readsB, stepOp, nilCmp, ofVal, opBuiltin, opLen, PV.sk, scalBin, scalUn, intBin, opLoad, natOf, opConvert, opField, cellsP, oneP, Value.oneCell', opStore, toIV, scalT, scalA, scalC, boxesA, boxesC, zipB_none, zipB_mx, isZ, opZip, zeroP, opAppendZ, opMakeMap, opLookup, mboxB, opUpdate, ↓reduceIte, Nat.reduceSub, Nat.reduceEqDiff, Nat.reduceAdd, Nat.reduceMul, Nat.reduceLT, Nat.reduceLeDiff, Int.reduceToNat, Int.reduceLE, Int.reduceLT, Int.reduceNeg, reduceCtorEq, gos, Int.reduceAdd, Int.reduceSub, Int.reduceMul, Int.reduceEq])
      refine X_opc rfl ?_
      repeat (first | refine ⟨(by show drawK _ _ = true; kernel_rfl : drawX _ _ _), ?_⟩ | exact (by show drawK _ _ = true; kernel_rfl : drawX _ _ _) | simp -dsimp (maxSteps := 20000000) (disch := omega) only [simx, zzC, zzB, tys, ite_self, opnL, callB, callX, readsB, stepOp, nilCmp, ofVal, opBuiltin, opLen, PV.sk, scalBin, scalUn, intBin, opLoad, natOf, opConvert, opField, cellsP, oneP, Value.oneCell', opStore, toIV, scalT, scalA, scalC, boxesA, boxesC, zipB_none, zipB_mx, isZ, opZip, zeroP, opAppendZ, opMakeMap, opLookup, mboxB, opUpdate, ↓reduceIte, Nat.reduceSub, Nat.reduceEqDiff, Nat.reduceAdd, Nat.reduceMul, Nat.reduceLT, Nat.reduceLeDiff, Int.reduceToNat, Int.reduceLE, Int.reduceLT, Int.reduceNeg, reduceCtorEq, gos, Int.reduceAdd, Int.reduceSub, Int.reduceMul, Int.reduceEq, j2])
      refine X_opn ((900, i) :: base) rfl ?_
      repeat (first | refine ⟨(by show drawK _ _ = true; kernel_rfl : drawX _ _ _), ?_⟩ | exact (by show drawK _ _ = true; kernel_rfl : drawX _ _ _) | simp -dsimp (maxSteps := 20000000) (disch := omega) only [simx, zzC, zzB, tys, ite_self, opnL, callB, callX, readsB, stepOp, nilCmp, ofVal, opBuiltin, opLen, PV.sk, scalBin, scalUn, intBin, opLoad, natOf, opConvert, opField, cellsP, oneP, Value.oneCell', opStore, toIV, scalT, scalA, scalC, boxesA, boxesC, zipB_none, zipB_mx, isZ, opZip, zeroP, opAppendZ, opMakeMap, opLookup, mboxB, opUpdate, ↓reduceIte, Nat.reduceSub, Nat.reduceEqDiff, Nat.reduceAdd, Nat.reduceMul, Nat.reduceLT, Nat.reduceLeDiff, Int.reduceToNat, Int.reduceLE, Int.reduceLT, Int.reduceNeg, reduceCtorEq, gos, Int.reduceAdd, Int.reduceSub, Int.reduceMul, Int.reduceEq])
      refine X_append_one (s := (900, i) :: base) (n := j) (z := 1) (cs := (tbl j (elX P T row)).map iu) 22 [.int .u64 0] [iu x] (by simp only [tys]) (by simp only [tys]) rfl (by decide) (by simp [tl]) (by simp [rowH_app, Heap.put_at, hNi]) (by simp [Heap.put_at]; rfl) rfl (by simp only [tys]; omega) (by rw [mx_len]; omega) ?_
      repeat (first | refine ⟨(by show drawK _ _ = true; kernel_rfl : drawX _ _ _), ?_⟩ | exact (by show drawK _ _ = true; kernel_rfl : drawX _ _ _) | simp -dsimp (maxSteps := 20000000) (disch := omega) only [simx, zzC, zzB, tys, ite_self, opnL, callB, callX, readsB, stepOp, nilCmp, ofVal, opBuiltin, opLen, PV.sk, scalBin, scalUn, intBin, opLoad, natOf, opConvert, opField, cellsP, oneP, Value.oneCell', opStore, toIV, scalT, scalA, scalC, boxesA, boxesC, zipB_none, zipB_mx, isZ, opZip, zeroP, opAppendZ, opMakeMap, opLookup, mboxB, opUpdate, ↓reduceIte, Nat.reduceSub, Nat.reduceEqDiff, Nat.reduceAdd, Nat.reduceMul, Nat.reduceLT, Nat.reduceLeDiff, Int.reduceToNat, Int.reduceLE, Int.reduceLT, Int.reduceNeg, reduceCtorEq, gos, Int.reduceAdd, Int.reduceSub, Int.reduceMul, Int.reduceEq])
      refine ⟨cj, fgt_cons j2 (by simp -dsimp only [simx, zzC, zzB, tys, ite_self, opnL, notIn_cons, notIn_nil] <;> simp [refsP, mem_refs_rowP]) (noVar_row (noVar_row (noVar_row (noVar_rowH (noVar_row (nv _ (by simp))))))) fgt_nil, ?_, ?_⟩
      · rw [tx, List.map_append]; exact ⟨rfl, rfl⟩
      · rw [tx, List.map_append, rowH_succ]
        funext c
        simp (maxSteps := 20000000) only [Heap.drop_at, rowH_app, Heap.put_at, Heap.none_at, List.mem_cons, List.not_mem_nil, or_false]
        by_cases e0 : c = (3, 2) :: bT
        · subst e0; simp [j2, hR1]
        by_cases e1 : c = (1, 1) :: base
        · subst e1; simp [j2, hR1]
        by_cases e2 : c = (8, 2) :: base
        · subst e2; simp [j2, hR1]
        by_cases e3 : c = (900, i) :: base
        · subst e3; simp [j2, hR1]
        simp [e0, e1, e2, e3, j2, hR1]
    · have ej : j = r + 1 := by omega
      subst ej
      have tl := tbl_len (r + 1) (elX P T row)
      have ri := elR_in hp T hrow (r + 1)
      generalize elR P T row (r + 1) = RR at *
      generalize tbl (r + 1) (elX P T row) = XX at *
      rw [rowP_succ, rowH_succ, List.length_map, tl]
      repeat (first | refine ⟨(by show drawK _ _ = true; kernel_rfl : drawX _ _ _), ?_⟩ | exact (by show drawK _ _ = true; kernel_rfl : drawX _ _ _) | simp -dsimp (maxSteps := 20000000) (disch := omega) only [simx, zzC, zzB, tys, ite_self, opnL, callB, callX, readsB, stepOp, nilCmp, ofVal, opBuiltin, opLen, PV.sk, scalBin, scalUn, intBin, opLoad, natOf, opConvert, opField, cellsP, oneP, Value.oneCell', opStore, toIV, scalT, scalA, scalC, boxesA, boxesC, zipB_none, zipB_mx, isZ, opZip, zeroP, opAppendZ, opMakeMap, opLookup, mboxB, opUpdate, ↓reduceIte, Nat.reduceSub, Nat.reduceEqDiff, Nat.reduceAdd, Nat.reduceMul, Nat.reduceLT, Nat.reduceLeDiff, Int.reduceToNat, Int.reduceLE, Int.reduceLT, Int.reduceNeg, reduceCtorEq, gos, Int.reduceAdd, Int.reduceSub, Int.reduceMul, Int.reduceEq, hT])
      refine X_opa ((10, 7) :: base) rfl ?_
      repeat (first | refine ⟨(by show drawK _ _ = true; kernel_rfl : drawX _ _ _), ?_⟩ | exact (by show drawK _ _ = true; kernel_rfl : drawX _ _ _) | simp -dsimp (maxSteps := 20000000) (disch := omega) only [simx, zzC, zzB, tys, ite_self, opnL, callB, callX, readsB, stepOp, nilCmp, ofVal, opBuiltin, opLen, PV.sk, scalBin, scalUn, intBin, opLoad, natOf, opConvert, opField, cellsP, oneP, Value.oneCell', opStore, toIV, scalT, scalA, scalC, boxesA, boxesC, zipB_none, zipB_mx, isZ, opZip, zeroP, opAppendZ, opMakeMap, opLookup, mboxB, opUpdate, ↓reduceIte, Nat.reduceSub, Nat.reduceEqDiff, Nat.reduceAdd, Nat.reduceMul, Nat.reduceLT, Nat.reduceLeDiff, Int.reduceToNat, Int.reduceLE, Int.reduceLT, Int.reduceNeg, reduceCtorEq, gos, Int.reduceAdd, Int.reduceSub, Int.reduceMul, Int.reduceEq, stepAlt, opBuildSliceV, j3])
      refine X_opa ((10, 8) :: base) rfl ?_
      repeat (first | refine ⟨(by show drawK _ _ = true; kernel_rfl : drawX _ _ _), ?_⟩ | exact (by show drawK _ _ = true; kernel_rfl : drawX _ _ _) | simp -dsimp (maxSteps := 20000000) (disch := omega) only [simx, zzC, zzB, tys, ite_self, opnL, callB, callX, readsB, stepOp, nilCmp, ofVal, opBuiltin, opLen, PV.sk, scalBin, scalUn, intBin, opLoad, natOf, opConvert, opField, cellsP, oneP, Value.oneCell', opStore, toIV, scalT, scalA, scalC, boxesA, boxesC, zipB_none, zipB_mx, isZ, opZip, zeroP, opAppendZ, opMakeMap, opLookup, mboxB, opUpdate, ↓reduceIte, Nat.reduceSub, Nat.reduceEqDiff, Nat.reduceAdd, Nat.reduceMul, Nat.reduceLT, Nat.reduceLeDiff, Int.reduceToNat, Int.reduceLE, Int.reduceLT, Int.reduceNeg, reduceCtorEq, gos, Int.reduceAdd, Int.reduceSub, Int.reduceMul, Int.reduceEq, stepAlt])
      refine X_appendV 23 [.slice none 0 0] (by simp only [tys]) (by simp only [tys]) rfl hL (by simp [Heap.put_at]; exact hCol) (by simp [Heap.put_at]; rfl) (by simp only [tys]; omega) (by rw [mx_len]; omega) (fun _ => rfl) ?_
      have hp1 := clmP_succ ((10, 8) :: base) i
      have nt : (RR.map iu).take C = RR.map iu := List.take_of_length_le (by simp [rn])
      rcases nzA_spec RR 0 with ⟨z1, z2⟩ | ⟨n, z1, z2, z3, z4⟩
      · rw [z1] at hix
        have te := te1 (by rw [z1]; decide)
        obtain ⟨t1, t2, t3, t4⟩ := tk_no (p := P) (T := T) (row := row) (x := i) (by rw [rl, z1]; decide)
        unfold cupH at hHH
        rw [te, t1, t2, t3, t4, hr, tl] at hHH
        have z0 : (-1 : Int) < 0 := by decide
        repeat (first | ((first | refine X_call_fn2 rfl (by simp only [tys]) ?_ | refine X_dcall_fn2 rfl (by simp only [tys]) ?_); apply Exists.intro; apply And.intro; (focus (simp -dsimp only [simx, zzC, zzB, tys, ite_self, opnL, callB, callX, readsB, stepOp, nilCmp, ofVal, opBuiltin, opLen, PV.sk, scalBin, scalUn, intBin, opLoad, natOf, opConvert, opField, cellsP, oneP, Value.oneCell', opStore, toIV, scalT, scalA, scalC, boxesA, boxesC, zipB_none, zipB_mx, isZ, opZip, zeroP, opAppendZ, opMakeMap, opLookup, mboxB, opUpdate, ↓reduceIte, Nat.reduceSub, Nat.reduceEqDiff, Nat.reduceAdd, Nat.reduceMul, Nat.reduceLT, Nat.reduceLeDiff, Int.reduceToNat, Int.reduceLE, Int.reduceLT, Int.reduceNeg, reduceCtorEq, zzL, if_true, if_false, List.length_map, rn, nt] <;> rfl)); apply Exists.intro; apply And.intro; (focus (first | exact hix))) | refine X_opc rfl ?_ | refine X_dopc rfl ?_ | refine ⟨(by show drawK _ _ = true; kernel_rfl : drawX _ _ _), ?_⟩ | exact (by show drawK _ _ = true; kernel_rfl : drawX _ _ _) | simp -dsimp (maxSteps := 20000000) (disch := omega) only [simx, zzC, zzB, tys, ite_self, opnL, callB, callX, readsB, stepOp, nilCmp, ofVal, opBuiltin, opLen, PV.sk, scalBin, scalUn, intBin, opLoad, natOf, opConvert, opField, cellsP, oneP, Value.oneCell', opStore, toIV, scalT, scalA, scalC, boxesA, boxesC, zipB_none, zipB_mx, isZ, opZip, zeroP, opAppendZ, opMakeMap, opLookup, mboxB, opUpdate, ↓reduceIte, Nat.reduceSub, Nat.reduceEqDiff, Nat.reduceAdd, Nat.reduceMul, Nat.reduceLT, Nat.reduceLeDiff, Int.reduceToNat, Int.reduceLE, Int.reduceLT, Int.reduceNeg, reduceCtorEq, zzR, gos, Int.reduceAdd, Int.reduceSub, Int.reduceMul, Int.reduceEq, hT, hp1, z0, List.length_map, rn, nt])
        rw [← hHH]
        refine ⟨?_, fun b hb => ?_⟩
        · funext c
          simp (maxSteps := 20000000) only [Heap.drop_at, rowH_app, Heap.put_at, Heap.none_at, List.mem_cons, List.not_mem_nil, or_false]
          by_cases e0 : c = (3, 2) :: bT
          · subst e0; simp [j1, j2, j3, j4, j5, j6, j7, j8, rowP_zero, rowP_succ, hR, hQ, hU, hV, hNi, clmP_succ, tl]
          by_cases e1 : c = (10, 8) :: base
          · subst e1; simp [j1, j2, j3, j4, j5, j6, j7, j8, rowP_zero, rowP_succ, hR, hQ, hU, hV, hNi, clmP_succ, tl]
          by_cases e2 : c = (1, 1) :: base
          · subst e2; simp [j1, j2, j3, j4, j5, j6, j7, j8, rowP_zero, rowP_succ, hR, hQ, hU, hV, hNi, clmP_succ, tl]
          by_cases e3 : c = (8, 2) :: base
          · subst e3; simp [j1, j2, j3, j4, j5, j6, j7, j8, rowP_zero, rowP_succ, hR, hQ, hU, hV, hNi, clmP_succ, tl]
          by_cases e4 : c = (10, 7) :: base
          · subst e4; simp [j1, j2, j3, j4, j5, j6, j7, j8, rowP_zero, rowP_succ, hR, hQ, hU, hV, hNi, clmP_succ, tl]
          by_cases e5 : c = (15, 7) :: base
          · subst e5; simp [j1, j2, j3, j4, j5, j6, j7, j8, rowP_zero, rowP_succ, hR, hQ, hU, hV, hNi, clmP_succ, tl]
          by_cases e6 : c = (16, 10) :: base
          · subst e6; simp [j1, j2, j3, j4, j5, j6, j7, j8, rowP_zero, rowP_succ, hR, hQ, hU, hV, hNi, clmP_succ, tl]
          by_cases e7 : c = (16, 18) :: base
          · subst e7; simp [j1, j2, j3, j4, j5, j6, j7, j8, rowP_zero, rowP_succ, hR, hQ, hU, hV, hNi, clmP_succ, tl]
          by_cases e8 : c = (16, 26) :: base
          · subst e8; simp [j1, j2, j3, j4, j5, j6, j7, j8, rowP_zero, rowP_succ, hR, hQ, hU, hV, hNi, clmP_succ, tl]
          by_cases e9 : c = (16, 33) :: base
          · subst e9; simp [j1, j2, j3, j4, j5, j6, j7, j8, rowP_zero, rowP_succ, hR, hQ, hU, hV, hNi, clmP_succ, tl]
          by_cases e10 : c = (16, 11) :: base
          · subst e10; simp [j1, j2, j3, j4, j5, j6, j7, j8, rowP_zero, rowP_succ, hR, hQ, hU, hV, hNi, clmP_succ, tl]
          by_cases e11 : c = (16, 19) :: base
          · subst e11; simp [j1, j2, j3, j4, j5, j6, j7, j8, rowP_zero, rowP_succ, hR, hQ, hU, hV, hNi, clmP_succ, tl]
          by_cases e12 : c = (16, 27) :: base
          · subst e12; simp [j1, j2, j3, j4, j5, j6, j7, j8, rowP_zero, rowP_succ, hR, hQ, hU, hV, hNi, clmP_succ, tl]
          by_cases e13 : c = (16, 34) :: base
          · subst e13; simp [j1, j2, j3, j4, j5, j6, j7, j8, rowP_zero, rowP_succ, hR, hQ, hU, hV, hNi, clmP_succ, tl]
          by_cases e14 : c = (900, i) :: base
          · subst e14; simp [j1, j2, j3, j4, j5, j6, j7, j8, rowP_zero, rowP_succ, hR, hQ, hU, hV, hNi, clmP_succ, tl]
          simp [e0, e1, e2, e3, e4, e5, e6, e7, e8, e9, e10, e11, e12, e13, e14, j1, j2, j3, j4, j5, j6, j7, j8, rowP_zero, rowP_succ, hR, hQ, hU, hV, hNi, clmP_succ, tl]
        · have n0 := nv b hb
          have n1 := nvL b hb
          clear nv nvL
          simp only [List.mem_cons, List.not_mem_nil, or_false] at hb
          rcases hb with rfl | rfl | rfl | rfl | rfl | rfl | rfl | rfl
          all_goals (repeat (first | exact n0 | refine noVar_row ?_ | refine noVar_var ?_ (by simp [refsL, refsP, refsL_append, mem_refs_rowP, mem_refs_clmP, n1])))
      · have zn : (0 + n : Nat) = n := by omega
        rw [z1, zn] at hix
        have te := te2 (by rw [z1]; omega)
        obtain ⟨t1, t2, t3, t4⟩ := tk_yes (p := P) (T := T) (row := row) (x := i) (by rw [rl, z1]; omega)
        unfold cupH at hHH
        rw [te, t1, t2, t3, t4, rl, z1, zn, show (T.us ++ [RR]).length = r + 1 + 1 by simp [hr], show (XX ++ [(1 : Int)]).length = r + 1 + 1 by simp [tl], Int.toNat_natCast] at hHH
        have ln : (RR.map iu)[n]? = some (iu (RR.getD n 0)) := by rw [List.getElem?_map, getD_some rn (by omega)]; rfl
        have ii1 := Inv_in hP hp (getD_of ri (i := n) z2) z3
        generalize RR.getD n 0 = a at ln ii1 hHH
        have z0 : ¬ (n : Int) < 0 := by omega
        have nC : n < C := by omega
        have ilt : i < i + 1 := Nat.lt_succ_self i
        have ile : i + 1 ≤ i + 1 := Nat.le_refl _
        have lt : ∀ x : PV, (L ++ [x]).take i = L := fun x => List.take_left' hL
        have ld : ∀ x : PV, (L ++ [x]).drop (i + 1) = [] := fun x => List.drop_eq_nil_of_le (by simp [hL])
        repeat (first | ((first | refine X_call_fn2 rfl (by simp only [tys]) ?_ | refine X_dcall_fn2 rfl (by simp only [tys]) ?_); apply Exists.intro; apply And.intro; (focus (simp -dsimp only [simx, zzC, zzB, tys, ite_self, opnL, callB, callX, readsB, stepOp, nilCmp, ofVal, opBuiltin, opLen, PV.sk, scalBin, scalUn, intBin, opLoad, natOf, opConvert, opField, cellsP, oneP, Value.oneCell', opStore, toIV, scalT, scalA, scalC, boxesA, boxesC, zipB_none, zipB_mx, isZ, opZip, zeroP, opAppendZ, opMakeMap, opLookup, mboxB, opUpdate, ↓reduceIte, Nat.reduceSub, Nat.reduceEqDiff, Nat.reduceAdd, Nat.reduceMul, Nat.reduceLT, Nat.reduceLeDiff, Int.reduceToNat, Int.reduceLE, Int.reduceLT, Int.reduceNeg, reduceCtorEq, zzL, if_true, if_false, List.length_map, rn, nt] <;> rfl)); apply Exists.intro; apply And.intro; (focus (first | exact hix | exact ii1))) | refine ⟨(by show drawK _ _ = true; kernel_rfl : drawX _ _ _), ?_⟩ | exact (by show drawK _ _ = true; kernel_rfl : drawX _ _ _) | simp -dsimp (maxSteps := 20000000) (disch := omega) only [simx, zzC, zzB, tys, ite_self, opnL, callB, callX, readsB, stepOp, nilCmp, ofVal, opBuiltin, opLen, PV.sk, scalBin, scalUn, intBin, opLoad, natOf, opConvert, opField, cellsP, oneP, Value.oneCell', opStore, toIV, scalT, scalA, scalC, boxesA, boxesC, zipB_none, zipB_mx, isZ, opZip, zeroP, opAppendZ, opMakeMap, opLookup, mboxB, opUpdate, ↓reduceIte, Nat.reduceSub, Nat.reduceEqDiff, Nat.reduceAdd, Nat.reduceMul, Nat.reduceLT, Nat.reduceLeDiff, Int.reduceToNat, Int.reduceLE, Int.reduceLT, Int.reduceNeg, reduceCtorEq, gos, Int.reduceAdd, Int.reduceSub, Int.reduceMul, Int.reduceEq, hT, hp1, z0, List.length_map, rn, nt, ln, nC])
        refine X_dopc rfl ?_
        repeat (first | refine ⟨(by show drawK _ _ = true; kernel_rfl : drawX _ _ _), ?_⟩ | exact (by show drawK _ _ = true; kernel_rfl : drawX _ _ _) | simp -dsimp (maxSteps := 20000000) (disch := omega) only [simx, zzC, zzB, tys, ite_self, opnL, callB, callX, readsB, stepOp, nilCmp, ofVal, opBuiltin, opLen, PV.sk, scalBin, scalUn, intBin, opLoad, natOf, opConvert, opField, cellsP, oneP, Value.oneCell', opStore, toIV, scalT, scalA, scalC, boxesA, boxesC, zipB_none, zipB_mx, isZ, opZip, zeroP, opAppendZ, opMakeMap, opLookup, mboxB, opUpdate, ↓reduceIte, Nat.reduceSub, Nat.reduceEqDiff, Nat.reduceAdd, Nat.reduceMul, Nat.reduceLT, Nat.reduceLeDiff, Int.reduceToNat, Int.reduceLE, Int.reduceLT, Int.reduceNeg, reduceCtorEq, gos, Int.reduceAdd, Int.reduceSub, Int.reduceMul, Int.reduceEq, j4])
        refine X_dopn ((900, i) :: base) rfl ?_
        repeat (first | refine ⟨(by show drawK _ _ = true; kernel_rfl : drawX _ _ _), ?_⟩ | exact (by show drawK _ _ = true; kernel_rfl : drawX _ _ _) | simp -dsimp (maxSteps := 20000000) (disch := omega) only [simx, zzC, zzB, tys, ite_self, opnL, callB, callX, readsB, stepOp, nilCmp, ofVal, opBuiltin, opLen, PV.sk, scalBin, scalUn, intBin, opLoad, natOf, opConvert, opField, cellsP, oneP, Value.oneCell', opStore, toIV, scalT, scalA, scalC, boxesA, boxesC, zipB_none, zipB_mx, isZ, opZip, zeroP, opAppendZ, opMakeMap, opLookup, mboxB, opUpdate, ↓reduceIte, Nat.reduceSub, Nat.reduceEqDiff, Nat.reduceAdd, Nat.reduceMul, Nat.reduceLT, Nat.reduceLeDiff, Int.reduceToNat, Int.reduceLE, Int.reduceLT, Int.reduceNeg, reduceCtorEq, gos, Int.reduceAdd, Int.reduceSub, Int.reduceMul, Int.reduceEq])
        refine X_dappend_own (z := 1) (cs := XX.map iu) 22 [.int .u64 0] [iu 1] (by simp only [tys]) (by simp only [tys]) rfl (by decide) (by simp [Heap.put_at]) (by simp [tl]) (by simp [tl]) (by simp [Heap.put_at]; rfl) rfl (by simp only [tys]; omega) (by rw [mx_len]; omega) ?_
        repeat (first | refine ⟨(by show drawK _ _ = true; kernel_rfl : drawX _ _ _), ?_⟩ | exact (by show drawK _ _ = true; kernel_rfl : drawX _ _ _) | simp -dsimp (maxSteps := 20000000) (disch := omega) only [simx, zzC, zzB, tys, ite_self, opnL, callB, callX, readsB, stepOp, nilCmp, ofVal, opBuiltin, opLen, PV.sk, scalBin, scalUn, intBin, opLoad, natOf, opConvert, opField, cellsP, oneP, Value.oneCell', opStore, toIV, scalT, scalA, scalC, boxesA, boxesC, zipB_none, zipB_mx, isZ, opZip, zeroP, opAppendZ, opMakeMap, opLookup, mboxB, opUpdate, ↓reduceIte, Nat.reduceSub, Nat.reduceEqDiff, Nat.reduceAdd, Nat.reduceMul, Nat.reduceLT, Nat.reduceLeDiff, Int.reduceToNat, Int.reduceLE, Int.reduceLT, Int.reduceNeg, reduceCtorEq, gos, Int.reduceAdd, Int.reduceSub, Int.reduceMul, Int.reduceEq, List.length_append, hL, lt, ld, ilt, ile, rowP_succ, List.length_map, hr, I.ql, I.vl, I.rl])
        refine X_dopc rfl ?_
        repeat (first | refine ⟨(by show drawK _ _ = true; kernel_rfl : drawX _ _ _), ?_⟩ | exact (by show drawK _ _ = true; kernel_rfl : drawX _ _ _) | simp -dsimp (maxSteps := 20000000) (disch := omega) only [simx, zzC, zzB, tys, ite_self, opnL, callB, callX, readsB, stepOp, nilCmp, ofVal, opBuiltin, opLen, PV.sk, scalBin, scalUn, intBin, opLoad, natOf, opConvert, opField, cellsP, oneP, Value.oneCell', opStore, toIV, scalT, scalA, scalC, boxesA, boxesC, zipB_none, zipB_mx, isZ, opZip, zeroP, opAppendZ, opMakeMap, opLookup, mboxB, opUpdate, ↓reduceIte, Nat.reduceSub, Nat.reduceEqDiff, Nat.reduceAdd, Nat.reduceMul, Nat.reduceLT, Nat.reduceLeDiff, Int.reduceToNat, Int.reduceLE, Int.reduceLT, Int.reduceNeg, reduceCtorEq, gos, Int.reduceAdd, Int.reduceSub, Int.reduceMul, Int.reduceEq, j5, List.length_map, rn, nt])
        refine X_dopc rfl ?_
        repeat (first | refine ⟨(by show drawK _ _ = true; kernel_rfl : drawX _ _ _), ?_⟩ | exact (by show drawK _ _ = true; kernel_rfl : drawX _ _ _) | simp -dsimp (maxSteps := 20000000) (disch := omega) only [simx, zzC, zzB, tys, ite_self, opnL, callB, callX, readsB, stepOp, nilCmp, ofVal, opBuiltin, opLen, PV.sk, scalBin, scalUn, intBin, opLoad, natOf, opConvert, opField, cellsP, oneP, Value.oneCell', opStore, toIV, scalT, scalA, scalC, boxesA, boxesC, zipB_none, zipB_mx, isZ, opZip, zeroP, opAppendZ, opMakeMap, opLookup, mboxB, opUpdate, ↓reduceIte, Nat.reduceSub, Nat.reduceEqDiff, Nat.reduceAdd, Nat.reduceMul, Nat.reduceLT, Nat.reduceLeDiff, Int.reduceToNat, Int.reduceLE, Int.reduceLT, Int.reduceNeg, reduceCtorEq, gos, Int.reduceAdd, Int.reduceSub, Int.reduceMul, Int.reduceEq])
        refine X_dappend_own (z := 1) (cs := T.rows.map ii) 3 [.int .i64 0] [ii i] (by simp only [tys]) (by simp only [tys]) rfl (by decide) (by simp [Heap.put_at]; exact hR) (by simp [hr, I.ql, I.vl, I.rl]) (by simp [hr, I.ql, I.vl, I.rl]) (by simp [Heap.put_at]; rfl) rfl (by simp only [tys]; omega) (by rw [mx_len]; omega) ?_
        repeat (first | refine ⟨(by show drawK _ _ = true; kernel_rfl : drawX _ _ _), ?_⟩ | exact (by show drawK _ _ = true; kernel_rfl : drawX _ _ _) | simp -dsimp (maxSteps := 20000000) (disch := omega) only [simx, zzC, zzB, tys, ite_self, opnL, callB, callX, readsB, stepOp, nilCmp, ofVal, opBuiltin, opLen, PV.sk, scalBin, scalUn, intBin, opLoad, natOf, opConvert, opField, cellsP, oneP, Value.oneCell', opStore, toIV, scalT, scalA, scalC, boxesA, boxesC, zipB_none, zipB_mx, isZ, opZip, zeroP, opAppendZ, opMakeMap, opLookup, mboxB, opUpdate, ↓reduceIte, Nat.reduceSub, Nat.reduceEqDiff, Nat.reduceAdd, Nat.reduceMul, Nat.reduceLT, Nat.reduceLeDiff, Int.reduceToNat, Int.reduceLE, Int.reduceLT, Int.reduceNeg, reduceCtorEq, gos, Int.reduceAdd, Int.reduceSub, Int.reduceMul, Int.reduceEq, hT, rowP_succ, List.length_map, hr, I.ql, I.vl, I.rl])
        refine X_dopc rfl ?_
        repeat (first | refine ⟨(by show drawK _ _ = true; kernel_rfl : drawX _ _ _), ?_⟩ | exact (by show drawK _ _ = true; kernel_rfl : drawX _ _ _) | simp -dsimp (maxSteps := 20000000) (disch := omega) only [simx, zzC, zzB, tys, ite_self, opnL, callB, callX, readsB, stepOp, nilCmp, ofVal, opBuiltin, opLen, PV.sk, scalBin, scalUn, intBin, opLoad, natOf, opConvert, opField, cellsP, oneP, Value.oneCell', opStore, toIV, scalT, scalA, scalC, boxesA, boxesC, zipB_none, zipB_mx, isZ, opZip, zeroP, opAppendZ, opMakeMap, opLookup, mboxB, opUpdate, ↓reduceIte, Nat.reduceSub, Nat.reduceEqDiff, Nat.reduceAdd, Nat.reduceMul, Nat.reduceLT, Nat.reduceLeDiff, Int.reduceToNat, Int.reduceLE, Int.reduceLT, Int.reduceNeg, reduceCtorEq, gos, Int.reduceAdd, Int.reduceSub, Int.reduceMul, Int.reduceEq, j6, List.length_map, rn, nt])
        refine X_dopc rfl ?_
        repeat (first | refine ⟨(by show drawK _ _ = true; kernel_rfl : drawX _ _ _), ?_⟩ | exact (by show drawK _ _ = true; kernel_rfl : drawX _ _ _) | simp -dsimp (maxSteps := 20000000) (disch := omega) only [simx, zzC, zzB, tys, ite_self, opnL, callB, callX, readsB, stepOp, nilCmp, ofVal, opBuiltin, opLen, PV.sk, scalBin, scalUn, intBin, opLoad, natOf, opConvert, opField, cellsP, oneP, Value.oneCell', opStore, toIV, scalT, scalA, scalC, boxesA, boxesC, zipB_none, zipB_mx, isZ, opZip, zeroP, opAppendZ, opMakeMap, opLookup, mboxB, opUpdate, ↓reduceIte, Nat.reduceSub, Nat.reduceEqDiff, Nat.reduceAdd, Nat.reduceMul, Nat.reduceLT, Nat.reduceLeDiff, Int.reduceToNat, Int.reduceLE, Int.reduceLT, Int.reduceNeg, reduceCtorEq, gos, Int.reduceAdd, Int.reduceSub, Int.reduceMul, Int.reduceEq])
        refine X_dappend_own (z := 1) (cs := T.cols.map ii) 3 [.int .i64 0] [ii n] (by simp only [tys]) (by simp only [tys]) rfl (by decide) (by simp [Heap.put_at]; exact hQ) (by simp [hr, I.ql, I.vl, I.rl]) (by simp [hr, I.ql, I.vl, I.rl]) (by simp [Heap.put_at]; rfl) rfl (by simp only [tys]; omega) (by rw [mx_len]; omega) ?_
        repeat (first | refine ⟨(by show drawK _ _ = true; kernel_rfl : drawX _ _ _), ?_⟩ | exact (by show drawK _ _ = true; kernel_rfl : drawX _ _ _) | simp -dsimp (maxSteps := 20000000) (disch := omega) only [simx, zzC, zzB, tys, ite_self, opnL, callB, callX, readsB, stepOp, nilCmp, ofVal, opBuiltin, opLen, PV.sk, scalBin, scalUn, intBin, opLoad, natOf, opConvert, opField, cellsP, oneP, Value.oneCell', opStore, toIV, scalT, scalA, scalC, boxesA, boxesC, zipB_none, zipB_mx, isZ, opZip, zeroP, opAppendZ, opMakeMap, opLookup, mboxB, opUpdate, ↓reduceIte, Nat.reduceSub, Nat.reduceEqDiff, Nat.reduceAdd, Nat.reduceMul, Nat.reduceLT, Nat.reduceLeDiff, Int.reduceToNat, Int.reduceLE, Int.reduceLT, Int.reduceNeg, reduceCtorEq, gos, Int.reduceAdd, Int.reduceSub, Int.reduceMul, Int.reduceEq, hT, rowP_succ, List.length_map, hr, I.ql, I.vl, I.rl])
        refine X_dopc rfl ?_
        repeat (first | refine ⟨(by show drawK _ _ = true; kernel_rfl : drawX _ _ _), ?_⟩ | exact (by show drawK _ _ = true; kernel_rfl : drawX _ _ _) | simp -dsimp (maxSteps := 20000000) (disch := omega) only [simx, zzC, zzB, tys, ite_self, opnL, callB, callX, readsB, stepOp, nilCmp, ofVal, opBuiltin, opLen, PV.sk, scalBin, scalUn, intBin, opLoad, natOf, opConvert, opField, cellsP, oneP, Value.oneCell', opStore, toIV, scalT, scalA, scalC, boxesA, boxesC, zipB_none, zipB_mx, isZ, opZip, zeroP, opAppendZ, opMakeMap, opLookup, mboxB, opUpdate, ↓reduceIte, Nat.reduceSub, Nat.reduceEqDiff, Nat.reduceAdd, Nat.reduceMul, Nat.reduceLT, Nat.reduceLeDiff, Int.reduceToNat, Int.reduceLE, Int.reduceLT, Int.reduceNeg, reduceCtorEq, gos, Int.reduceAdd, Int.reduceSub, Int.reduceMul, Int.reduceEq, j7, List.length_map, rn, nt])
        refine X_dopc rfl ?_
        repeat (first | refine ⟨(by show drawK _ _ = true; kernel_rfl : drawX _ _ _), ?_⟩ | exact (by show drawK _ _ = true; kernel_rfl : drawX _ _ _) | simp -dsimp (maxSteps := 20000000) (disch := omega) only [simx, zzC, zzB, tys, ite_self, opnL, callB, callX, readsB, stepOp, nilCmp, ofVal, opBuiltin, opLen, PV.sk, scalBin, scalUn, intBin, opLoad, natOf, opConvert, opField, cellsP, oneP, Value.oneCell', opStore, toIV, scalT, scalA, scalC, boxesA, boxesC, zipB_none, zipB_mx, isZ, opZip, zeroP, opAppendZ, opMakeMap, opLookup, mboxB, opUpdate, ↓reduceIte, Nat.reduceSub, Nat.reduceEqDiff, Nat.reduceAdd, Nat.reduceMul, Nat.reduceLT, Nat.reduceLeDiff, Int.reduceToNat, Int.reduceLE, Int.reduceLT, Int.reduceNeg, reduceCtorEq, gos, Int.reduceAdd, Int.reduceSub, Int.reduceMul, Int.reduceEq])
        refine X_dappend_own (z := 1) (cs := T.us.map (lv C)) 23 [.slice none 0 0] [lv C RR] (by simp only [tys]) (by simp only [tys]) rfl (by decide) (by simp [Heap.put_at]; exact hU) (by simp [hr, I.ql, I.vl, I.rl]) (by simp [hr, I.ql, I.vl, I.rl]) (by simp [Heap.put_at]; rfl) rfl (by simp only [tys]; omega) (by rw [mx_len]; omega) ?_
        repeat (first | refine ⟨(by show drawK _ _ = true; kernel_rfl : drawX _ _ _), ?_⟩ | exact (by show drawK _ _ = true; kernel_rfl : drawX _ _ _) | simp -dsimp (maxSteps := 20000000) (disch := omega) only [simx, zzC, zzB, tys, ite_self, opnL, callB, callX, readsB, stepOp, nilCmp, ofVal, opBuiltin, opLen, PV.sk, scalBin, scalUn, intBin, opLoad, natOf, opConvert, opField, cellsP, oneP, Value.oneCell', opStore, toIV, scalT, scalA, scalC, boxesA, boxesC, zipB_none, zipB_mx, isZ, opZip, zeroP, opAppendZ, opMakeMap, opLookup, mboxB, opUpdate, ↓reduceIte, Nat.reduceSub, Nat.reduceEqDiff, Nat.reduceAdd, Nat.reduceMul, Nat.reduceLT, Nat.reduceLeDiff, Int.reduceToNat, Int.reduceLE, Int.reduceLT, Int.reduceNeg, reduceCtorEq, gos, Int.reduceAdd, Int.reduceSub, Int.reduceMul, Int.reduceEq, hT, rowP_succ, List.length_map, hr, I.ql, I.vl, I.rl])
        refine X_dopc rfl ?_
        repeat (first | refine ⟨(by show drawK _ _ = true; kernel_rfl : drawX _ _ _), ?_⟩ | exact (by show drawK _ _ = true; kernel_rfl : drawX _ _ _) | simp -dsimp (maxSteps := 20000000) (disch := omega) only [simx, zzC, zzB, tys, ite_self, opnL, callB, callX, readsB, stepOp, nilCmp, ofVal, opBuiltin, opLen, PV.sk, scalBin, scalUn, intBin, opLoad, natOf, opConvert, opField, cellsP, oneP, Value.oneCell', opStore, toIV, scalT, scalA, scalC, boxesA, boxesC, zipB_none, zipB_mx, isZ, opZip, zeroP, opAppendZ, opMakeMap, opLookup, mboxB, opUpdate, ↓reduceIte, Nat.reduceSub, Nat.reduceEqDiff, Nat.reduceAdd, Nat.reduceMul, Nat.reduceLT, Nat.reduceLeDiff, Int.reduceToNat, Int.reduceLE, Int.reduceLT, Int.reduceNeg, reduceCtorEq, gos, Int.reduceAdd, Int.reduceSub, Int.reduceMul, Int.reduceEq, j8, List.length_map, rn, nt])
        refine X_dopc rfl ?_
        repeat (first | refine ⟨(by show drawK _ _ = true; kernel_rfl : drawX _ _ _), ?_⟩ | exact (by show drawK _ _ = true; kernel_rfl : drawX _ _ _) | simp -dsimp (maxSteps := 20000000) (disch := omega) only [simx, zzC, zzB, tys, ite_self, opnL, callB, callX, readsB, stepOp, nilCmp, ofVal, opBuiltin, opLen, PV.sk, scalBin, scalUn, intBin, opLoad, natOf, opConvert, opField, cellsP, oneP, Value.oneCell', opStore, toIV, scalT, scalA, scalC, boxesA, boxesC, zipB_none, zipB_mx, isZ, opZip, zeroP, opAppendZ, opMakeMap, opLookup, mboxB, opUpdate, ↓reduceIte, Nat.reduceSub, Nat.reduceEqDiff, Nat.reduceAdd, Nat.reduceMul, Nat.reduceLT, Nat.reduceLeDiff, Int.reduceToNat, Int.reduceLE, Int.reduceLT, Int.reduceNeg, reduceCtorEq, gos, Int.reduceAdd, Int.reduceSub, Int.reduceMul, Int.reduceEq])
        refine X_dappend_own (z := 1) (cs := T.vs.map iu) 22 [.int .u64 0] [iu (finvC P a)] (by simp only [tys]) (by simp only [tys]) rfl (by decide) (by simp [Heap.put_at]; exact hV) (by simp [hr, I.ql, I.vl, I.rl]) (by simp [hr, I.ql, I.vl, I.rl]) (by simp [Heap.put_at]; rfl) rfl (by simp only [tys]; omega) (by rw [mx_len]; omega) ?_
        repeat (first | refine ⟨(by show drawK _ _ = true; kernel_rfl : drawX _ _ _), ?_⟩ | exact (by show drawK _ _ = true; kernel_rfl : drawX _ _ _) | simp -dsimp (maxSteps := 20000000) (disch := omega) only [simx, zzC, zzB, tys, ite_self, opnL, callB, callX, readsB, stepOp, nilCmp, ofVal, opBuiltin, opLen, PV.sk, scalBin, scalUn, intBin, opLoad, natOf, opConvert, opField, cellsP, oneP, Value.oneCell', opStore, toIV, scalT, scalA, scalC, boxesA, boxesC, zipB_none, zipB_mx, isZ, opZip, zeroP, opAppendZ, opMakeMap, opLookup, mboxB, opUpdate, ↓reduceIte, Nat.reduceSub, Nat.reduceEqDiff, Nat.reduceAdd, Nat.reduceMul, Nat.reduceLT, Nat.reduceLeDiff, Int.reduceToNat, Int.reduceLE, Int.reduceLT, Int.reduceNeg, reduceCtorEq, gos, Int.reduceAdd, Int.reduceSub, Int.reduceMul, Int.reduceEq, hT, rowP_succ, List.length_map, hr, I.ql, I.vl, I.rl])
        repeat (first | refine X_opc rfl ?_ | refine X_dopc rfl ?_ | refine ⟨(by show drawK _ _ = true; kernel_rfl : drawX _ _ _), ?_⟩ | exact (by show drawK _ _ = true; kernel_rfl : drawX _ _ _) | simp -dsimp (maxSteps := 20000000) (disch := omega) only [simx, zzC, zzB, tys, ite_self, opnL, callB, callX, readsB, stepOp, nilCmp, ofVal, opBuiltin, opLen, PV.sk, scalBin, scalUn, intBin, opLoad, natOf, opConvert, opField, cellsP, oneP, Value.oneCell', opStore, toIV, scalT, scalA, scalC, boxesA, boxesC, zipB_none, zipB_mx, isZ, opZip, zeroP, opAppendZ, opMakeMap, opLookup, mboxB, opUpdate, ↓reduceIte, Nat.reduceSub, Nat.reduceEqDiff, Nat.reduceAdd, Nat.reduceMul, Nat.reduceLT, Nat.reduceLeDiff, Int.reduceToNat, Int.reduceLE, Int.reduceLT, Int.reduceNeg, reduceCtorEq, zzR, gos, Int.reduceAdd, Int.reduceSub, Int.reduceMul, Int.reduceEq])
        rw [← hHH]
        refine ⟨?_, fun b hb => ?_⟩
        · funext c
          simp (maxSteps := 20000000) only [Heap.drop_at, rowH_app, Heap.put_at, Heap.none_at, List.mem_cons, List.not_mem_nil, or_false]
          by_cases e0 : c = (3, 2) :: bT
          · subst e0; simp [j1, j2, j3, j4, j5, j6, j7, j8, rowP_zero, rowP_succ, hR, hQ, hU, hV, hNi, clmP_succ, tl, hr, I.ql, I.vl, I.rl]
          by_cases e1 : c = (10, 8) :: base
          · subst e1; simp [j1, j2, j3, j4, j5, j6, j7, j8, rowP_zero, rowP_succ, hR, hQ, hU, hV, hNi, clmP_succ, tl, hr, I.ql, I.vl, I.rl]
          by_cases e2 : c = (1, 1) :: base
          · subst e2; simp [j1, j2, j3, j4, j5, j6, j7, j8, rowP_zero, rowP_succ, hR, hQ, hU, hV, hNi, clmP_succ, tl, hr, I.ql, I.vl, I.rl]
          by_cases e3 : c = (8, 2) :: base
          · subst e3; simp [j1, j2, j3, j4, j5, j6, j7, j8, rowP_zero, rowP_succ, hR, hQ, hU, hV, hNi, clmP_succ, tl, hr, I.ql, I.vl, I.rl]
          by_cases e4 : c = (10, 7) :: base
          · subst e4; simp [j1, j2, j3, j4, j5, j6, j7, j8, rowP_zero, rowP_succ, hR, hQ, hU, hV, hNi, clmP_succ, tl, hr, I.ql, I.vl, I.rl]
          by_cases e5 : c = (15, 7) :: base
          · subst e5; simp [j1, j2, j3, j4, j5, j6, j7, j8, rowP_zero, rowP_succ, hR, hQ, hU, hV, hNi, clmP_succ, tl, hr, I.ql, I.vl, I.rl]
          by_cases e6 : c = (16, 10) :: base
          · subst e6; simp [j1, j2, j3, j4, j5, j6, j7, j8, rowP_zero, rowP_succ, hR, hQ, hU, hV, hNi, clmP_succ, tl, hr, I.ql, I.vl, I.rl]
          by_cases e7 : c = (16, 18) :: base
          · subst e7; simp [j1, j2, j3, j4, j5, j6, j7, j8, rowP_zero, rowP_succ, hR, hQ, hU, hV, hNi, clmP_succ, tl, hr, I.ql, I.vl, I.rl]
          by_cases e8 : c = (16, 26) :: base
          · subst e8; simp [j1, j2, j3, j4, j5, j6, j7, j8, rowP_zero, rowP_succ, hR, hQ, hU, hV, hNi, clmP_succ, tl, hr, I.ql, I.vl, I.rl]
          by_cases e9 : c = (16, 33) :: base
          · subst e9; simp [j1, j2, j3, j4, j5, j6, j7, j8, rowP_zero, rowP_succ, hR, hQ, hU, hV, hNi, clmP_succ, tl, hr, I.ql, I.vl, I.rl]
          by_cases e10 : c = (16, 11) :: base
          · subst e10; simp [j1, j2, j3, j4, j5, j6, j7, j8, rowP_zero, rowP_succ, hR, hQ, hU, hV, hNi, clmP_succ, tl, hr, I.ql, I.vl, I.rl]
          by_cases e11 : c = (16, 19) :: base
          · subst e11; simp [j1, j2, j3, j4, j5, j6, j7, j8, rowP_zero, rowP_succ, hR, hQ, hU, hV, hNi, clmP_succ, tl, hr, I.ql, I.vl, I.rl]
          by_cases e12 : c = (16, 27) :: base
          · subst e12; simp [j1, j2, j3, j4, j5, j6, j7, j8, rowP_zero, rowP_succ, hR, hQ, hU, hV, hNi, clmP_succ, tl, hr, I.ql, I.vl, I.rl]
          by_cases e13 : c = (16, 34) :: base
          · subst e13; simp [j1, j2, j3, j4, j5, j6, j7, j8, rowP_zero, rowP_succ, hR, hQ, hU, hV, hNi, clmP_succ, tl, hr, I.ql, I.vl, I.rl]
          by_cases e14 : c = (900, i) :: base
          · subst e14; simp [j1, j2, j3, j4, j5, j6, j7, j8, rowP_zero, rowP_succ, hR, hQ, hU, hV, hNi, clmP_succ, tl, hr, I.ql, I.vl, I.rl]
          simp [e0, e1, e2, e3, e4, e5, e6, e7, e8, e9, e10, e11, e12, e13, e14, j1, j2, j3, j4, j5, j6, j7, j8, rowP_zero, rowP_succ, hR, hQ, hU, hV, hNi, clmP_succ, tl, hr, I.ql, I.vl, I.rl]
        · have n0 := nv b hb
          have n1 := nvL b hb
          clear nv nvL
          simp only [List.mem_cons, List.not_mem_nil, or_false] at hb
          rcases hb with rfl | rfl | rfl | rfl | rfl | rfl | rfl | rfl
          all_goals (repeat (first | exact n0 | refine noVar_row ?_ | refine noVar_var ?_ (by simp [refsL, refsP, refsL_append, mem_refs_rowP, mem_refs_clmP, n1])))
end Go.Proofs.Ythnfphgjfpcpbaa.TM
