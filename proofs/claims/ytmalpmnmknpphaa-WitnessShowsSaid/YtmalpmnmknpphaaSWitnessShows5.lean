/- What is proved of functions, and plain facts, part 5. Conditions: none. -/
import Derived.Test.YtmalpmnmknpphaaSWitnessShows4
set_option linter.defProp false
set_option linter.unusedSectionVars false
set_option linter.unusedSimpArgs false
set_option linter.unusedVariables false
namespace Go.Proofs.Ytmalpmnmknpphaa.TM
open Go Go.RowKit
attribute [local irreducible] K W WOps Effs Xg Xo Xr Xdg Xdo Xdr Xif CallsP CallR
theorem side_walk (n : Int) : CallsP Try.prog 65 [i64 n] (bl (SideB n)) := by
  by_cases c1 : 1 ≤ n
  · by_cases c2 : n ≤ 64
    · rw [show SideB n = true by simp [SideB, c1, c2]]
      refine X_startP (n := 9) (m := 1) (rs := [.tmp 2]) Try.func65 rfl rfl rfl rfl (by decide) fun base => ?_
      repeat (first | refine X_opc rfl ?_ | refine X_dopc rfl ?_ | refine ⟨(by show drawK _ _ = true; kernel_rfl : drawX _ _ _), ?_⟩ | exact (by show drawK _ _ = true; kernel_rfl : drawX _ _ _) | simp -dsimp (maxSteps := 20000000) (disch := omega) only [simx, zzC, zzB, tys, ite_self, opnL, callB, callX, readsB, stepOp, nilCmp, ofVal, opBuiltin, opLen, PV.sk, scalBin, scalUn, intBin, opLoad, natOf, opConvert, opField, cellsP, oneP, Value.oneCell', opStore, toIV, scalT, scalA, scalC, boxesA, boxesC, zipB_none, zipB_mx, isZ, opZip, zeroP, opAppendZ, opMakeMap, opLookup, mboxB, opUpdate, ↓reduceIte, Nat.reduceSub, Nat.reduceEqDiff, Nat.reduceAdd, Nat.reduceMul, Nat.reduceLT, Nat.reduceLeDiff, Int.reduceToNat, Int.reduceLE, Int.reduceLT, Int.reduceNeg, reduceCtorEq, zzR, gos, Int.reduceAdd, Int.reduceSub, Int.reduceMul, Int.reduceEq])
    · rw [show SideB n = false by simp [SideB, c2]]
      refine X_startP (n := 9) (m := 1) (rs := [.tmp 2]) Try.func65 rfl rfl rfl rfl (by decide) fun base => ?_
      repeat (first | refine X_opc rfl ?_ | refine X_dopc rfl ?_ | refine ⟨(by show drawK _ _ = true; kernel_rfl : drawX _ _ _), ?_⟩ | exact (by show drawK _ _ = true; kernel_rfl : drawX _ _ _) | simp -dsimp (maxSteps := 20000000) (disch := omega) only [simx, zzC, zzB, tys, ite_self, opnL, callB, callX, readsB, stepOp, nilCmp, ofVal, opBuiltin, opLen, PV.sk, scalBin, scalUn, intBin, opLoad, natOf, opConvert, opField, cellsP, oneP, Value.oneCell', opStore, toIV, scalT, scalA, scalC, boxesA, boxesC, zipB_none, zipB_mx, isZ, opZip, zeroP, opAppendZ, opMakeMap, opLookup, mboxB, opUpdate, ↓reduceIte, Nat.reduceSub, Nat.reduceEqDiff, Nat.reduceAdd, Nat.reduceMul, Nat.reduceLT, Nat.reduceLeDiff, Int.reduceToNat, Int.reduceLE, Int.reduceLT, Int.reduceNeg, reduceCtorEq, zzR, gos, Int.reduceAdd, Int.reduceSub, Int.reduceMul, Int.reduceEq])
  · rw [show SideB n = false by simp [SideB, c1]]
    refine X_startP (n := 9) (m := 1) (rs := [.tmp 2]) Try.func65 rfl rfl rfl rfl (by decide) fun base => ?_
    repeat (first | refine X_opc rfl ?_ | refine X_dopc rfl ?_ | refine ⟨(by show drawK _ _ = true; kernel_rfl : drawX _ _ _), ?_⟩ | exact (by show drawK _ _ = true; kernel_rfl : drawX _ _ _) | simp -dsimp (maxSteps := 20000000) (disch := omega) only [simx, zzC, zzB, tys, ite_self, opnL, callB, callX, readsB, stepOp, nilCmp, ofVal, opBuiltin, opLen, PV.sk, scalBin, scalUn, intBin, opLoad, natOf, opConvert, opField, cellsP, oneP, Value.oneCell', opStore, toIV, scalT, scalA, scalC, boxesA, boxesC, zipB_none, zipB_mx, isZ, opZip, zeroP, opAppendZ, opMakeMap, opLookup, mboxB, opUpdate, ↓reduceIte, Nat.reduceSub, Nat.reduceEqDiff, Nat.reduceAdd, Nat.reduceMul, Nat.reduceLT, Nat.reduceLeDiff, Int.reduceToNat, Int.reduceLE, Int.reduceLT, Int.reduceNeg, reduceCtorEq, zzR, gos, Int.reduceAdd, Int.reduceSub, Int.reduceMul, Int.reduceEq])
theorem mright_walk (p r c : Int) (l : List Int) (hl : l.length ≤ maxLen) : CallsP Try.prog 23 [u64 p, matP r c l] (bl (MatB p r c l)) := by
  have s1 := side_walk r
  have s2 := side_walk c
  have h := has_walk p l hl
  rw [mx_len] at hl
  unfold MatB
  cases h1 : SideB r with
  | false =>
    rw [h1] at s1
    refine X_startP (n := 30) (m := 2) (rs := [.tmp 4]) Try.func23 rfl rfl rfl rfl (by decide) fun base => ?_
    repeat (first | ((first | refine X_call_fn2 rfl (by simp only [tys]) ?_ | refine X_dcall_fn2 rfl (by simp only [tys]) ?_); apply Exists.intro; apply And.intro; (focus (simp -dsimp only [simx, zzC, zzB, tys, ite_self, opnL, callB, callX, readsB, stepOp, nilCmp, ofVal, opBuiltin, opLen, PV.sk, scalBin, scalUn, intBin, opLoad, natOf, opConvert, opField, cellsP, oneP, Value.oneCell', opStore, toIV, scalT, scalA, scalC, boxesA, boxesC, zipB_none, zipB_mx, isZ, opZip, zeroP, opAppendZ, opMakeMap, opLookup, mboxB, opUpdate, ↓reduceIte, Nat.reduceSub, Nat.reduceEqDiff, Nat.reduceAdd, Nat.reduceMul, Nat.reduceLT, Nat.reduceLeDiff, Int.reduceToNat, Int.reduceLE, Int.reduceLT, Int.reduceNeg, reduceCtorEq, zzL, if_true, if_false] <;> rfl)); apply Exists.intro; apply And.intro; (focus (first | exact s1))) | refine X_opc rfl ?_ | refine X_dopc rfl ?_ | refine ⟨(by show drawK _ _ = true; kernel_rfl : drawX _ _ _), ?_⟩ | exact (by show drawK _ _ = true; kernel_rfl : drawX _ _ _) | simp -dsimp (maxSteps := 20000000) (disch := omega) only [simx, zzC, zzB, tys, ite_self, opnL, callB, callX, readsB, stepOp, nilCmp, ofVal, opBuiltin, opLen, PV.sk, scalBin, scalUn, intBin, opLoad, natOf, opConvert, opField, cellsP, oneP, Value.oneCell', opStore, toIV, scalT, scalA, scalC, boxesA, boxesC, zipB_none, zipB_mx, isZ, opZip, zeroP, opAppendZ, opMakeMap, opLookup, mboxB, opUpdate, ↓reduceIte, Nat.reduceSub, Nat.reduceEqDiff, Nat.reduceAdd, Nat.reduceMul, Nat.reduceLT, Nat.reduceLeDiff, Int.reduceToNat, Int.reduceLE, Int.reduceLT, Int.reduceNeg, reduceCtorEq, zzR, gos, Int.reduceAdd, Int.reduceSub, Int.reduceMul, Int.reduceEq])
  | true =>
    rw [h1] at s1
    cases h2 : SideB c with
    | false =>
      rw [h2] at s2
      refine X_startP (n := 30) (m := 2) (rs := [.tmp 4]) Try.func23 rfl rfl rfl rfl (by decide) fun base => ?_
      repeat (first | ((first | refine X_call_fn2 rfl (by simp only [tys]) ?_ | refine X_dcall_fn2 rfl (by simp only [tys]) ?_); apply Exists.intro; apply And.intro; (focus (simp -dsimp only [simx, zzC, zzB, tys, ite_self, opnL, callB, callX, readsB, stepOp, nilCmp, ofVal, opBuiltin, opLen, PV.sk, scalBin, scalUn, intBin, opLoad, natOf, opConvert, opField, cellsP, oneP, Value.oneCell', opStore, toIV, scalT, scalA, scalC, boxesA, boxesC, zipB_none, zipB_mx, isZ, opZip, zeroP, opAppendZ, opMakeMap, opLookup, mboxB, opUpdate, ↓reduceIte, Nat.reduceSub, Nat.reduceEqDiff, Nat.reduceAdd, Nat.reduceMul, Nat.reduceLT, Nat.reduceLeDiff, Int.reduceToNat, Int.reduceLE, Int.reduceLT, Int.reduceNeg, reduceCtorEq, zzL, if_true, if_false] <;> rfl)); apply Exists.intro; apply And.intro; (focus (first | exact s1 | exact s2))) | refine X_opc rfl ?_ | refine X_dopc rfl ?_ | refine ⟨(by show drawK _ _ = true; kernel_rfl : drawX _ _ _), ?_⟩ | exact (by show drawK _ _ = true; kernel_rfl : drawX _ _ _) | simp -dsimp (maxSteps := 20000000) (disch := omega) only [simx, zzC, zzB, tys, ite_self, opnL, callB, callX, readsB, stepOp, nilCmp, ofVal, opBuiltin, opLen, PV.sk, scalBin, scalUn, intBin, opLoad, natOf, opConvert, opField, cellsP, oneP, Value.oneCell', opStore, toIV, scalT, scalA, scalC, boxesA, boxesC, zipB_none, zipB_mx, isZ, opZip, zeroP, opAppendZ, opMakeMap, opLookup, mboxB, opUpdate, ↓reduceIte, Nat.reduceSub, Nat.reduceEqDiff, Nat.reduceAdd, Nat.reduceMul, Nat.reduceLT, Nat.reduceLeDiff, Int.reduceToNat, Int.reduceLE, Int.reduceLT, Int.reduceNeg, reduceCtorEq, zzR, gos, Int.reduceAdd, Int.reduceSub, Int.reduceMul, Int.reduceEq])
    | true =>
      rw [h2] at s2
      rw [side_iff] at h1 h2
      obtain ⟨a1, a2⟩ := h1
      obtain ⟨b1, b2⟩ := h2
      have m := mul_bd (a := r) (b := c) (m := 64) (n := 64) (by omega) (by omega) a2 b2
      have e : IntKind.i64.wrap (r * c) = r * c := iw_of (by omega) (by omega)
      by_cases h3 : (l.length : Int) = r * c
      · rw [decide_eq_true h3]
        refine X_startP (n := 30) (m := 2) (rs := [.tmp 4]) Try.func23 rfl rfl rfl rfl (by decide) fun base => ?_
        repeat (first | ((first | refine X_call_fn2 rfl (by simp only [tys]) ?_ | refine X_dcall_fn2 rfl (by simp only [tys]) ?_); apply Exists.intro; apply And.intro; (focus (simp -dsimp only [simx, zzC, zzB, tys, ite_self, opnL, callB, callX, readsB, stepOp, nilCmp, ofVal, opBuiltin, opLen, PV.sk, scalBin, scalUn, intBin, opLoad, natOf, opConvert, opField, cellsP, oneP, Value.oneCell', opStore, toIV, scalT, scalA, scalC, boxesA, boxesC, zipB_none, zipB_mx, isZ, opZip, zeroP, opAppendZ, opMakeMap, opLookup, mboxB, opUpdate, ↓reduceIte, Nat.reduceSub, Nat.reduceEqDiff, Nat.reduceAdd, Nat.reduceMul, Nat.reduceLT, Nat.reduceLeDiff, Int.reduceToNat, Int.reduceLE, Int.reduceLT, Int.reduceNeg, reduceCtorEq, zzL, if_true, if_false] <;> rfl)); apply Exists.intro; apply And.intro; (focus (first | exact s1 | exact s2 | exact h))) | refine X_opc rfl ?_ | refine X_dopc rfl ?_ | refine ⟨(by show drawK _ _ = true; kernel_rfl : drawX _ _ _), ?_⟩ | exact (by show drawK _ _ = true; kernel_rfl : drawX _ _ _) | simp -dsimp (maxSteps := 20000000) (disch := omega) only [simx, zzC, zzB, tys, ite_self, opnL, callB, callX, readsB, stepOp, nilCmp, ofVal, opBuiltin, opLen, PV.sk, scalBin, scalUn, intBin, opLoad, natOf, opConvert, opField, cellsP, oneP, Value.oneCell', opStore, toIV, scalT, scalA, scalC, boxesA, boxesC, zipB_none, zipB_mx, isZ, opZip, zeroP, opAppendZ, opMakeMap, opLookup, mboxB, opUpdate, ↓reduceIte, Nat.reduceSub, Nat.reduceEqDiff, Nat.reduceAdd, Nat.reduceMul, Nat.reduceLT, Nat.reduceLeDiff, Int.reduceToNat, Int.reduceLE, Int.reduceLT, Int.reduceNeg, reduceCtorEq, zzR, gos, Int.reduceAdd, Int.reduceSub, Int.reduceMul, Int.reduceEq, e])
      · rw [decide_eq_false h3]
        refine X_startP (n := 30) (m := 2) (rs := [.tmp 4]) Try.func23 rfl rfl rfl rfl (by decide) fun base => ?_
        repeat (first | ((first | refine X_call_fn2 rfl (by simp only [tys]) ?_ | refine X_dcall_fn2 rfl (by simp only [tys]) ?_); apply Exists.intro; apply And.intro; (focus (simp -dsimp only [simx, zzC, zzB, tys, ite_self, opnL, callB, callX, readsB, stepOp, nilCmp, ofVal, opBuiltin, opLen, PV.sk, scalBin, scalUn, intBin, opLoad, natOf, opConvert, opField, cellsP, oneP, Value.oneCell', opStore, toIV, scalT, scalA, scalC, boxesA, boxesC, zipB_none, zipB_mx, isZ, opZip, zeroP, opAppendZ, opMakeMap, opLookup, mboxB, opUpdate, ↓reduceIte, Nat.reduceSub, Nat.reduceEqDiff, Nat.reduceAdd, Nat.reduceMul, Nat.reduceLT, Nat.reduceLeDiff, Int.reduceToNat, Int.reduceLE, Int.reduceLT, Int.reduceNeg, reduceCtorEq, zzL, if_true, if_false] <;> rfl)); apply Exists.intro; apply And.intro; (focus (first | exact s1 | exact s2 | exact h))) | refine X_opc rfl ?_ | refine X_dopc rfl ?_ | refine ⟨(by show drawK _ _ = true; kernel_rfl : drawX _ _ _), ?_⟩ | exact (by show drawK _ _ = true; kernel_rfl : drawX _ _ _) | simp -dsimp (maxSteps := 20000000) (disch := omega) only [simx, zzC, zzB, tys, ite_self, opnL, callB, callX, readsB, stepOp, nilCmp, ofVal, opBuiltin, opLen, PV.sk, scalBin, scalUn, intBin, opLoad, natOf, opConvert, opField, cellsP, oneP, Value.oneCell', opStore, toIV, scalT, scalA, scalC, boxesA, boxesC, zipB_none, zipB_mx, isZ, opZip, zeroP, opAppendZ, opMakeMap, opLookup, mboxB, opUpdate, ↓reduceIte, Nat.reduceSub, Nat.reduceEqDiff, Nat.reduceAdd, Nat.reduceMul, Nat.reduceLT, Nat.reduceLeDiff, Int.reduceToNat, Int.reduceLE, Int.reduceLT, Int.reduceNeg, reduceCtorEq, zzR, gos, Int.reduceAdd, Int.reduceSub, Int.reduceMul, Int.reduceEq, e])
end Go.Proofs.Ytmalpmnmknpphaa.TM
namespace Go.Proofs.Ytmalpmnmknpphaa.TM
open Go Go.RowKit
attribute [local irreducible] K W WOps Effs Xg Xo Xr Xdg Xdo Xdr Xif CallsP CallR
theorem row_walk {r c i : Nat} {l : List Int} (hl : l.length = r * c) (hr : r ≤ 64) (hc : c ≤ 64) (hi : i < r) : CallsP Try.prog 104 [matP r c l, i64 i] (lu (rowM c l i)) := by
  have b1 := ic_bd (c := c) hi
  have b2 := rc_bd hr hc
  have rl := rowM_len hl hi
  have m0 : i * c ≤ 4096 := by omega
  have m1 : (i + 1) * c = i * c + c := Nat.succ_mul i c
  have e1 : IntKind.i64.wrap ((i : Int) * (c : Int)) = ((i * c : Nat) : Int) := by rw [← Int.natCast_mul]; exact iw_of (by omega) (by omega)
  have e2 : IntKind.i64.wrap (((i : Int) + 1) * (c : Int)) = ((i * c + c : Nat) : Int) := by
    rw [show ((i : Int) + 1) * (c : Int) = ((i * c + c : Nat) : Int) by rw [← m1]; push_cast; rfl]; exact iw_of (by omega) (by omega)
  have e3 : i * c + c - i * c = c := by omega
  have e4 : ((l.map iu).drop (i * c)).take c = (rowM c l i).map iu := by unfold rowM; rw [List.map_take, List.map_drop]
  have e5 : i * c ≤ i * c + c := by omega
  have e6 : i * c + c ≤ l.length := by omega
  refine X_startP (n := 17) (m := 2) (rs := [.tmp 4]) Try.func104 rfl rfl rfl rfl (by decide) fun base => ?_
  repeat (first | refine X_opc rfl ?_ | refine X_dopc rfl ?_ | refine ⟨(by show drawK _ _ = true; kernel_rfl : drawX _ _ _), ?_⟩ | exact (by show drawK _ _ = true; kernel_rfl : drawX _ _ _) | simp -dsimp (maxSteps := 20000000) (disch := omega) only [simx, zzC, zzB, tys, ite_self, opnL, callB, callX, readsB, stepOp, nilCmp, ofVal, opBuiltin, opLen, PV.sk, scalBin, scalUn, intBin, opLoad, natOf, opConvert, opField, cellsP, oneP, Value.oneCell', opStore, toIV, scalT, scalA, scalC, boxesA, boxesC, zipB_none, zipB_mx, isZ, opZip, zeroP, opAppendZ, opMakeMap, opLookup, mboxB, opUpdate, ↓reduceIte, Nat.reduceSub, Nat.reduceEqDiff, Nat.reduceAdd, Nat.reduceMul, Nat.reduceLT, Nat.reduceLeDiff, Int.reduceToNat, Int.reduceLE, Int.reduceLT, Int.reduceNeg, reduceCtorEq, zzR, gos, Int.reduceAdd, Int.reduceSub, Int.reduceMul, Int.reduceEq, e1, e2, e3, e4, e5, e6, List.length_map, lu, rl])
def timesR (p r c : Int) (l x : List Int) : List Int × Int := if MatB p r c l && (HasB p x && decide ((x.length : Int) = c)) then (timesM p r.toNat c.toNat l x, 0) else ([], 1)
set_option maxHeartbeats 4000000 in
theorem times_walk (p r c : Int) (l x : List Int) (hl : l.length ≤ maxLen) (hx : x.length ≤ maxLen) (wl : W64s l) (wx : W64s x) : CallsP Try.prog 57 [u64 p, matP r c l, lu x] (.tup [lu (timesR p r c l x).1, i64 (timesR p r c l x).2]) := by
  have q1 := mright_walk p r c l hl
  have q2 := has_walk p x hx
  unfold timesR
  cases h1 : MatB p r c l with
  | false =>
    rw [h1] at q1
    refine X_startP (n := 49) (m := 3) (rs := [.tmp 6, .tmp 7]) Try.func57 rfl rfl rfl rfl (by decide) fun base => ?_
    repeat (first | ((first | refine X_call_fn2 rfl (by simp only [tys]) ?_ | refine X_dcall_fn2 rfl (by simp only [tys]) ?_); apply Exists.intro; apply And.intro; (focus (simp -dsimp only [simx, zzC, zzB, tys, ite_self, opnL, callB, callX, readsB, stepOp, nilCmp, ofVal, opBuiltin, opLen, PV.sk, scalBin, scalUn, intBin, opLoad, natOf, opConvert, opField, cellsP, oneP, Value.oneCell', opStore, toIV, scalT, scalA, scalC, boxesA, boxesC, zipB_none, zipB_mx, isZ, opZip, zeroP, opAppendZ, opMakeMap, opLookup, mboxB, opUpdate, ↓reduceIte, Nat.reduceSub, Nat.reduceEqDiff, Nat.reduceAdd, Nat.reduceMul, Nat.reduceLT, Nat.reduceLeDiff, Int.reduceToNat, Int.reduceLE, Int.reduceLT, Int.reduceNeg, reduceCtorEq, zzL, if_true, if_false] <;> rfl)); apply Exists.intro; apply And.intro; (focus (first | exact q1))) | refine X_opc rfl ?_ | refine X_dopc rfl ?_ | refine ⟨(by show drawK _ _ = true; kernel_rfl : drawX _ _ _), ?_⟩ | exact (by show drawK _ _ = true; kernel_rfl : drawX _ _ _) | simp -dsimp (maxSteps := 20000000) (disch := omega) only [simx, zzC, zzB, tys, ite_self, opnL, callB, callX, readsB, stepOp, nilCmp, ofVal, opBuiltin, opLen, PV.sk, scalBin, scalUn, intBin, opLoad, natOf, opConvert, opField, cellsP, oneP, Value.oneCell', opStore, toIV, scalT, scalA, scalC, boxesA, boxesC, zipB_none, zipB_mx, isZ, opZip, zeroP, opAppendZ, opMakeMap, opLookup, mboxB, opUpdate, ↓reduceIte, Nat.reduceSub, Nat.reduceEqDiff, Nat.reduceAdd, Nat.reduceMul, Nat.reduceLT, Nat.reduceLeDiff, Int.reduceToNat, Int.reduceLE, Int.reduceLT, Int.reduceNeg, reduceCtorEq, zzR, gos, Int.reduceAdd, Int.reduceSub, Int.reduceMul, Int.reduceEq])
    rfl
  | true =>
    rw [h1] at q1
    cases h2 : HasB p x with
    | false =>
      rw [h2] at q2
      refine X_startP (n := 49) (m := 3) (rs := [.tmp 6, .tmp 7]) Try.func57 rfl rfl rfl rfl (by decide) fun base => ?_
      repeat (first | ((first | refine X_call_fn2 rfl (by simp only [tys]) ?_ | refine X_dcall_fn2 rfl (by simp only [tys]) ?_); apply Exists.intro; apply And.intro; (focus (simp -dsimp only [simx, zzC, zzB, tys, ite_self, opnL, callB, callX, readsB, stepOp, nilCmp, ofVal, opBuiltin, opLen, PV.sk, scalBin, scalUn, intBin, opLoad, natOf, opConvert, opField, cellsP, oneP, Value.oneCell', opStore, toIV, scalT, scalA, scalC, boxesA, boxesC, zipB_none, zipB_mx, isZ, opZip, zeroP, opAppendZ, opMakeMap, opLookup, mboxB, opUpdate, ↓reduceIte, Nat.reduceSub, Nat.reduceEqDiff, Nat.reduceAdd, Nat.reduceMul, Nat.reduceLT, Nat.reduceLeDiff, Int.reduceToNat, Int.reduceLE, Int.reduceLT, Int.reduceNeg, reduceCtorEq, zzL, if_true, if_false] <;> rfl)); apply Exists.intro; apply And.intro; (focus (first | exact q1 | exact q2))) | refine X_opc rfl ?_ | refine X_dopc rfl ?_ | refine ⟨(by show drawK _ _ = true; kernel_rfl : drawX _ _ _), ?_⟩ | exact (by show drawK _ _ = true; kernel_rfl : drawX _ _ _) | simp -dsimp (maxSteps := 20000000) (disch := omega) only [simx, zzC, zzB, tys, ite_self, opnL, callB, callX, readsB, stepOp, nilCmp, ofVal, opBuiltin, opLen, PV.sk, scalBin, scalUn, intBin, opLoad, natOf, opConvert, opField, cellsP, oneP, Value.oneCell', opStore, toIV, scalT, scalA, scalC, boxesA, boxesC, zipB_none, zipB_mx, isZ, opZip, zeroP, opAppendZ, opMakeMap, opLookup, mboxB, opUpdate, ↓reduceIte, Nat.reduceSub, Nat.reduceEqDiff, Nat.reduceAdd, Nat.reduceMul, Nat.reduceLT, Nat.reduceLeDiff, Int.reduceToNat, Int.reduceLE, Int.reduceLT, Int.reduceNeg, reduceCtorEq, zzR, gos, Int.reduceAdd, Int.reduceSub, Int.reduceMul, Int.reduceEq])
      rfl
    | true =>
      rw [h2] at q2
      by_cases h3 : (x.length : Int) = c
      · rw [decide_eq_true h3]
        obtain ⟨R, C, rfl, rfl, M⟩ := mat_of h1
        have h3' : x.length = C := by omega
        simp only [Bool.and_self, if_true, Int.toNat_natCast]
        have r1 := M.r1
        have r2 := M.r2
        have p1 := M.hp.1
        unfold timesM
        refine X_startP (n := 49) (m := 3) (rs := [.tmp 6, .tmp 7]) Try.func57 rfl rfl rfl rfl (by decide) fun base => ?_
        repeat (first | ((first | refine X_call_fn2 rfl (by simp only [tys]) ?_ | refine X_dcall_fn2 rfl (by simp only [tys]) ?_); apply Exists.intro; apply And.intro; (focus (simp -dsimp only [simx, zzC, zzB, tys, ite_self, opnL, callB, callX, readsB, stepOp, nilCmp, ofVal, opBuiltin, opLen, PV.sk, scalBin, scalUn, intBin, opLoad, natOf, opConvert, opField, cellsP, oneP, Value.oneCell', opStore, toIV, scalT, scalA, scalC, boxesA, boxesC, zipB_none, zipB_mx, isZ, opZip, zeroP, opAppendZ, opMakeMap, opLookup, mboxB, opUpdate, ↓reduceIte, Nat.reduceSub, Nat.reduceEqDiff, Nat.reduceAdd, Nat.reduceMul, Nat.reduceLT, Nat.reduceLeDiff, Int.reduceToNat, Int.reduceLE, Int.reduceLT, Int.reduceNeg, reduceCtorEq, zzL, if_true, if_false] <;> rfl)); apply Exists.intro; apply And.intro; (focus (first | exact q1 | exact q2))) | refine X_opc rfl ?_ | refine X_dopc rfl ?_ | refine ⟨(by show drawK _ _ = true; kernel_rfl : drawX _ _ _), ?_⟩ | exact (by show drawK _ _ = true; kernel_rfl : drawX _ _ _) | simp -dsimp (maxSteps := 20000000) (disch := omega) only [simx, zzC, zzB, tys, ite_self, opnL, callB, callX, readsB, stepOp, nilCmp, ofVal, opBuiltin, opLen, PV.sk, scalBin, scalUn, intBin, opLoad, natOf, opConvert, opField, cellsP, oneP, Value.oneCell', opStore, toIV, scalT, scalA, scalC, boxesA, boxesC, zipB_none, zipB_mx, isZ, opZip, zeroP, opAppendZ, opMakeMap, opLookup, mboxB, opUpdate, ↓reduceIte, Nat.reduceSub, Nat.reduceEqDiff, Nat.reduceAdd, Nat.reduceMul, Nat.reduceLT, Nat.reduceLeDiff, Int.reduceToNat, Int.reduceLE, Int.reduceLT, Int.reduceNeg, reduceCtorEq, gos, Int.reduceAdd, Int.reduceSub, Int.reduceMul, Int.reduceEq])
        refine X_loopH [0, 2, 4, 8, 30, 31] [(8, 2) :: base] (0) (R) (fun j => True) (fun j => [(8, rowP ((8, 3) :: base) 1 j (((List.range j).map (fun i => dotI (rowM C l i) x % p)).map iu)), (31, i64 j)]) (fun j => rowH (Heap.none.put ((0, 0) :: base) (.var [i64 R, i64 C, lu l])) ((8, 3) :: base) j (((List.range j).map (fun i => dotI (rowM C l i) x % p)).map iu)) ?_ ?_ ?_ ?_ ?_ (by decide) ?_
        · exact (fgt_cons (by simp only [Heap.none_at]) (by (simp -dsimp only [zzB, tys, ite_self, opnL, callB, callX, readsB, stepOp, nilCmp, ofVal, opBuiltin, opLen, PV.sk, scalBin, scalUn, intBin, opLoad, natOf, opConvert, opField, cellsP, oneP, Value.oneCell', opStore, toIV, scalT, scalA, scalC, boxesA, boxesC, zipB_none, zipB_mx, isZ, opZip, zeroP, opAppendZ, opMakeMap, opLookup, mboxB, opUpdate, ↓reduceIte, Nat.reduceSub, Nat.reduceEqDiff, Nat.reduceAdd, Nat.reduceMul, Nat.reduceLT, Nat.reduceLeDiff, Int.reduceToNat, Int.reduceLE, Int.reduceLT, Int.reduceNeg, reduceCtorEq, notIn_cons, notIn_nil]) <;> simp [refsL, refsP, mem_refs_rowP]) (by repeat (first | exact noVar_none _ | refine noVar_row ?_ | refine noVar_map ?_ | refine noVar_rowH ?_ | refine noVar_var ?_ (by simp [refsL, refsP, mem_refs_rowP]))) (fgt_nil))
        · ((simp -dsimp (disch := omega) only [simx, zzB, tys, ite_self, opnL, callB, callX, readsB, stepOp, nilCmp, ofVal, opBuiltin, opLen, PV.sk, scalBin, scalUn, intBin, opLoad, natOf, opConvert, opField, cellsP, oneP, Value.oneCell', opStore, toIV, scalT, scalA, scalC, boxesA, boxesC, zipB_none, zipB_mx, isZ, opZip, zeroP, opAppendZ, opMakeMap, opLookup, mboxB, opUpdate, ↓reduceIte, Nat.reduceSub, Nat.reduceEqDiff, Nat.reduceAdd, Nat.reduceMul, Nat.reduceLT, Nat.reduceLeDiff, Int.reduceToNat, Int.reduceLE, Int.reduceLT, Int.reduceNeg, reduceCtorEq, gos, Int.reduceAdd, Int.reduceSub, Int.reduceMul, Int.reduceEq]) <;> first | rfl | simp [rowP])
        · funext c
          simp (maxSteps := 20000000) only [Heap.drop_at, rowH_app, Heap.put_at, Heap.none_at, List.mem_cons, List.not_mem_nil, or_false]
          by_cases e0 : c = (0, 0) :: base
          · subst e0; simp []
          by_cases e1 : c = (8, 2) :: base
          · subst e1; simp []
          simp [e0, e1]
        · omega
        · trivial
        · intro j hj _
          by_cases cj : j < R
          · have d1 := row_walk M.len M.r2 M.c2 cj
            have rl := rowM_len M.len cj
            have d2 := dot_walk p (rowM C l j) x (by rw [rl, mx_len]; have := M.c2; omega) hx (fun a ha => wl a (rowM_mem ha)) wx
            rw [show dotR p (rowM C l j) x = (dotI (rowM C l j) x % p, 0) by
              unfold dotR
              rw [show HasB p (rowM C l j) = true from (has_iff _ _).2 ⟨fun a ha => M.has a (rowM_mem ha), M.hp.1, M.hp.2⟩, h2, decide_eq_true (show (rowM C l j).length = x.length by omega)]; rfl] at d2
            have tk := timesM_take (p := p) (c := C) (l := l) (x := x) cj
            repeat (first | ((first | refine X_call_fn2 rfl (by simp only [tys]) ?_ | refine X_dcall_fn2 rfl (by simp only [tys]) ?_); apply Exists.intro; apply And.intro; (focus (simp -dsimp only [simx, zzC, zzB, tys, ite_self, opnL, callB, callX, readsB, stepOp, nilCmp, ofVal, opBuiltin, opLen, PV.sk, scalBin, scalUn, intBin, opLoad, natOf, opConvert, opField, cellsP, oneP, Value.oneCell', opStore, toIV, scalT, scalA, scalC, boxesA, boxesC, zipB_none, zipB_mx, isZ, opZip, zeroP, opAppendZ, opMakeMap, opLookup, mboxB, opUpdate, ↓reduceIte, Nat.reduceSub, Nat.reduceEqDiff, Nat.reduceAdd, Nat.reduceMul, Nat.reduceLT, Nat.reduceLeDiff, Int.reduceToNat, Int.reduceLE, Int.reduceLT, Int.reduceNeg, reduceCtorEq, zzL, if_true, if_false] <;> rfl)); apply Exists.intro; apply And.intro; (focus (first | exact d1 | exact d2))) | refine X_opc rfl ?_ | refine X_dopc rfl ?_ | refine ⟨(by show drawK _ _ = true; kernel_rfl : drawX _ _ _), ?_⟩ | exact (by show drawK _ _ = true; kernel_rfl : drawX _ _ _) | simp -dsimp (maxSteps := 20000000) (disch := omega) only [simx, zzC, zzB, tys, ite_self, opnL, callB, callX, readsB, stepOp, nilCmp, ofVal, opBuiltin, opLen, PV.sk, scalBin, scalUn, intBin, opLoad, natOf, opConvert, opField, cellsP, oneP, Value.oneCell', opStore, toIV, scalT, scalA, scalC, boxesA, boxesC, zipB_none, zipB_mx, isZ, opZip, zeroP, opAppendZ, opMakeMap, opLookup, mboxB, opUpdate, ↓reduceIte, Nat.reduceSub, Nat.reduceEqDiff, Nat.reduceAdd, Nat.reduceMul, Nat.reduceLT, Nat.reduceLeDiff, Int.reduceToNat, Int.reduceLE, Int.reduceLT, Int.reduceNeg, reduceCtorEq, gos, Int.reduceAdd, Int.reduceSub, Int.reduceMul, Int.reduceEq, cj])
            refine X_append_one 22 [.int .u64 0] [iu (dotI (rowM C l j) x % p)] (by simp only [tys]) (by simp only [tys]) rfl (by decide) (by simp) (by simp [Heap.put_at, Heap.none_at, rowH_app]) (by simp [Heap.put_at]; rfl) rfl (by simp only [tys]; omega) (by rw [mx_len]; omega) ?_
            repeat (first | refine X_opc rfl ?_ | refine X_dopc rfl ?_ | refine ⟨(by show drawK _ _ = true; kernel_rfl : drawX _ _ _), ?_⟩ | exact (by show drawK _ _ = true; kernel_rfl : drawX _ _ _) | simp -dsimp (maxSteps := 20000000) (disch := omega) only [simx, zzC, zzB, tys, ite_self, opnL, callB, callX, readsB, stepOp, nilCmp, ofVal, opBuiltin, opLen, PV.sk, scalBin, scalUn, intBin, opLoad, natOf, opConvert, opField, cellsP, oneP, Value.oneCell', opStore, toIV, scalT, scalA, scalC, boxesA, boxesC, zipB_none, zipB_mx, isZ, opZip, zeroP, opAppendZ, opMakeMap, opLookup, mboxB, opUpdate, ↓reduceIte, Nat.reduceSub, Nat.reduceEqDiff, Nat.reduceAdd, Nat.reduceMul, Nat.reduceLT, Nat.reduceLeDiff, Int.reduceToNat, Int.reduceLE, Int.reduceLT, Int.reduceNeg, reduceCtorEq, gos, Int.reduceAdd, Int.reduceSub, Int.reduceMul, Int.reduceEq, cj])
            refine ⟨cj, (fgt_cons (by simp only [Heap.none_at]) (by (simp -dsimp only [zzB, tys, ite_self, opnL, callB, callX, readsB, stepOp, nilCmp, ofVal, opBuiltin, opLen, PV.sk, scalBin, scalUn, intBin, opLoad, natOf, opConvert, opField, cellsP, oneP, Value.oneCell', opStore, toIV, scalT, scalA, scalC, boxesA, boxesC, zipB_none, zipB_mx, isZ, opZip, zeroP, opAppendZ, opMakeMap, opLookup, mboxB, opUpdate, ↓reduceIte, Nat.reduceSub, Nat.reduceEqDiff, Nat.reduceAdd, Nat.reduceMul, Nat.reduceLT, Nat.reduceLeDiff, Int.reduceToNat, Int.reduceLE, Int.reduceLT, Int.reduceNeg, reduceCtorEq, notIn_cons, notIn_nil]) <;> simp [refsL, refsP, mem_refs_rowP]) (by repeat (first | exact noVar_none _ | refine noVar_row ?_ | refine noVar_map ?_ | refine noVar_rowH ?_ | refine noVar_var ?_ (by simp [refsL, refsP, mem_refs_rowP]))) (fgt_nil)), ⟨?_, rfl⟩, ?_⟩
            · rw [tk]; simp
            · funext c
              simp (maxSteps := 20000000) only [Heap.drop_at, rowH_app, Heap.put_at, Heap.none_at, List.mem_cons, List.not_mem_nil, or_false]
              by_cases e0 : c = (0, 0) :: base
              · subst e0; simp [tk]
              by_cases e1 : c = (8, 2) :: base
              · subst e1; simp [tk]
              by_cases e2 : c = (8, 3) :: base
              · subst e2; simp [tk]
              simp [e0, e1, e2, tk]
          · have hj : j = R := by omega
            subst hj
            obtain ⟨s, rfl⟩ : ∃ s, j = s + 1 := ⟨j - 1, by omega⟩
            have e2 : (((List.range (s + 1)).map (fun i => dotI (rowM C l i) x % p)).map iu).take (s + 1) = ((List.range (s + 1)).map (fun i => dotI (rowM C l i) x % p)).map iu := List.take_of_length_le (by simp)
            repeat (first | refine X_opc rfl ?_ | refine X_dopc rfl ?_ | refine ⟨(by show drawK _ _ = true; kernel_rfl : drawX _ _ _), ?_⟩ | exact (by show drawK _ _ = true; kernel_rfl : drawX _ _ _) | simp -dsimp (maxSteps := 20000000) (disch := omega) only [simx, zzC, zzB, tys, ite_self, opnL, callB, callX, readsB, stepOp, nilCmp, ofVal, opBuiltin, opLen, PV.sk, scalBin, scalUn, intBin, opLoad, natOf, opConvert, opField, cellsP, oneP, Value.oneCell', opStore, toIV, scalT, scalA, scalC, boxesA, boxesC, zipB_none, zipB_mx, isZ, opZip, zeroP, opAppendZ, opMakeMap, opLookup, mboxB, opUpdate, ↓reduceIte, Nat.reduceSub, Nat.reduceEqDiff, Nat.reduceAdd, Nat.reduceMul, Nat.reduceLT, Nat.reduceLeDiff, Int.reduceToNat, Int.reduceLE, Int.reduceLT, Int.reduceNeg, reduceCtorEq, zzR, gos, Int.reduceAdd, Int.reduceSub, Int.reduceMul, Int.reduceEq, rowP_succ, rowH_succ, List.length_map, List.length_range, e2, lu])
      · rw [decide_eq_false h3]
        simp only [Bool.and_false, Bool.false_eq_true, if_false]
        refine X_startP (n := 49) (m := 3) (rs := [.tmp 6, .tmp 7]) Try.func57 rfl rfl rfl rfl (by decide) fun base => ?_
        repeat (first | ((first | refine X_call_fn2 rfl (by simp only [tys]) ?_ | refine X_dcall_fn2 rfl (by simp only [tys]) ?_); apply Exists.intro; apply And.intro; (focus (simp -dsimp only [simx, zzC, zzB, tys, ite_self, opnL, callB, callX, readsB, stepOp, nilCmp, ofVal, opBuiltin, opLen, PV.sk, scalBin, scalUn, intBin, opLoad, natOf, opConvert, opField, cellsP, oneP, Value.oneCell', opStore, toIV, scalT, scalA, scalC, boxesA, boxesC, zipB_none, zipB_mx, isZ, opZip, zeroP, opAppendZ, opMakeMap, opLookup, mboxB, opUpdate, ↓reduceIte, Nat.reduceSub, Nat.reduceEqDiff, Nat.reduceAdd, Nat.reduceMul, Nat.reduceLT, Nat.reduceLeDiff, Int.reduceToNat, Int.reduceLE, Int.reduceLT, Int.reduceNeg, reduceCtorEq, zzL, if_true, if_false] <;> rfl)); apply Exists.intro; apply And.intro; (focus (first | exact q1 | exact q2))) | refine X_opc rfl ?_ | refine X_dopc rfl ?_ | refine ⟨(by show drawK _ _ = true; kernel_rfl : drawX _ _ _), ?_⟩ | exact (by show drawK _ _ = true; kernel_rfl : drawX _ _ _) | simp -dsimp (maxSteps := 20000000) (disch := omega) only [simx, zzC, zzB, tys, ite_self, opnL, callB, callX, readsB, stepOp, nilCmp, ofVal, opBuiltin, opLen, PV.sk, scalBin, scalUn, intBin, opLoad, natOf, opConvert, opField, cellsP, oneP, Value.oneCell', opStore, toIV, scalT, scalA, scalC, boxesA, boxesC, zipB_none, zipB_mx, isZ, opZip, zeroP, opAppendZ, opMakeMap, opLookup, mboxB, opUpdate, ↓reduceIte, Nat.reduceSub, Nat.reduceEqDiff, Nat.reduceAdd, Nat.reduceMul, Nat.reduceLT, Nat.reduceLeDiff, Int.reduceToNat, Int.reduceLE, Int.reduceLT, Int.reduceNeg, reduceCtorEq, zzR, gos, Int.reduceAdd, Int.reduceSub, Int.reduceMul, Int.reduceEq])
        rfl
end Go.Proofs.Ytmalpmnmknpphaa.TM
namespace Go.Proofs.Ytmalpmnmknpphaa.TM
open Go Go.RowKit
attribute [local irreducible] K W WOps Effs Xg Xo Xr Xdg Xdo Xdr Xif CallsP CallR
def turnR (p r c : Int) (l : List Int) : (Int × Int × List Int) × Int := if MatB p r c l then ((c, r, turnM r.toNat c.toNat l), 0) else ((0, 0, []), 1)
abbrev mat2 (q : (Int × Int × List Int) × Int) : PV := .tup [matP q.1.1 q.1.2.1 q.1.2.2, i64 q.2]
set_option maxHeartbeats 2000000 in
theorem turn_walk (p r c : Int) (l : List Int) (hl : l.length ≤ maxLen) : CallsP Try.prog 20 [u64 p, matP r c l] (mat2 (turnR p r c l)) := by
  have q1 := mright_walk p r c l hl
  unfold turnR
  cases h1 : MatB p r c l with
  | false =>
    rw [h1] at q1
    refine X_startP (n := 49) (m := 2) (rs := [.cell 4 25, .tmp 5]) Try.func20 rfl rfl rfl rfl (by decide) fun base => ?_
    repeat (first | ((first | refine X_call_fn2 rfl (by simp only [tys]) ?_ | refine X_dcall_fn2 rfl (by simp only [tys]) ?_); apply Exists.intro; apply And.intro; (focus (simp -dsimp only [simx, zzC, zzB, tys, ite_self, opnL, callB, callX, readsB, stepOp, nilCmp, ofVal, opBuiltin, opLen, PV.sk, scalBin, scalUn, intBin, opLoad, natOf, opConvert, opField, cellsP, oneP, Value.oneCell', opStore, toIV, scalT, scalA, scalC, boxesA, boxesC, zipB_none, zipB_mx, isZ, opZip, zeroP, opAppendZ, opMakeMap, opLookup, mboxB, opUpdate, ↓reduceIte, Nat.reduceSub, Nat.reduceEqDiff, Nat.reduceAdd, Nat.reduceMul, Nat.reduceLT, Nat.reduceLeDiff, Int.reduceToNat, Int.reduceLE, Int.reduceLT, Int.reduceNeg, reduceCtorEq, zzL, if_true, if_false] <;> rfl)); apply Exists.intro; apply And.intro; (focus (first | exact q1))) | refine X_opc rfl ?_ | refine X_dopc rfl ?_ | refine ⟨(by show drawK _ _ = true; kernel_rfl : drawX _ _ _), ?_⟩ | exact (by show drawK _ _ = true; kernel_rfl : drawX _ _ _) | simp -dsimp (maxSteps := 20000000) (disch := omega) only [simx, zzC, zzB, tys, ite_self, opnL, callB, callX, readsB, stepOp, nilCmp, ofVal, opBuiltin, opLen, PV.sk, scalBin, scalUn, intBin, opLoad, natOf, opConvert, opField, cellsP, oneP, Value.oneCell', opStore, toIV, scalT, scalA, scalC, boxesA, boxesC, zipB_none, zipB_mx, isZ, opZip, zeroP, opAppendZ, opMakeMap, opLookup, mboxB, opUpdate, ↓reduceIte, Nat.reduceSub, Nat.reduceEqDiff, Nat.reduceAdd, Nat.reduceMul, Nat.reduceLT, Nat.reduceLeDiff, Int.reduceToNat, Int.reduceLE, Int.reduceLT, Int.reduceNeg, reduceCtorEq, zzR, gos, Int.reduceAdd, Int.reduceSub, Int.reduceMul, Int.reduceEq])
    rfl
  | true =>
    rw [h1] at q1
    obtain ⟨R, C, rfl, rfl, M⟩ := mat_of h1
    simp only [if_true, Int.toNat_natCast]
    have r1 := M.r1
    have r2 := M.r2
    have c1 := M.c1
    have c2 := M.c2
    have bd := rc_bd r2 c2
    have len := M.len
    have f1 : l.length * 8 ≤ 140737488355328 := by omega
    have f2 : l.length ≤ 140737488355328 := by omega
    have zf : List.map IV.v (zeroRow [Value.int .u64 0] l.length) = (turnJ R C l 0).map iu := by
      rw [turnJ_zero, len, Nat.mul_comm C R, List.map_replicate]
      induction R * C with
      | zero => rfl
      | succ n ih => rw [zeroRow_succ, List.map_append, ih]; rfl
    clear h1 hl
    refine X_startP (n := 49) (m := 2) (rs := [.cell 4 25, .tmp 5]) Try.func20 rfl rfl rfl rfl (by decide) fun base => ?_
    repeat (first | ((first | refine X_call_fn2 rfl (by simp only [tys]) ?_ | refine X_dcall_fn2 rfl (by simp only [tys]) ?_); apply Exists.intro; apply And.intro; (focus (simp -dsimp only [simx, zzC, zzB, tys, ite_self, opnL, callB, callX, readsB, stepOp, nilCmp, ofVal, opBuiltin, opLen, PV.sk, scalBin, scalUn, intBin, opLoad, natOf, opConvert, opField, cellsP, oneP, Value.oneCell', opStore, toIV, scalT, scalA, scalC, boxesA, boxesC, zipB_none, zipB_mx, isZ, opZip, zeroP, opAppendZ, opMakeMap, opLookup, mboxB, opUpdate, ↓reduceIte, Nat.reduceSub, Nat.reduceEqDiff, Nat.reduceAdd, Nat.reduceMul, Nat.reduceLT, Nat.reduceLeDiff, Int.reduceToNat, Int.reduceLE, Int.reduceLT, Int.reduceNeg, reduceCtorEq, zzL, if_true, if_false] <;> rfl)); apply Exists.intro; apply And.intro; (focus (first | exact q1))) | refine X_opc rfl ?_ | refine X_dopc rfl ?_ | refine ⟨(by show drawK _ _ = true; kernel_rfl : drawX _ _ _), ?_⟩ | exact (by show drawK _ _ = true; kernel_rfl : drawX _ _ _) | simp -dsimp (maxSteps := 20000000) (disch := omega) only [simx, zzC, zzB, tys, ite_self, opnL, callB, callX, readsB, stepOp, nilCmp, ofVal, opBuiltin, opLen, PV.sk, scalBin, scalUn, intBin, opLoad, natOf, opConvert, opField, cellsP, oneP, Value.oneCell', opStore, toIV, scalT, scalA, scalC, boxesA, boxesC, zipB_none, zipB_mx, isZ, opZip, zeroP, opAppendZ, opMakeMap, opLookup, mboxB, opUpdate, ↓reduceIte, Nat.reduceSub, Nat.reduceEqDiff, Nat.reduceAdd, Nat.reduceMul, Nat.reduceLT, Nat.reduceLeDiff, Int.reduceToNat, Int.reduceLE, Int.reduceLT, Int.reduceNeg, reduceCtorEq, gos, Int.reduceAdd, Int.reduceSub, Int.reduceMul, Int.reduceEq, zf, f1, f2])
    refine X_loopH [3, 4, 6, 24, 25, 26] [] (0) (l.length) (fun j => True) (fun j => [(26, i64 j)]) (fun j => (((Heap.none.put ((0, 0) :: base) (.var [i64 R, i64 C, lu l])).put ((0, 1) :: base) (.var [i64 0, i64 0, nilP])).put ((3, 7) :: base) (.row false ((turnJ R C l j).map iu))).put ((3, 9) :: base) (.var [i64 C, i64 R, .view ((3, 7) :: base) 0 1 l.length l.length])) ?_ ?_ ?_ ?_ ?_ (by decide) ?_
    · exact (fgt_nil)
    · ((simp -dsimp (disch := omega) only [simx, zzB, tys, ite_self, opnL, callB, callX, readsB, stepOp, nilCmp, ofVal, opBuiltin, opLen, PV.sk, scalBin, scalUn, intBin, opLoad, natOf, opConvert, opField, cellsP, oneP, Value.oneCell', opStore, toIV, scalT, scalA, scalC, boxesA, boxesC, zipB_none, zipB_mx, isZ, opZip, zeroP, opAppendZ, opMakeMap, opLookup, mboxB, opUpdate, ↓reduceIte, Nat.reduceSub, Nat.reduceEqDiff, Nat.reduceAdd, Nat.reduceMul, Nat.reduceLT, Nat.reduceLeDiff, Int.reduceToNat, Int.reduceLE, Int.reduceLT, Int.reduceNeg, reduceCtorEq, gos, Int.reduceAdd, Int.reduceSub, Int.reduceMul, Int.reduceEq]) <;> first | rfl | simp)
    · funext c
      simp (maxSteps := 20000000) only [Heap.drop_at, rowH_app, Heap.put_at, Heap.none_at, List.mem_cons, List.not_mem_nil, or_false]
      by_cases e0 : c = (0, 0) :: base
      · subst e0; simp [zf]
      by_cases e1 : c = (0, 1) :: base
      · subst e1; simp [zf]
      by_cases e2 : c = (3, 7) :: base
      · subst e2; simp [zf]
      by_cases e3 : c = (3, 9) :: base
      · subst e3; simp [zf]
      simp [e0, e1, e2, e3, zf]
    · omega
    · trivial
    · intro j hj _
      by_cases cj : j < l.length
      · have g1 : l[j]? = some l[j] := List.getElem?_eq_getElem cj
        obtain ⟨d1, d2⟩ := turn_dst (r := R) (c := C) (j := j) (by omega) (by omega)
        have nx := turnJ_next (r := R) (c := C) (j := j) (l := l) (by omega) (by omega) len (by omega)
        have m1 : j % C < C := Nat.mod_lt _ (by omega)
        have m2 := ic_bd (c := R) m1
        have m3 : C * R ≤ 4096 := rc_bd c2 r2
        have tl : (turnJ R C l j).length = l.length := by rw [turnJ_len, len, Nat.mul_comm]
        have e1 : (j : Int) % (C : Int) = ((j % C : Nat) : Int) := rfl
        have e2 : IntKind.i64.wrap (((j % C : Nat) : Int) * (R : Int)) = ((j % C * R : Nat) : Int) := by rw [← Int.natCast_mul]; exact iw_of (by omega) (by omega)
        have e3 : (j : Int) / (C : Int) = ((j / C : Nat) : Int) := rfl
        have e4 : IntKind.i64.wrap (((j % C * R : Nat) : Int) + ((j / C : Nat) : Int)) = ((j % C * R + j / C : Nat) : Int) := by
          rw [← Int.natCast_add]
          generalize j % C * R + j / C = z at d1
          exact iw_of (by omega) (by omega)
        have e5 : IntKind.i64.wrap ((j / C : Nat) : Int) = ((j / C : Nat) : Int) := by
          have := Nat.div_le_self j C
          generalize j / C = z at this
          exact iw_of (by omega) (by omega)
        have nx2 : ((turnJ R C l j).map iu).take (j % C * R + j / C) ++ [iu l[j]] ++ ((turnJ R C l j).map iu).drop (j % C * R + j / C + 1) = (turnJ R C l (j + 1)).map iu := by
          rw [← nx]; simp
        have d3 : j % C * R + j / C < l.length := by rw [len, Nat.mul_comm R C]; exact d1
        have d4 : j % C * R + j / C + 1 ≤ l.length := d3
        have cne : (C : Int) ≠ 0 := by omega
        have hj0 : (0 : Int) ≤ j := by omega
        clear nx d1 d2 m1 m2 m3 bd zf
        repeat (first | refine X_opc rfl ?_ | refine X_dopc rfl ?_ | refine ⟨(by show drawK _ _ = true; kernel_rfl : drawX _ _ _), ?_⟩ | exact (by show drawK _ _ = true; kernel_rfl : drawX _ _ _) | simp -dsimp (maxSteps := 20000000) (disch := omega) only [simx, zzC, zzB, tys, ite_self, opnL, callB, callX, readsB, stepOp, nilCmp, ofVal, opBuiltin, opLen, PV.sk, scalBin, scalUn, intBin, opLoad, natOf, opConvert, opField, cellsP, oneP, Value.oneCell', opStore, toIV, scalT, scalA, scalC, boxesA, boxesC, zipB_none, zipB_mx, isZ, opZip, zeroP, opAppendZ, opMakeMap, opLookup, mboxB, opUpdate, ↓reduceIte, Nat.reduceSub, Nat.reduceEqDiff, Nat.reduceAdd, Nat.reduceMul, Nat.reduceLT, Nat.reduceLeDiff, Int.reduceToNat, Int.reduceLE, Int.reduceLT, Int.reduceNeg, reduceCtorEq, gos, Int.reduceAdd, Int.reduceSub, Int.reduceMul, Int.reduceEq, cj, g1, tmod_nn hj0, tdiv_nn hj0, e1, e2, e3, e4, e5, nx2, d3, d4, cne, List.length_map, tl])
        refine ⟨cj, (fgt_nil), rfl, ?_⟩
        funext c
        simp (maxSteps := 20000000) only [Heap.drop_at, rowH_app, Heap.put_at, Heap.none_at, List.mem_cons, List.not_mem_nil, or_false]
        by_cases e0 : c = (0, 0) :: base
        · subst e0; simp []
        by_cases e1 : c = (0, 1) :: base
        · subst e1; simp []
        by_cases e2 : c = (3, 7) :: base
        · subst e2; simp []
        by_cases e3 : c = (3, 9) :: base
        · subst e3; simp []
        simp [e0, e1, e2, e3]
      · have hj : j = l.length := by omega
        subst hj
        have tl : (turnJ R C l l.length).length = l.length := by rw [turnJ_len, len, Nat.mul_comm]
        have e2 : ((turnJ R C l l.length).map iu).take l.length = (turnJ R C l l.length).map iu := List.take_of_length_le (by rw [List.length_map, tl]; exact Nat.le_refl _)
        have e3 : turnJ R C l l.length = turnM R C l := by rw [len]; exact turnJ_all (by omega)
        have e4 := turnM_len R C l
        repeat (first | refine X_opc rfl ?_ | refine X_dopc rfl ?_ | refine ⟨(by show drawK _ _ = true; kernel_rfl : drawX _ _ _), ?_⟩ | exact (by show drawK _ _ = true; kernel_rfl : drawX _ _ _) | simp -dsimp (maxSteps := 20000000) (disch := omega) only [simx, zzC, zzB, tys, ite_self, opnL, callB, callX, readsB, stepOp, nilCmp, ofVal, opBuiltin, opLen, PV.sk, scalBin, scalUn, intBin, opLoad, natOf, opConvert, opField, cellsP, oneP, Value.oneCell', opStore, toIV, scalT, scalA, scalC, boxesA, boxesC, zipB_none, zipB_mx, isZ, opZip, zeroP, opAppendZ, opMakeMap, opLookup, mboxB, opUpdate, ↓reduceIte, Nat.reduceSub, Nat.reduceEqDiff, Nat.reduceAdd, Nat.reduceMul, Nat.reduceLT, Nat.reduceLeDiff, Int.reduceToNat, Int.reduceLE, Int.reduceLT, Int.reduceNeg, reduceCtorEq, zzR, gos, Int.reduceAdd, Int.reduceSub, Int.reduceMul, Int.reduceEq, e2, tl, List.length_map])
        rw [e3, show l.length = (turnM R C l).length by rw [e4, len, Nat.mul_comm]]
def mlR (p : Int) (x : List Int) (r c : Int) (l : List Int) : List Int × Int := if MatB p r c l && (HasB p x && decide ((x.length : Int) = r)) then (timesM p c.toNat r.toNat (turnM r.toNat c.toNat l) x, 0) else ([], 1)
theorem left_walk (p r c : Int) (l x : List Int) (hl : l.length ≤ maxLen) (hx : x.length ≤ maxLen) (wl : W64s l) (wx : W64s x) : CallsP Try.prog 62 [u64 p, lu x, matP r c l] (.tup [lu (mlR p x r c l).1, i64 (mlR p x r c l).2]) := by
  have q1 := turn_walk p r c l hl
  unfold turnR at q1
  unfold mlR
  cases h1 : MatB p r c l with
  | false =>
    rw [h1] at q1
    refine X_startP (n := 25) (m := 3) (rs := [.tmp 6, .tmp 7]) Try.func62 rfl rfl rfl rfl (by decide) fun base => ?_
    repeat (first | ((first | refine X_call_fn2 rfl (by simp only [tys]) ?_ | refine X_dcall_fn2 rfl (by simp only [tys]) ?_); apply Exists.intro; apply And.intro; (focus (simp -dsimp only [simx, zzC, zzB, tys, ite_self, opnL, callB, callX, readsB, stepOp, nilCmp, ofVal, opBuiltin, opLen, PV.sk, scalBin, scalUn, intBin, opLoad, natOf, opConvert, opField, cellsP, oneP, Value.oneCell', opStore, toIV, scalT, scalA, scalC, boxesA, boxesC, zipB_none, zipB_mx, isZ, opZip, zeroP, opAppendZ, opMakeMap, opLookup, mboxB, opUpdate, ↓reduceIte, Nat.reduceSub, Nat.reduceEqDiff, Nat.reduceAdd, Nat.reduceMul, Nat.reduceLT, Nat.reduceLeDiff, Int.reduceToNat, Int.reduceLE, Int.reduceLT, Int.reduceNeg, reduceCtorEq, zzL, if_true, if_false] <;> rfl)); apply Exists.intro; apply And.intro; (focus (first | exact q1))) | refine X_opc rfl ?_ | refine X_dopc rfl ?_ | refine ⟨(by show drawK _ _ = true; kernel_rfl : drawX _ _ _), ?_⟩ | exact (by show drawK _ _ = true; kernel_rfl : drawX _ _ _) | simp -dsimp (maxSteps := 20000000) (disch := omega) only [simx, zzC, zzB, tys, ite_self, opnL, callB, callX, readsB, stepOp, nilCmp, ofVal, opBuiltin, opLen, PV.sk, scalBin, scalUn, intBin, opLoad, natOf, opConvert, opField, cellsP, oneP, Value.oneCell', opStore, toIV, scalT, scalA, scalC, boxesA, boxesC, zipB_none, zipB_mx, isZ, opZip, zeroP, opAppendZ, opMakeMap, opLookup, mboxB, opUpdate, ↓reduceIte, Nat.reduceSub, Nat.reduceEqDiff, Nat.reduceAdd, Nat.reduceMul, Nat.reduceLT, Nat.reduceLeDiff, Int.reduceToNat, Int.reduceLE, Int.reduceLT, Int.reduceNeg, reduceCtorEq, zzR, gos, Int.reduceAdd, Int.reduceSub, Int.reduceMul, Int.reduceEq])
    rfl
  | true =>
    rw [h1] at q1
    obtain ⟨R, C, rfl, rfl, M⟩ := mat_of h1
    simp only [if_true, Int.toNat_natCast] at q1
    have M2 := turn_mt M
    have q2 := times_walk p C R (turnM R C l) x (by rw [turnM_len, mx_len]; have := rc_bd M.c2 M.r2; omega) hx (fun a ha => wl a (turnM_mem (by have := M.r1; omega) M.len ha)) wx
    unfold timesR at q2
    rw [mat_mk M2] at q2
    simp only [Int.toNat_natCast] at q2 ⊢
    clear h1 M M2 hl hx wl wx
    obtain ⟨y, e, hy⟩ : ∃ y e, (if (true && (HasB p x && decide ((x.length : Int) = R))) = true then (timesM p C R (turnM R C l) x, (0 : Int)) else ([], 1)) = (y, e) := ⟨_, _, rfl⟩
    rw [hy] at q2 ⊢
    refine X_startP (n := 25) (m := 3) (rs := [.tmp 6, .tmp 7]) Try.func62 rfl rfl rfl rfl (by decide) fun base => ?_
    repeat (first | ((first | refine X_call_fn2 rfl (by simp only [tys]) ?_ | refine X_dcall_fn2 rfl (by simp only [tys]) ?_); apply Exists.intro; apply And.intro; (focus (simp -dsimp only [simx, zzC, zzB, tys, ite_self, opnL, callB, callX, readsB, stepOp, nilCmp, ofVal, opBuiltin, opLen, PV.sk, scalBin, scalUn, intBin, opLoad, natOf, opConvert, opField, cellsP, oneP, Value.oneCell', opStore, toIV, scalT, scalA, scalC, boxesA, boxesC, zipB_none, zipB_mx, isZ, opZip, zeroP, opAppendZ, opMakeMap, opLookup, mboxB, opUpdate, ↓reduceIte, Nat.reduceSub, Nat.reduceEqDiff, Nat.reduceAdd, Nat.reduceMul, Nat.reduceLT, Nat.reduceLeDiff, Int.reduceToNat, Int.reduceLE, Int.reduceLT, Int.reduceNeg, reduceCtorEq, zzL, if_true, if_false] <;> rfl)); apply Exists.intro; apply And.intro; (focus (first | exact q1 | exact q2))) | refine X_opc rfl ?_ | refine X_dopc rfl ?_ | refine ⟨(by show drawK _ _ = true; kernel_rfl : drawX _ _ _), ?_⟩ | exact (by show drawK _ _ = true; kernel_rfl : drawX _ _ _) | simp -dsimp (maxSteps := 20000000) (disch := omega) only [simx, zzC, zzB, tys, ite_self, opnL, callB, callX, readsB, stepOp, nilCmp, ofVal, opBuiltin, opLen, PV.sk, scalBin, scalUn, intBin, opLoad, natOf, opConvert, opField, cellsP, oneP, Value.oneCell', opStore, toIV, scalT, scalA, scalC, boxesA, boxesC, zipB_none, zipB_mx, isZ, opZip, zeroP, opAppendZ, opMakeMap, opLookup, mboxB, opUpdate, ↓reduceIte, Nat.reduceSub, Nat.reduceEqDiff, Nat.reduceAdd, Nat.reduceMul, Nat.reduceLT, Nat.reduceLeDiff, Int.reduceToNat, Int.reduceLE, Int.reduceLT, Int.reduceNeg, reduceCtorEq, zzR, gos, Int.reduceAdd, Int.reduceSub, Int.reduceMul, Int.reduceEq])
end Go.Proofs.Ytmalpmnmknpphaa.TM
namespace Go.Proofs.Ytmalpmnmknpphaa.TM
open Go Go.RowKit
noncomputable def finv (p a : Int) : Int := by
  classical exact if h : ∃ x, In p x ∧ a * x % p = 1 then h.choose else 0
theorem finv_spec {p a x : Int} (hx : In p x) (h : a * x % p = 1) : finv p a = x := by
  have hex : ∃ x, In p x ∧ a * x % p = 1 := ⟨x, hx, h⟩
  have hd : finv p a = hex.choose := by unfold finv; rw [dif_pos hex]
  obtain ⟨h1, h2⟩ := hex.choose_spec
  rw [hd]
  generalize hex.choose = y at h1 h2
  have e1 : y * (a * x % p) % p = y := by rw [h, Int.mul_one, h1.emod]
  have e2 : x * (a * y % p) % p = x := by rw [h2, Int.mul_one, hx.emod]
  have e3 : y * (a * x % p) % p = x * (a * y % p) % p := by
    rw [mm_r, mm_r]
    congr 1
    grind
  rw [← e1, e3, e2]
noncomputable def invR (p a : Int) : Int × Int := if Int.gcd p a = 1 then (finv p a, 0) else (0, 5)
structure Eu (p a r s x y : Int) : Prop where
  hs0 : 0 ≤ s
  hsr : s < r
  hrp : r ≤ p
  hg : Int.gcd r s = Int.gcd p a
  hx : ∃ z, x * a = r + z * p
  hy : ∃ z, y * a = s + z * p
  hsg : (0 ≤ x ∧ y ≤ 0 ∧ -y * r + x * s = p) ∨ (x ≤ 0 ∧ 0 ≤ y ∧ y * r + -x * s = p)
  hx2 : 2 * x ≤ p ∧ -(2 * x) ≤ p
theorem eu_next {p a r s x y : Int} (h : Eu p a r s x y) (hp : p < 9223372036854775808) (h0 : s ≠ 0) :
    Eu p a s (r - r / s * s) y (x - r / s * y) ∧ (∀ z, z = r / s * y → -9223372036854775808 ≤ z ∧ z < 9223372036854775808 ∧ -9223372036854775808 ≤ x - z ∧ x - z < 9223372036854775808) ∧ 0 ≤ r / s * s ∧ r / s * s ≤ r ∧ 0 ≤ r / s ∧ r / s ≤ r := by
  obtain ⟨hs0, hsr, hrp, hg, ⟨z1, hx⟩, ⟨z2, hy⟩, hsg, hx2, hx3⟩ := h
  have hq := Int.emod_add_mul_ediv r s
  have hqc : s * (r / s) = r / s * s := Int.mul_comm _ _
  have hm0 := Int.emod_nonneg r h0
  have hm1 := Int.emod_lt_of_pos r (show 0 < s by omega)
  have hq0 : 0 ≤ r / s := Int.ediv_nonneg (by omega) hs0
  have hqr : r / s ≤ r := Int.ediv_le_self _ (by omega)
  have hrem : r - r / s * s = r % s := by omega
  have hqs0 : 0 ≤ r / s * s := Int.mul_nonneg hq0 hs0
  have zs : (0 ≤ x ∧ r / s * y ≤ 0) ∨ (x ≤ 0 ∧ 0 ≤ r / s * y) := by
    rcases hsg with ⟨g1, g2, g3⟩ | ⟨g1, g2, g3⟩
    · have h1 : 0 ≤ r / s * -y := Int.mul_nonneg hq0 (by omega)
      have e : r / s * -y = -(r / s * y) := by grind
      exact .inl ⟨g1, by omega⟩
    · exact .inr ⟨g1, Int.mul_nonneg hq0 g2⟩
  -- the signs, and that nothing is beyond p
  have sg : (0 ≤ y ∧ x - r / s * y ≤ 0 ∧ -(x - r / s * y) * s + y * (r - r / s * s) = p) ∨ (y ≤ 0 ∧ 0 ≤ x - r / s * y ∧ (x - r / s * y) * s + -y * (r - r / s * s) = p) := by
    rcases hsg with ⟨g1, g2, g3⟩ | ⟨g1, g2, g3⟩
    · right
      have : 0 ≤ r / s * -y := Int.mul_nonneg hq0 (by omega)
      have e : r / s * -y = -(r / s * y) := by grind
      refine ⟨g2, by omega, ?_⟩
      rw [← g3]; grind
    · left
      have : 0 ≤ r / s * y := Int.mul_nonneg hq0 g2
      refine ⟨g2, by omega, ?_⟩
      rw [← g3]; grind
  have hy2 : 2 * y ≤ p ∧ -(2 * y) ≤ p := by
    rcases hsg with ⟨g1, g2, g3⟩ | ⟨g1, g2, g3⟩
    · have h1 : 2 * -y ≤ r * -y := Int.mul_le_mul_of_nonneg_right (by omega) (by omega)
      have h2 : 0 ≤ x * s := Int.mul_nonneg g1 hs0
      have e : -y * r = r * -y := by grind
      omega
    · have h1 : 2 * y ≤ r * y := Int.mul_le_mul_of_nonneg_right (by omega) g2
      have h2 : 0 ≤ -x * s := Int.mul_nonneg (by omega) hs0
      have e : y * r = r * y := by grind
      omega
  have bd : ∀ u, (0 ≤ u ∧ u * s ≤ p → u ≤ p) := by
    intro u ⟨h1, h2⟩
    have : u * 1 ≤ u * s := Int.mul_le_mul_of_nonneg_left (by omega) h1
    omega
  have hb : -p ≤ x - r / s * y ∧ x - r / s * y ≤ p := by
    rcases sg with ⟨g1, g2, g3⟩ | ⟨g1, g2, g3⟩
    · have h2 : 0 ≤ y * (r - r / s * s) := Int.mul_nonneg g1 (by omega)
      have := bd (-(x - r / s * y)) ⟨by omega, by omega⟩
      omega
    · have h2 : 0 ≤ -y * (r - r / s * s) := Int.mul_nonneg (by omega) (by omega)
      have := bd (x - r / s * y) ⟨by omega, by omega⟩
      omega
  refine ⟨⟨by omega, by omega, by omega, ?_, ⟨z2, hy⟩, ⟨z1 - r / s * z2, ?_⟩, sg, hy2⟩, ?_, hqs0, by omega, hq0, hqr⟩
  · rw [Int.gcd_sub_mul_right_right, Int.gcd_comm, hg]
  · have : (x - r / s * y) * a = x * a - r / s * (y * a) := by grind
    rw [this, hx, hy]; grind
  · intro z hz
    subst hz
    clear sg hsg bd
    omega
theorem gcd_self0 (r : Int) (h : 0 ≤ r) : (Int.gcd r 0 : Int) = r := by simp [Int.gcd_zero_right]; omega
def itJ {α : Type} (f : α → α) : Nat → α → α
  | 0, t => t
  | n + 1, t => f (itJ f n t)
theorem itJ_front {α : Type} (f : α → α) : ∀ (n : Nat) (t : α), itJ f (n + 1) t = itJ f n (f t)
  | 0, _ => rfl
  | n + 1, t => by rw [itJ, itJ_front f n t]; rfl
theorem run_ex {α : Type} (f : α → α) (z : α → Int) (I : α → Prop) (h : ∀ t, I t → z t ≠ 0 → I (f t) ∧ 0 ≤ z (f t) ∧ z (f t) < z t) : ∀ (n : Nat) (t : α), z t = n → I t → ∃ N, N ≤ n ∧ z (itJ f N t) = 0 ∧ ∀ j, j ≤ N → I (itJ f j t) ∧ (j < N → z (itJ f j t) ≠ 0) := by
  intro n
  induction n using Nat.strongRecOn with
  | _ n ih =>
  intro t hz hI
  by_cases c : z t = 0
  · exact ⟨0, by omega, c, fun j hj => by obtain rfl : j = 0 := by omega
                                          exact ⟨hI, fun h => by omega⟩⟩
  · obtain ⟨h1, h2, h3⟩ := h t hI c
    obtain ⟨N, g0, g1, g2⟩ := ih (z (f t)).toNat (by omega) (f t) (by omega) h1
    refine ⟨N + 1, by omega, by rw [itJ_front]; exact g1, fun j hj => ?_⟩
    cases j with
    | zero => exact ⟨hI, fun _ => c⟩
    | succ j =>
      rw [itJ_front]
      obtain ⟨k1, k2⟩ := g2 j (by omega)
      exact ⟨k1, fun h => k2 (by omega)⟩
abbrev T4 := Int × Int × Int × Int
def euT (t : T4) : T4 := (t.2.1, t.1 - t.1 / t.2.1 * t.2.1, t.2.2.2, t.2.2.1 - t.1 / t.2.1 * t.2.2.2)
theorem eu_run {p a : Int} (hp : p < 9223372036854775808) (hp2 : 2 ≤ p) (ha : In p a) : ∃ N, (itJ euT N (p, a, 0, 1)).2.1 = 0 ∧ ∀ j, j ≤ N → Eu p a (itJ euT j (p, a, 0, 1)).1 (itJ euT j (p, a, 0, 1)).2.1 (itJ euT j (p, a, 0, 1)).2.2.1 (itJ euT j (p, a, 0, 1)).2.2.2 ∧ (j < N → (itJ euT j (p, a, 0, 1)).2.1 ≠ 0) := by
  have h1 := ha.1; have h2 := ha.2
  have E : Eu p a p a 0 1 := ⟨h1, h2, Int.le_refl _, rfl, ⟨-1, by omega⟩, ⟨0, by omega⟩, .inr ⟨by omega, by omega, by omega⟩, by omega⟩
  obtain ⟨N, _, g⟩ := run_ex euT (fun t => t.2.1) (fun t => Eu p a t.1 t.2.1 t.2.2.1 t.2.2.2) (fun t hI hz => by
    obtain ⟨E2, _⟩ := eu_next hI hp hz
    exact ⟨E2, E2.hs0, E2.hsr⟩) a.toNat (p, a, 0, 1) (by show a = _; omega) E
  exact ⟨N, g⟩
theorem eu_end {p a r x y : Int} (hp2 : 2 ≤ p) (E : Eu p a r 0 x y) : (r == 1) = decide (Int.gcd p a = 1) ∧ (Int.gcd p a = 1 → In p (if x < 0 then x + p else x) ∧ a * (if x < 0 then x + p else x) % p = 1) := by
  have h0 := E.hsr
  have hg := E.hg
  have hg2 : (Int.gcd p a : Int) = r := by rw [← hg]; exact gcd_self0 r (by omega)
  obtain ⟨z, hz⟩ := E.hx
  have hx2 := E.hx2
  refine ⟨?_, fun h1 => ?_⟩
  · rw [Bool.eq_iff_iff]
    simp
    omega
  · by_cases cx : x < 0
    · rw [if_pos cx]
      refine ⟨⟨by omega, by omega⟩, ?_⟩
      have : a * (x + p) = r + (z + a) * p := by rw [Int.add_mul, ← Int.add_assoc, ← hz]; grind
      rw [this, Int.add_mul_emod_self_right, Int.emod_eq_of_lt (by omega) (by omega)]
      omega
    · rw [if_neg cx]
      refine ⟨⟨by omega, by omega⟩, ?_⟩
      rw [Int.mul_comm, hz, Int.add_mul_emod_self_right, Int.emod_eq_of_lt (by omega) (by omega)]
      omega
theorem finv_in {p a : Int} (hp2 : 2 ≤ p) (hp : p < 9223372036854775808) (ha : In p a) (h : Int.gcd p a = 1) : In p (finv p a) ∧ a * finv p a % p = 1 := by
  obtain ⟨N, g1, g2⟩ := eu_run hp hp2 ha
  obtain ⟨E, _⟩ := g2 N (Nat.le_refl _)
  rw [g1] at E
  obtain ⟨i1, i2⟩ := (eu_end hp2 E).2 h
  rw [finv_spec i1 i2]
  exact ⟨i1, i2⟩
end Go.Proofs.Ytmalpmnmknpphaa.TM
namespace Go.Proofs.Ytmalpmnmknpphaa.TM
open Go Go.RowKit
def Prm (p : Nat) : Prop := 2 ≤ p ∧ ∀ a, 0 < a → a < p → Nat.gcd p a = 1
theorem prm_of {p : Nat} (h2 : 2 ≤ p) (h : ∀ d, 2 ≤ d → d * d ≤ p → p % d ≠ 0) : Prm p := by
  refine ⟨h2, fun a h0 h1 => ?_⟩
  have d1 := Nat.gcd_dvd_left p a
  have d2 := Nat.gcd_dvd_right p a
  have gp : 0 < Nat.gcd p a := Nat.gcd_pos_of_pos_left _ (by omega)
  have ga : Nat.gcd p a ≤ a := Nat.le_of_dvd h0 d2
  generalize Nat.gcd p a = g at *
  by_cases e : g = 1
  · exact e
  exfalso
  obtain ⟨c, hc⟩ := d1
  by_cases e2 : g * g ≤ p
  · exact h g (by omega) e2 (Nat.mod_eq_zero_of_dvd ⟨c, hc⟩)
  · have c1 : c ≠ 0 := by rintro rfl; omega
    have c2 : c ≠ 1 := by rintro rfl; omega
    have c3 : c < g := by
      rcases Nat.lt_or_ge c g with h | h
      · exact h
      · exact absurd (by rw [hc]; exact Nat.mul_le_mul_left g h) e2
    refine h c (by omega) ?_ (Nat.mod_eq_zero_of_dvd ⟨g, by rw [hc, Nat.mul_comm]⟩)
    rw [hc]; exact Nat.mul_le_mul_right c (Nat.le_of_lt c3)
def noDiv (p : Nat) : Nat → Nat → Bool
  | 0, lo => p % lo != 0
  | k + 1, lo => noDiv p k lo && noDiv p k (lo + 2 ^ k)
theorem noDiv_all (p : Nat) : ∀ (k lo : Nat), noDiv p k lo = true → ∀ d, lo ≤ d → d < lo + 2 ^ k → p % d ≠ 0
  | 0, lo, h, d, h1, h2 => by
    obtain rfl : d = lo := by omega
    simpa [noDiv] using h
  | k + 1, lo, h, d, h1, h2 => by
    rw [noDiv, Bool.and_eq_true] at h
    by_cases c : d < lo + 2 ^ k
    · exact noDiv_all p k lo h.1 d h1 c
    · exact noDiv_all p k _ h.2 d (by omega) (by rw [Nat.pow_succ] at h2; omega)
theorem sq_lt {d n : Nat} (h : d * d < n * n) : d < n := by
  rcases Nat.lt_or_ge d n with g | g
  · exact g
  · exact absurd (Nat.mul_le_mul g g) (by omega)
theorem prm31 : Prm 2147483647 := by
  refine prm_of (by decide) fun d h2 hd => ?_
  have hk : noDiv 2147483647 16 2 = true := by decide +kernel
  exact noDiv_all _ 16 2 hk d h2 (by have : d < 46341 := sq_lt (Nat.lt_of_le_of_lt hd (by decide)); omega)
theorem least (Q : Nat → Prop) : ∀ n, Q n → ∃ m, Q m ∧ ∀ k, k < m → ¬ Q k := by
  intro n
  induction n using Nat.strongRecOn with
  | _ n ih =>
  intro h
  by_cases c : ∃ k, k < n ∧ Q k
  · obtain ⟨k, hk, hq⟩ := c
    exact ih k hk hq
  · exact ⟨n, h, fun k hk hq => c ⟨k, hk, hq⟩⟩
theorem pigeon : ∀ (g n : Nat) (f : Nat → Nat), (∀ i, i < n → f i < g) → (∀ i j, i < j → j < n → f i ≠ f j) → n ≤ g
  | 0, n, f, h, _ => by
    rcases Nat.eq_zero_or_pos n with h0 | h0
    · omega
    · exact absurd (h 0 h0) (by omega)
  | g + 1, n, f, h, hd => by
    by_cases c : ∃ i, i < n ∧ f i = g
    · obtain ⟨i, hi, he⟩ := c
      have := pigeon g (n - 1) (fun j => if j < i then f j else f (j + 1)) (fun j hj => by
        by_cases e : j < i
        · simp only [if_pos e]
          have h1 := h j (by omega)
          have h2 := hd j i e hi
          omega
        · simp only [if_neg e]
          have h1 := h (j + 1) (by omega)
          have h2 := hd i (j + 1) (by omega) (by omega)
          omega) (fun j k hjk hk => by
        by_cases e : j < i
        · by_cases e2 : k < i
          · simp only [if_pos e, if_pos e2]; exact hd j k hjk (by omega)
          · simp only [if_pos e, if_neg e2]; exact hd j (k + 1) (by omega) (by omega)
        · simp only [if_neg e, if_neg (show ¬ k < i by omega)]; exact hd (j + 1) (k + 1) (by omega) (by omega))
      omega
    · have := pigeon g n f (fun i hi => by
        have h1 := h i hi
        have h2 : f i ≠ g := fun e => c ⟨i, hi, e⟩
        omega) hd
      omega
theorem mod_pow (a n : Nat) : ∀ k, (a % n) ^ k % n = a ^ k % n
  | 0 => rfl
  | k + 1 => by rw [Nat.pow_succ, Nat.pow_succ, Nat.mul_mod, mod_pow a n k, Nat.mod_mod, ← Nat.mul_mod]
theorem lucas {n a : Nat} (hn : 3 ≤ n) (L : List Nat) (h1 : a ^ (n - 1) % n = 1) (hL : ∀ q ∈ L, ∃ c, (a ^ ((n - 1) / q) % n + (n - 1)) * c % n = 1) (hm : ∀ m, m ∣ n - 1 → m ≠ 1 → ∃ q ∈ L, q ∣ m) : Prm n := by
  refine ⟨by omega, fun x x0 x1 => ?_⟩
  have d1 := Nat.gcd_dvd_left n x
  have d2 := Nat.gcd_dvd_right n x
  have gp : 0 < Nat.gcd n x := Nat.gcd_pos_of_pos_left _ (by omega)
  have gx : Nat.gcd n x ≤ x := Nat.le_of_dvd x0 d2
  generalize Nat.gcd n x = g at *
  by_cases e : g = 1
  · exact e
  exfalso
  have g2 : 2 ≤ g := by omega
  have one : 1 % g = 1 := Nat.mod_eq_of_lt (by omega)
  have tog : ∀ {y : Nat}, y % n = 1 → y % g = 1 := by
    intro y hy
    rw [← Nat.mod_mod_of_dvd y d1, hy, one]
  have a1 := tog h1
  obtain ⟨d, ⟨dp, hd⟩, dl⟩ := least (fun k => 0 < k ∧ a ^ k % g = 1) (n - 1) ⟨by omega, a1⟩
  have mul1 : ∀ {u v : Nat}, u % g = 1 → u * v % g = v % g := fun {u v} hu => by rw [Nat.mul_mod, hu, Nat.one_mul, Nat.mod_mod]
  have powd : ∀ k, a ^ (d * k) % g = 1 := by
    intro k
    rw [Nat.pow_mul, ← mod_pow, hd, Nat.one_pow, one]
  have dd : d ∣ n - 1 := by
    have e1 := Nat.div_add_mod (n - 1) d
    have : a ^ ((n - 1) % d) % g = 1 := by
      have h := a1
      rw [← e1, Nat.pow_add, mul1 (powd _)] at h
      exact h
    by_cases z : (n - 1) % d = 0
    · exact Nat.dvd_of_mod_eq_zero z
    · exact absurd ⟨by omega, this⟩ (dl _ (Nat.mod_lt _ dp))
  obtain ⟨m, hmd⟩ := dd
  have m1 : m = 1 := by
    by_cases m1 : m = 1
    · exact m1
    exfalso
    obtain ⟨q, hq, ⟨s, hs⟩⟩ := hm m ⟨d, by rw [hmd, Nat.mul_comm]⟩ m1
    have q0 : 0 < q := by
      rcases Nat.eq_zero_or_pos q with h | h
      · subst h; rw [hs, Nat.zero_mul, Nat.mul_zero] at hmd; omega
      · exact h
    obtain ⟨c, hc⟩ := hL q hq
    have e2 : (n - 1) / q = d * s := by
      rw [hmd, hs, show d * (q * s) = d * s * q by rw [Nat.mul_comm q s, Nat.mul_assoc], Nat.mul_div_cancel _ q0]
    rw [e2] at hc
    have h3 := tog hc
    obtain ⟨u, hu⟩ := d1
    have h4 : (a ^ (d * s) % n + (n - 1)) % g = 0 := by
      have h5 : a ^ (d * s) % n % g = 1 := by rw [Nat.mod_mod_of_dvd _ ⟨u, hu⟩]; exact powd s
      rw [Nat.add_mod, h5]
      have h6 : (n - 1) % g = g - 1 := by
        have u0 : 0 < u := by
          rcases Nat.eq_zero_or_pos u with h | h
          · subst h; omega
          · exact h
        obtain ⟨w, rfl⟩ : ∃ w, u = w + 1 := ⟨u - 1, by omega⟩
        rw [show n - 1 = g - 1 + g * w by rw [hu, Nat.mul_succ]; omega, Nat.add_mul_mod_self_left]
        exact Nat.mod_eq_of_lt (by omega)
      rw [h6, show 1 + (g - 1) = g by omega, Nat.mod_self]
    rw [Nat.mul_mod, h4, Nat.zero_mul, Nat.zero_mod] at h3
    omega
  have dn : d = n - 1 := by rw [hmd, m1, Nat.mul_one]
  have inj : ∀ i j, i < j → j < n - 1 → a ^ i % g ≠ a ^ j % g := by
    intro i j hij hj he
    have h7 : a ^ (j - i) % g = 1 := by
      have k1 : a ^ (n - 1 - i) * a ^ i % g = 1 := by rw [← Nat.pow_add, show n - 1 - i + i = n - 1 by omega]; exact a1
      have k2 : a ^ (n - 1 - i) * a ^ j % g = a ^ (j - i) % g := by
        rw [show j = i + (j - i) by omega, Nat.pow_add, ← Nat.mul_assoc, mul1 k1, show i + (j - i) - i = j - i by omega]
      rw [← k2, Nat.mul_mod, ← he, ← Nat.mul_mod, k1]
    exact dl (j - i) (by omega) ⟨by omega, h7⟩
  have nz : ∀ i, i < n - 1 → a ^ i % g ≠ 0 := by
    intro i hi h0
    have k1 : a ^ (n - 1 - i) * a ^ i % g = 1 := by rw [← Nat.pow_add, show n - 1 - i + i = n - 1 by omega]; exact a1
    rw [Nat.mul_mod, h0, Nat.mul_zero, Nat.zero_mod] at k1
    omega
  have := pigeon (g - 1) (n - 1) (fun i => a ^ i % g - 1) (fun i hi => by have := nz i hi; have := Nat.mod_lt (a ^ i) gp; omega) (fun i j hij hj he => by
    have h8 := inj i j hij hj
    have h9 := nz i (by omega)
    have h10 := nz j hj
    omega)
  omega
def pm2 (n : Nat) : Nat → Nat → Nat → Nat
  | 0, _, _ => 1 % n
  | k + 1, a, e => if e % 2 = 1 then a * pm2 n k (a * a % n) (e / 2) % n else pm2 n k (a * a % n) (e / 2)
theorem pm2_eq (n : Nat) : ∀ (k a e : Nat), e < 2 ^ k → pm2 n k a e = a ^ e % n
  | 0, a, e, h => by obtain rfl : e = 0 := by omega
                     rfl
  | k + 1, a, e, h => by
    have h2 : e / 2 < 2 ^ k := by rw [Nat.pow_succ] at h; omega
    have e1 : a ^ e = (a * a) ^ (e / 2) * a ^ (e % 2) := by
      rw [show a * a = a ^ 2 by rw [Nat.pow_succ, Nat.pow_succ, Nat.pow_zero, Nat.one_mul], ← Nat.pow_mul, ← Nat.pow_add]
      congr 1; omega
    rw [pm2, pm2_eq n k _ _ h2, mod_pow]
    rcases Nat.mod_two_eq_zero_or_one e with c | c
    · rw [if_neg (by omega), e1, c, Nat.pow_zero, Nat.mul_one]
    · rw [if_pos c, e1, c, Nat.pow_one, Nat.mul_comm, Nat.mod_mul_mod]
theorem prime_div {q : Nat} (h : (List.range (q + 1)).all (fun d => d == 1 || d == q || q % d != 0) = true) (hq : 2 ≤ q) {m : Nat} (hm : ¬ q ∣ m) : Nat.gcd m q = 1 := by
  have d1 := Nat.gcd_dvd_left m q
  have d2 := Nat.gcd_dvd_right m q
  have := List.all_eq_true.1 h (Nat.gcd m q) (List.mem_range.2 (by have := Nat.le_of_dvd (by omega) d2; omega))
  simp only [Bool.or_eq_true, beq_iff_eq, bne_iff_ne] at this
  rcases this with (h1 | h1) | h1
  · exact h1
  · exact absurd (h1 ▸ d1) hm
  · exact absurd (Nat.mod_eq_zero_of_dvd d2) h1
theorem lucas' {n a k : Nat} (hn : 3 ≤ n) (hk : n ≤ 2 ^ k) (L : List (Nat × Nat)) (h1 : pm2 n k a (n - 1) = 1) (hL : L.all (fun w => (pm2 n k a ((n - 1) / w.1) + (n - 1)) * w.2 % n == 1) = true) (hm : ∀ m, m ∣ n - 1 → m ≠ 1 → ∃ q ∈ L.map (·.1), q ∣ m) : Prm n := by
  refine lucas (a := a) hn (L.map (·.1)) (by rw [← pm2_eq n k _ _ (by omega)]; exact h1) (fun q hq => ?_) hm
  obtain ⟨w, hw, rfl⟩ := List.mem_map.1 hq
  refine ⟨w.2, ?_⟩
  rw [← pm2_eq n k _ _ (by have := Nat.div_le_self (n - 1) w.1; omega)]
  have := List.all_eq_true.1 hL w hw
  simpa using this
def wit61 : List (Nat × Nat) := [(2, 1152921504606846975), (3, 212086872990781878), (5, 1436392118636136522), (7, 62135951423208583), (11, 2117382201747708966), (13, 1243296897272292213), (31, 42235654463646013), (41, 730874616585150915), (61, 329365932848850065), (151, 68233547637592170), (331, 1960352316127796739), (1321, 2165998172066445805)]
def fac61 : List Nat := wit61.map (·.1)
theorem prm61 : Prm 2305843009213693951 := by
  refine lucas' (a := 37) (k := 62) (by decide) (by decide) wit61 (by decide +kernel) (by decide +kernel) ?_
  · intro m hm h1
    show ∃ q ∈ fac61, q ∣ m
    by_cases c : ∃ q ∈ fac61, q ∣ m
    · exact c
    exfalso
    have cop : ∀ q ∈ fac61, Nat.gcd m q = 1 := by
      intro q hq
      have hn : ¬ q ∣ m := fun h => c ⟨q, hq, h⟩
      have hall : fac61.all (fun q => (List.range (q + 1)).all (fun d => d == 1 || d == q || q % d != 0) && decide (2 ≤ q)) = true := by decide +kernel
      have := List.all_eq_true.1 hall q hq
      rw [Bool.and_eq_true, decide_eq_true_eq] at this
      exact prime_div this.1 this.2 hn
    have e : (2305843009213693951 - 1 : Nat) = 2 * (3 * (3 * (5 * (5 * (7 * (11 * (13 * (31 * (41 * (61 * (151 * (331 * 1321)))))))))))) := by decide
    have cm : ∀ {u v : Nat}, Nat.gcd m u = 1 → Nat.gcd m v = 1 → Nat.gcd m (u * v) = 1 := fun {u v} h1 h2 => Nat.Coprime.mul_right h1 h2
    have : Nat.gcd m (2305843009213693951 - 1) = 1 := by
      rw [e]
      have k := fun q hq => cop q hq
      exact cm (k 2 (by decide)) (cm (k 3 (by decide)) (cm (k 3 (by decide)) (cm (k 5 (by decide)) (cm (k 5 (by decide)) (cm (k 7 (by decide)) (cm (k 11 (by decide)) (cm (k 13 (by decide)) (cm (k 31 (by decide)) (cm (k 41 (by decide)) (cm (k 61 (by decide)) (cm (k 151 (by decide)) (cm (k 331 (by decide)) (k 1321 (by decide))))))))))))))
    rw [Nat.gcd_eq_left hm] at this
    exact h1 this
end Go.Proofs.Ytmalpmnmknpphaa.TM
namespace Go.Proofs.Ytmalpmnmknpphaa.TM
open Go Go.RowKit
attribute [local irreducible] K W WOps Effs Xg Xo Xr Xdg Xdo Xdr Xif CallsP CallR
theorem is_walk (p : Nat) (hp : p < 1048576) : ∃ b, CallsP Try.prog 12 [u64 p] (bl b) ∧ (b = true → Prm p) := by
  by_cases h2 : p < 2
  · refine ⟨false, ?_, fun h => by cases h⟩
    refine X_startP (n := 17) (m := 1) (rs := [.tmp 2]) Try.func12 rfl rfl rfl rfl (by decide) fun base => ?_
    repeat (first | refine X_opc rfl ?_ | refine X_dopc rfl ?_ | refine ⟨(by show drawK _ _ = true; kernel_rfl : drawX _ _ _), ?_⟩ | exact (by show drawK _ _ = true; kernel_rfl : drawX _ _ _) | simp -dsimp (maxSteps := 20000000) (disch := omega) only [simx, zzC, zzB, tys, ite_self, opnL, callB, callX, readsB, stepOp, nilCmp, ofVal, opBuiltin, opLen, PV.sk, scalBin, scalUn, intBin, opLoad, natOf, opConvert, opField, cellsP, oneP, Value.oneCell', opStore, toIV, scalT, scalA, scalC, boxesA, boxesC, zipB_none, zipB_mx, isZ, opZip, zeroP, opAppendZ, opMakeMap, opLookup, mboxB, opUpdate, ↓reduceIte, Nat.reduceSub, Nat.reduceEqDiff, Nat.reduceAdd, Nat.reduceMul, Nat.reduceLT, Nat.reduceLeDiff, Int.reduceToNat, Int.reduceLE, Int.reduceLT, Int.reduceNeg, reduceCtorEq, zzR, gos, Int.reduceAdd, Int.reduceSub, Int.reduceMul, Int.reduceEq])
  obtain ⟨d0, ⟨d2, dd⟩, dl⟩ := least (fun d => 2 ≤ d ∧ (p < d * d ∨ p % d = 0)) p ⟨by omega, .inr (Nat.mod_self p)⟩
  have lo : ∀ d, 2 ≤ d → d < d0 → d * d ≤ p ∧ p % d ≠ 0 := fun d h1 h3 => by
    have := dl d h3
    constructor
    · rcases Nat.lt_or_ge p (d * d) with h | h
      · exact absurd ⟨h1, .inl h⟩ this
      · exact h
    · intro h; exact this ⟨h1, .inr h⟩
  have dm : d0 ≤ 1024 := by
    rcases Nat.lt_or_ge 1024 d0 with h | h
    · have := (lo 1024 (by omega) h).1; omega
    · exact h
  have sq : ∀ j : Nat, j ≤ 1024 → j * j ≤ 1024 * 1024 := fun j h => Nat.mul_le_mul h h
  refine ⟨decide (p < d0 * d0), ?_, fun h => prm_of (by omega) fun d h1 h3 => ?_⟩
  · refine X_startP (n := 17) (m := 1) (rs := [.tmp 2]) Try.func12 rfl rfl rfl rfl (by decide) fun base => ?_
    repeat (first | refine X_opc rfl ?_ | refine X_dopc rfl ?_ | refine ⟨(by show drawK _ _ = true; kernel_rfl : drawX _ _ _), ?_⟩ | exact (by show drawK _ _ = true; kernel_rfl : drawX _ _ _) | simp -dsimp (maxSteps := 20000000) (disch := omega) only [simx, zzC, zzB, tys, ite_self, opnL, callB, callX, readsB, stepOp, nilCmp, ofVal, opBuiltin, opLen, PV.sk, scalBin, scalUn, intBin, opLoad, natOf, opConvert, opField, cellsP, oneP, Value.oneCell', opStore, toIV, scalT, scalA, scalC, boxesA, boxesC, zipB_none, zipB_mx, isZ, opZip, zeroP, opAppendZ, opMakeMap, opLookup, mboxB, opUpdate, ↓reduceIte, Nat.reduceSub, Nat.reduceEqDiff, Nat.reduceAdd, Nat.reduceMul, Nat.reduceLT, Nat.reduceLeDiff, Int.reduceToNat, Int.reduceLE, Int.reduceLT, Int.reduceNeg, reduceCtorEq, gos, Int.reduceAdd, Int.reduceSub, Int.reduceMul, Int.reduceEq])
    refine X_loopH [0, 3] [] (0) (d0 - 2) (fun j => True) (fun j => [(3, u64 ((2 + j : Nat) : Int))]) (fun j => Heap.none) ?_ ?_ ?_ ?_ ?_ (by decide) ?_
    · exact (fgt_nil)
    · ((simp -dsimp (disch := omega) only [simx, zzB, tys, ite_self, opnL, callB, callX, readsB, stepOp, nilCmp, ofVal, opBuiltin, opLen, PV.sk, scalBin, scalUn, intBin, opLoad, natOf, opConvert, opField, cellsP, oneP, Value.oneCell', opStore, toIV, scalT, scalA, scalC, boxesA, boxesC, zipB_none, zipB_mx, isZ, opZip, zeroP, opAppendZ, opMakeMap, opLookup, mboxB, opUpdate, ↓reduceIte, Nat.reduceSub, Nat.reduceEqDiff, Nat.reduceAdd, Nat.reduceMul, Nat.reduceLT, Nat.reduceLeDiff, Int.reduceToNat, Int.reduceLE, Int.reduceLT, Int.reduceNeg, reduceCtorEq, gos, Int.reduceAdd, Int.reduceSub, Int.reduceMul, Int.reduceEq]) <;> first | rfl | simp)
    · exact drop_nil _
    · omega
    · trivial
    · intro j hj _
      have s1 := sq (2 + j) (by omega)
      have e1 : IntKind.u64.wrap (((2 + j : Nat) : Int) * ((2 + j : Nat) : Int)) = (((2 + j) * (2 + j) : Nat) : Int) := by rw [← Int.natCast_mul]; exact uw_of (by omega) (by omega)
      by_cases cj : j < d0 - 2
      · obtain ⟨l1, l2⟩ := lo (2 + j) (by omega) (by omega)
        have e2 : (((2 + j) * (2 + j) : Nat) : Int) ≤ (p : Int) := by omega
        have e3 : ¬ (p : Int) % ((2 + j : Nat) : Int) = 0 := by rw [← Int.natCast_emod]; omega
        have e4 : IntKind.u64.wrap (((2 + j : Nat) : Int) + 1) = ((2 + (j + 1) : Nat) : Int) := by
          rw [show ((2 + j : Nat) : Int) + 1 = ((2 + (j + 1) : Nat) : Int) by omega]
          exact uw_of (by omega) (by omega)
        have e5 : ¬ ((2 + j : Nat) : Int) = 0 := by omega
        generalize (((2 + j) * (2 + j) : Nat) : Int) = sq2 at *
        clear lo dl dd sq
        repeat (first | refine X_opc rfl ?_ | refine X_dopc rfl ?_ | refine ⟨(by show drawK _ _ = true; kernel_rfl : drawX _ _ _), ?_⟩ | exact (by show drawK _ _ = true; kernel_rfl : drawX _ _ _) | simp -dsimp (maxSteps := 20000000) (disch := omega) only [simx, zzC, zzB, tys, ite_self, opnL, callB, callX, readsB, stepOp, nilCmp, ofVal, opBuiltin, opLen, PV.sk, scalBin, scalUn, intBin, opLoad, natOf, opConvert, opField, cellsP, oneP, Value.oneCell', opStore, toIV, scalT, scalA, scalC, boxesA, boxesC, zipB_none, zipB_mx, isZ, opZip, zeroP, opAppendZ, opMakeMap, opLookup, mboxB, opUpdate, ↓reduceIte, Nat.reduceSub, Nat.reduceEqDiff, Nat.reduceAdd, Nat.reduceMul, Nat.reduceLT, Nat.reduceLeDiff, Int.reduceToNat, Int.reduceLE, Int.reduceLT, Int.reduceNeg, reduceCtorEq, gos, Int.reduceAdd, Int.reduceSub, Int.reduceMul, Int.reduceEq, e1, e2, e3, e4, e5])
        exact ⟨cj, (fgt_nil), by first | exact drop_nil _ | exact ⟨rfl, drop_nil _⟩⟩
      · have hj' : 2 + j = d0 := by omega
        rw [hj'] at e1 s1 ⊢
        by_cases c : p < d0 * d0
        · rw [decide_eq_true c]
          have e2 : ¬ ((d0 * d0 : Nat) : Int) ≤ (p : Int) := by omega
          generalize ((d0 * d0 : Nat) : Int) = sq2 at *
          clear lo dl dd sq
          repeat (first | refine X_opc rfl ?_ | refine X_dopc rfl ?_ | refine ⟨(by show drawK _ _ = true; kernel_rfl : drawX _ _ _), ?_⟩ | exact (by show drawK _ _ = true; kernel_rfl : drawX _ _ _) | simp -dsimp (maxSteps := 20000000) (disch := omega) only [simx, zzC, zzB, tys, ite_self, opnL, callB, callX, readsB, stepOp, nilCmp, ofVal, opBuiltin, opLen, PV.sk, scalBin, scalUn, intBin, opLoad, natOf, opConvert, opField, cellsP, oneP, Value.oneCell', opStore, toIV, scalT, scalA, scalC, boxesA, boxesC, zipB_none, zipB_mx, isZ, opZip, zeroP, opAppendZ, opMakeMap, opLookup, mboxB, opUpdate, ↓reduceIte, Nat.reduceSub, Nat.reduceEqDiff, Nat.reduceAdd, Nat.reduceMul, Nat.reduceLT, Nat.reduceLeDiff, Int.reduceToNat, Int.reduceLE, Int.reduceLT, Int.reduceNeg, reduceCtorEq, zzR, gos, Int.reduceAdd, Int.reduceSub, Int.reduceMul, Int.reduceEq, e1, e2])
        · rw [decide_eq_false c]
          have e2 : ((d0 * d0 : Nat) : Int) ≤ (p : Int) := by omega
          have e3 : (p : Int) % (d0 : Int) = 0 := by
            rcases dd with h | h
            · exact absurd h c
            · rw [← Int.natCast_emod]; omega
          have e5 : ¬ (d0 : Int) = 0 := by omega
          generalize ((d0 * d0 : Nat) : Int) = sq2 at *
          clear lo dl dd sq
          repeat (first | refine X_opc rfl ?_ | refine X_dopc rfl ?_ | refine ⟨(by show drawK _ _ = true; kernel_rfl : drawX _ _ _), ?_⟩ | exact (by show drawK _ _ = true; kernel_rfl : drawX _ _ _) | simp -dsimp (maxSteps := 20000000) (disch := omega) only [simx, zzC, zzB, tys, ite_self, opnL, callB, callX, readsB, stepOp, nilCmp, ofVal, opBuiltin, opLen, PV.sk, scalBin, scalUn, intBin, opLoad, natOf, opConvert, opField, cellsP, oneP, Value.oneCell', opStore, toIV, scalT, scalA, scalC, boxesA, boxesC, zipB_none, zipB_mx, isZ, opZip, zeroP, opAppendZ, opMakeMap, opLookup, mboxB, opUpdate, ↓reduceIte, Nat.reduceSub, Nat.reduceEqDiff, Nat.reduceAdd, Nat.reduceMul, Nat.reduceLT, Nat.reduceLeDiff, Int.reduceToNat, Int.reduceLE, Int.reduceLT, Int.reduceNeg, reduceCtorEq, zzR, gos, Int.reduceAdd, Int.reduceSub, Int.reduceMul, Int.reduceEq, e1, e2, e3, e5])
  · rw [decide_eq_true_eq] at h
    exact (lo d h1 (sq_lt (Nat.lt_of_le_of_lt h3 h))).2
theorem prime14_walk (p : Nat) (hp : p < 18446744073709551616) : ∃ b, CallsP Try.prog 27 [u64 p] (bl b) ∧ (b = true → Prm p) := by
  by_cases c1 : (p : Int) = 2147483647
  · refine ⟨true, ?_, fun _ => by obtain rfl : p = 2147483647 := by omega
                                  exact prm31⟩
    refine X_startP (n := 17) (m := 1) (rs := [.tmp 2]) Try.func27 rfl rfl rfl rfl (by decide) fun base => ?_
    repeat (first | refine X_opc rfl ?_ | refine X_dopc rfl ?_ | refine ⟨(by show drawK _ _ = true; kernel_rfl : drawX _ _ _), ?_⟩ | exact (by show drawK _ _ = true; kernel_rfl : drawX _ _ _) | simp -dsimp (maxSteps := 20000000) (disch := omega) only [simx, zzC, zzB, tys, ite_self, opnL, callB, callX, readsB, stepOp, nilCmp, ofVal, opBuiltin, opLen, PV.sk, scalBin, scalUn, intBin, opLoad, natOf, opConvert, opField, cellsP, oneP, Value.oneCell', opStore, toIV, scalT, scalA, scalC, boxesA, boxesC, zipB_none, zipB_mx, isZ, opZip, zeroP, opAppendZ, opMakeMap, opLookup, mboxB, opUpdate, ↓reduceIte, Nat.reduceSub, Nat.reduceEqDiff, Nat.reduceAdd, Nat.reduceMul, Nat.reduceLT, Nat.reduceLeDiff, Int.reduceToNat, Int.reduceLE, Int.reduceLT, Int.reduceNeg, reduceCtorEq, zzR, gos, Int.reduceAdd, Int.reduceSub, Int.reduceMul, Int.reduceEq])
  by_cases c2 : (p : Int) = 2305843009213693951
  · refine ⟨true, ?_, fun _ => by obtain rfl : p = 2305843009213693951 := by omega
                                  exact prm61⟩
    refine X_startP (n := 17) (m := 1) (rs := [.tmp 2]) Try.func27 rfl rfl rfl rfl (by decide) fun base => ?_
    repeat (first | refine X_opc rfl ?_ | refine X_dopc rfl ?_ | refine ⟨(by show drawK _ _ = true; kernel_rfl : drawX _ _ _), ?_⟩ | exact (by show drawK _ _ = true; kernel_rfl : drawX _ _ _) | simp -dsimp (maxSteps := 20000000) (disch := omega) only [simx, zzC, zzB, tys, ite_self, opnL, callB, callX, readsB, stepOp, nilCmp, ofVal, opBuiltin, opLen, PV.sk, scalBin, scalUn, intBin, opLoad, natOf, opConvert, opField, cellsP, oneP, Value.oneCell', opStore, toIV, scalT, scalA, scalC, boxesA, boxesC, zipB_none, zipB_mx, isZ, opZip, zeroP, opAppendZ, opMakeMap, opLookup, mboxB, opUpdate, ↓reduceIte, Nat.reduceSub, Nat.reduceEqDiff, Nat.reduceAdd, Nat.reduceMul, Nat.reduceLT, Nat.reduceLeDiff, Int.reduceToNat, Int.reduceLE, Int.reduceLT, Int.reduceNeg, reduceCtorEq, zzR, gos, Int.reduceAdd, Int.reduceSub, Int.reduceMul, Int.reduceEq])
  by_cases c3 : (p : Int) < 1048576
  · obtain ⟨b, d, h⟩ := is_walk p (by omega)
    refine ⟨b, ?_, h⟩
    refine X_startP (n := 17) (m := 1) (rs := [.tmp 2]) Try.func27 rfl rfl rfl rfl (by decide) fun base => ?_
    repeat (first | ((first | refine X_call_fn2 rfl (by simp only [tys]) ?_ | refine X_dcall_fn2 rfl (by simp only [tys]) ?_); apply Exists.intro; apply And.intro; (focus (simp -dsimp only [simx, zzC, zzB, tys, ite_self, opnL, callB, callX, readsB, stepOp, nilCmp, ofVal, opBuiltin, opLen, PV.sk, scalBin, scalUn, intBin, opLoad, natOf, opConvert, opField, cellsP, oneP, Value.oneCell', opStore, toIV, scalT, scalA, scalC, boxesA, boxesC, zipB_none, zipB_mx, isZ, opZip, zeroP, opAppendZ, opMakeMap, opLookup, mboxB, opUpdate, ↓reduceIte, Nat.reduceSub, Nat.reduceEqDiff, Nat.reduceAdd, Nat.reduceMul, Nat.reduceLT, Nat.reduceLeDiff, Int.reduceToNat, Int.reduceLE, Int.reduceLT, Int.reduceNeg, reduceCtorEq, zzL, if_true, if_false] <;> rfl)); apply Exists.intro; apply And.intro; (focus (first | exact d))) | refine X_opc rfl ?_ | refine X_dopc rfl ?_ | refine ⟨(by show drawK _ _ = true; kernel_rfl : drawX _ _ _), ?_⟩ | exact (by show drawK _ _ = true; kernel_rfl : drawX _ _ _) | simp -dsimp (maxSteps := 20000000) (disch := omega) only [simx, zzC, zzB, tys, ite_self, opnL, callB, callX, readsB, stepOp, nilCmp, ofVal, opBuiltin, opLen, PV.sk, scalBin, scalUn, intBin, opLoad, natOf, opConvert, opField, cellsP, oneP, Value.oneCell', opStore, toIV, scalT, scalA, scalC, boxesA, boxesC, zipB_none, zipB_mx, isZ, opZip, zeroP, opAppendZ, opMakeMap, opLookup, mboxB, opUpdate, ↓reduceIte, Nat.reduceSub, Nat.reduceEqDiff, Nat.reduceAdd, Nat.reduceMul, Nat.reduceLT, Nat.reduceLeDiff, Int.reduceToNat, Int.reduceLE, Int.reduceLT, Int.reduceNeg, reduceCtorEq, zzR, gos, Int.reduceAdd, Int.reduceSub, Int.reduceMul, Int.reduceEq])
  · refine ⟨false, ?_, fun h => by cases h⟩
    refine X_startP (n := 17) (m := 1) (rs := [.tmp 2]) Try.func27 rfl rfl rfl rfl (by decide) fun base => ?_
    repeat (first | refine X_opc rfl ?_ | refine X_dopc rfl ?_ | refine ⟨(by show drawK _ _ = true; kernel_rfl : drawX _ _ _), ?_⟩ | exact (by show drawK _ _ = true; kernel_rfl : drawX _ _ _) | simp -dsimp (maxSteps := 20000000) (disch := omega) only [simx, zzC, zzB, tys, ite_self, opnL, callB, callX, readsB, stepOp, nilCmp, ofVal, opBuiltin, opLen, PV.sk, scalBin, scalUn, intBin, opLoad, natOf, opConvert, opField, cellsP, oneP, Value.oneCell', opStore, toIV, scalT, scalA, scalC, boxesA, boxesC, zipB_none, zipB_mx, isZ, opZip, zeroP, opAppendZ, opMakeMap, opLookup, mboxB, opUpdate, ↓reduceIte, Nat.reduceSub, Nat.reduceEqDiff, Nat.reduceAdd, Nat.reduceMul, Nat.reduceLT, Nat.reduceLeDiff, Int.reduceToNat, Int.reduceLE, Int.reduceLT, Int.reduceNeg, reduceCtorEq, zzR, gos, Int.reduceAdd, Int.reduceSub, Int.reduceMul, Int.reduceEq])
def nzI : List Int → Nat → Int
  | [], _ => -1
  | a :: l, k => if a = 0 then nzI l (k + 1) else k
def zerB (l : List Int) : Bool := l.all (fun a => a == 0)
theorem nzI_zero : ∀ (l : List Int) (k : Nat), decide (0 ≤ nzI l k) = !zerB l
  | [], k => rfl
  | a :: l, k => by
    unfold zerB
    rw [nzI, List.all_cons]
    by_cases h : a = 0
    · rw [if_pos h, nzI_zero l (k + 1)]; simp [h, zerB]
    · rw [if_neg h]; simp [h]
theorem nz1_walk (a : Int) : CallsP Try.prog 108 [u64 a] (bl (a != 0)) := by
  refine X_startP (n := 5) (m := 1) (rs := [.tmp 2]) Try.func108 rfl rfl rfl rfl (by decide) fun base => ?_
  repeat (first | refine X_opc rfl ?_ | refine X_dopc rfl ?_ | refine ⟨(by show drawK _ _ = true; kernel_rfl : drawX _ _ _), ?_⟩ | exact (by show drawK _ _ = true; kernel_rfl : drawX _ _ _) | simp -dsimp (maxSteps := 20000000) (disch := omega) only [simx, zzC, zzB, tys, ite_self, opnL, callB, callX, readsB, stepOp, nilCmp, ofVal, opBuiltin, opLen, PV.sk, scalBin, scalUn, intBin, opLoad, natOf, opConvert, opField, cellsP, oneP, Value.oneCell', opStore, toIV, scalT, scalA, scalC, boxesA, boxesC, zipB_none, zipB_mx, isZ, opZip, zeroP, opAppendZ, opMakeMap, opLookup, mboxB, opUpdate, ↓reduceIte, Nat.reduceSub, Nat.reduceEqDiff, Nat.reduceAdd, Nat.reduceMul, Nat.reduceLT, Nat.reduceLeDiff, Int.reduceToNat, Int.reduceLE, Int.reduceLT, Int.reduceNeg, reduceCtorEq, zzR, gos, Int.reduceAdd, Int.reduceSub, Int.reduceMul, Int.reduceEq])
theorem indexNZ_walk {l : List Int} (hl : l.length ≤ maxLen) : CallsP Try.prog 130 [lu l, fnc 108] (i64 (nzI l 0)) := by
  rw [mx_len] at hl
  refine X_startP (n := 19) (m := 2) (rs := [.tmp 4]) Try.func130 rfl rfl rfl rfl (by decide) fun base => ?_
  repeat (first | refine X_opc rfl ?_ | refine X_dopc rfl ?_ | refine ⟨(by show drawK _ _ = true; kernel_rfl : drawX _ _ _), ?_⟩ | exact (by show drawK _ _ = true; kernel_rfl : drawX _ _ _) | simp -dsimp (maxSteps := 20000000) (disch := omega) only [simx, zzC, zzB, tys, ite_self, opnL, callB, callX, readsB, stepOp, nilCmp, ofVal, opBuiltin, opLen, PV.sk, scalBin, scalUn, intBin, opLoad, natOf, opConvert, opField, cellsP, oneP, Value.oneCell', opStore, toIV, scalT, scalA, scalC, boxesA, boxesC, zipB_none, zipB_mx, isZ, opZip, zeroP, opAppendZ, opMakeMap, opLookup, mboxB, opUpdate, ↓reduceIte, Nat.reduceSub, Nat.reduceEqDiff, Nat.reduceAdd, Nat.reduceMul, Nat.reduceLT, Nat.reduceLeDiff, Int.reduceToNat, Int.reduceLE, Int.reduceLT, Int.reduceNeg, reduceCtorEq, gos, Int.reduceAdd, Int.reduceSub, Int.reduceMul, Int.reduceEq])
  refine X_loopH [0, 1, 7, 8] [] (0) (l.length) (fun j => nzI (l.drop j) j = nzI l 0) (fun j => [(8, i64 j)]) (fun j => Heap.none) ?_ ?_ ?_ ?_ ?_ (by decide) ?_
  · exact (fgt_nil)
  · ((simp -dsimp (disch := omega) only [simx, zzB, tys, ite_self, opnL, callB, callX, readsB, stepOp, nilCmp, ofVal, opBuiltin, opLen, PV.sk, scalBin, scalUn, intBin, opLoad, natOf, opConvert, opField, cellsP, oneP, Value.oneCell', opStore, toIV, scalT, scalA, scalC, boxesA, boxesC, zipB_none, zipB_mx, isZ, opZip, zeroP, opAppendZ, opMakeMap, opLookup, mboxB, opUpdate, ↓reduceIte, Nat.reduceSub, Nat.reduceEqDiff, Nat.reduceAdd, Nat.reduceMul, Nat.reduceLT, Nat.reduceLeDiff, Int.reduceToNat, Int.reduceLE, Int.reduceLT, Int.reduceNeg, reduceCtorEq, gos, Int.reduceAdd, Int.reduceSub, Int.reduceMul, Int.reduceEq]) <;> first | rfl | simp)
  · exact drop_nil _
  · omega
  · rfl
  · intro j hj hf
    by_cases c : j < l.length
    · have g1 : l[j]? = some l[j] := List.getElem?_eq_getElem c
      have d := nz1_walk l[j]
      rw [List.drop_eq_getElem_cons c, nzI] at hf
      generalize l[j] = a at g1 d hf
      by_cases e : a = 0
      · rw [if_pos e] at hf
        subst e
        rw [show ((0 : Int) != 0) = false from rfl] at d
        repeat (first | ((first | refine X_call_fn2 rfl (by simp only [tys]) ?_ | refine X_dcall_fn2 rfl (by simp only [tys]) ?_); apply Exists.intro; apply And.intro; (focus (simp -dsimp only [simx, zzC, zzB, tys, ite_self, opnL, callB, callX, readsB, stepOp, nilCmp, ofVal, opBuiltin, opLen, PV.sk, scalBin, scalUn, intBin, opLoad, natOf, opConvert, opField, cellsP, oneP, Value.oneCell', opStore, toIV, scalT, scalA, scalC, boxesA, boxesC, zipB_none, zipB_mx, isZ, opZip, zeroP, opAppendZ, opMakeMap, opLookup, mboxB, opUpdate, ↓reduceIte, Nat.reduceSub, Nat.reduceEqDiff, Nat.reduceAdd, Nat.reduceMul, Nat.reduceLT, Nat.reduceLeDiff, Int.reduceToNat, Int.reduceLE, Int.reduceLT, Int.reduceNeg, reduceCtorEq, zzL, if_true, if_false] <;> rfl)); apply Exists.intro; apply And.intro; (focus (first | exact d))) | (refine X_call_val2 rfl ?_; apply Exists.intro; apply And.intro; (focus (simp -dsimp only [simx, zzC, zzB, tys, ite_self, opnL, callB, callX, readsB, stepOp, nilCmp, ofVal, opBuiltin, opLen, PV.sk, scalBin, scalUn, intBin, opLoad, natOf, opConvert, opField, cellsP, oneP, Value.oneCell', opStore, toIV, scalT, scalA, scalC, boxesA, boxesC, zipB_none, zipB_mx, isZ, opZip, zeroP, opAppendZ, opMakeMap, opLookup, mboxB, opUpdate, ↓reduceIte, Nat.reduceSub, Nat.reduceEqDiff, Nat.reduceAdd, Nat.reduceMul, Nat.reduceLT, Nat.reduceLeDiff, Int.reduceToNat, Int.reduceLE, Int.reduceLT, Int.reduceNeg, reduceCtorEq, zzL, if_true, if_false] <;> rfl)); apply And.intro; (focus (first | simp only [tys] | exact such_enter _)); apply Exists.intro; apply And.intro; (focus (simp -dsimp only [simx, zzC, zzB, tys, ite_self, opnL, callB, callX, readsB, stepOp, nilCmp, ofVal, opBuiltin, opLen, PV.sk, scalBin, scalUn, intBin, opLoad, natOf, opConvert, opField, cellsP, oneP, Value.oneCell', opStore, toIV, scalT, scalA, scalC, boxesA, boxesC, zipB_none, zipB_mx, isZ, opZip, zeroP, opAppendZ, opMakeMap, opLookup, mboxB, opUpdate, ↓reduceIte, Nat.reduceSub, Nat.reduceEqDiff, Nat.reduceAdd, Nat.reduceMul, Nat.reduceLT, Nat.reduceLeDiff, Int.reduceToNat, Int.reduceLE, Int.reduceLT, Int.reduceNeg, reduceCtorEq, zzL, if_true, if_false] <;> rfl)); apply Exists.intro; apply And.intro; (focus (first | exact d))) | refine X_opc rfl ?_ | refine X_dopc rfl ?_ | refine ⟨(by show drawK _ _ = true; kernel_rfl : drawX _ _ _), ?_⟩ | exact (by show drawK _ _ = true; kernel_rfl : drawX _ _ _) | simp -dsimp (maxSteps := 20000000) (disch := omega) only [simx, zzC, zzB, tys, ite_self, opnL, callB, callX, readsB, stepOp, nilCmp, ofVal, opBuiltin, opLen, PV.sk, scalBin, scalUn, intBin, opLoad, natOf, opConvert, opField, cellsP, oneP, Value.oneCell', opStore, toIV, scalT, scalA, scalC, boxesA, boxesC, zipB_none, zipB_mx, isZ, opZip, zeroP, opAppendZ, opMakeMap, opLookup, mboxB, opUpdate, ↓reduceIte, Nat.reduceSub, Nat.reduceEqDiff, Nat.reduceAdd, Nat.reduceMul, Nat.reduceLT, Nat.reduceLeDiff, Int.reduceToNat, Int.reduceLE, Int.reduceLT, Int.reduceNeg, reduceCtorEq, zzR, gos, Int.reduceAdd, Int.reduceSub, Int.reduceMul, Int.reduceEq, c, g1])
        exact ⟨c, (fgt_nil), hf, rfl, drop_nil _⟩
      · rw [if_neg e] at hf
        rw [← hf]
        rw [bne_tt e] at d
        repeat (first | ((first | refine X_call_fn2 rfl (by simp only [tys]) ?_ | refine X_dcall_fn2 rfl (by simp only [tys]) ?_); apply Exists.intro; apply And.intro; (focus (simp -dsimp only [simx, zzC, zzB, tys, ite_self, opnL, callB, callX, readsB, stepOp, nilCmp, ofVal, opBuiltin, opLen, PV.sk, scalBin, scalUn, intBin, opLoad, natOf, opConvert, opField, cellsP, oneP, Value.oneCell', opStore, toIV, scalT, scalA, scalC, boxesA, boxesC, zipB_none, zipB_mx, isZ, opZip, zeroP, opAppendZ, opMakeMap, opLookup, mboxB, opUpdate, ↓reduceIte, Nat.reduceSub, Nat.reduceEqDiff, Nat.reduceAdd, Nat.reduceMul, Nat.reduceLT, Nat.reduceLeDiff, Int.reduceToNat, Int.reduceLE, Int.reduceLT, Int.reduceNeg, reduceCtorEq, zzL, if_true, if_false] <;> rfl)); apply Exists.intro; apply And.intro; (focus (first | exact d))) | (refine X_call_val2 rfl ?_; apply Exists.intro; apply And.intro; (focus (simp -dsimp only [simx, zzC, zzB, tys, ite_self, opnL, callB, callX, readsB, stepOp, nilCmp, ofVal, opBuiltin, opLen, PV.sk, scalBin, scalUn, intBin, opLoad, natOf, opConvert, opField, cellsP, oneP, Value.oneCell', opStore, toIV, scalT, scalA, scalC, boxesA, boxesC, zipB_none, zipB_mx, isZ, opZip, zeroP, opAppendZ, opMakeMap, opLookup, mboxB, opUpdate, ↓reduceIte, Nat.reduceSub, Nat.reduceEqDiff, Nat.reduceAdd, Nat.reduceMul, Nat.reduceLT, Nat.reduceLeDiff, Int.reduceToNat, Int.reduceLE, Int.reduceLT, Int.reduceNeg, reduceCtorEq, zzL, if_true, if_false] <;> rfl)); apply And.intro; (focus (first | simp only [tys] | exact such_enter _)); apply Exists.intro; apply And.intro; (focus (simp -dsimp only [simx, zzC, zzB, tys, ite_self, opnL, callB, callX, readsB, stepOp, nilCmp, ofVal, opBuiltin, opLen, PV.sk, scalBin, scalUn, intBin, opLoad, natOf, opConvert, opField, cellsP, oneP, Value.oneCell', opStore, toIV, scalT, scalA, scalC, boxesA, boxesC, zipB_none, zipB_mx, isZ, opZip, zeroP, opAppendZ, opMakeMap, opLookup, mboxB, opUpdate, ↓reduceIte, Nat.reduceSub, Nat.reduceEqDiff, Nat.reduceAdd, Nat.reduceMul, Nat.reduceLT, Nat.reduceLeDiff, Int.reduceToNat, Int.reduceLE, Int.reduceLT, Int.reduceNeg, reduceCtorEq, zzL, if_true, if_false] <;> rfl)); apply Exists.intro; apply And.intro; (focus (first | exact d))) | refine X_opc rfl ?_ | refine X_dopc rfl ?_ | refine ⟨(by show drawK _ _ = true; kernel_rfl : drawX _ _ _), ?_⟩ | exact (by show drawK _ _ = true; kernel_rfl : drawX _ _ _) | simp -dsimp (maxSteps := 20000000) (disch := omega) only [simx, zzC, zzB, tys, ite_self, opnL, callB, callX, readsB, stepOp, nilCmp, ofVal, opBuiltin, opLen, PV.sk, scalBin, scalUn, intBin, opLoad, natOf, opConvert, opField, cellsP, oneP, Value.oneCell', opStore, toIV, scalT, scalA, scalC, boxesA, boxesC, zipB_none, zipB_mx, isZ, opZip, zeroP, opAppendZ, opMakeMap, opLookup, mboxB, opUpdate, ↓reduceIte, Nat.reduceSub, Nat.reduceEqDiff, Nat.reduceAdd, Nat.reduceMul, Nat.reduceLT, Nat.reduceLeDiff, Int.reduceToNat, Int.reduceLE, Int.reduceLT, Int.reduceNeg, reduceCtorEq, zzR, gos, Int.reduceAdd, Int.reduceSub, Int.reduceMul, Int.reduceEq, c, g1])
    · have hj : j = l.length := by omega
      subst hj
      rw [List.drop_length, nzI] at hf
      rw [← hf]
      repeat (first | refine X_opc rfl ?_ | refine X_dopc rfl ?_ | refine ⟨(by show drawK _ _ = true; kernel_rfl : drawX _ _ _), ?_⟩ | exact (by show drawK _ _ = true; kernel_rfl : drawX _ _ _) | simp -dsimp (maxSteps := 20000000) (disch := omega) only [simx, zzC, zzB, tys, ite_self, opnL, callB, callX, readsB, stepOp, nilCmp, ofVal, opBuiltin, opLen, PV.sk, scalBin, scalUn, intBin, opLoad, natOf, opConvert, opField, cellsP, oneP, Value.oneCell', opStore, toIV, scalT, scalA, scalC, boxesA, boxesC, zipB_none, zipB_mx, isZ, opZip, zeroP, opAppendZ, opMakeMap, opLookup, mboxB, opUpdate, ↓reduceIte, Nat.reduceSub, Nat.reduceEqDiff, Nat.reduceAdd, Nat.reduceMul, Nat.reduceLT, Nat.reduceLeDiff, Int.reduceToNat, Int.reduceLE, Int.reduceLT, Int.reduceNeg, reduceCtorEq, zzR, gos, Int.reduceAdd, Int.reduceSub, Int.reduceMul, Int.reduceEq])
theorem containsNZ_walk {l : List Int} (hl : l.length ≤ maxLen) : CallsP Try.prog 107 [lu l, fnc 108] (bl (!zerB l)) := by
  have q := indexNZ_walk hl
  rw [← nzI_zero l 0]
  generalize nzI l 0 = i at q
  by_cases c : 0 ≤ i
  · rw [decide_eq_true c]
    refine X_startP (n := 9) (m := 2) (rs := [.tmp 4]) Try.func107 rfl rfl rfl rfl (by decide) fun base => ?_
    repeat (first | ((first | refine X_call_fn2 rfl (by simp only [tys]) ?_ | refine X_dcall_fn2 rfl (by simp only [tys]) ?_); apply Exists.intro; apply And.intro; (focus (simp -dsimp only [simx, zzC, zzB, tys, ite_self, opnL, callB, callX, readsB, stepOp, nilCmp, ofVal, opBuiltin, opLen, PV.sk, scalBin, scalUn, intBin, opLoad, natOf, opConvert, opField, cellsP, oneP, Value.oneCell', opStore, toIV, scalT, scalA, scalC, boxesA, boxesC, zipB_none, zipB_mx, isZ, opZip, zeroP, opAppendZ, opMakeMap, opLookup, mboxB, opUpdate, ↓reduceIte, Nat.reduceSub, Nat.reduceEqDiff, Nat.reduceAdd, Nat.reduceMul, Nat.reduceLT, Nat.reduceLeDiff, Int.reduceToNat, Int.reduceLE, Int.reduceLT, Int.reduceNeg, reduceCtorEq, zzL, if_true, if_false] <;> rfl)); apply Exists.intro; apply And.intro; (focus (first | exact q))) | refine X_opc rfl ?_ | refine X_dopc rfl ?_ | refine ⟨(by show drawK _ _ = true; kernel_rfl : drawX _ _ _), ?_⟩ | exact (by show drawK _ _ = true; kernel_rfl : drawX _ _ _) | simp -dsimp (maxSteps := 20000000) (disch := omega) only [simx, zzC, zzB, tys, ite_self, opnL, callB, callX, readsB, stepOp, nilCmp, ofVal, opBuiltin, opLen, PV.sk, scalBin, scalUn, intBin, opLoad, natOf, opConvert, opField, cellsP, oneP, Value.oneCell', opStore, toIV, scalT, scalA, scalC, boxesA, boxesC, zipB_none, zipB_mx, isZ, opZip, zeroP, opAppendZ, opMakeMap, opLookup, mboxB, opUpdate, ↓reduceIte, Nat.reduceSub, Nat.reduceEqDiff, Nat.reduceAdd, Nat.reduceMul, Nat.reduceLT, Nat.reduceLeDiff, Int.reduceToNat, Int.reduceLE, Int.reduceLT, Int.reduceNeg, reduceCtorEq, zzR, gos, Int.reduceAdd, Int.reduceSub, Int.reduceMul, Int.reduceEq])
  · rw [decide_eq_false c]
    refine X_startP (n := 9) (m := 2) (rs := [.tmp 4]) Try.func107 rfl rfl rfl rfl (by decide) fun base => ?_
    repeat (first | ((first | refine X_call_fn2 rfl (by simp only [tys]) ?_ | refine X_dcall_fn2 rfl (by simp only [tys]) ?_); apply Exists.intro; apply And.intro; (focus (simp -dsimp only [simx, zzC, zzB, tys, ite_self, opnL, callB, callX, readsB, stepOp, nilCmp, ofVal, opBuiltin, opLen, PV.sk, scalBin, scalUn, intBin, opLoad, natOf, opConvert, opField, cellsP, oneP, Value.oneCell', opStore, toIV, scalT, scalA, scalC, boxesA, boxesC, zipB_none, zipB_mx, isZ, opZip, zeroP, opAppendZ, opMakeMap, opLookup, mboxB, opUpdate, ↓reduceIte, Nat.reduceSub, Nat.reduceEqDiff, Nat.reduceAdd, Nat.reduceMul, Nat.reduceLT, Nat.reduceLeDiff, Int.reduceToNat, Int.reduceLE, Int.reduceLT, Int.reduceNeg, reduceCtorEq, zzL, if_true, if_false] <;> rfl)); apply Exists.intro; apply And.intro; (focus (first | exact q))) | refine X_opc rfl ?_ | refine X_dopc rfl ?_ | refine ⟨(by show drawK _ _ = true; kernel_rfl : drawX _ _ _), ?_⟩ | exact (by show drawK _ _ = true; kernel_rfl : drawX _ _ _) | simp -dsimp (maxSteps := 20000000) (disch := omega) only [simx, zzC, zzB, tys, ite_self, opnL, callB, callX, readsB, stepOp, nilCmp, ofVal, opBuiltin, opLen, PV.sk, scalBin, scalUn, intBin, opLoad, natOf, opConvert, opField, cellsP, oneP, Value.oneCell', opStore, toIV, scalT, scalA, scalC, boxesA, boxesC, zipB_none, zipB_mx, isZ, opZip, zeroP, opAppendZ, opMakeMap, opLookup, mboxB, opUpdate, ↓reduceIte, Nat.reduceSub, Nat.reduceEqDiff, Nat.reduceAdd, Nat.reduceMul, Nat.reduceLT, Nat.reduceLeDiff, Int.reduceToNat, Int.reduceLE, Int.reduceLT, Int.reduceNeg, reduceCtorEq, zzR, gos, Int.reduceAdd, Int.reduceSub, Int.reduceMul, Int.reduceEq])
theorem zero_walk {l : List Int} (hl : l.length ≤ maxLen) : CallsP Try.prog 63 [lu l] (bl (zerB l)) := by
  have q := containsNZ_walk hl
  cases h : zerB l with
  | false =>
    rw [h] at q
    refine X_startP (n := 6) (m := 1) (rs := [.tmp 2]) Try.func63 rfl rfl rfl rfl (by decide) fun base => ?_
    repeat (first | ((first | refine X_call_fn2 rfl (by simp only [tys]) ?_ | refine X_dcall_fn2 rfl (by simp only [tys]) ?_); apply Exists.intro; apply And.intro; (focus (simp -dsimp only [simx, zzC, zzB, tys, ite_self, opnL, callB, callX, readsB, stepOp, nilCmp, ofVal, opBuiltin, opLen, PV.sk, scalBin, scalUn, intBin, opLoad, natOf, opConvert, opField, cellsP, oneP, Value.oneCell', opStore, toIV, scalT, scalA, scalC, boxesA, boxesC, zipB_none, zipB_mx, isZ, opZip, zeroP, opAppendZ, opMakeMap, opLookup, mboxB, opUpdate, ↓reduceIte, Nat.reduceSub, Nat.reduceEqDiff, Nat.reduceAdd, Nat.reduceMul, Nat.reduceLT, Nat.reduceLeDiff, Int.reduceToNat, Int.reduceLE, Int.reduceLT, Int.reduceNeg, reduceCtorEq, zzL, if_true, if_false] <;> rfl)); apply Exists.intro; apply And.intro; (focus (first | exact q))) | refine X_opc rfl ?_ | refine X_dopc rfl ?_ | refine ⟨(by show drawK _ _ = true; kernel_rfl : drawX _ _ _), ?_⟩ | exact (by show drawK _ _ = true; kernel_rfl : drawX _ _ _) | simp -dsimp (maxSteps := 20000000) (disch := omega) only [simx, zzC, zzB, tys, ite_self, opnL, callB, callX, readsB, stepOp, nilCmp, ofVal, opBuiltin, opLen, PV.sk, scalBin, scalUn, intBin, opLoad, natOf, opConvert, opField, cellsP, oneP, Value.oneCell', opStore, toIV, scalT, scalA, scalC, boxesA, boxesC, zipB_none, zipB_mx, isZ, opZip, zeroP, opAppendZ, opMakeMap, opLookup, mboxB, opUpdate, ↓reduceIte, Nat.reduceSub, Nat.reduceEqDiff, Nat.reduceAdd, Nat.reduceMul, Nat.reduceLT, Nat.reduceLeDiff, Int.reduceToNat, Int.reduceLE, Int.reduceLT, Int.reduceNeg, reduceCtorEq, zzR, gos, Int.reduceAdd, Int.reduceSub, Int.reduceMul, Int.reduceEq])
  | true =>
    rw [h] at q
    refine X_startP (n := 6) (m := 1) (rs := [.tmp 2]) Try.func63 rfl rfl rfl rfl (by decide) fun base => ?_
    repeat (first | ((first | refine X_call_fn2 rfl (by simp only [tys]) ?_ | refine X_dcall_fn2 rfl (by simp only [tys]) ?_); apply Exists.intro; apply And.intro; (focus (simp -dsimp only [simx, zzC, zzB, tys, ite_self, opnL, callB, callX, readsB, stepOp, nilCmp, ofVal, opBuiltin, opLen, PV.sk, scalBin, scalUn, intBin, opLoad, natOf, opConvert, opField, cellsP, oneP, Value.oneCell', opStore, toIV, scalT, scalA, scalC, boxesA, boxesC, zipB_none, zipB_mx, isZ, opZip, zeroP, opAppendZ, opMakeMap, opLookup, mboxB, opUpdate, ↓reduceIte, Nat.reduceSub, Nat.reduceEqDiff, Nat.reduceAdd, Nat.reduceMul, Nat.reduceLT, Nat.reduceLeDiff, Int.reduceToNat, Int.reduceLE, Int.reduceLT, Int.reduceNeg, reduceCtorEq, zzL, if_true, if_false] <;> rfl)); apply Exists.intro; apply And.intro; (focus (first | exact q))) | refine X_opc rfl ?_ | refine X_dopc rfl ?_ | refine ⟨(by show drawK _ _ = true; kernel_rfl : drawX _ _ _), ?_⟩ | exact (by show drawK _ _ = true; kernel_rfl : drawX _ _ _) | simp -dsimp (maxSteps := 20000000) (disch := omega) only [simx, zzC, zzB, tys, ite_self, opnL, callB, callX, readsB, stepOp, nilCmp, ofVal, opBuiltin, opLen, PV.sk, scalBin, scalUn, intBin, opLoad, natOf, opConvert, opField, cellsP, oneP, Value.oneCell', opStore, toIV, scalT, scalA, scalC, boxesA, boxesC, zipB_none, zipB_mx, isZ, opZip, zeroP, opAppendZ, opMakeMap, opLookup, mboxB, opUpdate, ↓reduceIte, Nat.reduceSub, Nat.reduceEqDiff, Nat.reduceAdd, Nat.reduceMul, Nat.reduceLT, Nat.reduceLeDiff, Int.reduceToNat, Int.reduceLE, Int.reduceLT, Int.reduceNeg, reduceCtorEq, zzR, gos, Int.reduceAdd, Int.reduceSub, Int.reduceMul, Int.reduceEq])
theorem square_walk (r c : Int) (l : List Int) : CallsP Try.prog 71 [matP r c l] (bl (decide (r = c))) := by
  by_cases h : r = c
  · rw [decide_eq_true h]
    refine X_startP (n := 8) (m := 1) (rs := [.tmp 2]) Try.func71 rfl rfl rfl rfl (by decide) fun base => ?_
    repeat (first | refine X_opc rfl ?_ | refine X_dopc rfl ?_ | refine ⟨(by show drawK _ _ = true; kernel_rfl : drawX _ _ _), ?_⟩ | exact (by show drawK _ _ = true; kernel_rfl : drawX _ _ _) | simp -dsimp (maxSteps := 20000000) (disch := omega) only [simx, zzC, zzB, tys, ite_self, opnL, callB, callX, readsB, stepOp, nilCmp, ofVal, opBuiltin, opLen, PV.sk, scalBin, scalUn, intBin, opLoad, natOf, opConvert, opField, cellsP, oneP, Value.oneCell', opStore, toIV, scalT, scalA, scalC, boxesA, boxesC, zipB_none, zipB_mx, isZ, opZip, zeroP, opAppendZ, opMakeMap, opLookup, mboxB, opUpdate, ↓reduceIte, Nat.reduceSub, Nat.reduceEqDiff, Nat.reduceAdd, Nat.reduceMul, Nat.reduceLT, Nat.reduceLeDiff, Int.reduceToNat, Int.reduceLE, Int.reduceLT, Int.reduceNeg, reduceCtorEq, zzR, gos, Int.reduceAdd, Int.reduceSub, Int.reduceMul, Int.reduceEq])
  · rw [decide_eq_false h]
    refine X_startP (n := 8) (m := 1) (rs := [.tmp 2]) Try.func71 rfl rfl rfl rfl (by decide) fun base => ?_
    repeat (first | refine X_opc rfl ?_ | refine X_dopc rfl ?_ | refine ⟨(by show drawK _ _ = true; kernel_rfl : drawX _ _ _), ?_⟩ | exact (by show drawK _ _ = true; kernel_rfl : drawX _ _ _) | simp -dsimp (maxSteps := 20000000) (disch := omega) only [simx, zzC, zzB, tys, ite_self, opnL, callB, callX, readsB, stepOp, nilCmp, ofVal, opBuiltin, opLen, PV.sk, scalBin, scalUn, intBin, opLoad, natOf, opConvert, opField, cellsP, oneP, Value.oneCell', opStore, toIV, scalT, scalA, scalC, boxesA, boxesC, zipB_none, zipB_mx, isZ, opZip, zeroP, opAppendZ, opMakeMap, opLookup, mboxB, opUpdate, ↓reduceIte, Nat.reduceSub, Nat.reduceEqDiff, Nat.reduceAdd, Nat.reduceMul, Nat.reduceLT, Nat.reduceLeDiff, Int.reduceToNat, Int.reduceLE, Int.reduceLT, Int.reduceNeg, reduceCtorEq, zzR, gos, Int.reduceAdd, Int.reduceSub, Int.reduceMul, Int.reduceEq])
theorem equal_walk (a b : List Int) (hl : a.length ≤ maxLen) : CallsP Try.prog 58 [lu a, lu b] (bl (decide (a = b))) := by
  rw [mx_len] at hl
  by_cases c0 : (a.length : Int) = b.length
  case neg =>
    rw [decide_eq_false (by rintro rfl; exact c0 rfl)]
    refine X_startP (n := 26) (m := 2) (rs := [.tmp 4]) Try.func58 rfl rfl rfl rfl (by decide) fun base => ?_
    repeat (first | refine X_opc rfl ?_ | refine X_dopc rfl ?_ | refine ⟨(by show drawK _ _ = true; kernel_rfl : drawX _ _ _), ?_⟩ | exact (by show drawK _ _ = true; kernel_rfl : drawX _ _ _) | simp -dsimp (maxSteps := 20000000) (disch := omega) only [simx, zzC, zzB, tys, ite_self, opnL, callB, callX, readsB, stepOp, nilCmp, ofVal, opBuiltin, opLen, PV.sk, scalBin, scalUn, intBin, opLoad, natOf, opConvert, opField, cellsP, oneP, Value.oneCell', opStore, toIV, scalT, scalA, scalC, boxesA, boxesC, zipB_none, zipB_mx, isZ, opZip, zeroP, opAppendZ, opMakeMap, opLookup, mboxB, opUpdate, ↓reduceIte, Nat.reduceSub, Nat.reduceEqDiff, Nat.reduceAdd, Nat.reduceMul, Nat.reduceLT, Nat.reduceLeDiff, Int.reduceToNat, Int.reduceLE, Int.reduceLT, Int.reduceNeg, reduceCtorEq, zzR, gos, Int.reduceAdd, Int.reduceSub, Int.reduceMul, Int.reduceEq])
  refine X_startP (n := 26) (m := 2) (rs := [.tmp 4]) Try.func58 rfl rfl rfl rfl (by decide) fun base => ?_
  repeat (first | refine X_opc rfl ?_ | refine X_dopc rfl ?_ | refine ⟨(by show drawK _ _ = true; kernel_rfl : drawX _ _ _), ?_⟩ | exact (by show drawK _ _ = true; kernel_rfl : drawX _ _ _) | simp -dsimp (maxSteps := 20000000) (disch := omega) only [simx, zzC, zzB, tys, ite_self, opnL, callB, callX, readsB, stepOp, nilCmp, ofVal, opBuiltin, opLen, PV.sk, scalBin, scalUn, intBin, opLoad, natOf, opConvert, opField, cellsP, oneP, Value.oneCell', opStore, toIV, scalT, scalA, scalC, boxesA, boxesC, zipB_none, zipB_mx, isZ, opZip, zeroP, opAppendZ, opMakeMap, opLookup, mboxB, opUpdate, ↓reduceIte, Nat.reduceSub, Nat.reduceEqDiff, Nat.reduceAdd, Nat.reduceMul, Nat.reduceLT, Nat.reduceLeDiff, Int.reduceToNat, Int.reduceLE, Int.reduceLT, Int.reduceNeg, reduceCtorEq, gos, Int.reduceAdd, Int.reduceSub, Int.reduceMul, Int.reduceEq])
  refine X_loopH [0, 1, 12, 13] [] (0) (a.length) (fun j => a.take j = b.take j) (fun j => [(13, i64 j)]) (fun j => Heap.none) ?_ ?_ ?_ ?_ ?_ (by decide) ?_
  · exact (fgt_nil)
  · ((simp -dsimp (disch := omega) only [simx, zzB, tys, ite_self, opnL, callB, callX, readsB, stepOp, nilCmp, ofVal, opBuiltin, opLen, PV.sk, scalBin, scalUn, intBin, opLoad, natOf, opConvert, opField, cellsP, oneP, Value.oneCell', opStore, toIV, scalT, scalA, scalC, boxesA, boxesC, zipB_none, zipB_mx, isZ, opZip, zeroP, opAppendZ, opMakeMap, opLookup, mboxB, opUpdate, ↓reduceIte, Nat.reduceSub, Nat.reduceEqDiff, Nat.reduceAdd, Nat.reduceMul, Nat.reduceLT, Nat.reduceLeDiff, Int.reduceToNat, Int.reduceLE, Int.reduceLT, Int.reduceNeg, reduceCtorEq, gos, Int.reduceAdd, Int.reduceSub, Int.reduceMul, Int.reduceEq]) <;> first | rfl | simp)
  · exact drop_nil _
  · omega
  · rfl
  · intro j hj hf
    by_cases c : j < a.length
    · have c' : j < b.length := by omega
      have g1 : a[j]? = some a[j] := List.getElem?_eq_getElem c
      have g2 : b[j]? = some b[j] := List.getElem?_eq_getElem c'
      by_cases e : a[j] = b[j]
      · have nx := take_next c c' hf e
        rw [e] at g1
        generalize b[j] = y at g1 g2
        repeat (first | refine X_opc rfl ?_ | refine X_dopc rfl ?_ | refine ⟨(by show drawK _ _ = true; kernel_rfl : drawX _ _ _), ?_⟩ | exact (by show drawK _ _ = true; kernel_rfl : drawX _ _ _) | simp -dsimp (maxSteps := 20000000) (disch := omega) only [simx, zzC, zzB, tys, ite_self, opnL, callB, callX, readsB, stepOp, nilCmp, ofVal, opBuiltin, opLen, PV.sk, scalBin, scalUn, intBin, opLoad, natOf, opConvert, opField, cellsP, oneP, Value.oneCell', opStore, toIV, scalT, scalA, scalC, boxesA, boxesC, zipB_none, zipB_mx, isZ, opZip, zeroP, opAppendZ, opMakeMap, opLookup, mboxB, opUpdate, ↓reduceIte, Nat.reduceSub, Nat.reduceEqDiff, Nat.reduceAdd, Nat.reduceMul, Nat.reduceLT, Nat.reduceLeDiff, Int.reduceToNat, Int.reduceLE, Int.reduceLT, Int.reduceNeg, reduceCtorEq, gos, Int.reduceAdd, Int.reduceSub, Int.reduceMul, Int.reduceEq, c, c', g1, g2])
        exact ⟨c, (fgt_nil), nx, rfl, drop_nil _⟩
      · rw [decide_eq_false (by rintro rfl; exact e rfl)]
        generalize a[j] = x at g1 e
        generalize b[j] = y at g2 e
        repeat (first | refine X_opc rfl ?_ | refine X_dopc rfl ?_ | refine ⟨(by show drawK _ _ = true; kernel_rfl : drawX _ _ _), ?_⟩ | exact (by show drawK _ _ = true; kernel_rfl : drawX _ _ _) | simp -dsimp (maxSteps := 20000000) (disch := omega) only [simx, zzC, zzB, tys, ite_self, opnL, callB, callX, readsB, stepOp, nilCmp, ofVal, opBuiltin, opLen, PV.sk, scalBin, scalUn, intBin, opLoad, natOf, opConvert, opField, cellsP, oneP, Value.oneCell', opStore, toIV, scalT, scalA, scalC, boxesA, boxesC, zipB_none, zipB_mx, isZ, opZip, zeroP, opAppendZ, opMakeMap, opLookup, mboxB, opUpdate, ↓reduceIte, Nat.reduceSub, Nat.reduceEqDiff, Nat.reduceAdd, Nat.reduceMul, Nat.reduceLT, Nat.reduceLeDiff, Int.reduceToNat, Int.reduceLE, Int.reduceLT, Int.reduceNeg, reduceCtorEq, zzR, gos, Int.reduceAdd, Int.reduceSub, Int.reduceMul, Int.reduceEq, c, c', g1, g2])
    · have hj : j = a.length := by omega
      subst hj
      rw [List.take_length, List.take_of_length_le (by omega)] at hf
      rw [decide_eq_true hf]
      repeat (first | refine X_opc rfl ?_ | refine X_dopc rfl ?_ | refine ⟨(by show drawK _ _ = true; kernel_rfl : drawX _ _ _), ?_⟩ | exact (by show drawK _ _ = true; kernel_rfl : drawX _ _ _) | simp -dsimp (maxSteps := 20000000) (disch := omega) only [simx, zzC, zzB, tys, ite_self, opnL, callB, callX, readsB, stepOp, nilCmp, ofVal, opBuiltin, opLen, PV.sk, scalBin, scalUn, intBin, opLoad, natOf, opConvert, opField, cellsP, oneP, Value.oneCell', opStore, toIV, scalT, scalA, scalC, boxesA, boxesC, zipB_none, zipB_mx, isZ, opZip, zeroP, opAppendZ, opMakeMap, opLookup, mboxB, opUpdate, ↓reduceIte, Nat.reduceSub, Nat.reduceEqDiff, Nat.reduceAdd, Nat.reduceMul, Nat.reduceLT, Nat.reduceLeDiff, Int.reduceToNat, Int.reduceLE, Int.reduceLT, Int.reduceNeg, reduceCtorEq, zzR, gos, Int.reduceAdd, Int.reduceSub, Int.reduceMul, Int.reduceEq])
def goneB (p r c : Int) (l y : List Int) : Bool := decide ((mlR p y r c l).2 = 0) && zerB (mlR p y r c l).1
def losesB (p r c : Int) (l y : List Int) : Bool := goneB p r c l y && !zerB y
def singB (p r c : Int) (l x : List Int) : Bool := decide (r = c) && (decide ((timesR p r c l x).2 = 0) && (!zerB x && zerB (timesR p r c l x).1))
def solvesB (p r c : Int) (l b x : List Int) : Bool := MatB p r c l && (decide ((b.length : Int) = r) && (HasB p b && (decide ((timesR p r c l x).2 = 0) && decide ((timesR p r c l x).1 = b))))
theorem mlR_len {p r c : Int} {y l : List Int} : (mlR p y r c l).1.length ≤ maxLen := by
  unfold mlR
  split
  · rename_i h
    rw [Bool.and_eq_true] at h
    obtain ⟨R, C, rfl, rfl, M⟩ := mat_of h.1
    have := M.c2
    simp only [Int.toNat_natCast, timesM, List.length_map, List.length_range, mx_len]; omega
  · exact Nat.zero_le _
theorem timesR_len {p r c : Int} {y l : List Int} : (timesR p r c l y).1.length ≤ maxLen := by
  unfold timesR
  split
  · rename_i h
    rw [Bool.and_eq_true] at h
    obtain ⟨R, C, rfl, rfl, M⟩ := mat_of h.1
    have := M.r2
    simp only [Int.toNat_natCast, timesM, List.length_map, List.length_range, mx_len]; omega
  · exact Nat.zero_le _
theorem gone_walk (p r c : Int) (l y : List Int) (hl : l.length ≤ maxLen) (hy : y.length ≤ maxLen) (wl : W64s l) (wy : W64s y) : CallsP Try.prog 78 [u64 p, matP r c l, lu y] (bl (goneB p r c l y)) := by
  have q := left_walk p r c l y hl hy wl wy
  have z := zero_walk (mlR_len (p := p) (r := r) (c := c) (y := y) (l := l))
  unfold goneB
  generalize mlR p y r c l = m at *
  obtain ⟨m1, m2⟩ := m
  simp only at q z ⊢
  by_cases h : m2 = 0
  · rw [decide_eq_true h]
    cases hz : zerB m1 with
    | false =>
      rw [hz] at z
      refine X_startP (n := 22) (m := 3) (rs := [.tmp 6]) Try.func78 rfl rfl rfl rfl (by decide) fun base => ?_
      repeat (first | ((first | refine X_call_fn2 rfl (by simp only [tys]) ?_ | refine X_dcall_fn2 rfl (by simp only [tys]) ?_); apply Exists.intro; apply And.intro; (focus (simp -dsimp only [simx, zzC, zzB, tys, ite_self, opnL, callB, callX, readsB, stepOp, nilCmp, ofVal, opBuiltin, opLen, PV.sk, scalBin, scalUn, intBin, opLoad, natOf, opConvert, opField, cellsP, oneP, Value.oneCell', opStore, toIV, scalT, scalA, scalC, boxesA, boxesC, zipB_none, zipB_mx, isZ, opZip, zeroP, opAppendZ, opMakeMap, opLookup, mboxB, opUpdate, ↓reduceIte, Nat.reduceSub, Nat.reduceEqDiff, Nat.reduceAdd, Nat.reduceMul, Nat.reduceLT, Nat.reduceLeDiff, Int.reduceToNat, Int.reduceLE, Int.reduceLT, Int.reduceNeg, reduceCtorEq, zzL, if_true, if_false] <;> rfl)); apply Exists.intro; apply And.intro; (focus (first | exact q | exact z))) | refine X_opc rfl ?_ | refine X_dopc rfl ?_ | refine ⟨(by show drawK _ _ = true; kernel_rfl : drawX _ _ _), ?_⟩ | exact (by show drawK _ _ = true; kernel_rfl : drawX _ _ _) | simp -dsimp (maxSteps := 20000000) (disch := omega) only [simx, zzC, zzB, tys, ite_self, opnL, callB, callX, readsB, stepOp, nilCmp, ofVal, opBuiltin, opLen, PV.sk, scalBin, scalUn, intBin, opLoad, natOf, opConvert, opField, cellsP, oneP, Value.oneCell', opStore, toIV, scalT, scalA, scalC, boxesA, boxesC, zipB_none, zipB_mx, isZ, opZip, zeroP, opAppendZ, opMakeMap, opLookup, mboxB, opUpdate, ↓reduceIte, Nat.reduceSub, Nat.reduceEqDiff, Nat.reduceAdd, Nat.reduceMul, Nat.reduceLT, Nat.reduceLeDiff, Int.reduceToNat, Int.reduceLE, Int.reduceLT, Int.reduceNeg, reduceCtorEq, zzR, gos, Int.reduceAdd, Int.reduceSub, Int.reduceMul, Int.reduceEq])
    | true =>
      rw [hz] at z
      refine X_startP (n := 22) (m := 3) (rs := [.tmp 6]) Try.func78 rfl rfl rfl rfl (by decide) fun base => ?_
      repeat (first | ((first | refine X_call_fn2 rfl (by simp only [tys]) ?_ | refine X_dcall_fn2 rfl (by simp only [tys]) ?_); apply Exists.intro; apply And.intro; (focus (simp -dsimp only [simx, zzC, zzB, tys, ite_self, opnL, callB, callX, readsB, stepOp, nilCmp, ofVal, opBuiltin, opLen, PV.sk, scalBin, scalUn, intBin, opLoad, natOf, opConvert, opField, cellsP, oneP, Value.oneCell', opStore, toIV, scalT, scalA, scalC, boxesA, boxesC, zipB_none, zipB_mx, isZ, opZip, zeroP, opAppendZ, opMakeMap, opLookup, mboxB, opUpdate, ↓reduceIte, Nat.reduceSub, Nat.reduceEqDiff, Nat.reduceAdd, Nat.reduceMul, Nat.reduceLT, Nat.reduceLeDiff, Int.reduceToNat, Int.reduceLE, Int.reduceLT, Int.reduceNeg, reduceCtorEq, zzL, if_true, if_false] <;> rfl)); apply Exists.intro; apply And.intro; (focus (first | exact q | exact z))) | refine X_opc rfl ?_ | refine X_dopc rfl ?_ | refine ⟨(by show drawK _ _ = true; kernel_rfl : drawX _ _ _), ?_⟩ | exact (by show drawK _ _ = true; kernel_rfl : drawX _ _ _) | simp -dsimp (maxSteps := 20000000) (disch := omega) only [simx, zzC, zzB, tys, ite_self, opnL, callB, callX, readsB, stepOp, nilCmp, ofVal, opBuiltin, opLen, PV.sk, scalBin, scalUn, intBin, opLoad, natOf, opConvert, opField, cellsP, oneP, Value.oneCell', opStore, toIV, scalT, scalA, scalC, boxesA, boxesC, zipB_none, zipB_mx, isZ, opZip, zeroP, opAppendZ, opMakeMap, opLookup, mboxB, opUpdate, ↓reduceIte, Nat.reduceSub, Nat.reduceEqDiff, Nat.reduceAdd, Nat.reduceMul, Nat.reduceLT, Nat.reduceLeDiff, Int.reduceToNat, Int.reduceLE, Int.reduceLT, Int.reduceNeg, reduceCtorEq, zzR, gos, Int.reduceAdd, Int.reduceSub, Int.reduceMul, Int.reduceEq])
  · rw [decide_eq_false h]
    refine X_startP (n := 22) (m := 3) (rs := [.tmp 6]) Try.func78 rfl rfl rfl rfl (by decide) fun base => ?_
    repeat (first | ((first | refine X_call_fn2 rfl (by simp only [tys]) ?_ | refine X_dcall_fn2 rfl (by simp only [tys]) ?_); apply Exists.intro; apply And.intro; (focus (simp -dsimp only [simx, zzC, zzB, tys, ite_self, opnL, callB, callX, readsB, stepOp, nilCmp, ofVal, opBuiltin, opLen, PV.sk, scalBin, scalUn, intBin, opLoad, natOf, opConvert, opField, cellsP, oneP, Value.oneCell', opStore, toIV, scalT, scalA, scalC, boxesA, boxesC, zipB_none, zipB_mx, isZ, opZip, zeroP, opAppendZ, opMakeMap, opLookup, mboxB, opUpdate, ↓reduceIte, Nat.reduceSub, Nat.reduceEqDiff, Nat.reduceAdd, Nat.reduceMul, Nat.reduceLT, Nat.reduceLeDiff, Int.reduceToNat, Int.reduceLE, Int.reduceLT, Int.reduceNeg, reduceCtorEq, zzL, if_true, if_false] <;> rfl)); apply Exists.intro; apply And.intro; (focus (first | exact q))) | refine X_opc rfl ?_ | refine X_dopc rfl ?_ | refine ⟨(by show drawK _ _ = true; kernel_rfl : drawX _ _ _), ?_⟩ | exact (by show drawK _ _ = true; kernel_rfl : drawX _ _ _) | simp -dsimp (maxSteps := 20000000) (disch := omega) only [simx, zzC, zzB, tys, ite_self, opnL, callB, callX, readsB, stepOp, nilCmp, ofVal, opBuiltin, opLen, PV.sk, scalBin, scalUn, intBin, opLoad, natOf, opConvert, opField, cellsP, oneP, Value.oneCell', opStore, toIV, scalT, scalA, scalC, boxesA, boxesC, zipB_none, zipB_mx, isZ, opZip, zeroP, opAppendZ, opMakeMap, opLookup, mboxB, opUpdate, ↓reduceIte, Nat.reduceSub, Nat.reduceEqDiff, Nat.reduceAdd, Nat.reduceMul, Nat.reduceLT, Nat.reduceLeDiff, Int.reduceToNat, Int.reduceLE, Int.reduceLT, Int.reduceNeg, reduceCtorEq, zzR, gos, Int.reduceAdd, Int.reduceSub, Int.reduceMul, Int.reduceEq])
theorem loses_walk (p r c : Int) (l y : List Int) (hl : l.length ≤ maxLen) (hy : y.length ≤ maxLen) (wl : W64s l) (wy : W64s y) : CallsP Try.prog 34 [u64 p, matP r c l, lu y] (bl (losesB p r c l y)) := by
  have q := gone_walk p r c l y hl hy wl wy
  have z := zero_walk hy
  unfold losesB
  cases hg : goneB p r c l y with
  | false =>
    rw [hg] at q
    refine X_startP (n := 16) (m := 3) (rs := [.tmp 6]) Try.func34 rfl rfl rfl rfl (by decide) fun base => ?_
    repeat (first | ((first | refine X_call_fn2 rfl (by simp only [tys]) ?_ | refine X_dcall_fn2 rfl (by simp only [tys]) ?_); apply Exists.intro; apply And.intro; (focus (simp -dsimp only [simx, zzC, zzB, tys, ite_self, opnL, callB, callX, readsB, stepOp, nilCmp, ofVal, opBuiltin, opLen, PV.sk, scalBin, scalUn, intBin, opLoad, natOf, opConvert, opField, cellsP, oneP, Value.oneCell', opStore, toIV, scalT, scalA, scalC, boxesA, boxesC, zipB_none, zipB_mx, isZ, opZip, zeroP, opAppendZ, opMakeMap, opLookup, mboxB, opUpdate, ↓reduceIte, Nat.reduceSub, Nat.reduceEqDiff, Nat.reduceAdd, Nat.reduceMul, Nat.reduceLT, Nat.reduceLeDiff, Int.reduceToNat, Int.reduceLE, Int.reduceLT, Int.reduceNeg, reduceCtorEq, zzL, if_true, if_false] <;> rfl)); apply Exists.intro; apply And.intro; (focus (first | exact q))) | refine X_opc rfl ?_ | refine X_dopc rfl ?_ | refine ⟨(by show drawK _ _ = true; kernel_rfl : drawX _ _ _), ?_⟩ | exact (by show drawK _ _ = true; kernel_rfl : drawX _ _ _) | simp -dsimp (maxSteps := 20000000) (disch := omega) only [simx, zzC, zzB, tys, ite_self, opnL, callB, callX, readsB, stepOp, nilCmp, ofVal, opBuiltin, opLen, PV.sk, scalBin, scalUn, intBin, opLoad, natOf, opConvert, opField, cellsP, oneP, Value.oneCell', opStore, toIV, scalT, scalA, scalC, boxesA, boxesC, zipB_none, zipB_mx, isZ, opZip, zeroP, opAppendZ, opMakeMap, opLookup, mboxB, opUpdate, ↓reduceIte, Nat.reduceSub, Nat.reduceEqDiff, Nat.reduceAdd, Nat.reduceMul, Nat.reduceLT, Nat.reduceLeDiff, Int.reduceToNat, Int.reduceLE, Int.reduceLT, Int.reduceNeg, reduceCtorEq, zzR, gos, Int.reduceAdd, Int.reduceSub, Int.reduceMul, Int.reduceEq])
  | true =>
    rw [hg] at q
    cases hz : zerB y with
    | false =>
      rw [hz] at z
      refine X_startP (n := 16) (m := 3) (rs := [.tmp 6]) Try.func34 rfl rfl rfl rfl (by decide) fun base => ?_
      repeat (first | ((first | refine X_call_fn2 rfl (by simp only [tys]) ?_ | refine X_dcall_fn2 rfl (by simp only [tys]) ?_); apply Exists.intro; apply And.intro; (focus (simp -dsimp only [simx, zzC, zzB, tys, ite_self, opnL, callB, callX, readsB, stepOp, nilCmp, ofVal, opBuiltin, opLen, PV.sk, scalBin, scalUn, intBin, opLoad, natOf, opConvert, opField, cellsP, oneP, Value.oneCell', opStore, toIV, scalT, scalA, scalC, boxesA, boxesC, zipB_none, zipB_mx, isZ, opZip, zeroP, opAppendZ, opMakeMap, opLookup, mboxB, opUpdate, ↓reduceIte, Nat.reduceSub, Nat.reduceEqDiff, Nat.reduceAdd, Nat.reduceMul, Nat.reduceLT, Nat.reduceLeDiff, Int.reduceToNat, Int.reduceLE, Int.reduceLT, Int.reduceNeg, reduceCtorEq, zzL, if_true, if_false] <;> rfl)); apply Exists.intro; apply And.intro; (focus (first | exact q | exact z))) | refine X_opc rfl ?_ | refine X_dopc rfl ?_ | refine ⟨(by show drawK _ _ = true; kernel_rfl : drawX _ _ _), ?_⟩ | exact (by show drawK _ _ = true; kernel_rfl : drawX _ _ _) | simp -dsimp (maxSteps := 20000000) (disch := omega) only [simx, zzC, zzB, tys, ite_self, opnL, callB, callX, readsB, stepOp, nilCmp, ofVal, opBuiltin, opLen, PV.sk, scalBin, scalUn, intBin, opLoad, natOf, opConvert, opField, cellsP, oneP, Value.oneCell', opStore, toIV, scalT, scalA, scalC, boxesA, boxesC, zipB_none, zipB_mx, isZ, opZip, zeroP, opAppendZ, opMakeMap, opLookup, mboxB, opUpdate, ↓reduceIte, Nat.reduceSub, Nat.reduceEqDiff, Nat.reduceAdd, Nat.reduceMul, Nat.reduceLT, Nat.reduceLeDiff, Int.reduceToNat, Int.reduceLE, Int.reduceLT, Int.reduceNeg, reduceCtorEq, zzR, gos, Int.reduceAdd, Int.reduceSub, Int.reduceMul, Int.reduceEq])
    | true =>
      rw [hz] at z
      refine X_startP (n := 16) (m := 3) (rs := [.tmp 6]) Try.func34 rfl rfl rfl rfl (by decide) fun base => ?_
      repeat (first | ((first | refine X_call_fn2 rfl (by simp only [tys]) ?_ | refine X_dcall_fn2 rfl (by simp only [tys]) ?_); apply Exists.intro; apply And.intro; (focus (simp -dsimp only [simx, zzC, zzB, tys, ite_self, opnL, callB, callX, readsB, stepOp, nilCmp, ofVal, opBuiltin, opLen, PV.sk, scalBin, scalUn, intBin, opLoad, natOf, opConvert, opField, cellsP, oneP, Value.oneCell', opStore, toIV, scalT, scalA, scalC, boxesA, boxesC, zipB_none, zipB_mx, isZ, opZip, zeroP, opAppendZ, opMakeMap, opLookup, mboxB, opUpdate, ↓reduceIte, Nat.reduceSub, Nat.reduceEqDiff, Nat.reduceAdd, Nat.reduceMul, Nat.reduceLT, Nat.reduceLeDiff, Int.reduceToNat, Int.reduceLE, Int.reduceLT, Int.reduceNeg, reduceCtorEq, zzL, if_true, if_false] <;> rfl)); apply Exists.intro; apply And.intro; (focus (first | exact q | exact z))) | refine X_opc rfl ?_ | refine X_dopc rfl ?_ | refine ⟨(by show drawK _ _ = true; kernel_rfl : drawX _ _ _), ?_⟩ | exact (by show drawK _ _ = true; kernel_rfl : drawX _ _ _) | simp -dsimp (maxSteps := 20000000) (disch := omega) only [simx, zzC, zzB, tys, ite_self, opnL, callB, callX, readsB, stepOp, nilCmp, ofVal, opBuiltin, opLen, PV.sk, scalBin, scalUn, intBin, opLoad, natOf, opConvert, opField, cellsP, oneP, Value.oneCell', opStore, toIV, scalT, scalA, scalC, boxesA, boxesC, zipB_none, zipB_mx, isZ, opZip, zeroP, opAppendZ, opMakeMap, opLookup, mboxB, opUpdate, ↓reduceIte, Nat.reduceSub, Nat.reduceEqDiff, Nat.reduceAdd, Nat.reduceMul, Nat.reduceLT, Nat.reduceLeDiff, Int.reduceToNat, Int.reduceLE, Int.reduceLT, Int.reduceNeg, reduceCtorEq, zzR, gos, Int.reduceAdd, Int.reduceSub, Int.reduceMul, Int.reduceEq])
theorem sing_walk (p r c : Int) (l x : List Int) (hl : l.length ≤ maxLen) (hx : x.length ≤ maxLen) (wl : W64s l) (wx : W64s x) : CallsP Try.prog 36 [u64 p, matP r c l, lu x] (bl (singB p r c l x)) := by
  have q := times_walk p r c l x hl hx wl wx
  have z := zero_walk (timesR_len (p := p) (r := r) (c := c) (y := x) (l := l))
  have z2 := zero_walk hx
  have s := square_walk r c l
  unfold singB
  generalize timesR p r c l x = m at *
  obtain ⟨m1, m2⟩ := m
  simp only at q z ⊢
  by_cases h0 : r = c
  case neg =>
    rw [decide_eq_false h0] at s ⊢
    refine X_startP (n := 31) (m := 3) (rs := [.tmp 6]) Try.func36 rfl rfl rfl rfl (by decide) fun base => ?_
    repeat (first | ((first | refine X_call_fn2 rfl (by simp only [tys]) ?_ | refine X_dcall_fn2 rfl (by simp only [tys]) ?_); apply Exists.intro; apply And.intro; (focus (simp -dsimp only [simx, zzC, zzB, tys, ite_self, opnL, callB, callX, readsB, stepOp, nilCmp, ofVal, opBuiltin, opLen, PV.sk, scalBin, scalUn, intBin, opLoad, natOf, opConvert, opField, cellsP, oneP, Value.oneCell', opStore, toIV, scalT, scalA, scalC, boxesA, boxesC, zipB_none, zipB_mx, isZ, opZip, zeroP, opAppendZ, opMakeMap, opLookup, mboxB, opUpdate, ↓reduceIte, Nat.reduceSub, Nat.reduceEqDiff, Nat.reduceAdd, Nat.reduceMul, Nat.reduceLT, Nat.reduceLeDiff, Int.reduceToNat, Int.reduceLE, Int.reduceLT, Int.reduceNeg, reduceCtorEq, zzL, if_true, if_false] <;> rfl)); apply Exists.intro; apply And.intro; (focus (first | exact q | exact s))) | refine X_opc rfl ?_ | refine X_dopc rfl ?_ | refine ⟨(by show drawK _ _ = true; kernel_rfl : drawX _ _ _), ?_⟩ | exact (by show drawK _ _ = true; kernel_rfl : drawX _ _ _) | simp -dsimp (maxSteps := 20000000) (disch := omega) only [simx, zzC, zzB, tys, ite_self, opnL, callB, callX, readsB, stepOp, nilCmp, ofVal, opBuiltin, opLen, PV.sk, scalBin, scalUn, intBin, opLoad, natOf, opConvert, opField, cellsP, oneP, Value.oneCell', opStore, toIV, scalT, scalA, scalC, boxesA, boxesC, zipB_none, zipB_mx, isZ, opZip, zeroP, opAppendZ, opMakeMap, opLookup, mboxB, opUpdate, ↓reduceIte, Nat.reduceSub, Nat.reduceEqDiff, Nat.reduceAdd, Nat.reduceMul, Nat.reduceLT, Nat.reduceLeDiff, Int.reduceToNat, Int.reduceLE, Int.reduceLT, Int.reduceNeg, reduceCtorEq, zzR, gos, Int.reduceAdd, Int.reduceSub, Int.reduceMul, Int.reduceEq])
  rw [decide_eq_true h0] at s ⊢
  by_cases h : m2 = 0
  case neg =>
    rw [decide_eq_false h]
    refine X_startP (n := 31) (m := 3) (rs := [.tmp 6]) Try.func36 rfl rfl rfl rfl (by decide) fun base => ?_
    repeat (first | ((first | refine X_call_fn2 rfl (by simp only [tys]) ?_ | refine X_dcall_fn2 rfl (by simp only [tys]) ?_); apply Exists.intro; apply And.intro; (focus (simp -dsimp only [simx, zzC, zzB, tys, ite_self, opnL, callB, callX, readsB, stepOp, nilCmp, ofVal, opBuiltin, opLen, PV.sk, scalBin, scalUn, intBin, opLoad, natOf, opConvert, opField, cellsP, oneP, Value.oneCell', opStore, toIV, scalT, scalA, scalC, boxesA, boxesC, zipB_none, zipB_mx, isZ, opZip, zeroP, opAppendZ, opMakeMap, opLookup, mboxB, opUpdate, ↓reduceIte, Nat.reduceSub, Nat.reduceEqDiff, Nat.reduceAdd, Nat.reduceMul, Nat.reduceLT, Nat.reduceLeDiff, Int.reduceToNat, Int.reduceLE, Int.reduceLT, Int.reduceNeg, reduceCtorEq, zzL, if_true, if_false] <;> rfl)); apply Exists.intro; apply And.intro; (focus (first | exact q | exact s))) | refine X_opc rfl ?_ | refine X_dopc rfl ?_ | refine ⟨(by show drawK _ _ = true; kernel_rfl : drawX _ _ _), ?_⟩ | exact (by show drawK _ _ = true; kernel_rfl : drawX _ _ _) | simp -dsimp (maxSteps := 20000000) (disch := omega) only [simx, zzC, zzB, tys, ite_self, opnL, callB, callX, readsB, stepOp, nilCmp, ofVal, opBuiltin, opLen, PV.sk, scalBin, scalUn, intBin, opLoad, natOf, opConvert, opField, cellsP, oneP, Value.oneCell', opStore, toIV, scalT, scalA, scalC, boxesA, boxesC, zipB_none, zipB_mx, isZ, opZip, zeroP, opAppendZ, opMakeMap, opLookup, mboxB, opUpdate, ↓reduceIte, Nat.reduceSub, Nat.reduceEqDiff, Nat.reduceAdd, Nat.reduceMul, Nat.reduceLT, Nat.reduceLeDiff, Int.reduceToNat, Int.reduceLE, Int.reduceLT, Int.reduceNeg, reduceCtorEq, zzR, gos, Int.reduceAdd, Int.reduceSub, Int.reduceMul, Int.reduceEq])
  rw [decide_eq_true h]
  cases hz : zerB x with
  | true =>
    rw [hz] at z2
    refine X_startP (n := 31) (m := 3) (rs := [.tmp 6]) Try.func36 rfl rfl rfl rfl (by decide) fun base => ?_
    repeat (first | ((first | refine X_call_fn2 rfl (by simp only [tys]) ?_ | refine X_dcall_fn2 rfl (by simp only [tys]) ?_); apply Exists.intro; apply And.intro; (focus (simp -dsimp only [simx, zzC, zzB, tys, ite_self, opnL, callB, callX, readsB, stepOp, nilCmp, ofVal, opBuiltin, opLen, PV.sk, scalBin, scalUn, intBin, opLoad, natOf, opConvert, opField, cellsP, oneP, Value.oneCell', opStore, toIV, scalT, scalA, scalC, boxesA, boxesC, zipB_none, zipB_mx, isZ, opZip, zeroP, opAppendZ, opMakeMap, opLookup, mboxB, opUpdate, ↓reduceIte, Nat.reduceSub, Nat.reduceEqDiff, Nat.reduceAdd, Nat.reduceMul, Nat.reduceLT, Nat.reduceLeDiff, Int.reduceToNat, Int.reduceLE, Int.reduceLT, Int.reduceNeg, reduceCtorEq, zzL, if_true, if_false] <;> rfl)); apply Exists.intro; apply And.intro; (focus (first | exact q | exact s | exact z2))) | refine X_opc rfl ?_ | refine X_dopc rfl ?_ | refine ⟨(by show drawK _ _ = true; kernel_rfl : drawX _ _ _), ?_⟩ | exact (by show drawK _ _ = true; kernel_rfl : drawX _ _ _) | simp -dsimp (maxSteps := 20000000) (disch := omega) only [simx, zzC, zzB, tys, ite_self, opnL, callB, callX, readsB, stepOp, nilCmp, ofVal, opBuiltin, opLen, PV.sk, scalBin, scalUn, intBin, opLoad, natOf, opConvert, opField, cellsP, oneP, Value.oneCell', opStore, toIV, scalT, scalA, scalC, boxesA, boxesC, zipB_none, zipB_mx, isZ, opZip, zeroP, opAppendZ, opMakeMap, opLookup, mboxB, opUpdate, ↓reduceIte, Nat.reduceSub, Nat.reduceEqDiff, Nat.reduceAdd, Nat.reduceMul, Nat.reduceLT, Nat.reduceLeDiff, Int.reduceToNat, Int.reduceLE, Int.reduceLT, Int.reduceNeg, reduceCtorEq, zzR, gos, Int.reduceAdd, Int.reduceSub, Int.reduceMul, Int.reduceEq])
  | false =>
    rw [hz] at z2
    cases hm : zerB m1 with
    | false =>
      rw [hm] at z
      refine X_startP (n := 31) (m := 3) (rs := [.tmp 6]) Try.func36 rfl rfl rfl rfl (by decide) fun base => ?_
      repeat (first | ((first | refine X_call_fn2 rfl (by simp only [tys]) ?_ | refine X_dcall_fn2 rfl (by simp only [tys]) ?_); apply Exists.intro; apply And.intro; (focus (simp -dsimp only [simx, zzC, zzB, tys, ite_self, opnL, callB, callX, readsB, stepOp, nilCmp, ofVal, opBuiltin, opLen, PV.sk, scalBin, scalUn, intBin, opLoad, natOf, opConvert, opField, cellsP, oneP, Value.oneCell', opStore, toIV, scalT, scalA, scalC, boxesA, boxesC, zipB_none, zipB_mx, isZ, opZip, zeroP, opAppendZ, opMakeMap, opLookup, mboxB, opUpdate, ↓reduceIte, Nat.reduceSub, Nat.reduceEqDiff, Nat.reduceAdd, Nat.reduceMul, Nat.reduceLT, Nat.reduceLeDiff, Int.reduceToNat, Int.reduceLE, Int.reduceLT, Int.reduceNeg, reduceCtorEq, zzL, if_true, if_false] <;> rfl)); apply Exists.intro; apply And.intro; (focus (first | exact q | exact s | exact z2 | exact z))) | refine X_opc rfl ?_ | refine X_dopc rfl ?_ | refine ⟨(by show drawK _ _ = true; kernel_rfl : drawX _ _ _), ?_⟩ | exact (by show drawK _ _ = true; kernel_rfl : drawX _ _ _) | simp -dsimp (maxSteps := 20000000) (disch := omega) only [simx, zzC, zzB, tys, ite_self, opnL, callB, callX, readsB, stepOp, nilCmp, ofVal, opBuiltin, opLen, PV.sk, scalBin, scalUn, intBin, opLoad, natOf, opConvert, opField, cellsP, oneP, Value.oneCell', opStore, toIV, scalT, scalA, scalC, boxesA, boxesC, zipB_none, zipB_mx, isZ, opZip, zeroP, opAppendZ, opMakeMap, opLookup, mboxB, opUpdate, ↓reduceIte, Nat.reduceSub, Nat.reduceEqDiff, Nat.reduceAdd, Nat.reduceMul, Nat.reduceLT, Nat.reduceLeDiff, Int.reduceToNat, Int.reduceLE, Int.reduceLT, Int.reduceNeg, reduceCtorEq, zzR, gos, Int.reduceAdd, Int.reduceSub, Int.reduceMul, Int.reduceEq])
    | true =>
      rw [hm] at z
      refine X_startP (n := 31) (m := 3) (rs := [.tmp 6]) Try.func36 rfl rfl rfl rfl (by decide) fun base => ?_
      repeat (first | ((first | refine X_call_fn2 rfl (by simp only [tys]) ?_ | refine X_dcall_fn2 rfl (by simp only [tys]) ?_); apply Exists.intro; apply And.intro; (focus (simp -dsimp only [simx, zzC, zzB, tys, ite_self, opnL, callB, callX, readsB, stepOp, nilCmp, ofVal, opBuiltin, opLen, PV.sk, scalBin, scalUn, intBin, opLoad, natOf, opConvert, opField, cellsP, oneP, Value.oneCell', opStore, toIV, scalT, scalA, scalC, boxesA, boxesC, zipB_none, zipB_mx, isZ, opZip, zeroP, opAppendZ, opMakeMap, opLookup, mboxB, opUpdate, ↓reduceIte, Nat.reduceSub, Nat.reduceEqDiff, Nat.reduceAdd, Nat.reduceMul, Nat.reduceLT, Nat.reduceLeDiff, Int.reduceToNat, Int.reduceLE, Int.reduceLT, Int.reduceNeg, reduceCtorEq, zzL, if_true, if_false] <;> rfl)); apply Exists.intro; apply And.intro; (focus (first | exact q | exact s | exact z2 | exact z))) | refine X_opc rfl ?_ | refine X_dopc rfl ?_ | refine ⟨(by show drawK _ _ = true; kernel_rfl : drawX _ _ _), ?_⟩ | exact (by show drawK _ _ = true; kernel_rfl : drawX _ _ _) | simp -dsimp (maxSteps := 20000000) (disch := omega) only [simx, zzC, zzB, tys, ite_self, opnL, callB, callX, readsB, stepOp, nilCmp, ofVal, opBuiltin, opLen, PV.sk, scalBin, scalUn, intBin, opLoad, natOf, opConvert, opField, cellsP, oneP, Value.oneCell', opStore, toIV, scalT, scalA, scalC, boxesA, boxesC, zipB_none, zipB_mx, isZ, opZip, zeroP, opAppendZ, opMakeMap, opLookup, mboxB, opUpdate, ↓reduceIte, Nat.reduceSub, Nat.reduceEqDiff, Nat.reduceAdd, Nat.reduceMul, Nat.reduceLT, Nat.reduceLeDiff, Int.reduceToNat, Int.reduceLE, Int.reduceLT, Int.reduceNeg, reduceCtorEq, zzR, gos, Int.reduceAdd, Int.reduceSub, Int.reduceMul, Int.reduceEq])
theorem solves_walk (p r c : Int) (l b x : List Int) (hl : l.length ≤ maxLen) (hb : b.length ≤ maxLen) (hx : x.length ≤ maxLen) (wl : W64s l) (wx : W64s x) : CallsP Try.prog 32 [u64 p, matP r c l, lu b, lu x] (bl (solvesB p r c l b x)) := by
  have q := times_walk p r c l x hl hx wl wx
  have m := mright_walk p r c l hl
  have hh := has_walk p b hb
  have e := equal_walk (timesR p r c l x).1 b timesR_len
  unfold solvesB
  generalize timesR p r c l x = t at *
  obtain ⟨t1, t2⟩ := t
  simp only at q e ⊢
  cases hM : MatB p r c l with
  | false =>
    rw [hM] at m
    refine X_startP (n := 42) (m := 4) (rs := [.tmp 8]) Try.func32 rfl rfl rfl rfl (by decide) fun base => ?_
    repeat (first | ((first | refine X_call_fn2 rfl (by simp only [tys]) ?_ | refine X_dcall_fn2 rfl (by simp only [tys]) ?_); apply Exists.intro; apply And.intro; (focus (simp -dsimp only [simx, zzC, zzB, tys, ite_self, opnL, callB, callX, readsB, stepOp, nilCmp, ofVal, opBuiltin, opLen, PV.sk, scalBin, scalUn, intBin, opLoad, natOf, opConvert, opField, cellsP, oneP, Value.oneCell', opStore, toIV, scalT, scalA, scalC, boxesA, boxesC, zipB_none, zipB_mx, isZ, opZip, zeroP, opAppendZ, opMakeMap, opLookup, mboxB, opUpdate, ↓reduceIte, Nat.reduceSub, Nat.reduceEqDiff, Nat.reduceAdd, Nat.reduceMul, Nat.reduceLT, Nat.reduceLeDiff, Int.reduceToNat, Int.reduceLE, Int.reduceLT, Int.reduceNeg, reduceCtorEq, zzL, if_true, if_false] <;> rfl)); apply Exists.intro; apply And.intro; (focus (first | exact m))) | refine X_opc rfl ?_ | refine X_dopc rfl ?_ | refine ⟨(by show drawK _ _ = true; kernel_rfl : drawX _ _ _), ?_⟩ | exact (by show drawK _ _ = true; kernel_rfl : drawX _ _ _) | simp -dsimp (maxSteps := 20000000) (disch := omega) only [simx, zzC, zzB, tys, ite_self, opnL, callB, callX, readsB, stepOp, nilCmp, ofVal, opBuiltin, opLen, PV.sk, scalBin, scalUn, intBin, opLoad, natOf, opConvert, opField, cellsP, oneP, Value.oneCell', opStore, toIV, scalT, scalA, scalC, boxesA, boxesC, zipB_none, zipB_mx, isZ, opZip, zeroP, opAppendZ, opMakeMap, opLookup, mboxB, opUpdate, ↓reduceIte, Nat.reduceSub, Nat.reduceEqDiff, Nat.reduceAdd, Nat.reduceMul, Nat.reduceLT, Nat.reduceLeDiff, Int.reduceToNat, Int.reduceLE, Int.reduceLT, Int.reduceNeg, reduceCtorEq, zzR, gos, Int.reduceAdd, Int.reduceSub, Int.reduceMul, Int.reduceEq])
  | true =>
  rw [hM] at m
  by_cases h1 : (b.length : Int) = r
  case neg =>
    rw [decide_eq_false h1]
    refine X_startP (n := 42) (m := 4) (rs := [.tmp 8]) Try.func32 rfl rfl rfl rfl (by decide) fun base => ?_
    repeat (first | ((first | refine X_call_fn2 rfl (by simp only [tys]) ?_ | refine X_dcall_fn2 rfl (by simp only [tys]) ?_); apply Exists.intro; apply And.intro; (focus (simp -dsimp only [simx, zzC, zzB, tys, ite_self, opnL, callB, callX, readsB, stepOp, nilCmp, ofVal, opBuiltin, opLen, PV.sk, scalBin, scalUn, intBin, opLoad, natOf, opConvert, opField, cellsP, oneP, Value.oneCell', opStore, toIV, scalT, scalA, scalC, boxesA, boxesC, zipB_none, zipB_mx, isZ, opZip, zeroP, opAppendZ, opMakeMap, opLookup, mboxB, opUpdate, ↓reduceIte, Nat.reduceSub, Nat.reduceEqDiff, Nat.reduceAdd, Nat.reduceMul, Nat.reduceLT, Nat.reduceLeDiff, Int.reduceToNat, Int.reduceLE, Int.reduceLT, Int.reduceNeg, reduceCtorEq, zzL, if_true, if_false] <;> rfl)); apply Exists.intro; apply And.intro; (focus (first | exact m))) | refine X_opc rfl ?_ | refine X_dopc rfl ?_ | refine ⟨(by show drawK _ _ = true; kernel_rfl : drawX _ _ _), ?_⟩ | exact (by show drawK _ _ = true; kernel_rfl : drawX _ _ _) | simp -dsimp (maxSteps := 20000000) (disch := omega) only [simx, zzC, zzB, tys, ite_self, opnL, callB, callX, readsB, stepOp, nilCmp, ofVal, opBuiltin, opLen, PV.sk, scalBin, scalUn, intBin, opLoad, natOf, opConvert, opField, cellsP, oneP, Value.oneCell', opStore, toIV, scalT, scalA, scalC, boxesA, boxesC, zipB_none, zipB_mx, isZ, opZip, zeroP, opAppendZ, opMakeMap, opLookup, mboxB, opUpdate, ↓reduceIte, Nat.reduceSub, Nat.reduceEqDiff, Nat.reduceAdd, Nat.reduceMul, Nat.reduceLT, Nat.reduceLeDiff, Int.reduceToNat, Int.reduceLE, Int.reduceLT, Int.reduceNeg, reduceCtorEq, zzR, gos, Int.reduceAdd, Int.reduceSub, Int.reduceMul, Int.reduceEq])
  rw [decide_eq_true h1]
  cases h2 : HasB p b with
  | false =>
    rw [h2] at hh
    refine X_startP (n := 42) (m := 4) (rs := [.tmp 8]) Try.func32 rfl rfl rfl rfl (by decide) fun base => ?_
    repeat (first | ((first | refine X_call_fn2 rfl (by simp only [tys]) ?_ | refine X_dcall_fn2 rfl (by simp only [tys]) ?_); apply Exists.intro; apply And.intro; (focus (simp -dsimp only [simx, zzC, zzB, tys, ite_self, opnL, callB, callX, readsB, stepOp, nilCmp, ofVal, opBuiltin, opLen, PV.sk, scalBin, scalUn, intBin, opLoad, natOf, opConvert, opField, cellsP, oneP, Value.oneCell', opStore, toIV, scalT, scalA, scalC, boxesA, boxesC, zipB_none, zipB_mx, isZ, opZip, zeroP, opAppendZ, opMakeMap, opLookup, mboxB, opUpdate, ↓reduceIte, Nat.reduceSub, Nat.reduceEqDiff, Nat.reduceAdd, Nat.reduceMul, Nat.reduceLT, Nat.reduceLeDiff, Int.reduceToNat, Int.reduceLE, Int.reduceLT, Int.reduceNeg, reduceCtorEq, zzL, if_true, if_false] <;> rfl)); apply Exists.intro; apply And.intro; (focus (first | exact m | exact hh))) | refine X_opc rfl ?_ | refine X_dopc rfl ?_ | refine ⟨(by show drawK _ _ = true; kernel_rfl : drawX _ _ _), ?_⟩ | exact (by show drawK _ _ = true; kernel_rfl : drawX _ _ _) | simp -dsimp (maxSteps := 20000000) (disch := omega) only [simx, zzC, zzB, tys, ite_self, opnL, callB, callX, readsB, stepOp, nilCmp, ofVal, opBuiltin, opLen, PV.sk, scalBin, scalUn, intBin, opLoad, natOf, opConvert, opField, cellsP, oneP, Value.oneCell', opStore, toIV, scalT, scalA, scalC, boxesA, boxesC, zipB_none, zipB_mx, isZ, opZip, zeroP, opAppendZ, opMakeMap, opLookup, mboxB, opUpdate, ↓reduceIte, Nat.reduceSub, Nat.reduceEqDiff, Nat.reduceAdd, Nat.reduceMul, Nat.reduceLT, Nat.reduceLeDiff, Int.reduceToNat, Int.reduceLE, Int.reduceLT, Int.reduceNeg, reduceCtorEq, zzR, gos, Int.reduceAdd, Int.reduceSub, Int.reduceMul, Int.reduceEq])
  | true =>
  rw [h2] at hh
  by_cases h3 : t2 = 0
  case neg =>
    rw [decide_eq_false h3]
    refine X_startP (n := 42) (m := 4) (rs := [.tmp 8]) Try.func32 rfl rfl rfl rfl (by decide) fun base => ?_
    repeat (first | ((first | refine X_call_fn2 rfl (by simp only [tys]) ?_ | refine X_dcall_fn2 rfl (by simp only [tys]) ?_); apply Exists.intro; apply And.intro; (focus (simp -dsimp only [simx, zzC, zzB, tys, ite_self, opnL, callB, callX, readsB, stepOp, nilCmp, ofVal, opBuiltin, opLen, PV.sk, scalBin, scalUn, intBin, opLoad, natOf, opConvert, opField, cellsP, oneP, Value.oneCell', opStore, toIV, scalT, scalA, scalC, boxesA, boxesC, zipB_none, zipB_mx, isZ, opZip, zeroP, opAppendZ, opMakeMap, opLookup, mboxB, opUpdate, ↓reduceIte, Nat.reduceSub, Nat.reduceEqDiff, Nat.reduceAdd, Nat.reduceMul, Nat.reduceLT, Nat.reduceLeDiff, Int.reduceToNat, Int.reduceLE, Int.reduceLT, Int.reduceNeg, reduceCtorEq, zzL, if_true, if_false] <;> rfl)); apply Exists.intro; apply And.intro; (focus (first | exact m | exact hh | exact q))) | refine X_opc rfl ?_ | refine X_dopc rfl ?_ | refine ⟨(by show drawK _ _ = true; kernel_rfl : drawX _ _ _), ?_⟩ | exact (by show drawK _ _ = true; kernel_rfl : drawX _ _ _) | simp -dsimp (maxSteps := 20000000) (disch := omega) only [simx, zzC, zzB, tys, ite_self, opnL, callB, callX, readsB, stepOp, nilCmp, ofVal, opBuiltin, opLen, PV.sk, scalBin, scalUn, intBin, opLoad, natOf, opConvert, opField, cellsP, oneP, Value.oneCell', opStore, toIV, scalT, scalA, scalC, boxesA, boxesC, zipB_none, zipB_mx, isZ, opZip, zeroP, opAppendZ, opMakeMap, opLookup, mboxB, opUpdate, ↓reduceIte, Nat.reduceSub, Nat.reduceEqDiff, Nat.reduceAdd, Nat.reduceMul, Nat.reduceLT, Nat.reduceLeDiff, Int.reduceToNat, Int.reduceLE, Int.reduceLT, Int.reduceNeg, reduceCtorEq, zzR, gos, Int.reduceAdd, Int.reduceSub, Int.reduceMul, Int.reduceEq])
  rw [decide_eq_true h3]
  generalize decide (t1 = b) = ee at e
  cases ee
  · refine X_startP (n := 42) (m := 4) (rs := [.tmp 8]) Try.func32 rfl rfl rfl rfl (by decide) fun base => ?_
    repeat (first | ((first | refine X_call_fn2 rfl (by simp only [tys]) ?_ | refine X_dcall_fn2 rfl (by simp only [tys]) ?_); apply Exists.intro; apply And.intro; (focus (simp -dsimp only [simx, zzC, zzB, tys, ite_self, opnL, callB, callX, readsB, stepOp, nilCmp, ofVal, opBuiltin, opLen, PV.sk, scalBin, scalUn, intBin, opLoad, natOf, opConvert, opField, cellsP, oneP, Value.oneCell', opStore, toIV, scalT, scalA, scalC, boxesA, boxesC, zipB_none, zipB_mx, isZ, opZip, zeroP, opAppendZ, opMakeMap, opLookup, mboxB, opUpdate, ↓reduceIte, Nat.reduceSub, Nat.reduceEqDiff, Nat.reduceAdd, Nat.reduceMul, Nat.reduceLT, Nat.reduceLeDiff, Int.reduceToNat, Int.reduceLE, Int.reduceLT, Int.reduceNeg, reduceCtorEq, zzL, if_true, if_false] <;> rfl)); apply Exists.intro; apply And.intro; (focus (first | exact m | exact hh | exact q | exact e))) | refine X_opc rfl ?_ | refine X_dopc rfl ?_ | refine ⟨(by show drawK _ _ = true; kernel_rfl : drawX _ _ _), ?_⟩ | exact (by show drawK _ _ = true; kernel_rfl : drawX _ _ _) | simp -dsimp (maxSteps := 20000000) (disch := omega) only [simx, zzC, zzB, tys, ite_self, opnL, callB, callX, readsB, stepOp, nilCmp, ofVal, opBuiltin, opLen, PV.sk, scalBin, scalUn, intBin, opLoad, natOf, opConvert, opField, cellsP, oneP, Value.oneCell', opStore, toIV, scalT, scalA, scalC, boxesA, boxesC, zipB_none, zipB_mx, isZ, opZip, zeroP, opAppendZ, opMakeMap, opLookup, mboxB, opUpdate, ↓reduceIte, Nat.reduceSub, Nat.reduceEqDiff, Nat.reduceAdd, Nat.reduceMul, Nat.reduceLT, Nat.reduceLeDiff, Int.reduceToNat, Int.reduceLE, Int.reduceLT, Int.reduceNeg, reduceCtorEq, zzR, gos, Int.reduceAdd, Int.reduceSub, Int.reduceMul, Int.reduceEq])
  · refine X_startP (n := 42) (m := 4) (rs := [.tmp 8]) Try.func32 rfl rfl rfl rfl (by decide) fun base => ?_
    repeat (first | ((first | refine X_call_fn2 rfl (by simp only [tys]) ?_ | refine X_dcall_fn2 rfl (by simp only [tys]) ?_); apply Exists.intro; apply And.intro; (focus (simp -dsimp only [simx, zzC, zzB, tys, ite_self, opnL, callB, callX, readsB, stepOp, nilCmp, ofVal, opBuiltin, opLen, PV.sk, scalBin, scalUn, intBin, opLoad, natOf, opConvert, opField, cellsP, oneP, Value.oneCell', opStore, toIV, scalT, scalA, scalC, boxesA, boxesC, zipB_none, zipB_mx, isZ, opZip, zeroP, opAppendZ, opMakeMap, opLookup, mboxB, opUpdate, ↓reduceIte, Nat.reduceSub, Nat.reduceEqDiff, Nat.reduceAdd, Nat.reduceMul, Nat.reduceLT, Nat.reduceLeDiff, Int.reduceToNat, Int.reduceLE, Int.reduceLT, Int.reduceNeg, reduceCtorEq, zzL, if_true, if_false] <;> rfl)); apply Exists.intro; apply And.intro; (focus (first | exact m | exact hh | exact q | exact e))) | refine X_opc rfl ?_ | refine X_dopc rfl ?_ | refine ⟨(by show drawK _ _ = true; kernel_rfl : drawX _ _ _), ?_⟩ | exact (by show drawK _ _ = true; kernel_rfl : drawX _ _ _) | simp -dsimp (maxSteps := 20000000) (disch := omega) only [simx, zzC, zzB, tys, ite_self, opnL, callB, callX, readsB, stepOp, nilCmp, ofVal, opBuiltin, opLen, PV.sk, scalBin, scalUn, intBin, opLoad, natOf, opConvert, opField, cellsP, oneP, Value.oneCell', opStore, toIV, scalT, scalA, scalC, boxesA, boxesC, zipB_none, zipB_mx, isZ, opZip, zeroP, opAppendZ, opMakeMap, opLookup, mboxB, opUpdate, ↓reduceIte, Nat.reduceSub, Nat.reduceEqDiff, Nat.reduceAdd, Nat.reduceMul, Nat.reduceLT, Nat.reduceLeDiff, Int.reduceToNat, Int.reduceLE, Int.reduceLT, Int.reduceNeg, reduceCtorEq, zzR, gos, Int.reduceAdd, Int.reduceSub, Int.reduceMul, Int.reduceEq])
end Go.Proofs.Ytmalpmnmknpphaa.TM
namespace Go.Proofs.Ytmalpmnmknpphaa.TM
open Go
section
variable {P : Program} {C : CallRel} {h0 : Heap} {base : Name} {Qf : Ex → List PV → Heap → Prop} {k : List It} {t : List PV} {h : Heap}
theorem Xdr_eq {r : Option Out} {out : Out} {d : Option Tmp} {p : Op} {nm : Name} {id : Nat} {ops : Array Oper} {ds : List (Option Tmp)} {i : Nat} {os : List Oper} {pf : XPf ops ds i os} {acc : List Keys} (hr : r = some out)
    (hk : K P C h0 base Qf (.xdops id ops ds i os pf ((keysU out.ups, keysT nm p ((opnL p).map (St.opnd t))) :: acc) :: k) .normal (putT t d out.val) (h.ups out.ups)) : Xdr P C h0 base Qf r d p nm (mkD id ops ds i os pf) acc k t h := by
  subst hr; exact hk
theorem X_dappend_one {d : Option Tmp} {p : Op} {nm : Name} {id : Nat} {ops : Array Oper} {ds : List (Option Tmp)} {i : Nat} {os : List Oper} {pf : XPf ops ds i os} {acc : List Keys} {s b : Name} {ty : TypeId} (e : TypeId) (zs : List Value) {n z : Nat} {cs : List IV} (xs : List IV) {fz : Bool}
    (he : elemB P ty = some e) (hz : zeroB P e = some zs) (hzl : zs.length = z) (hz0 : 0 < z) (hn : cs.length = n * z) (hs : h s = if n = 0 then none else some (.row false cs)) (hb : h b = some (.row fz xs)) (hx : xs.length = z)
    (hby : (n + 1) * P.bytesOf e ≤ 140737488355328) (hl : n + 1 ≤ maxLen)
    (hk : K P C h0 base Qf (.xdops id ops ds i os pf ((keysU [(s, Box.row false (cs ++ xs))], keysT nm p ((opnL p).map (St.opnd t))) :: acc) :: k) .normal (putT t d (rowP s z (n + 1) (cs ++ xs))) (h.put s (.row false (cs ++ xs)))) :
    Xdr P C h0 base Qf (opAppend P h s ty (rowP s z n cs) (.view b 0 z 1 z)) d p nm (mkD id ops ds i os pf) acc k t h := by
  refine Xdr_eq (append_row he hz hzl hz0 hn hs rfl (m := 1) rfl (by decide) (xs := xs) ?_ hby hl) hk
  simp only [SK.cells, hb, hx, Nat.zero_add, Nat.one_mul, Nat.le_refl, and_self, if_true, List.drop_zero]
  rw [← hx, List.take_length]
theorem X_call_shared {id : Nat} {ops : Array Oper} {ds : List (Option Tmp)} {i : Nat} {d : Option Tmp} {p : Op} {ty : TypeId} {ps : String} {af : Array Edge} {g0 : Option (Nat × Bool)} {os : List Oper} {pf : XPf ops ds i ({ dst := d, op := p, type := ty, pos := ps, after := af, guard := g0 } :: os)} {c : Call} {g : FuncId} {args : List PV} {v : PV} {h' : Heap}
    (hs : CallR P ((id, i) :: base) g args h v h') (ho : p = .call c) (hcal : calleeOf t c = some (g, args)) (he : enterB P g = true)
    (hk : K P (CallR P) h0 base Qf (.xops id ops (d :: ds) (i + 1) os ⟨pf.h.step⟩ :: k) .normal (putT t d v) h') :
    K P (CallR P) h0 base Qf (.xcall id ops ds i { dst := d, op := p, type := ty, pos := ps, after := af, guard := g0 } os pf :: k) .normal t h :=
  K_call_shared (i := i) (ops := ops) (id := id) (os := os) (o := { dst := d, op := p, type := ty, pos := ps, after := af, guard := g0 }) hs ho hcal he hk
end
end Go.Proofs.Ytmalpmnmknpphaa.TM
namespace Go.Proofs.Ytmalpmnmknpphaa.TM
open Go Go.RowKit
def risF : Int → List Int → Int → Bool
  | _, [], _ => true
  | last, c :: l, most => if c ≤ last ∨ most ≤ c then false else risF c l most
end Go.Proofs.Ytmalpmnmknpphaa.TM
namespace Go.Proofs.Ytmalpmnmknpphaa.TM
open Go Go.RowKit
def tbl (n : Nat) (f : Nat → Int) : List Int := (List.range n).map f
theorem tbl_len (n : Nat) (f : Nat → Int) : (tbl n f).length = n := by simp [tbl]
theorem tbl_get? {n : Nat} (f : Nat → Int) {i : Nat} (h : i < n) : (tbl n f)[i]? = some (f i) := by unfold tbl; rw [List.getElem?_map, List.getElem?_range h]; rfl
theorem tbl_getD {n : Nat} (f : Nat → Int) {i : Nat} (h : i < n) : (tbl n f).getD i 0 = f i := by rw [List.getD_eq_getElem?_getD, tbl_get? f h]; rfl
theorem tbl_succ (n : Nat) (f : Nat → Int) : tbl (n + 1) f = tbl n f ++ [f n] := by unfold tbl; rw [List.range_succ, List.map_append]; rfl
theorem tbl_congr {n : Nat} {f g : Nat → Int} (h : ∀ i, i < n → f i = g i) : tbl n f = tbl n g := by
  unfold tbl
  exact List.map_congr_left fun i hi => h i (List.mem_range.1 hi)
theorem tbl_of {n : Nat} {l : List Int} (h : l.length = n) : l = tbl n (fun i => l.getD i 0) := by
  apply List.ext_getElem?
  intro i
  by_cases hi : i < n
  · rw [tbl_get? _ hi, List.getD_eq_getElem?_getD, List.getElem?_eq_getElem (by omega)]; rfl
  · rw [List.getElem?_eq_none (by omega), List.getElem?_eq_none (by rw [tbl_len]; omega)]
theorem tbl_zero (n : Nat) : tbl n (fun _ => 0) = List.replicate n 0 := by
  unfold tbl
  rw [List.map_const', List.length_range]
theorem tbl_mem {n : Nat} {f : Nat → Int} {a : Int} (h : a ∈ tbl n f) : ∃ i, i < n ∧ f i = a := by
  unfold tbl at h
  obtain ⟨i, hi, e⟩ := List.mem_map.1 h
  exact ⟨i, List.mem_range.1 hi, e⟩
theorem tbl_put {n d : Nat} (f : Nat → Int) (x : Int) (hd : d < n) : (tbl n f).take d ++ [x] ++ (tbl n f).drop (d + 1) = tbl n (fun q => if q = d then x else f q) := by
  have h1 : ((tbl n f).take d).length = d := by rw [List.length_take, tbl_len]; omega
  apply List.ext_getElem?
  intro i
  rw [List.append_assoc, List.getElem?_append, h1]
  by_cases hi : i < n
  · rw [tbl_get? _ hi]
    by_cases a : i < d
    · rw [if_pos a, List.getElem?_take, if_pos a, tbl_get? _ hi, if_neg (by omega)]
    · rw [if_neg a, List.getElem?_append]
      by_cases b : i = d
      · subst b; rw [if_pos (by simp), if_pos rfl]; simp
      · rw [if_neg (by simp; omega), List.getElem?_drop, List.length_singleton, show d + 1 + (i - d - 1) = i by omega, tbl_get? _ hi, if_neg b]
  · rw [List.getElem?_eq_none (l := tbl n _) (by rw [tbl_len]; omega), if_neg (by omega), List.getElem?_append_right (by simp; omega), List.getElem?_drop, List.length_singleton, List.getElem?_eq_none (by rw [tbl_len]; omega)]
theorem tbl_put_iu {n d : Nat} (f : Nat → Int) (x : Int) (hd : d < n) : ((tbl n f).map iu).take d ++ [iu x] ++ ((tbl n f).map iu).drop (d + 1) = (tbl n (fun q => if q = d then x else f q)).map iu := by
  rw [← tbl_put f x hd]; simp
theorem zero_tbl (n : Nat) : List.map IV.v (zeroRow [Value.int .u64 0] n) = (tbl n (fun _ => 0)).map iu := by
  rw [tbl_zero, List.map_replicate]
  induction n with
  | zero => rfl
  | succ n ih => rw [zeroRow_succ, List.map_append, ih]; rfl
end Go.Proofs.Ytmalpmnmknpphaa.TM
namespace Go.Proofs.Ytmalpmnmknpphaa.TM
open Go Go.RowKit
def sumN : Nat → (Nat → Int) → Int
  | 0, _ => 0
  | n + 1, f => sumN n f + f n
theorem sumN_congr {n : Nat} {f g : Nat → Int} (h : ∀ i, i < n → f i = g i) : sumN n f = sumN n g := by
  induction n with
  | zero => rfl
  | succ n ih => rw [sumN, sumN, ih (fun i hi => h i (by omega)), h n (by omega)]
theorem sumN_add (n : Nat) (f g : Nat → Int) : sumN n (fun i => f i + g i) = sumN n f + sumN n g := by
  induction n with
  | zero => rfl
  | succ n ih => simp only [sumN, ih]; omega
theorem sumN_sub (n : Nat) (f g : Nat → Int) : sumN n (fun i => f i - g i) = sumN n f - sumN n g := by
  induction n with
  | zero => rfl
  | succ n ih => simp only [sumN, ih]; omega
theorem sumN_mul (n : Nat) (a : Int) (f : Nat → Int) : sumN n (fun i => a * f i) = a * sumN n f := by
  induction n with
  | zero => simp [sumN]
  | succ n ih => simp only [sumN, ih, Int.mul_add]
theorem sumN_mulr (n : Nat) (a : Int) (f : Nat → Int) : sumN n (fun i => f i * a) = sumN n f * a := by
  induction n with
  | zero => simp [sumN]
  | succ n ih => simp only [sumN, ih, Int.add_mul]
theorem sumN_zero (n : Nat) : sumN n (fun _ => 0) = 0 := by
  induction n with
  | zero => rfl
  | succ n ih => simp [sumN, ih]
theorem sumN_z {n : Nat} {f : Nat → Int} (h : ∀ i, i < n → f i = 0) : sumN n f = 0 := (sumN_congr h).trans (sumN_zero n)
theorem sumN_swap (m n : Nat) (f : Nat → Nat → Int) : sumN m (fun i => sumN n (fun j => f i j)) = sumN n (fun j => sumN m (fun i => f i j)) := by
  induction m with
  | zero => simp [sumN, sumN_zero]
  | succ m ih => simp only [sumN, ih, sumN_add]
theorem sumN_mod {p : Int} {n : Nat} {f g : Nat → Int} (h : ∀ i, i < n → f i % p = g i % p) : sumN n f % p = sumN n g % p := by
  induction n with
  | zero => rfl
  | succ n ih => rw [sumN, sumN, Int.add_emod, ih (fun i hi => h i (by omega)), h n (by omega), ← Int.add_emod]
theorem sumN_one {n i : Nat} (f : Nat → Int) (hi : i < n) : sumN n (fun k => if k = i then f k else 0) = f i := by
  induction n with
  | zero => omega
  | succ n ih =>
    rw [sumN]
    by_cases h : i = n
    · subst h
      rw [sumN_z (fun k hk => if_neg (by omega)), if_pos rfl, Int.zero_add]
    · rw [ih (by omega), if_neg (by omega), Int.add_zero]
theorem sumN_split (m n : Nat) (f : Nat → Int) : sumN (m + n) f = sumN m f + sumN n (fun i => f (m + i)) := by
  induction n with
  | zero => simp [sumN]
  | succ n ih => rw [← Nat.add_assoc, sumN, ih, sumN]; omega
theorem dotI_eq : ∀ (n : Nat) (a b : List Int), a.length = n → b.length = n → dotI a b = sumN n (fun k => a.getD k 0 * b.getD k 0)
  | 0, [], [], _, _ => rfl
  | n + 1, x :: a, y :: b, ha, hb => by
    rw [dotI, dotI_eq n a b (by simpa using ha) (by simpa using hb), Nat.add_comm, sumN_split 1 n]
    simp only [sumN, Int.zero_add]
    congr 1
    apply sumN_congr
    intro i _
    rw [Nat.add_comm 1 i]; simp
  | 0, _ :: _, _, h, _ => by simp at h
  | 0, [], _ :: _, _, h => by simp at h
  | n + 1, [], _, h, _ => by simp at h
  | n + 1, _ :: _, [], _, h => by simp at h
def cl (c : Nat) (l : List Int) (i k : Nat) : Int := l.getD (i * c + k) 0
theorem rowM_cl {r c i k : Nat} {l : List Int} (hl : l.length = r * c) (hi : i < r) (hk : k < c) : (rowM c l i).getD k 0 = cl c l i k := by
  have b1 := ic_bd (c := c) hi
  have e3 : i * c + k < l.length := by omega
  unfold cl rowM
  rw [List.getD_eq_getElem?_getD, List.getD_eq_getElem?_getD, List.getElem?_take, if_pos hk, List.getElem?_drop]
theorem cl_tbl {r c i k : Nat} (f : Nat → Int) (hi : i < r) (hk : k < c) : cl c (tbl (r * c) f) i k = f (i * c + k) := by
  have b1 := ic_bd (c := c) hi
  exact tbl_getD f (by omega)
theorem dc_div {c i k : Nat} (hk : k < c) : (i * c + k) / c = i := by
  rw [Nat.add_comm, Nat.add_mul_div_right _ _ (by omega), Nat.div_eq_of_lt hk, Nat.zero_add]
theorem dc_mod {c i k : Nat} (hk : k < c) : (i * c + k) % c = k := by
  rw [Nat.add_comm, Nat.add_mul_mod_self_right, Nat.mod_eq_of_lt hk]
theorem dotRow {r c i : Nat} {l x : List Int} (hl : l.length = r * c) (hi : i < r) (hx : x.length = c) : dotI (rowM c l i) x = sumN c (fun k => cl c l i k * x.getD k 0) := by
  rw [dotI_eq c _ _ (rowM_len hl hi) hx]
  exact sumN_congr fun k hk => by rw [rowM_cl hl hi hk]
theorem timesM_tbl {p : Int} {r c : Nat} {l x : List Int} (hl : l.length = r * c) (hx : x.length = c) : timesM p r c l x = tbl r (fun i => sumN c (fun k => cl c l i k * x.getD k 0) % p) := by
  unfold timesM tbl
  exact List.map_congr_left fun i hi => by rw [dotRow hl (List.mem_range.1 hi) hx]
theorem turn_cl {r c i k : Nat} (l : List Int) (hi : i < r) (hk : k < c) : cl r (turnM r c l) k i = cl c l i k := by
  have b1 := ic_bd (c := r) hk
  unfold cl turnM
  rw [show (List.range (c * r)).map (fun q => l.getD (srcT r c q) 0) = tbl (c * r) (fun q => l.getD (srcT r c q) 0) from rfl, tbl_getD _ (by omega)]
  unfold srcT
  rw [dc_div hi, dc_mod hi]
end Go.Proofs.Ytmalpmnmknpphaa.TM
namespace Go.Proofs.Ytmalpmnmknpphaa.TM
open Go Go.RowKit
def pickRow (C : Nat) (l cols : List Int) (i : Int) : List Int := cols.map fun c => cl C l i.toNat c.toNat
def pickM (C : Nat) (l rows cols : List Int) : List Int := rows.flatMap (pickRow C l cols)
end Go.Proofs.Ytmalpmnmknpphaa.TM
namespace Go.Proofs.Ytmalpmnmknpphaa.TM
open Go Go.RowKit
attribute [local irreducible] K W WOps Effs Xg Xo Xr Xdg Xdo Xdr Xif CallsP CallR
theorem timesM_len (p : Int) (r c : Nat) (l x : List Int) : (timesM p r c l x).length = r := by simp [timesM]
end Go.Proofs.Ytmalpmnmknpphaa.TM
namespace Go.Proofs.Ytmalpmnmknpphaa.TM
open Go Go.RowKit
theorem timesM_get {p : Int} {r c : Nat} {l x : List Int} (hl : l.length = r * c) (hx : x.length = c) {i : Nat} (hi : i < r) : (timesM p r c l x).getD i 0 = sumN c (fun k => cl c l i k * x.getD k 0) % p := by
  rw [timesM_tbl hl hx, tbl_getD _ hi]
def leftM (p : Int) (x : List Int) (r c : Nat) (l : List Int) : List Int := timesM p c r (turnM r c l) x
theorem leftM_len (p : Int) (x : List Int) (r c : Nat) (l : List Int) : (leftM p x r c l).length = c := timesM_len ..
theorem leftM_get {p : Int} {r c : Nat} {l x : List Int} (hx : x.length = r) {k : Nat} (hk : k < c) : (leftM p x r c l).getD k 0 = sumN r (fun i => x.getD i 0 * cl c l i k) % p := by
  unfold leftM
  rw [timesM_get (turnM_len r c l) hx hk]
  congr 1
  apply sumN_congr
  intro i hi
  rw [turn_cl l hi hk, Int.mul_comm]
where pick_cell' (C : Nat) (l cols : List Int) {m : Nat} (hm : m < cols.length) : ∀ (rows : List Int) (j : Nat), j < rows.length → (pickM C l rows cols).getD (j * cols.length + m) 0 = cl C l (rows.getD j 0).toNat (cols.getD m 0).toNat
  | [], j, h => by simp at h
  | i :: rows, 0, _ => by
    unfold pickM
    rw [List.flatMap_cons, List.getD_eq_getElem?_getD, List.getElem?_append_left (by simp [pickRow]; omega)]
    simp [pickRow, List.getElem?_eq_getElem hm]
  | i :: rows, j + 1, h => by
    have ih := pick_cell' C l cols hm rows j (by simpa using h)
    unfold pickM at ih ⊢
    rw [List.flatMap_cons, List.getD_eq_getElem?_getD, List.getElem?_append_right (by simp [pickRow, Nat.succ_mul]; omega)]
    rw [List.getD_eq_getElem?_getD] at ih
    rw [show (j + 1) * cols.length + m - (pickRow C l cols i).length = j * cols.length + m by simp [pickRow, Nat.succ_mul]; omega, ih]
    simp
theorem getD_mem {l : List Int} {i : Nat} (h : i < l.length) : l.getD i 0 ∈ l := by
  rw [List.getD_eq_getElem?_getD, List.getElem?_eq_getElem h]; exact List.getElem_mem h
end Go.Proofs.Ytmalpmnmknpphaa.TM
namespace Go.Proofs.Ytmalpmnmknpphaa.TM
open Go Go.RowKit
theorem zerB_iff (l : List Int) : zerB l = true ↔ ∀ i, i < l.length → l.getD i 0 = 0 := by
  unfold zerB
  rw [List.all_eq_true]
  constructor
  · intro h i hi
    have := h _ (getD_mem (l := l) hi)
    simpa using this
  · intro h a ha
    obtain ⟨i, hi, rfl⟩ := List.mem_iff_getElem.1 ha
    have := h i hi
    rw [List.getD_eq_getElem?_getD, List.getElem?_eq_getElem hi] at this
    simpa using this
theorem mlR_iff {p r c : Int} {l y : List Int} : (mlR p y r c l).2 = 0 ↔ ∃ R C : Nat, r = R ∧ c = C ∧ Mt p R C l ∧ HasB p y = true ∧ y.length = R ∧ mlR p y r c l = (leftM p y R C l, 0) := by
  unfold mlR
  constructor
  · intro h
    split at h
    · rename_i hc
      rw [Bool.and_eq_true, Bool.and_eq_true, decide_eq_true_eq] at hc
      obtain ⟨R, C, rfl, rfl, M⟩ := mat_of hc.1
      refine ⟨R, C, rfl, rfl, M, hc.2.1, by omega, ?_⟩
      rw [if_pos (by rw [mat_mk M, hc.2.1, decide_eq_true hc.2.2]; rfl)]; rfl
    · simp at h
  · rintro ⟨R, C, rfl, rfl, M, h, hl, e⟩
    rw [e]
theorem timesR_iff {p r c : Int} {l y : List Int} : (timesR p r c l y).2 = 0 ↔ ∃ R C : Nat, r = R ∧ c = C ∧ Mt p R C l ∧ HasB p y = true ∧ y.length = C ∧ timesR p r c l y = (timesM p R C l y, 0) := by
  unfold timesR
  constructor
  · intro h
    split at h
    · rename_i hc
      rw [Bool.and_eq_true, Bool.and_eq_true, decide_eq_true_eq] at hc
      obtain ⟨R, C, rfl, rfl, M⟩ := mat_of hc.1
      refine ⟨R, C, rfl, rfl, M, hc.2.1, by omega, ?_⟩
      rw [if_pos (by rw [mat_mk M, hc.2.1, decide_eq_true hc.2.2]; rfl)]; rfl
    · simp at h
  · rintro ⟨R, C, rfl, rfl, M, h, hl, e⟩
    rw [e]
theorem mlR_mk {p : Int} {R C : Nat} {l y : List Int} (M : Mt p R C l) (h : HasB p y = true) (hl : y.length = R) : mlR p y R C l = (leftM p y R C l, 0) := by
  unfold mlR; rw [mat_mk M, h, if_pos (by simp [hl])]; rfl
theorem timesR_mk {p : Int} {R C : Nat} {l y : List Int} (M : Mt p R C l) (h : HasB p y = true) (hl : y.length = C) : timesR p R C l y = (timesM p R C l y, 0) := by
  unfold timesR; rw [mat_mk M, h, if_pos (by simp [hl])]; rfl
theorem gone_iff {p r c : Int} {l y : List Int} : goneB p r c l y = true ↔ ∃ R C : Nat, r = R ∧ c = C ∧ Mt p R C l ∧ HasB p y = true ∧ y.length = R ∧ zerB (leftM p y R C l) = true := by
  unfold goneB
  rw [Bool.and_eq_true, decide_eq_true_eq, mlR_iff]
  constructor
  · rintro ⟨⟨R, C, rfl, rfl, M, h, hl, e⟩, z⟩
    rw [e] at z
    exact ⟨R, C, rfl, rfl, M, h, hl, z⟩
  · rintro ⟨R, C, rfl, rfl, M, h, hl, z⟩
    refine ⟨⟨R, C, rfl, rfl, M, h, hl, mlR_mk M h hl⟩, ?_⟩
    rw [mlR_mk M h hl]; exact z
theorem sing_iff {p r c : Int} {l x : List Int} : singB p r c l x = true ↔ r = c ∧ ∃ R C : Nat, r = R ∧ c = C ∧ Mt p R C l ∧ HasB p x = true ∧ x.length = C ∧ zerB x = false ∧ zerB (timesM p R C l x) = true := by
  unfold singB
  rw [Bool.and_eq_true, Bool.and_eq_true, Bool.and_eq_true, decide_eq_true_eq, decide_eq_true_eq, timesR_iff, Bool.not_eq_true']
  constructor
  · rintro ⟨h0, ⟨R, C, rfl, rfl, M, h, hl, e⟩, z1, z⟩
    rw [e] at z
    exact ⟨h0, R, C, rfl, rfl, M, h, hl, z1, z⟩
  · rintro ⟨h0, R, C, rfl, rfl, M, h, hl, z1, z⟩
    refine ⟨h0, ⟨R, C, rfl, rfl, M, h, hl, timesR_mk M h hl⟩, z1, ?_⟩
    rw [timesR_mk M h hl]; exact z
theorem solves_iff {p r c : Int} {l b x : List Int} : solvesB p r c l b x = true ↔ ∃ R C : Nat, r = R ∧ c = C ∧ Mt p R C l ∧ HasB p x = true ∧ x.length = C ∧ b.length = R ∧ HasB p b = true ∧ timesM p R C l x = b := by
  unfold solvesB
  simp only [Bool.and_eq_true, decide_eq_true_eq, timesR_iff]
  constructor
  · rintro ⟨h1, h2, h3, ⟨R, C, rfl, rfl, M, h, hl, e⟩, z⟩
    rw [e] at z
    exact ⟨R, C, rfl, rfl, M, h, hl, by omega, h3, z⟩
  · rintro ⟨R, C, rfl, rfl, M, h, hl, h2, h3, z⟩
    refine ⟨mat_mk M, by omega, h3, ⟨R, C, rfl, rfl, M, h, hl, timesR_mk M h hl⟩, ?_⟩
    rw [timesR_mk M h hl]; exact z
end Go.Proofs.Ytmalpmnmknpphaa.TM
namespace Go.Proofs.Ytmalpmnmknpphaa.TM
open Go Go.RowKit
def sF (l : List Int) : Nat → Bool
  | 0 => true
  | k + 1 => if l.getD (k + 1) 0 < l.getD k 0 then false else sF l k
def begB (r : Nat) (b k v : List Int) : Bool := decide (b.length = r + 1) && (decide (b.getD 0 0 = 0) && (decide (b.getD r 0 = k.length) && (sF b r && decide (k.length = v.length))))
end Go.Proofs.Ytmalpmnmknpphaa.TM
namespace Go.Proofs.Ytmalpmnmknpphaa.TM
open Go Go.RowKit
theorem sF_adj {l : List Int} : ∀ {n : Nat}, sF l n = true → ∀ i, i < n → l.getD i 0 ≤ l.getD (i + 1) 0
  | 0, _, i, hi => by omega
  | n + 1, h, i, hi => by
    rw [sF] at h
    by_cases c : l.getD (n + 1) 0 < l.getD n 0
    · rw [if_pos c] at h; cases h
    · rw [if_neg c] at h
      by_cases e : i = n
      · subst e; omega
      · exact sF_adj h i (by omega)
theorem sF_lo {l : List Int} {n : Nat} (h : sF l n = true) : ∀ i, i ≤ n → l.getD 0 0 ≤ l.getD i 0
  | 0, _ => Int.le_refl _
  | i + 1, hi => Int.le_trans (sF_lo h i (by omega)) (sF_adj h i (by omega))
theorem sF_hi {l : List Int} {n : Nat} (h : sF l n = true) : ∀ d i, i + d = n → l.getD i 0 ≤ l.getD n 0
  | 0, i, hi => by have : i = n := by omega
                   subst this; exact Int.le_refl _
  | d + 1, i, hi => Int.le_trans (sF_adj h i (by omega)) (sF_hi h d (i + 1) (by omega))
def segI (b k : List Int) (i : Nat) : List Int := (k.drop (b.getD i 0).toNat).take ((b.getD (i + 1) 0).toNat - (b.getD i 0).toNat)
theorem beg_facts {r : Nat} {b k v : List Int} (h : begB r b k v = true) (i : Nat) (hi : i < r) : ∃ x y : Nat, b[i]? = some (x : Int) ∧ b[i + 1]? = some (y : Int) ∧ i < b.length ∧ i + 1 < b.length ∧ x ≤ y ∧ y ≤ k.length ∧ segI b k i = (k.drop x).take (y - x) := by
  simp only [begB, Bool.and_eq_true, decide_eq_true_eq] at h
  obtain ⟨h1, h2, h3, h4, h5⟩ := h
  have a1 := sF_adj h4 i hi
  have a2 := sF_lo h4 i (by omega)
  have a3 := sF_hi h4 (r - (i + 1)) (i + 1) (by omega)
  rw [h2] at a2
  rw [h3] at a3
  have l1 : i < b.length := by omega
  have l2 : i + 1 < b.length := by omega
  obtain ⟨x, hx⟩ := Int.eq_ofNat_of_zero_le a2
  obtain ⟨y, hy⟩ := Int.eq_ofNat_of_zero_le (Int.le_trans a2 a1)
  refine ⟨x, y, ?_, ?_, l1, l2, by omega, by omega, ?_⟩
  · rw [List.getElem?_eq_getElem l1, ← hx, List.getD_eq_getElem?_getD, List.getElem?_eq_getElem l1]; rfl
  · rw [List.getElem?_eq_getElem l2, ← hy, List.getD_eq_getElem?_getD, List.getElem?_eq_getElem l2]; rfl
  · unfold segI; rw [hx, hy]; rfl
end Go.Proofs.Ytmalpmnmknpphaa.TM
namespace Go.Proofs.Ytmalpmnmknpphaa.TM
open Go Go.RowKit
theorem risF_all : ∀ (l : List Int) (last most : Int), risF last l most = true → ∀ c ∈ l, last < c ∧ c < most
  | [], _, _, _, c, hc => by simp at hc
  | a :: l, last, most, h, c, hc => by
    rw [risF] at h
    by_cases e : a ≤ last ∨ most ≤ a
    · rw [if_pos e] at h; cases h
    · rw [if_neg e] at h
      rcases List.mem_cons.1 hc with rfl | hc
      · omega
      · have := risF_all l a most h c hc; omega
theorem risF_drop : ∀ (l : List Int) (last most : Int), risF last l most = true → ∀ i j, i < j → (hj : j < l.length) → l.getD i 0 < l.getD j 0
  | [], _, _, _, i, j, _, hj => by simp at hj
  | a :: l, last, most, h, i, j, hij, hj => by
    rw [risF] at h
    by_cases e : a ≤ last ∨ most ≤ a
    · rw [if_pos e] at h; cases h
    · rw [if_neg e] at h
      obtain ⟨m, rfl⟩ : ∃ m, j = m + 1 := ⟨j - 1, by omega⟩
      have hm : m < l.length := by simpa using hj
      have := risF_all l a most h (l.getD m 0) (by rw [List.getD_eq_getElem?_getD, List.getElem?_eq_getElem hm]; exact List.getElem_mem hm)
      cases i with
      | zero => simpa using this.1
      | succ i => simpa using risF_drop l a most h i m (by omega) hm
structure Sp (p : Int) (R C : Nat) (b k v : List Int) : Prop where
  hp : Md p
  r1 : 1 ≤ R
  r2 : R ≤ 64
  c1 : 1 ≤ C
  c2 : C ≤ 64
  beg : begB R b k v = true
  has : ∀ a ∈ v, a < p
  nz : (0 : Int) ∉ v
  ris : ∀ i, i < R → risF (-1) (segI b k i) C = true
theorem Sp.vlen {p : Int} {R C : Nat} {b k v : List Int} (h : Sp p R C b k v) : k.length = v.length := by
  have := h.beg
  simp only [begB, Bool.and_eq_true, decide_eq_true_eq] at this
  exact this.2.2.2.2
theorem Sp.row {p : Int} {R C : Nat} {b k v : List Int} (h : Sp p R C b k v) {i : Nat} (hi : i < R) :
    ∃ x y : Nat, b[i]? = some (x : Int) ∧ b[i + 1]? = some (y : Int) ∧ i < b.length ∧ i + 1 < b.length ∧ x ≤ y ∧ y ≤ k.length ∧ y ≤ v.length ∧ segI b k i = (k.drop x).take (y - x) ∧ segI b v i = (v.drop x).take (y - x) ∧ (segI b k i).length = y - x ∧ (segI b v i).length = y - x ∧
      (∀ c ∈ segI b k i, 0 ≤ c ∧ c < C) ∧ y - x ≤ C := by
  obtain ⟨x, y, g1, g2, l1, l2, xy, yk, sg⟩ := beg_facts h.beg i hi
  have hv := h.vlen
  have sv : segI b v i = (v.drop x).take (y - x) := by
    unfold segI
    rw [List.getD_eq_getElem?_getD, List.getD_eq_getElem?_getD, g1, g2]; rfl
  have ha : ∀ c ∈ segI b k i, 0 ≤ c ∧ c < C := by
    intro c hc
    have := risF_all _ _ _ (h.ris i hi) c hc
    omega
  have lk : (segI b k i).length = y - x := by rw [sg, List.length_take, List.length_drop]; omega
  refine ⟨x, y, g1, g2, l1, l2, xy, yk, by omega, sg, sv, lk, by rw [sv, List.length_take, List.length_drop]; omega, ha, ?_⟩
  have up : ∀ j, j < (segI b k i).length → (j : Int) ≤ (segI b k i).getD j 0 := by
    intro j
    induction j with
    | zero =>
      intro hj
      have := ha _ (by rw [List.getD_eq_getElem?_getD, List.getElem?_eq_getElem hj]; exact List.getElem_mem hj : (segI b k i).getD 0 0 ∈ segI b k i)
      simpa using this.1
    | succ j ih =>
      intro hj
      have h1 := ih (by omega)
      have h2 := risF_drop _ _ _ (h.ris i hi) j (j + 1) (by omega) hj
      omega
  rw [← lk]
  by_cases e : (segI b k i).length = 0
  · omega
  · have h1 := up ((segI b k i).length - 1) (by omega)
    have h2 := ha ((segI b k i).getD ((segI b k i).length - 1) 0) (by rw [List.getD_eq_getElem?_getD, List.getElem?_eq_getElem (show (segI b k i).length - 1 < (segI b k i).length by omega)]; exact List.getElem_mem _)
    omega
end Go.Proofs.Ytmalpmnmknpphaa.TM
namespace Go.Proofs.Ytmalpmnmknpphaa.TM
open Go Go.RowKit
attribute [local irreducible] K W WOps Effs Xg Xo Xr Xdg Xdo Xdr Xif CallsP CallR
theorem meets_walk (p r c : Int) (l b x : List Int) (hl : l.length ≤ maxLen) (hb : b.length ≤ maxLen) (hx : x.length ≤ maxLen) (wl : W64s l) (wx : W64s x) : CallsP Try.prog 26 [u64 p, matP r c l, lu b, lu x] (bl (decide (r = c) && solvesB p r c l b x)) := by
  have q := solves_walk p r c l b x hl hb hx wl wx
  have s := square_walk r c l
  by_cases h : r = c
  · rw [decide_eq_true h] at s ⊢
    rw [Bool.true_and]
    refine X_startP (n := 18) (m := 4) (rs := [.tmp 8]) Try.func26 rfl rfl rfl rfl (by decide) fun base => ?_
    repeat (first | ((first | refine X_call_fn2 rfl (by simp only [tys]) ?_ | refine X_dcall_fn2 rfl (by simp only [tys]) ?_); apply Exists.intro; apply And.intro; (focus (simp -dsimp only [simx, zzC, zzB, tys, ite_self, opnL, callB, callX, readsB, stepOp, nilCmp, ofVal, opBuiltin, opLen, PV.sk, scalBin, scalUn, intBin, opLoad, natOf, opConvert, opField, cellsP, oneP, Value.oneCell', opStore, toIV, scalT, scalA, scalC, boxesA, boxesC, zipB_none, zipB_mx, isZ, opZip, zeroP, opAppendZ, opMakeMap, opLookup, mboxB, opUpdate, ↓reduceIte, Nat.reduceSub, Nat.reduceEqDiff, Nat.reduceAdd, Nat.reduceMul, Nat.reduceLT, Nat.reduceLeDiff, Int.reduceToNat, Int.reduceLE, Int.reduceLT, Int.reduceNeg, reduceCtorEq, zzL, if_true, if_false] <;> rfl)); apply Exists.intro; apply And.intro; (focus (first | exact s | exact q))) | refine X_opc rfl ?_ | refine X_dopc rfl ?_ | refine ⟨(by show drawK _ _ = true; kernel_rfl : drawX _ _ _), ?_⟩ | exact (by show drawK _ _ = true; kernel_rfl : drawX _ _ _) | simp -dsimp (maxSteps := 20000000) (disch := omega) only [simx, zzC, zzB, tys, ite_self, opnL, callB, callX, readsB, stepOp, nilCmp, ofVal, opBuiltin, opLen, PV.sk, scalBin, scalUn, intBin, opLoad, natOf, opConvert, opField, cellsP, oneP, Value.oneCell', opStore, toIV, scalT, scalA, scalC, boxesA, boxesC, zipB_none, zipB_mx, isZ, opZip, zeroP, opAppendZ, opMakeMap, opLookup, mboxB, opUpdate, ↓reduceIte, Nat.reduceSub, Nat.reduceEqDiff, Nat.reduceAdd, Nat.reduceMul, Nat.reduceLT, Nat.reduceLeDiff, Int.reduceToNat, Int.reduceLE, Int.reduceLT, Int.reduceNeg, reduceCtorEq, zzR, gos, Int.reduceAdd, Int.reduceSub, Int.reduceMul, Int.reduceEq])
  · rw [decide_eq_false h] at s ⊢
    refine X_startP (n := 18) (m := 4) (rs := [.tmp 8]) Try.func26 rfl rfl rfl rfl (by decide) fun base => ?_
    repeat (first | ((first | refine X_call_fn2 rfl (by simp only [tys]) ?_ | refine X_dcall_fn2 rfl (by simp only [tys]) ?_); apply Exists.intro; apply And.intro; (focus (simp -dsimp only [simx, zzC, zzB, tys, ite_self, opnL, callB, callX, readsB, stepOp, nilCmp, ofVal, opBuiltin, opLen, PV.sk, scalBin, scalUn, intBin, opLoad, natOf, opConvert, opField, cellsP, oneP, Value.oneCell', opStore, toIV, scalT, scalA, scalC, boxesA, boxesC, zipB_none, zipB_mx, isZ, opZip, zeroP, opAppendZ, opMakeMap, opLookup, mboxB, opUpdate, ↓reduceIte, Nat.reduceSub, Nat.reduceEqDiff, Nat.reduceAdd, Nat.reduceMul, Nat.reduceLT, Nat.reduceLeDiff, Int.reduceToNat, Int.reduceLE, Int.reduceLT, Int.reduceNeg, reduceCtorEq, zzL, if_true, if_false] <;> rfl)); apply Exists.intro; apply And.intro; (focus (first | exact s))) | refine X_opc rfl ?_ | refine X_dopc rfl ?_ | refine ⟨(by show drawK _ _ = true; kernel_rfl : drawX _ _ _), ?_⟩ | exact (by show drawK _ _ = true; kernel_rfl : drawX _ _ _) | simp -dsimp (maxSteps := 20000000) (disch := omega) only [simx, zzC, zzB, tys, ite_self, opnL, callB, callX, readsB, stepOp, nilCmp, ofVal, opBuiltin, opLen, PV.sk, scalBin, scalUn, intBin, opLoad, natOf, opConvert, opField, cellsP, oneP, Value.oneCell', opStore, toIV, scalT, scalA, scalC, boxesA, boxesC, zipB_none, zipB_mx, isZ, opZip, zeroP, opAppendZ, opMakeMap, opLookup, mboxB, opUpdate, ↓reduceIte, Nat.reduceSub, Nat.reduceEqDiff, Nat.reduceAdd, Nat.reduceMul, Nat.reduceLT, Nat.reduceLeDiff, Int.reduceToNat, Int.reduceLE, Int.reduceLT, Int.reduceNeg, reduceCtorEq, zzR, gos, Int.reduceAdd, Int.reduceSub, Int.reduceMul, Int.reduceEq])
def againstB (p r c : Int) (l b y : List Int) : Bool := goneB p r c l y && (decide ((dotR p y b).2 = 0) && decide ((dotR p y b).1 ≠ 0))
theorem against_walk (p r c : Int) (l b y : List Int) (hl : l.length ≤ maxLen) (hb : b.length ≤ maxLen) (hy : y.length ≤ maxLen) (wl : W64s l) (wb : W64s b) (wy : W64s y) : CallsP Try.prog 33 [u64 p, matP r c l, lu b, lu y] (bl (againstB p r c l b y)) := by
  have q := dot_walk p y b hy hb wy wb
  have g := gone_walk p r c l y hl hy wl wy
  unfold againstB
  generalize dotR p y b = d at *
  obtain ⟨d1, d2⟩ := d
  simp only at q ⊢
  cases hg : goneB p r c l y with
  | false =>
    rw [hg] at g
    refine X_startP (n := 30) (m := 4) (rs := [.tmp 8]) Try.func33 rfl rfl rfl rfl (by decide) fun base => ?_
    repeat (first | ((first | refine X_call_fn2 rfl (by simp only [tys]) ?_ | refine X_dcall_fn2 rfl (by simp only [tys]) ?_); apply Exists.intro; apply And.intro; (focus (simp -dsimp only [simx, zzC, zzB, tys, ite_self, opnL, callB, callX, readsB, stepOp, nilCmp, ofVal, opBuiltin, opLen, PV.sk, scalBin, scalUn, intBin, opLoad, natOf, opConvert, opField, cellsP, oneP, Value.oneCell', opStore, toIV, scalT, scalA, scalC, boxesA, boxesC, zipB_none, zipB_mx, isZ, opZip, zeroP, opAppendZ, opMakeMap, opLookup, mboxB, opUpdate, ↓reduceIte, Nat.reduceSub, Nat.reduceEqDiff, Nat.reduceAdd, Nat.reduceMul, Nat.reduceLT, Nat.reduceLeDiff, Int.reduceToNat, Int.reduceLE, Int.reduceLT, Int.reduceNeg, reduceCtorEq, zzL, if_true, if_false] <;> rfl)); apply Exists.intro; apply And.intro; (focus (first | exact q | exact g))) | refine X_opc rfl ?_ | refine X_dopc rfl ?_ | refine ⟨(by show drawK _ _ = true; kernel_rfl : drawX _ _ _), ?_⟩ | exact (by show drawK _ _ = true; kernel_rfl : drawX _ _ _) | simp -dsimp (maxSteps := 20000000) (disch := omega) only [simx, zzC, zzB, tys, ite_self, opnL, callB, callX, readsB, stepOp, nilCmp, ofVal, opBuiltin, opLen, PV.sk, scalBin, scalUn, intBin, opLoad, natOf, opConvert, opField, cellsP, oneP, Value.oneCell', opStore, toIV, scalT, scalA, scalC, boxesA, boxesC, zipB_none, zipB_mx, isZ, opZip, zeroP, opAppendZ, opMakeMap, opLookup, mboxB, opUpdate, ↓reduceIte, Nat.reduceSub, Nat.reduceEqDiff, Nat.reduceAdd, Nat.reduceMul, Nat.reduceLT, Nat.reduceLeDiff, Int.reduceToNat, Int.reduceLE, Int.reduceLT, Int.reduceNeg, reduceCtorEq, zzR, gos, Int.reduceAdd, Int.reduceSub, Int.reduceMul, Int.reduceEq])
  | true =>
    rw [hg] at g
    by_cases h : d2 = 0
    · rw [decide_eq_true h]
      by_cases h2 : d1 = 0
      · rw [decide_eq_false (fun h => h h2)]
        refine X_startP (n := 30) (m := 4) (rs := [.tmp 8]) Try.func33 rfl rfl rfl rfl (by decide) fun base => ?_
        repeat (first | ((first | refine X_call_fn2 rfl (by simp only [tys]) ?_ | refine X_dcall_fn2 rfl (by simp only [tys]) ?_); apply Exists.intro; apply And.intro; (focus (simp -dsimp only [simx, zzC, zzB, tys, ite_self, opnL, callB, callX, readsB, stepOp, nilCmp, ofVal, opBuiltin, opLen, PV.sk, scalBin, scalUn, intBin, opLoad, natOf, opConvert, opField, cellsP, oneP, Value.oneCell', opStore, toIV, scalT, scalA, scalC, boxesA, boxesC, zipB_none, zipB_mx, isZ, opZip, zeroP, opAppendZ, opMakeMap, opLookup, mboxB, opUpdate, ↓reduceIte, Nat.reduceSub, Nat.reduceEqDiff, Nat.reduceAdd, Nat.reduceMul, Nat.reduceLT, Nat.reduceLeDiff, Int.reduceToNat, Int.reduceLE, Int.reduceLT, Int.reduceNeg, reduceCtorEq, zzL, if_true, if_false] <;> rfl)); apply Exists.intro; apply And.intro; (focus (first | exact q | exact g))) | refine X_opc rfl ?_ | refine X_dopc rfl ?_ | refine ⟨(by show drawK _ _ = true; kernel_rfl : drawX _ _ _), ?_⟩ | exact (by show drawK _ _ = true; kernel_rfl : drawX _ _ _) | simp -dsimp (maxSteps := 20000000) (disch := omega) only [simx, zzC, zzB, tys, ite_self, opnL, callB, callX, readsB, stepOp, nilCmp, ofVal, opBuiltin, opLen, PV.sk, scalBin, scalUn, intBin, opLoad, natOf, opConvert, opField, cellsP, oneP, Value.oneCell', opStore, toIV, scalT, scalA, scalC, boxesA, boxesC, zipB_none, zipB_mx, isZ, opZip, zeroP, opAppendZ, opMakeMap, opLookup, mboxB, opUpdate, ↓reduceIte, Nat.reduceSub, Nat.reduceEqDiff, Nat.reduceAdd, Nat.reduceMul, Nat.reduceLT, Nat.reduceLeDiff, Int.reduceToNat, Int.reduceLE, Int.reduceLT, Int.reduceNeg, reduceCtorEq, zzR, gos, Int.reduceAdd, Int.reduceSub, Int.reduceMul, Int.reduceEq])
      · rw [decide_eq_true h2]
        refine X_startP (n := 30) (m := 4) (rs := [.tmp 8]) Try.func33 rfl rfl rfl rfl (by decide) fun base => ?_
        repeat (first | ((first | refine X_call_fn2 rfl (by simp only [tys]) ?_ | refine X_dcall_fn2 rfl (by simp only [tys]) ?_); apply Exists.intro; apply And.intro; (focus (simp -dsimp only [simx, zzC, zzB, tys, ite_self, opnL, callB, callX, readsB, stepOp, nilCmp, ofVal, opBuiltin, opLen, PV.sk, scalBin, scalUn, intBin, opLoad, natOf, opConvert, opField, cellsP, oneP, Value.oneCell', opStore, toIV, scalT, scalA, scalC, boxesA, boxesC, zipB_none, zipB_mx, isZ, opZip, zeroP, opAppendZ, opMakeMap, opLookup, mboxB, opUpdate, ↓reduceIte, Nat.reduceSub, Nat.reduceEqDiff, Nat.reduceAdd, Nat.reduceMul, Nat.reduceLT, Nat.reduceLeDiff, Int.reduceToNat, Int.reduceLE, Int.reduceLT, Int.reduceNeg, reduceCtorEq, zzL, if_true, if_false] <;> rfl)); apply Exists.intro; apply And.intro; (focus (first | exact q | exact g))) | refine X_opc rfl ?_ | refine X_dopc rfl ?_ | refine ⟨(by show drawK _ _ = true; kernel_rfl : drawX _ _ _), ?_⟩ | exact (by show drawK _ _ = true; kernel_rfl : drawX _ _ _) | simp -dsimp (maxSteps := 20000000) (disch := omega) only [simx, zzC, zzB, tys, ite_self, opnL, callB, callX, readsB, stepOp, nilCmp, ofVal, opBuiltin, opLen, PV.sk, scalBin, scalUn, intBin, opLoad, natOf, opConvert, opField, cellsP, oneP, Value.oneCell', opStore, toIV, scalT, scalA, scalC, boxesA, boxesC, zipB_none, zipB_mx, isZ, opZip, zeroP, opAppendZ, opMakeMap, opLookup, mboxB, opUpdate, ↓reduceIte, Nat.reduceSub, Nat.reduceEqDiff, Nat.reduceAdd, Nat.reduceMul, Nat.reduceLT, Nat.reduceLeDiff, Int.reduceToNat, Int.reduceLE, Int.reduceLT, Int.reduceNeg, reduceCtorEq, zzR, gos, Int.reduceAdd, Int.reduceSub, Int.reduceMul, Int.reduceEq])
    · rw [decide_eq_false h]
      refine X_startP (n := 30) (m := 4) (rs := [.tmp 8]) Try.func33 rfl rfl rfl rfl (by decide) fun base => ?_
      repeat (first | ((first | refine X_call_fn2 rfl (by simp only [tys]) ?_ | refine X_dcall_fn2 rfl (by simp only [tys]) ?_); apply Exists.intro; apply And.intro; (focus (simp -dsimp only [simx, zzC, zzB, tys, ite_self, opnL, callB, callX, readsB, stepOp, nilCmp, ofVal, opBuiltin, opLen, PV.sk, scalBin, scalUn, intBin, opLoad, natOf, opConvert, opField, cellsP, oneP, Value.oneCell', opStore, toIV, scalT, scalA, scalC, boxesA, boxesC, zipB_none, zipB_mx, isZ, opZip, zeroP, opAppendZ, opMakeMap, opLookup, mboxB, opUpdate, ↓reduceIte, Nat.reduceSub, Nat.reduceEqDiff, Nat.reduceAdd, Nat.reduceMul, Nat.reduceLT, Nat.reduceLeDiff, Int.reduceToNat, Int.reduceLE, Int.reduceLT, Int.reduceNeg, reduceCtorEq, zzL, if_true, if_false] <;> rfl)); apply Exists.intro; apply And.intro; (focus (first | exact q | exact g))) | refine X_opc rfl ?_ | refine X_dopc rfl ?_ | refine ⟨(by show drawK _ _ = true; kernel_rfl : drawX _ _ _), ?_⟩ | exact (by show drawK _ _ = true; kernel_rfl : drawX _ _ _) | simp -dsimp (maxSteps := 20000000) (disch := omega) only [simx, zzC, zzB, tys, ite_self, opnL, callB, callX, readsB, stepOp, nilCmp, ofVal, opBuiltin, opLen, PV.sk, scalBin, scalUn, intBin, opLoad, natOf, opConvert, opField, cellsP, oneP, Value.oneCell', opStore, toIV, scalT, scalA, scalC, boxesA, boxesC, zipB_none, zipB_mx, isZ, opZip, zeroP, opAppendZ, opMakeMap, opLookup, mboxB, opUpdate, ↓reduceIte, Nat.reduceSub, Nat.reduceEqDiff, Nat.reduceAdd, Nat.reduceMul, Nat.reduceLT, Nat.reduceLeDiff, Int.reduceToNat, Int.reduceLE, Int.reduceLT, Int.reduceNeg, reduceCtorEq, zzR, gos, Int.reduceAdd, Int.reduceSub, Int.reduceMul, Int.reduceEq])
set_option maxHeartbeats 4000000 in
set_option maxRecDepth 100000 in
theorem awake14_walk : CallsP Try.prog 22 [] (bl true) := by
  have w4 : W64s [1, 2, 2, 4] := by show ∀ x ∈ _, 0 ≤ x ∧ x < _; decide
  have w1 : W64s [5, 1] := by show ∀ x ∈ _, 0 ≤ x ∧ x < _; decide
  have w2 : W64s [0, 0] := by show ∀ x ∈ _, 0 ≤ x ∧ x < _; decide
  have w3 : W64s [1, 0] := by show ∀ x ∈ _, 0 ≤ x ∧ x < _; decide
  have w5 : W64s [2, 0] := by show ∀ x ∈ _, 0 ≤ x ∧ x < _; decide
  have w6 : W64s [1, 3] := by show ∀ x ∈ _, 0 ≤ x ∧ x < _; decide
  have d1 := sing_walk 7 2 2 [1, 2, 2, 4] [5, 1] (by decide) (by decide) w4 w1
  rw [show singB 7 2 2 [1, 2, 2, 4] [5, 1] = true by decide +kernel] at d1
  have d2 := sing_walk 7 2 2 [1, 2, 2, 4] [0, 0] (by decide) (by decide) w4 w2
  rw [show singB 7 2 2 [1, 2, 2, 4] [0, 0] = false by decide +kernel] at d2
  have d3 := meets_walk 7 2 2 [1, 2, 2, 4] [1, 2] [1, 0] (by decide) (by decide) (by decide) w4 w3
  rw [show (decide ((2 : Int) = 2) && solvesB 7 2 2 [1, 2, 2, 4] [1, 2] [1, 0]) = true by decide +kernel] at d3
  have d4 := solves_walk 7 2 2 [1, 2, 2, 4] [2, 4] [2, 0] (by decide) (by decide) (by decide) w4 w5
  rw [show solvesB 7 2 2 [1, 2, 2, 4] [2, 4] [2, 0] = true by decide +kernel] at d4
  have d5 := against_walk 7 2 2 [1, 2, 2, 4] [1, 3] [5, 1] (by decide) (by decide) (by decide) w4 w6 w1
  rw [show againstB 7 2 2 [1, 2, 2, 4] [1, 3] [5, 1] = true by decide +kernel] at d5
  have d6 := loses_walk 7 2 2 [1, 2, 2, 4] [5, 1] (by decide) (by decide) w4 w1
  rw [show losesB 7 2 2 [1, 2, 2, 4] [5, 1] = true by decide +kernel] at d6
  have d7 := zero_walk (l := []) (by decide)
  rw [show zerB [] = true from rfl] at d7
  have d8 := zero_walk (l := [0, 1]) (by decide)
  rw [show zerB [0, 1] = false from rfl] at d8
  have d9 : CallsP Try.prog 64 [matP 2 2 [1, 2, 2, 4]] (i64 4) := by
    refine X_startP (n := 35) (m := 1) (rs := [.tmp 2]) Try.func64 rfl rfl rfl rfl (by decide) fun base => ?_
    repeat (first | refine X_opc rfl ?_ | refine X_dopc rfl ?_ | refine ⟨(by show drawK _ _ = true; kernel_rfl : drawX _ _ _), ?_⟩ | exact (by show drawK _ _ = true; kernel_rfl : drawX _ _ _) | simp -dsimp (maxSteps := 20000000) (disch := omega) only [simx, zzC, zzB, tys, ite_self, opnL, callB, callX, readsB, stepOp, nilCmp, ofVal, opBuiltin, opLen, PV.sk, scalBin, scalUn, intBin, opLoad, natOf, opConvert, opField, cellsP, oneP, Value.oneCell', opStore, toIV, scalT, scalA, scalC, boxesA, boxesC, zipB_none, zipB_mx, isZ, opZip, zeroP, opAppendZ, opMakeMap, opLookup, mboxB, opUpdate, ↓reduceIte, Nat.reduceSub, Nat.reduceEqDiff, Nat.reduceAdd, Nat.reduceMul, Nat.reduceLT, Nat.reduceLeDiff, Int.reduceToNat, Int.reduceLE, Int.reduceLT, Int.reduceNeg, reduceCtorEq, zzR, gos, Int.reduceAdd, Int.reduceSub, Int.reduceMul, Int.reduceEq])
    rfl
  refine X_startP (n := 49) (m := 0) (rs := [.tmp 0]) Try.func22 rfl rfl rfl rfl (by decide) fun base => ?_
  repeat (first | ((first | refine X_call_fn2 rfl (by simp only [tys]) ?_ | refine X_dcall_fn2 rfl (by simp only [tys]) ?_); apply Exists.intro; apply And.intro; (focus (simp -dsimp only [simx, zzC, zzB, tys, ite_self, opnL, callB, callX, readsB, stepOp, nilCmp, ofVal, opBuiltin, opLen, PV.sk, scalBin, scalUn, intBin, opLoad, natOf, opConvert, opField, cellsP, oneP, Value.oneCell', opStore, toIV, scalT, scalA, scalC, boxesA, boxesC, zipB_none, zipB_mx, isZ, opZip, zeroP, opAppendZ, opMakeMap, opLookup, mboxB, opUpdate, ↓reduceIte, Nat.reduceSub, Nat.reduceEqDiff, Nat.reduceAdd, Nat.reduceMul, Nat.reduceLT, Nat.reduceLeDiff, Int.reduceToNat, Int.reduceLE, Int.reduceLT, Int.reduceNeg, reduceCtorEq, zzL, if_true, if_false] <;> rfl)); apply Exists.intro; apply And.intro; (focus (first | exact d1 | exact d2 | exact d3 | exact d4 | exact d5 | exact d6 | exact d7 | exact d8 | exact d9))) | refine X_opc rfl ?_ | refine X_dopc rfl ?_ | refine ⟨(by show drawK _ _ = true; kernel_rfl : drawX _ _ _), ?_⟩ | exact (by show drawK _ _ = true; kernel_rfl : drawX _ _ _) | simp -dsimp (maxSteps := 20000000) (disch := omega) only [simx, zzC, zzB, tys, ite_self, opnL, callB, callX, readsB, stepOp, nilCmp, ofVal, opBuiltin, opLen, PV.sk, scalBin, scalUn, intBin, opLoad, natOf, opConvert, opField, cellsP, oneP, Value.oneCell', opStore, toIV, scalT, scalA, scalC, boxesA, boxesC, zipB_none, zipB_mx, isZ, opZip, zeroP, opAppendZ, opMakeMap, opLookup, mboxB, opUpdate, ↓reduceIte, Nat.reduceSub, Nat.reduceEqDiff, Nat.reduceAdd, Nat.reduceMul, Nat.reduceLT, Nat.reduceLeDiff, Int.reduceToNat, Int.reduceLE, Int.reduceLT, Int.reduceNeg, reduceCtorEq, zzR, gos, Int.reduceAdd, Int.reduceSub, Int.reduceMul, Int.reduceEq])
end Go.Proofs.Ytmalpmnmknpphaa.TM
namespace Go.Proofs.Ytmalpmnmknpphaa.TM
open Go Go.RowKit
attribute [local irreducible] K W WOps Effs Xg Xo Xr Xdg Xdo Xdr Xif CallsP CallR
def twoR (p a b v : Int) : Int × Int := if HasB p [a, b] then (v, 0) else (0, 1)
theorem has2 {p a b : Int} (h : HasB p [a, b] = true) (wa : W64 a) (wb : W64 b) : Md p ∧ In p a ∧ In p b := by
  obtain ⟨h1, h2, h3⟩ := (has_iff p _).1 h
  exact ⟨⟨h2, h3⟩, ⟨wa.1, h1 a (by simp)⟩, ⟨wb.1, h1 b (by simp)⟩⟩
theorem two_mul (p a b : Int) (wa : W64 a) (wb : W64 b) : CallsP Try.prog 105 [u64 p, u64 a, u64 b, fnc 114] (.tup [u64 (twoR p a b (a * b % p)).1, i64 (twoR p a b (a * b % p)).2]) := by
  have q := has_walk p [a, b] (by rw [mx_len]; simp)
  unfold twoR
  cases h : HasB p [a, b] with
  | false =>
    rw [h] at q
    refine X_startP (n := 21) (m := 4) (rs := [.tmp 8, .tmp 9]) Try.func105 rfl rfl rfl rfl (by decide) fun base => ?_
    repeat (first | ((first | refine X_call_fn2 rfl (by simp only [tys]) ?_ | refine X_dcall_fn2 rfl (by simp only [tys]) ?_); apply Exists.intro; apply And.intro; (focus (simp -dsimp only [simx, zzC, zzB, tys, ite_self, opnL, callB, callX, readsB, stepOp, nilCmp, ofVal, opBuiltin, opLen, PV.sk, scalBin, scalUn, intBin, opLoad, natOf, opConvert, opField, cellsP, oneP, Value.oneCell', opStore, toIV, scalT, scalA, scalC, boxesA, boxesC, zipB_none, zipB_mx, isZ, opZip, zeroP, opAppendZ, opMakeMap, opLookup, mboxB, opUpdate, ↓reduceIte, Nat.reduceSub, Nat.reduceEqDiff, Nat.reduceAdd, Nat.reduceMul, Nat.reduceLT, Nat.reduceLeDiff, Int.reduceToNat, Int.reduceLE, Int.reduceLT, Int.reduceNeg, reduceCtorEq, zzL, if_true, if_false] <;> rfl)); apply Exists.intro; apply And.intro; (focus (first | exact q))) | refine X_opc rfl ?_ | refine X_dopc rfl ?_ | refine ⟨(by show drawK _ _ = true; kernel_rfl : drawX _ _ _), ?_⟩ | exact (by show drawK _ _ = true; kernel_rfl : drawX _ _ _) | simp -dsimp (maxSteps := 20000000) (disch := omega) only [simx, zzC, zzB, tys, ite_self, opnL, callB, callX, readsB, stepOp, nilCmp, ofVal, opBuiltin, opLen, PV.sk, scalBin, scalUn, intBin, opLoad, natOf, opConvert, opField, cellsP, oneP, Value.oneCell', opStore, toIV, scalT, scalA, scalC, boxesA, boxesC, zipB_none, zipB_mx, isZ, opZip, zeroP, opAppendZ, opMakeMap, opLookup, mboxB, opUpdate, ↓reduceIte, Nat.reduceSub, Nat.reduceEqDiff, Nat.reduceAdd, Nat.reduceMul, Nat.reduceLT, Nat.reduceLeDiff, Int.reduceToNat, Int.reduceLE, Int.reduceLT, Int.reduceNeg, reduceCtorEq, zzR, gos, Int.reduceAdd, Int.reduceSub, Int.reduceMul, Int.reduceEq])
  | true =>
    rw [h] at q
    obtain ⟨h1, h2, h3⟩ := has2 h wa wb
    have d := mul_walk p a b h1 h2 h3
    refine X_startP (n := 21) (m := 4) (rs := [.tmp 8, .tmp 9]) Try.func105 rfl rfl rfl rfl (by decide) fun base => ?_
    repeat (first | ((first | refine X_call_fn2 rfl (by simp only [tys]) ?_ | refine X_dcall_fn2 rfl (by simp only [tys]) ?_); apply Exists.intro; apply And.intro; (focus (simp -dsimp only [simx, zzC, zzB, tys, ite_self, opnL, callB, callX, readsB, stepOp, nilCmp, ofVal, opBuiltin, opLen, PV.sk, scalBin, scalUn, intBin, opLoad, natOf, opConvert, opField, cellsP, oneP, Value.oneCell', opStore, toIV, scalT, scalA, scalC, boxesA, boxesC, zipB_none, zipB_mx, isZ, opZip, zeroP, opAppendZ, opMakeMap, opLookup, mboxB, opUpdate, ↓reduceIte, Nat.reduceSub, Nat.reduceEqDiff, Nat.reduceAdd, Nat.reduceMul, Nat.reduceLT, Nat.reduceLeDiff, Int.reduceToNat, Int.reduceLE, Int.reduceLT, Int.reduceNeg, reduceCtorEq, zzL, if_true, if_false] <;> rfl)); apply Exists.intro; apply And.intro; (focus (first | exact q | exact d))) | (refine X_call_val2 rfl ?_; apply Exists.intro; apply And.intro; (focus (simp -dsimp only [simx, zzC, zzB, tys, ite_self, opnL, callB, callX, readsB, stepOp, nilCmp, ofVal, opBuiltin, opLen, PV.sk, scalBin, scalUn, intBin, opLoad, natOf, opConvert, opField, cellsP, oneP, Value.oneCell', opStore, toIV, scalT, scalA, scalC, boxesA, boxesC, zipB_none, zipB_mx, isZ, opZip, zeroP, opAppendZ, opMakeMap, opLookup, mboxB, opUpdate, ↓reduceIte, Nat.reduceSub, Nat.reduceEqDiff, Nat.reduceAdd, Nat.reduceMul, Nat.reduceLT, Nat.reduceLeDiff, Int.reduceToNat, Int.reduceLE, Int.reduceLT, Int.reduceNeg, reduceCtorEq, zzL, if_true, if_false] <;> rfl)); apply And.intro; (focus (first | simp only [tys] | exact such_enter _)); apply Exists.intro; apply And.intro; (focus (simp -dsimp only [simx, zzC, zzB, tys, ite_self, opnL, callB, callX, readsB, stepOp, nilCmp, ofVal, opBuiltin, opLen, PV.sk, scalBin, scalUn, intBin, opLoad, natOf, opConvert, opField, cellsP, oneP, Value.oneCell', opStore, toIV, scalT, scalA, scalC, boxesA, boxesC, zipB_none, zipB_mx, isZ, opZip, zeroP, opAppendZ, opMakeMap, opLookup, mboxB, opUpdate, ↓reduceIte, Nat.reduceSub, Nat.reduceEqDiff, Nat.reduceAdd, Nat.reduceMul, Nat.reduceLT, Nat.reduceLeDiff, Int.reduceToNat, Int.reduceLE, Int.reduceLT, Int.reduceNeg, reduceCtorEq, zzL, if_true, if_false] <;> rfl)); apply Exists.intro; apply And.intro; (focus (first | exact q | exact d))) | refine X_opc rfl ?_ | refine X_dopc rfl ?_ | refine ⟨(by show drawK _ _ = true; kernel_rfl : drawX _ _ _), ?_⟩ | exact (by show drawK _ _ = true; kernel_rfl : drawX _ _ _) | simp -dsimp (maxSteps := 20000000) (disch := omega) only [simx, zzC, zzB, tys, ite_self, opnL, callB, callX, readsB, stepOp, nilCmp, ofVal, opBuiltin, opLen, PV.sk, scalBin, scalUn, intBin, opLoad, natOf, opConvert, opField, cellsP, oneP, Value.oneCell', opStore, toIV, scalT, scalA, scalC, boxesA, boxesC, zipB_none, zipB_mx, isZ, opZip, zeroP, opAppendZ, opMakeMap, opLookup, mboxB, opUpdate, ↓reduceIte, Nat.reduceSub, Nat.reduceEqDiff, Nat.reduceAdd, Nat.reduceMul, Nat.reduceLT, Nat.reduceLeDiff, Int.reduceToNat, Int.reduceLE, Int.reduceLT, Int.reduceNeg, reduceCtorEq, zzR, gos, Int.reduceAdd, Int.reduceSub, Int.reduceMul, Int.reduceEq])
theorem Mul_walk (p a b : Int) (wa : W64 a) (wb : W64 b) : CallsP Try.prog 79 [u64 p, u64 a, u64 b] (.tup [u64 (twoR p a b (a * b % p)).1, i64 (twoR p a b (a * b % p)).2]) := by
  have q := two_mul p a b wa wb
  refine X_startP (n := 14) (m := 3) (rs := [.tmp 6, .tmp 7]) Try.func79 rfl rfl rfl rfl (by decide) fun base => ?_
  repeat (first | ((first | refine X_call_fn2 rfl (by simp only [tys]) ?_ | refine X_dcall_fn2 rfl (by simp only [tys]) ?_); apply Exists.intro; apply And.intro; (focus (simp -dsimp only [simx, zzC, zzB, tys, ite_self, opnL, callB, callX, readsB, stepOp, nilCmp, ofVal, opBuiltin, opLen, PV.sk, scalBin, scalUn, intBin, opLoad, natOf, opConvert, opField, cellsP, oneP, Value.oneCell', opStore, toIV, scalT, scalA, scalC, boxesA, boxesC, zipB_none, zipB_mx, isZ, opZip, zeroP, opAppendZ, opMakeMap, opLookup, mboxB, opUpdate, ↓reduceIte, Nat.reduceSub, Nat.reduceEqDiff, Nat.reduceAdd, Nat.reduceMul, Nat.reduceLT, Nat.reduceLeDiff, Int.reduceToNat, Int.reduceLE, Int.reduceLT, Int.reduceNeg, reduceCtorEq, zzL, if_true, if_false] <;> rfl)); apply Exists.intro; apply And.intro; (focus (first | exact q))) | refine X_opc rfl ?_ | refine X_dopc rfl ?_ | refine ⟨(by show drawK _ _ = true; kernel_rfl : drawX _ _ _), ?_⟩ | exact (by show drawK _ _ = true; kernel_rfl : drawX _ _ _) | simp -dsimp (maxSteps := 20000000) (disch := omega) only [simx, zzC, zzB, tys, ite_self, opnL, callB, callX, readsB, stepOp, nilCmp, ofVal, opBuiltin, opLen, PV.sk, scalBin, scalUn, intBin, opLoad, natOf, opConvert, opField, cellsP, oneP, Value.oneCell', opStore, toIV, scalT, scalA, scalC, boxesA, boxesC, zipB_none, zipB_mx, isZ, opZip, zeroP, opAppendZ, opMakeMap, opLookup, mboxB, opUpdate, ↓reduceIte, Nat.reduceSub, Nat.reduceEqDiff, Nat.reduceAdd, Nat.reduceMul, Nat.reduceLT, Nat.reduceLeDiff, Int.reduceToNat, Int.reduceLE, Int.reduceLT, Int.reduceNeg, reduceCtorEq, zzR, gos, Int.reduceAdd, Int.reduceSub, Int.reduceMul, Int.reduceEq])
end Go.Proofs.Ytmalpmnmknpphaa.TM
