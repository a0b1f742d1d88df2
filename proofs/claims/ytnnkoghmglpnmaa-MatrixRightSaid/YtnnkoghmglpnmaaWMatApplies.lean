/- Layer 5, MatrixApplies: a product times a vector is one matrix times what the other one makes; turned; thin. -/
import Derived.Test.YtnnkoghmglpnmaaWMatR
import Derived.Test.YtnnkoghmglpnmaaWMatH
import Derived.Test.YtnnkoghmglpnmaaWMatPicked
namespace Go.Proofs.Ytnnkoghmglpnmaa.TM
open Go Go.RowKit
set_option linter.unusedVariables false
set_option linter.defProp false
set_option linter.unusedSimpArgs false
attribute [local irreducible] K W WOps Effs Xg Xo Xr Xdg Xdo Xdr Xif CallsP CallR

theorem timesR_ok {p : Int} {R C : Nat} {l x : List Int} (M : Mt p R C l) (hx : HasB p x = true) (lx : x.length = C) : timesR p R C l x = (timesM p R C l x, 0) := by
  unfold timesR; rw [mat_mk M, hx, if_pos (by simp [lx])]; rfl
theorem mlR_ok {p : Int} {R C : Nat} {l x : List Int} (M : Mt p R C l) (hx : HasB p x = true) (lx : x.length = R) : mlR p x R C l = (leftM p x R C l, 0) := by
  unfold mlR; rw [mat_mk M, hx, if_pos (by simp [lx])]; rfl
theorem turnR_ok {p : Int} {R C : Nat} {l : List Int} (M : Mt p R C l) : turnR p R C l = (((C : Int), (R : Int), turnM R C l), 0) := by
  unfold turnR; rw [mat_mk M]; rfl
theorem thinR_ok {p : Int} {R C : Nat} {l : List Int} (M : Mt p R C l) : thinR p R C l = (((R : Int), (C : Int), thinB C l R, thinC C l R, thinV C l R), 0) := by
  unfold thinR; rw [mat_mk M]; rfl
theorem dotR_ok {p : Int} {a b : List Int} (ha : HasB p a = true) (hb : HasB p b = true) (h : a.length = b.length) : dotR p a b = (dotI a b % p, 0) := by
  unfold dotR; rw [ha, hb, if_pos (by simp [h])]
theorem stR_ok {p : Int} {R C : Nat} {b k v x : List Int} (S : Sp p R C b k v) (hx : HasB p x = true) (lx : x.length = C) : stR p R C b k v x = (timesM p R C (wholeM R C b k v) x, 0) := by
  unfold stR; rw [sp_mk S, hx, if_pos (by simp [lx]), Int.toNat_natCast, st_times S lx]
theorem slR_ok {p : Int} {R C : Nat} {b k v x : List Int} (S : Sp p R C b k v) (hx : HasB p x = true) (lx : x.length = R) : slR p R C b k v x = (leftM p x R C (wholeM R C b k v), 0) := by
  unfold slR; rw [sp_mk S, hx, if_pos (by simp [lx]), Int.toNat_natCast, Int.toNat_natCast, sl_left S lx]
theorem has_in {p : Int} (hp : Md p) {l : List Int} (h : ∀ a ∈ l, In p a) : HasB p l = true := (has_iff p l).2 ⟨fun a ha => (h a ha).2, hp.1, hp.2⟩
theorem leftM_in {p : Int} (hp : 0 < p) {r c : Nat} {l x : List Int} : ∀ a ∈ leftM p x r c l, In p a := timesM_in hp
set_option maxHeartbeats 16000000 in
set_option maxRecDepth 100000 in
theorem matrixApplies_true (p : Int) (a1 : Int × Int × List Int) (a2 : Int × Int × List Int) (x : List Int) (y : List Int) (w0 : (Lit.int .u64 p).wf = true) (w1 : ((Lit.int .i64 a1.1).wf = true ∧ (Lit.int .i64 a1.2.1).wf = true ∧ (a1.2.2.length ≤ maxLen ∧ ∀ e23_ ∈ a1.2.2, (Lit.int .u64 e23_).wf = true))) (w2 : ((Lit.int .i64 a2.1).wf = true ∧ (Lit.int .i64 a2.2.1).wf = true ∧ (a2.2.2.length ≤ maxLen ∧ ∀ e23_ ∈ a2.2.2, (Lit.int .u64 e23_).wf = true))) (w3 : (x.length ≤ maxLen ∧ ∀ e23_ ∈ x, (Lit.int .u64 e23_).wf = true)) (w4 : (y.length ≤ maxLen ∧ ∀ e23_ ∈ y, (Lit.int .u64 e23_).wf = true)) :
    CallsP Try.prog 6 [u64 p, matP a1.1 a1.2.1 a1.2.2, matP a2.1 a2.2.1 a2.2.2, lu x, lu y] (bl true) := by
  obtain ⟨r, c, l⟩ := a1
  obtain ⟨r', c', m⟩ := a2
  obtain ⟨_, _, hl, wl⟩ := w1
  obtain ⟨_, _, hm, wm⟩ := w2
  obtain ⟨hx, wx⟩ := w3
  obtain ⟨hy, wy⟩ := w4
  replace wl := w64_all wl
  replace wm := w64_all wm
  replace wx := w64_all wx
  replace wy := w64_all wy
  simp only at hl hm wl wm
  clear w0
  simp only
  have aw := awake05_walk
  have q1 := short_walk r c l
  have q2 := short_walk r' c' m
  have q3 := mright_walk p r c l hl
  have q4 := mright_walk p r' c' m hm
  have q5 := has_walk p x hx
  have q6 := has_walk p y hy
  by_cases c1 : (l.length : Int) ≤ 150
  case neg =>
    rw [decide_eq_false c1] at q1
    clear q2 q3 q4 q5 q6
    refine X_startP (n := 250) (m := 5) (rs := [.tmp 10]) Try.func6 rfl rfl rfl rfl (by decide) fun base => ?_
    repeat (first | ((first | refine X_call_fn2 rfl (by simp only [tys]) ?_ | refine X_dcall_fn2 rfl (by simp only [tys]) ?_); apply Exists.intro; apply And.intro; (focus (simp -dsimp only [simx, zzC, zzB, tys, ite_self, opnL, callB, stepOp, ofVal, opBuiltin, opLen, PV.sk, scalBin, scalUn, intBin, opLoad, natOf, opConvert, opField, cellsP, oneP, Value.oneCell', opStore, toIV, scalT, scalA, scalC, boxesA, boxesC, ↓reduceIte, Nat.reduceSub, Nat.reduceEqDiff, Nat.reduceAdd, Nat.reduceMul, Nat.reduceLT, Nat.reduceLeDiff, Int.reduceToNat, Int.reduceLE, Int.reduceLT, Int.reduceNeg, reduceCtorEq, zzL, if_true, if_false] <;> rfl)); apply Exists.intro; apply And.intro; (focus (first | exact aw | exact q1))) | refine ⟨(by show drawK _ _ = true; kernel_rfl : drawX _ _ _), ?_⟩ | exact (by show drawK _ _ = true; kernel_rfl : drawX _ _ _) | simp -dsimp (maxSteps := 20000000) (disch := omega) only [simx, zzC, zzB, tys, ite_self, opnL, callB, stepOp, ofVal, opBuiltin, opLen, PV.sk, scalBin, scalUn, intBin, opLoad, natOf, opConvert, opField, cellsP, oneP, Value.oneCell', opStore, toIV, scalT, scalA, scalC, boxesA, boxesC, ↓reduceIte, Nat.reduceSub, Nat.reduceEqDiff, Nat.reduceAdd, Nat.reduceMul, Nat.reduceLT, Nat.reduceLeDiff, Int.reduceToNat, Int.reduceLE, Int.reduceLT, Int.reduceNeg, reduceCtorEq, zzR, gos, Int.reduceAdd, Int.reduceSub, Int.reduceMul, Int.reduceEq])
  rw [decide_eq_true c1] at q1
  by_cases c2 : (m.length : Int) ≤ 150
  case neg =>
    rw [decide_eq_false c2] at q2
    clear q3 q4
    refine X_startP (n := 250) (m := 5) (rs := [.tmp 10]) Try.func6 rfl rfl rfl rfl (by decide) fun base => ?_
    repeat (first | ((first | refine X_call_fn2 rfl (by simp only [tys]) ?_ | refine X_dcall_fn2 rfl (by simp only [tys]) ?_); apply Exists.intro; apply And.intro; (focus (simp -dsimp only [simx, zzC, zzB, tys, ite_self, opnL, callB, stepOp, ofVal, opBuiltin, opLen, PV.sk, scalBin, scalUn, intBin, opLoad, natOf, opConvert, opField, cellsP, oneP, Value.oneCell', opStore, toIV, scalT, scalA, scalC, boxesA, boxesC, ↓reduceIte, Nat.reduceSub, Nat.reduceEqDiff, Nat.reduceAdd, Nat.reduceMul, Nat.reduceLT, Nat.reduceLeDiff, Int.reduceToNat, Int.reduceLE, Int.reduceLT, Int.reduceNeg, reduceCtorEq, zzL, if_true, if_false] <;> rfl)); apply Exists.intro; apply And.intro; (focus (first | exact aw | exact q1 | exact q2))) | refine ⟨(by show drawK _ _ = true; kernel_rfl : drawX _ _ _), ?_⟩ | exact (by show drawK _ _ = true; kernel_rfl : drawX _ _ _) | simp -dsimp (maxSteps := 20000000) (disch := omega) only [simx, zzC, zzB, tys, ite_self, opnL, callB, stepOp, ofVal, opBuiltin, opLen, PV.sk, scalBin, scalUn, intBin, opLoad, natOf, opConvert, opField, cellsP, oneP, Value.oneCell', opStore, toIV, scalT, scalA, scalC, boxesA, boxesC, ↓reduceIte, Nat.reduceSub, Nat.reduceEqDiff, Nat.reduceAdd, Nat.reduceMul, Nat.reduceLT, Nat.reduceLeDiff, Int.reduceToNat, Int.reduceLE, Int.reduceLT, Int.reduceNeg, reduceCtorEq, zzR, gos, Int.reduceAdd, Int.reduceSub, Int.reduceMul, Int.reduceEq])
  rw [decide_eq_true c2] at q2
  cases h1 : MatB p r c l with
  | false =>
    rw [h1] at q3
    clear q4
    refine X_startP (n := 250) (m := 5) (rs := [.tmp 10]) Try.func6 rfl rfl rfl rfl (by decide) fun base => ?_
    repeat (first | ((first | refine X_call_fn2 rfl (by simp only [tys]) ?_ | refine X_dcall_fn2 rfl (by simp only [tys]) ?_); apply Exists.intro; apply And.intro; (focus (simp -dsimp only [simx, zzC, zzB, tys, ite_self, opnL, callB, stepOp, ofVal, opBuiltin, opLen, PV.sk, scalBin, scalUn, intBin, opLoad, natOf, opConvert, opField, cellsP, oneP, Value.oneCell', opStore, toIV, scalT, scalA, scalC, boxesA, boxesC, ↓reduceIte, Nat.reduceSub, Nat.reduceEqDiff, Nat.reduceAdd, Nat.reduceMul, Nat.reduceLT, Nat.reduceLeDiff, Int.reduceToNat, Int.reduceLE, Int.reduceLT, Int.reduceNeg, reduceCtorEq, zzL, if_true, if_false] <;> rfl)); apply Exists.intro; apply And.intro; (focus (first | exact aw | exact q1 | exact q2 | exact q3))) | refine ⟨(by show drawK _ _ = true; kernel_rfl : drawX _ _ _), ?_⟩ | exact (by show drawK _ _ = true; kernel_rfl : drawX _ _ _) | simp -dsimp (maxSteps := 20000000) (disch := omega) only [simx, zzC, zzB, tys, ite_self, opnL, callB, stepOp, ofVal, opBuiltin, opLen, PV.sk, scalBin, scalUn, intBin, opLoad, natOf, opConvert, opField, cellsP, oneP, Value.oneCell', opStore, toIV, scalT, scalA, scalC, boxesA, boxesC, ↓reduceIte, Nat.reduceSub, Nat.reduceEqDiff, Nat.reduceAdd, Nat.reduceMul, Nat.reduceLT, Nat.reduceLeDiff, Int.reduceToNat, Int.reduceLE, Int.reduceLT, Int.reduceNeg, reduceCtorEq, zzR, gos, Int.reduceAdd, Int.reduceSub, Int.reduceMul, Int.reduceEq])
  | true =>
  rw [h1] at q3
  cases h2 : MatB p r' c' m with
  | false =>
    rw [h2] at q4
    refine X_startP (n := 250) (m := 5) (rs := [.tmp 10]) Try.func6 rfl rfl rfl rfl (by decide) fun base => ?_
    repeat (first | ((first | refine X_call_fn2 rfl (by simp only [tys]) ?_ | refine X_dcall_fn2 rfl (by simp only [tys]) ?_); apply Exists.intro; apply And.intro; (focus (simp -dsimp only [simx, zzC, zzB, tys, ite_self, opnL, callB, stepOp, ofVal, opBuiltin, opLen, PV.sk, scalBin, scalUn, intBin, opLoad, natOf, opConvert, opField, cellsP, oneP, Value.oneCell', opStore, toIV, scalT, scalA, scalC, boxesA, boxesC, ↓reduceIte, Nat.reduceSub, Nat.reduceEqDiff, Nat.reduceAdd, Nat.reduceMul, Nat.reduceLT, Nat.reduceLeDiff, Int.reduceToNat, Int.reduceLE, Int.reduceLT, Int.reduceNeg, reduceCtorEq, zzL, if_true, if_false] <;> rfl)); apply Exists.intro; apply And.intro; (focus (first | exact aw | exact q1 | exact q2 | exact q3 | exact q4))) | refine ⟨(by show drawK _ _ = true; kernel_rfl : drawX _ _ _), ?_⟩ | exact (by show drawK _ _ = true; kernel_rfl : drawX _ _ _) | simp -dsimp (maxSteps := 20000000) (disch := omega) only [simx, zzC, zzB, tys, ite_self, opnL, callB, stepOp, ofVal, opBuiltin, opLen, PV.sk, scalBin, scalUn, intBin, opLoad, natOf, opConvert, opField, cellsP, oneP, Value.oneCell', opStore, toIV, scalT, scalA, scalC, boxesA, boxesC, ↓reduceIte, Nat.reduceSub, Nat.reduceEqDiff, Nat.reduceAdd, Nat.reduceMul, Nat.reduceLT, Nat.reduceLeDiff, Int.reduceToNat, Int.reduceLE, Int.reduceLT, Int.reduceNeg, reduceCtorEq, zzR, gos, Int.reduceAdd, Int.reduceSub, Int.reduceMul, Int.reduceEq])
  | true =>
  rw [h2] at q4
  by_cases c3 : c = r'
  case neg =>
    refine X_startP (n := 250) (m := 5) (rs := [.tmp 10]) Try.func6 rfl rfl rfl rfl (by decide) fun base => ?_
    repeat (first | ((first | refine X_call_fn2 rfl (by simp only [tys]) ?_ | refine X_dcall_fn2 rfl (by simp only [tys]) ?_); apply Exists.intro; apply And.intro; (focus (simp -dsimp only [simx, zzC, zzB, tys, ite_self, opnL, callB, stepOp, ofVal, opBuiltin, opLen, PV.sk, scalBin, scalUn, intBin, opLoad, natOf, opConvert, opField, cellsP, oneP, Value.oneCell', opStore, toIV, scalT, scalA, scalC, boxesA, boxesC, ↓reduceIte, Nat.reduceSub, Nat.reduceEqDiff, Nat.reduceAdd, Nat.reduceMul, Nat.reduceLT, Nat.reduceLeDiff, Int.reduceToNat, Int.reduceLE, Int.reduceLT, Int.reduceNeg, reduceCtorEq, zzL, if_true, if_false] <;> rfl)); apply Exists.intro; apply And.intro; (focus (first | exact aw | exact q1 | exact q2 | exact q3 | exact q4))) | refine ⟨(by show drawK _ _ = true; kernel_rfl : drawX _ _ _), ?_⟩ | exact (by show drawK _ _ = true; kernel_rfl : drawX _ _ _) | simp -dsimp (maxSteps := 20000000) (disch := omega) only [simx, zzC, zzB, tys, ite_self, opnL, callB, stepOp, ofVal, opBuiltin, opLen, PV.sk, scalBin, scalUn, intBin, opLoad, natOf, opConvert, opField, cellsP, oneP, Value.oneCell', opStore, toIV, scalT, scalA, scalC, boxesA, boxesC, ↓reduceIte, Nat.reduceSub, Nat.reduceEqDiff, Nat.reduceAdd, Nat.reduceMul, Nat.reduceLT, Nat.reduceLeDiff, Int.reduceToNat, Int.reduceLE, Int.reduceLT, Int.reduceNeg, reduceCtorEq, zzR, gos, Int.reduceAdd, Int.reduceSub, Int.reduceMul, Int.reduceEq])
  by_cases c4 : (x.length : Int) = c'
  case neg =>
    refine X_startP (n := 250) (m := 5) (rs := [.tmp 10]) Try.func6 rfl rfl rfl rfl (by decide) fun base => ?_
    repeat (first | ((first | refine X_call_fn2 rfl (by simp only [tys]) ?_ | refine X_dcall_fn2 rfl (by simp only [tys]) ?_); apply Exists.intro; apply And.intro; (focus (simp -dsimp only [simx, zzC, zzB, tys, ite_self, opnL, callB, stepOp, ofVal, opBuiltin, opLen, PV.sk, scalBin, scalUn, intBin, opLoad, natOf, opConvert, opField, cellsP, oneP, Value.oneCell', opStore, toIV, scalT, scalA, scalC, boxesA, boxesC, ↓reduceIte, Nat.reduceSub, Nat.reduceEqDiff, Nat.reduceAdd, Nat.reduceMul, Nat.reduceLT, Nat.reduceLeDiff, Int.reduceToNat, Int.reduceLE, Int.reduceLT, Int.reduceNeg, reduceCtorEq, zzL, if_true, if_false] <;> rfl)); apply Exists.intro; apply And.intro; (focus (first | exact aw | exact q1 | exact q2 | exact q3 | exact q4))) | refine ⟨(by show drawK _ _ = true; kernel_rfl : drawX _ _ _), ?_⟩ | exact (by show drawK _ _ = true; kernel_rfl : drawX _ _ _) | simp -dsimp (maxSteps := 20000000) (disch := omega) only [simx, zzC, zzB, tys, ite_self, opnL, callB, stepOp, ofVal, opBuiltin, opLen, PV.sk, scalBin, scalUn, intBin, opLoad, natOf, opConvert, opField, cellsP, oneP, Value.oneCell', opStore, toIV, scalT, scalA, scalC, boxesA, boxesC, ↓reduceIte, Nat.reduceSub, Nat.reduceEqDiff, Nat.reduceAdd, Nat.reduceMul, Nat.reduceLT, Nat.reduceLeDiff, Int.reduceToNat, Int.reduceLE, Int.reduceLT, Int.reduceNeg, reduceCtorEq, zzR, gos, Int.reduceAdd, Int.reduceSub, Int.reduceMul, Int.reduceEq])
  by_cases c5 : (y.length : Int) = r
  case neg =>
    refine X_startP (n := 250) (m := 5) (rs := [.tmp 10]) Try.func6 rfl rfl rfl rfl (by decide) fun base => ?_
    repeat (first | ((first | refine X_call_fn2 rfl (by simp only [tys]) ?_ | refine X_dcall_fn2 rfl (by simp only [tys]) ?_); apply Exists.intro; apply And.intro; (focus (simp -dsimp only [simx, zzC, zzB, tys, ite_self, opnL, callB, stepOp, ofVal, opBuiltin, opLen, PV.sk, scalBin, scalUn, intBin, opLoad, natOf, opConvert, opField, cellsP, oneP, Value.oneCell', opStore, toIV, scalT, scalA, scalC, boxesA, boxesC, ↓reduceIte, Nat.reduceSub, Nat.reduceEqDiff, Nat.reduceAdd, Nat.reduceMul, Nat.reduceLT, Nat.reduceLeDiff, Int.reduceToNat, Int.reduceLE, Int.reduceLT, Int.reduceNeg, reduceCtorEq, zzL, if_true, if_false] <;> rfl)); apply Exists.intro; apply And.intro; (focus (first | exact aw | exact q1 | exact q2 | exact q3 | exact q4))) | refine ⟨(by show drawK _ _ = true; kernel_rfl : drawX _ _ _), ?_⟩ | exact (by show drawK _ _ = true; kernel_rfl : drawX _ _ _) | simp -dsimp (maxSteps := 20000000) (disch := omega) only [simx, zzC, zzB, tys, ite_self, opnL, callB, stepOp, ofVal, opBuiltin, opLen, PV.sk, scalBin, scalUn, intBin, opLoad, natOf, opConvert, opField, cellsP, oneP, Value.oneCell', opStore, toIV, scalT, scalA, scalC, boxesA, boxesC, ↓reduceIte, Nat.reduceSub, Nat.reduceEqDiff, Nat.reduceAdd, Nat.reduceMul, Nat.reduceLT, Nat.reduceLeDiff, Int.reduceToNat, Int.reduceLE, Int.reduceLT, Int.reduceNeg, reduceCtorEq, zzR, gos, Int.reduceAdd, Int.reduceSub, Int.reduceMul, Int.reduceEq])
  cases h3 : HasB p x with
  | false =>
    rw [h3] at q5
    refine X_startP (n := 250) (m := 5) (rs := [.tmp 10]) Try.func6 rfl rfl rfl rfl (by decide) fun base => ?_
    repeat (first | ((first | refine X_call_fn2 rfl (by simp only [tys]) ?_ | refine X_dcall_fn2 rfl (by simp only [tys]) ?_); apply Exists.intro; apply And.intro; (focus (simp -dsimp only [simx, zzC, zzB, tys, ite_self, opnL, callB, stepOp, ofVal, opBuiltin, opLen, PV.sk, scalBin, scalUn, intBin, opLoad, natOf, opConvert, opField, cellsP, oneP, Value.oneCell', opStore, toIV, scalT, scalA, scalC, boxesA, boxesC, ↓reduceIte, Nat.reduceSub, Nat.reduceEqDiff, Nat.reduceAdd, Nat.reduceMul, Nat.reduceLT, Nat.reduceLeDiff, Int.reduceToNat, Int.reduceLE, Int.reduceLT, Int.reduceNeg, reduceCtorEq, zzL, if_true, if_false] <;> rfl)); apply Exists.intro; apply And.intro; (focus (first | exact aw | exact q1 | exact q2 | exact q3 | exact q4 | exact q5))) | refine ⟨(by show drawK _ _ = true; kernel_rfl : drawX _ _ _), ?_⟩ | exact (by show drawK _ _ = true; kernel_rfl : drawX _ _ _) | simp -dsimp (maxSteps := 20000000) (disch := omega) only [simx, zzC, zzB, tys, ite_self, opnL, callB, stepOp, ofVal, opBuiltin, opLen, PV.sk, scalBin, scalUn, intBin, opLoad, natOf, opConvert, opField, cellsP, oneP, Value.oneCell', opStore, toIV, scalT, scalA, scalC, boxesA, boxesC, ↓reduceIte, Nat.reduceSub, Nat.reduceEqDiff, Nat.reduceAdd, Nat.reduceMul, Nat.reduceLT, Nat.reduceLeDiff, Int.reduceToNat, Int.reduceLE, Int.reduceLT, Int.reduceNeg, reduceCtorEq, zzR, gos, Int.reduceAdd, Int.reduceSub, Int.reduceMul, Int.reduceEq])
  | true =>
  rw [h3] at q5
  cases h4 : HasB p y with
  | false =>
    rw [h4] at q6
    refine X_startP (n := 250) (m := 5) (rs := [.tmp 10]) Try.func6 rfl rfl rfl rfl (by decide) fun base => ?_
    repeat (first | ((first | refine X_call_fn2 rfl (by simp only [tys]) ?_ | refine X_dcall_fn2 rfl (by simp only [tys]) ?_); apply Exists.intro; apply And.intro; (focus (simp -dsimp only [simx, zzC, zzB, tys, ite_self, opnL, callB, stepOp, ofVal, opBuiltin, opLen, PV.sk, scalBin, scalUn, intBin, opLoad, natOf, opConvert, opField, cellsP, oneP, Value.oneCell', opStore, toIV, scalT, scalA, scalC, boxesA, boxesC, ↓reduceIte, Nat.reduceSub, Nat.reduceEqDiff, Nat.reduceAdd, Nat.reduceMul, Nat.reduceLT, Nat.reduceLeDiff, Int.reduceToNat, Int.reduceLE, Int.reduceLT, Int.reduceNeg, reduceCtorEq, zzL, if_true, if_false] <;> rfl)); apply Exists.intro; apply And.intro; (focus (first | exact aw | exact q1 | exact q2 | exact q3 | exact q4 | exact q5 | exact q6))) | refine ⟨(by show drawK _ _ = true; kernel_rfl : drawX _ _ _), ?_⟩ | exact (by show drawK _ _ = true; kernel_rfl : drawX _ _ _) | simp -dsimp (maxSteps := 20000000) (disch := omega) only [simx, zzC, zzB, tys, ite_self, opnL, callB, stepOp, ofVal, opBuiltin, opLen, PV.sk, scalBin, scalUn, intBin, opLoad, natOf, opConvert, opField, cellsP, oneP, Value.oneCell', opStore, toIV, scalT, scalA, scalC, boxesA, boxesC, ↓reduceIte, Nat.reduceSub, Nat.reduceEqDiff, Nat.reduceAdd, Nat.reduceMul, Nat.reduceLT, Nat.reduceLeDiff, Int.reduceToNat, Int.reduceLE, Int.reduceLT, Int.reduceNeg, reduceCtorEq, zzR, gos, Int.reduceAdd, Int.reduceSub, Int.reduceMul, Int.reduceEq])
  | true =>
  rw [h4] at q6
  subst c3
  obtain ⟨R, C, rfl, rfl, A⟩ := mat_of h1
  obtain ⟨C', D, e1, rfl, B⟩ := mat_of h2
  obtain rfl : C = C' := by omega
  have lx : x.length = D := by omega
  have ly : y.length = R := by omega
  have p1 := A.hp.1
  have p0 : 0 < p := by omega
  have r1 := A.r1
  have r2 := A.r2
  have k1 := A.c1
  have k2 := A.c2
  have d1 := B.c1
  have d2 := B.c2
  have AB := mul_mt A B
  have S := thin_sp AB
  have bd1 := rc_bd r2 d2
  have bd2 := rc_bd d2 r2
  have bd3 := rc_bd k2 r2
  have bd4 := rc_bd d2 k2
  have abi := mulM_in (p := p) p0 (r := R) (c := C) (d := D) (a := l) (b := m)
  have wab := in_w64s A.hp abi
  have mxl : ∀ n : Nat, n ≤ 4096 → n ≤ maxLen := fun n h => by rw [mx_len]; omega
  have ltI := fun (a : Int) (ha : a ∈ turnM R C l) => turnM_mem (by omega) A.len ha
  have mtI := fun (a : Int) (ha : a ∈ turnM C D m) => turnM_mem (by omega) B.len ha
  have lab := mulM_len p C l D m R
  have m1 := mmul_walk p R C l C D m hl hm wl wm
  rw [mulR_ok A B] at m1
  have t1 := times_walk p C D m x hm hx wm wx
  rw [timesR_ok B h3 lx] at t1
  have i1 := timesM_in (p := p) p0 (r := C) (c := D) (l := m) (x := x)
  have t2 := times_walk p R C l (timesM p C D m x) hl (mxl _ (by rw [timesM_len]; omega)) wl (in_w64s A.hp i1)
  rw [timesR_ok A (has_in A.hp i1) (timesM_len ..), times_mul A.len B.len lx] at t2
  have t3 := times_walk p R D (mulM p R C l D m) x (mxl _ (by omega)) hx wab wx
  rw [timesR_ok AB h3 lx] at t3
  have f1 := left_walk p R C l y hl hy wl wy
  rw [mlR_ok A h4 ly] at f1
  have i2 := leftM_in (p := p) p0 (r := R) (c := C) (l := l) (x := y)
  have f2 := left_walk p C D m (leftM p y R C l) hm (mxl _ (by rw [leftM_len]; omega)) wm (in_w64s A.hp i2)
  rw [mlR_ok B (has_in A.hp i2) (leftM_len ..), left_mul A.len B.len ly] at f2
  have f3 := left_walk p R D (mulM p R C l D m) y (mxl _ (by omega)) hy wab wy
  rw [mlR_ok AB h4 ly] at f3
  have u1 := turn_walk p R C l hl
  rw [turnR_ok A] at u1
  have u2 := turn_walk p C D m hm
  rw [turnR_ok B] at u2
  have u3 := turn_walk p R D (mulM p R C l D m) (mxl _ (by omega))
  rw [turnR_ok AB] at u3
  have m2 := mmul_walk p D C (turnM C D m) C R (turnM R C l) (mxl _ (by rw [turnM_len]; omega)) (mxl _ (by rw [turnM_len]; omega)) (fun a ha => wm a (mtI a ha)) (fun a ha => wl a (ltI a ha))
  rw [mulR_ok (turn_mt B) (turn_mt A), ← turn_mul A.len B.len] at m2
  have th := thin_walk p R D (mulM p R C l D m) (mxl _ (by omega))
  rw [thinR_ok AB] at th
  have tv := thinV_le lab R (Nat.le_refl _)
  have tc := thin_len D (mulM p R C l D m) R
  have tb : (thinB D (mulM p R C l D m) R).length = R + 1 := by simp [thinB]
  have wtv : W64s (thinV D (mulM p R C l D m) R) := fun a ha => by
    unfold thinV at ha
    obtain ⟨i, _, h⟩ := List.mem_flatMap.1 ha
    exact wab a (rowM_mem (nzV_mem _ a h).1)
  have s1 := stimes_walk p R D (thinB D (mulM p R C l D m) R) (thinC D (mulM p R C l D m) R) (thinV D (mulM p R C l D m) R) x (mxl _ (by omega)) (mxl _ (by omega)) (mxl _ (by omega)) hx wtv wx
  rw [stR_ok S h3 lx, thin_whole lab] at s1
  have s2 := sleft_walk p R D (thinB D (mulM p R C l D m) R) (thinC D (mulM p R C l D m) R) (thinV D (mulM p R C l D m) R) y (mxl _ (by omega)) (mxl _ (by omega)) (mxl _ (by omega)) hy wtv wy
  rw [slR_ok S h4 ly, thin_whole lab] at s2
  have i3 := timesM_in (p := p) p0 (r := R) (c := D) (l := mulM p R C l D m) (x := x)
  have i4 := leftM_in (p := p) p0 (r := R) (c := D) (l := mulM p R C l D m) (x := y)
  have o1 := dot_walk p y (timesM p R D (mulM p R C l D m) x) hy (mxl _ (by rw [timesM_len]; omega)) wy (in_w64s A.hp i3)
  rw [dotR_ok h4 (has_in A.hp i3) (by rw [timesM_len, ly]), dot_left lab lx ly] at o1
  have o2 := dot_walk p (leftM p y R D (mulM p R C l D m)) x (mxl _ (by rw [leftM_len]; omega)) hx (in_w64s A.hp i4) wx
  rw [dotR_ok (has_in A.hp i4) h3 (by rw [leftM_len, lx])] at o2
  have e1 := same_walk (timesM p R D (mulM p R C l D m) x) (timesM p R D (mulM p R C l D m) x) (mxl _ (by rw [timesM_len]; omega))
  have e2 := same_walk (leftM p y R D (mulM p R C l D m)) (leftM p y R D (mulM p R C l D m)) (mxl _ (by rw [leftM_len]; omega))
  rw [decide_eq_true rfl] at e1 e2
  have e3 := msame_walk D R (turnM R D (mulM p R C l D m)) D R (turnM R D (mulM p R C l D m)) (mxl _ (by rw [turnM_len]; omega))
  rw [show sameMB (D : Int) R (turnM R D (mulM p R C l D m)) D R (turnM R D (mulM p R C l D m)) = true by simp [sameMB]] at e3
  generalize dotI (leftM p y R D (mulM p R C l D m)) x % p = dd at o1 o2
  clear wtv tb tc tv i1 i2 i3 i4 wab abi S AB
  refine X_startP (n := 250) (m := 5) (rs := [.tmp 10]) Try.func6 rfl rfl rfl rfl (by decide) fun base => ?_
  repeat (first | ((first | refine X_call_fn2 rfl (by simp only [tys]) ?_ | refine X_dcall_fn2 rfl (by simp only [tys]) ?_); apply Exists.intro; apply And.intro; (focus (simp -dsimp only [simx, zzC, zzB, tys, ite_self, opnL, callB, stepOp, ofVal, opBuiltin, opLen, PV.sk, scalBin, scalUn, intBin, opLoad, natOf, opConvert, opField, cellsP, oneP, Value.oneCell', opStore, toIV, scalT, scalA, scalC, boxesA, boxesC, ↓reduceIte, Nat.reduceSub, Nat.reduceEqDiff, Nat.reduceAdd, Nat.reduceMul, Nat.reduceLT, Nat.reduceLeDiff, Int.reduceToNat, Int.reduceLE, Int.reduceLT, Int.reduceNeg, reduceCtorEq, zzL, if_true, if_false] <;> rfl)); apply Exists.intro; apply And.intro; (focus (first | exact aw | exact q1 | exact q2 | exact q3 | exact q4 | exact q5 | exact q6 | exact m1 | exact t1 | exact t2 | exact t3 | exact f1 | exact f2 | exact f3 | exact u1 | exact u2 | exact u3 | exact m2 | exact th | exact s1 | exact s2 | exact o1 | exact o2 | exact e1 | exact e2 | exact e3))) | refine ⟨(by show drawK _ _ = true; kernel_rfl : drawX _ _ _), ?_⟩ | exact (by show drawK _ _ = true; kernel_rfl : drawX _ _ _) | simp -dsimp (maxSteps := 20000000) (disch := omega) only [simx, zzC, zzB, tys, ite_self, opnL, callB, stepOp, ofVal, opBuiltin, opLen, PV.sk, scalBin, scalUn, intBin, opLoad, natOf, opConvert, opField, cellsP, oneP, Value.oneCell', opStore, toIV, scalT, scalA, scalC, boxesA, boxesC, ↓reduceIte, Nat.reduceSub, Nat.reduceEqDiff, Nat.reduceAdd, Nat.reduceMul, Nat.reduceLT, Nat.reduceLeDiff, Int.reduceToNat, Int.reduceLE, Int.reduceLT, Int.reduceNeg, reduceCtorEq, zzR, gos, Int.reduceAdd, Int.reduceSub, Int.reduceMul, Int.reduceEq])
end Go.Proofs.Ytnnkoghmglpnmaa.TM
