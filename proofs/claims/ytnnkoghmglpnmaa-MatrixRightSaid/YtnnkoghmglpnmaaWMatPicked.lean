/- Layer 5, MatrixPicked: picked rows of a product are the product of the picked rows. -/
import Derived.Test.YtnnkoghmglpnmaaWMatQ
import Derived.Test.YtnnkoghmglpnmaaWMatM
import Derived.Test.YtnnkoghmglpnmaaWMatH
import Derived.Test.YtnnkoghmglpnmaaWMatAw
namespace Go.Proofs.Ytnnkoghmglpnmaa.TM
open Go Go.RowKit
set_option linter.unusedVariables false
set_option linter.defProp false
set_option linter.unusedSimpArgs false
attribute [local irreducible] K W WOps Effs Xg Xo Xr Xdg Xdo Xdr Xif CallsP CallR

theorem all_of {c : Nat} {p : Int} (h1 : 1 ≤ c) (h2 : c ≤ 64) : withinB (tbl c (fun i => (i : Int))) c = true := by
  rw [within_iff, tbl_len]
  refine ⟨⟨h1, h2⟩, ?_⟩
  intro a ha
  obtain ⟨i, hi, rfl⟩ := tbl_mem ha
  omega
theorem pickR_ok {p : Int} {R C : Nat} {l rows cols : List Int} (M : Mt p R C l) (h2 : withinB rows R = true) (h3 : withinB cols C = true) : pickR p R C l rows cols = (((rows.length : Int), (cols.length : Int), pickM C l rows cols), 0) := by
  unfold pickR; rw [mat_mk M, h2, h3]; rfl
theorem pickR_no {p r c : Int} {l rows cols : List Int} (h : (withinB rows r && withinB cols c) = false) : pickR p r c l rows cols = ((0, 0, []), 1) := by
  unfold pickR; rw [h, Bool.and_false]; rfl
theorem mulR_ok {p : Int} {r c d : Nat} {a b : List Int} (A : Mt p r c a) (B : Mt p c d b) : mulR p r c a c d b = (((r : Int), (d : Int), mulM p r c a d b), 0) := by
  unfold mulR; rw [mat_mk A, mat_mk B]; simp
set_option maxHeartbeats 16000000 in
set_option maxRecDepth 100000 in
theorem matrixPicked_true (p : Int) (a1 : Int × Int × List Int) (a2 : Int × Int × List Int) (rows : List Int) (cols : List Int) (at_ : Int) (w0 : (Lit.int .u64 p).wf = true) (w1 : ((Lit.int .i64 a1.1).wf = true ∧ (Lit.int .i64 a1.2.1).wf = true ∧ (a1.2.2.length ≤ maxLen ∧ ∀ e23_ ∈ a1.2.2, (Lit.int .u64 e23_).wf = true))) (w2 : ((Lit.int .i64 a2.1).wf = true ∧ (Lit.int .i64 a2.2.1).wf = true ∧ (a2.2.2.length ≤ maxLen ∧ ∀ e23_ ∈ a2.2.2, (Lit.int .u64 e23_).wf = true))) (w3 : (rows.length ≤ maxLen ∧ ∀ e26_ ∈ rows, (Lit.int .i64 e26_).wf = true)) (w4 : (cols.length ≤ maxLen ∧ ∀ e26_ ∈ cols, (Lit.int .i64 e26_).wf = true)) (w5 : (Lit.int .u8 at_).wf = true) :
    CallsP Try.prog 5 [u64 p, matP a1.1 a1.2.1 a1.2.2, matP a2.1 a2.2.1 a2.2.2, li rows, li cols, .i (.v (.int .u8 at_))] (bl true) := by
  obtain ⟨r, c, l⟩ := a1
  obtain ⟨r', c', m⟩ := a2
  obtain ⟨_, _, hl, wl⟩ := w1
  obtain ⟨_, _, hm, wm⟩ := w2
  replace wl := w64_all wl
  replace wm := w64_all wm
  replace w5 := u8_of w5
  have hr := w3.1
  have hc := w4.1
  simp only at hl hm wl wm
  clear w0 w3 w4
  simp only
  have aw := awake05_walk
  have q1 := short_walk r c l
  have q2 := short_walk r' c' m
  have q3 := mright_walk p r c l hl
  have q4 := mright_walk p r' c' m hm
  by_cases c1 : (l.length : Int) ≤ 150
  case neg =>
    rw [decide_eq_false c1] at q1
    clear q2 q3 q4
    refine X_startP (n := 225) (m := 6) (rs := [.tmp 12]) Try.func5 rfl rfl rfl rfl (by decide) fun base => ?_
    repeat (first | ((first | refine X_call_fn2 rfl (by simp only [tys]) ?_ | refine X_dcall_fn2 rfl (by simp only [tys]) ?_); apply Exists.intro; apply And.intro; (focus (simp -dsimp only [simx, zzC, zzB, tys, ite_self, opnL, callB, stepOp, ofVal, opBuiltin, opLen, PV.sk, scalBin, scalUn, intBin, opLoad, natOf, opConvert, opField, cellsP, oneP, Value.oneCell', opStore, toIV, scalT, scalA, scalC, boxesA, boxesC, ↓reduceIte, Nat.reduceSub, Nat.reduceEqDiff, Nat.reduceAdd, Nat.reduceMul, Nat.reduceLT, Nat.reduceLeDiff, Int.reduceToNat, Int.reduceLE, Int.reduceLT, Int.reduceNeg, reduceCtorEq, zzL, if_true, if_false] <;> rfl)); apply Exists.intro; apply And.intro; (focus (first | exact aw | exact q1))) | refine ⟨(by show drawK _ _ = true; kernel_rfl : drawX _ _ _), ?_⟩ | exact (by show drawK _ _ = true; kernel_rfl : drawX _ _ _) | simp -dsimp (maxSteps := 20000000) (disch := omega) only [simx, zzC, zzB, tys, ite_self, opnL, callB, stepOp, ofVal, opBuiltin, opLen, PV.sk, scalBin, scalUn, intBin, opLoad, natOf, opConvert, opField, cellsP, oneP, Value.oneCell', opStore, toIV, scalT, scalA, scalC, boxesA, boxesC, ↓reduceIte, Nat.reduceSub, Nat.reduceEqDiff, Nat.reduceAdd, Nat.reduceMul, Nat.reduceLT, Nat.reduceLeDiff, Int.reduceToNat, Int.reduceLE, Int.reduceLT, Int.reduceNeg, reduceCtorEq, zzR, gos, Int.reduceAdd, Int.reduceSub, Int.reduceMul, Int.reduceEq])
  rw [decide_eq_true c1] at q1
  by_cases c2 : (m.length : Int) ≤ 150
  case neg =>
    rw [decide_eq_false c2] at q2
    clear q3 q4
    refine X_startP (n := 225) (m := 6) (rs := [.tmp 12]) Try.func5 rfl rfl rfl rfl (by decide) fun base => ?_
    repeat (first | ((first | refine X_call_fn2 rfl (by simp only [tys]) ?_ | refine X_dcall_fn2 rfl (by simp only [tys]) ?_); apply Exists.intro; apply And.intro; (focus (simp -dsimp only [simx, zzC, zzB, tys, ite_self, opnL, callB, stepOp, ofVal, opBuiltin, opLen, PV.sk, scalBin, scalUn, intBin, opLoad, natOf, opConvert, opField, cellsP, oneP, Value.oneCell', opStore, toIV, scalT, scalA, scalC, boxesA, boxesC, ↓reduceIte, Nat.reduceSub, Nat.reduceEqDiff, Nat.reduceAdd, Nat.reduceMul, Nat.reduceLT, Nat.reduceLeDiff, Int.reduceToNat, Int.reduceLE, Int.reduceLT, Int.reduceNeg, reduceCtorEq, zzL, if_true, if_false] <;> rfl)); apply Exists.intro; apply And.intro; (focus (first | exact aw | exact q1 | exact q2))) | refine ⟨(by show drawK _ _ = true; kernel_rfl : drawX _ _ _), ?_⟩ | exact (by show drawK _ _ = true; kernel_rfl : drawX _ _ _) | simp -dsimp (maxSteps := 20000000) (disch := omega) only [simx, zzC, zzB, tys, ite_self, opnL, callB, stepOp, ofVal, opBuiltin, opLen, PV.sk, scalBin, scalUn, intBin, opLoad, natOf, opConvert, opField, cellsP, oneP, Value.oneCell', opStore, toIV, scalT, scalA, scalC, boxesA, boxesC, ↓reduceIte, Nat.reduceSub, Nat.reduceEqDiff, Nat.reduceAdd, Nat.reduceMul, Nat.reduceLT, Nat.reduceLeDiff, Int.reduceToNat, Int.reduceLE, Int.reduceLT, Int.reduceNeg, reduceCtorEq, zzR, gos, Int.reduceAdd, Int.reduceSub, Int.reduceMul, Int.reduceEq])
  rw [decide_eq_true c2] at q2
  cases h1 : MatB p r c l with
  | false =>
    rw [h1] at q3
    clear q4
    refine X_startP (n := 225) (m := 6) (rs := [.tmp 12]) Try.func5 rfl rfl rfl rfl (by decide) fun base => ?_
    repeat (first | ((first | refine X_call_fn2 rfl (by simp only [tys]) ?_ | refine X_dcall_fn2 rfl (by simp only [tys]) ?_); apply Exists.intro; apply And.intro; (focus (simp -dsimp only [simx, zzC, zzB, tys, ite_self, opnL, callB, stepOp, ofVal, opBuiltin, opLen, PV.sk, scalBin, scalUn, intBin, opLoad, natOf, opConvert, opField, cellsP, oneP, Value.oneCell', opStore, toIV, scalT, scalA, scalC, boxesA, boxesC, ↓reduceIte, Nat.reduceSub, Nat.reduceEqDiff, Nat.reduceAdd, Nat.reduceMul, Nat.reduceLT, Nat.reduceLeDiff, Int.reduceToNat, Int.reduceLE, Int.reduceLT, Int.reduceNeg, reduceCtorEq, zzL, if_true, if_false] <;> rfl)); apply Exists.intro; apply And.intro; (focus (first | exact aw | exact q1 | exact q2 | exact q3))) | refine ⟨(by show drawK _ _ = true; kernel_rfl : drawX _ _ _), ?_⟩ | exact (by show drawK _ _ = true; kernel_rfl : drawX _ _ _) | simp -dsimp (maxSteps := 20000000) (disch := omega) only [simx, zzC, zzB, tys, ite_self, opnL, callB, stepOp, ofVal, opBuiltin, opLen, PV.sk, scalBin, scalUn, intBin, opLoad, natOf, opConvert, opField, cellsP, oneP, Value.oneCell', opStore, toIV, scalT, scalA, scalC, boxesA, boxesC, ↓reduceIte, Nat.reduceSub, Nat.reduceEqDiff, Nat.reduceAdd, Nat.reduceMul, Nat.reduceLT, Nat.reduceLeDiff, Int.reduceToNat, Int.reduceLE, Int.reduceLT, Int.reduceNeg, reduceCtorEq, zzR, gos, Int.reduceAdd, Int.reduceSub, Int.reduceMul, Int.reduceEq])
  | true =>
  rw [h1] at q3
  cases h2 : MatB p r' c' m with
  | false =>
    rw [h2] at q4
    refine X_startP (n := 225) (m := 6) (rs := [.tmp 12]) Try.func5 rfl rfl rfl rfl (by decide) fun base => ?_
    repeat (first | ((first | refine X_call_fn2 rfl (by simp only [tys]) ?_ | refine X_dcall_fn2 rfl (by simp only [tys]) ?_); apply Exists.intro; apply And.intro; (focus (simp -dsimp only [simx, zzC, zzB, tys, ite_self, opnL, callB, stepOp, ofVal, opBuiltin, opLen, PV.sk, scalBin, scalUn, intBin, opLoad, natOf, opConvert, opField, cellsP, oneP, Value.oneCell', opStore, toIV, scalT, scalA, scalC, boxesA, boxesC, ↓reduceIte, Nat.reduceSub, Nat.reduceEqDiff, Nat.reduceAdd, Nat.reduceMul, Nat.reduceLT, Nat.reduceLeDiff, Int.reduceToNat, Int.reduceLE, Int.reduceLT, Int.reduceNeg, reduceCtorEq, zzL, if_true, if_false] <;> rfl)); apply Exists.intro; apply And.intro; (focus (first | exact aw | exact q1 | exact q2 | exact q3 | exact q4))) | refine ⟨(by show drawK _ _ = true; kernel_rfl : drawX _ _ _), ?_⟩ | exact (by show drawK _ _ = true; kernel_rfl : drawX _ _ _) | simp -dsimp (maxSteps := 20000000) (disch := omega) only [simx, zzC, zzB, tys, ite_self, opnL, callB, stepOp, ofVal, opBuiltin, opLen, PV.sk, scalBin, scalUn, intBin, opLoad, natOf, opConvert, opField, cellsP, oneP, Value.oneCell', opStore, toIV, scalT, scalA, scalC, boxesA, boxesC, ↓reduceIte, Nat.reduceSub, Nat.reduceEqDiff, Nat.reduceAdd, Nat.reduceMul, Nat.reduceLT, Nat.reduceLeDiff, Int.reduceToNat, Int.reduceLE, Int.reduceLT, Int.reduceNeg, reduceCtorEq, zzR, gos, Int.reduceAdd, Int.reduceSub, Int.reduceMul, Int.reduceEq])
  | true =>
  rw [h2] at q4
  by_cases c3 : c = r'
  case neg =>
    refine X_startP (n := 225) (m := 6) (rs := [.tmp 12]) Try.func5 rfl rfl rfl rfl (by decide) fun base => ?_
    repeat (first | ((first | refine X_call_fn2 rfl (by simp only [tys]) ?_ | refine X_dcall_fn2 rfl (by simp only [tys]) ?_); apply Exists.intro; apply And.intro; (focus (simp -dsimp only [simx, zzC, zzB, tys, ite_self, opnL, callB, stepOp, ofVal, opBuiltin, opLen, PV.sk, scalBin, scalUn, intBin, opLoad, natOf, opConvert, opField, cellsP, oneP, Value.oneCell', opStore, toIV, scalT, scalA, scalC, boxesA, boxesC, ↓reduceIte, Nat.reduceSub, Nat.reduceEqDiff, Nat.reduceAdd, Nat.reduceMul, Nat.reduceLT, Nat.reduceLeDiff, Int.reduceToNat, Int.reduceLE, Int.reduceLT, Int.reduceNeg, reduceCtorEq, zzL, if_true, if_false] <;> rfl)); apply Exists.intro; apply And.intro; (focus (first | exact aw | exact q1 | exact q2 | exact q3 | exact q4))) | refine ⟨(by show drawK _ _ = true; kernel_rfl : drawX _ _ _), ?_⟩ | exact (by show drawK _ _ = true; kernel_rfl : drawX _ _ _) | simp -dsimp (maxSteps := 20000000) (disch := omega) only [simx, zzC, zzB, tys, ite_self, opnL, callB, stepOp, ofVal, opBuiltin, opLen, PV.sk, scalBin, scalUn, intBin, opLoad, natOf, opConvert, opField, cellsP, oneP, Value.oneCell', opStore, toIV, scalT, scalA, scalC, boxesA, boxesC, ↓reduceIte, Nat.reduceSub, Nat.reduceEqDiff, Nat.reduceAdd, Nat.reduceMul, Nat.reduceLT, Nat.reduceLeDiff, Int.reduceToNat, Int.reduceLE, Int.reduceLT, Int.reduceNeg, reduceCtorEq, zzR, gos, Int.reduceAdd, Int.reduceSub, Int.reduceMul, Int.reduceEq])
  by_cases c4 : (rows.length : Int) ≤ 60
  case neg =>
    refine X_startP (n := 225) (m := 6) (rs := [.tmp 12]) Try.func5 rfl rfl rfl rfl (by decide) fun base => ?_
    repeat (first | ((first | refine X_call_fn2 rfl (by simp only [tys]) ?_ | refine X_dcall_fn2 rfl (by simp only [tys]) ?_); apply Exists.intro; apply And.intro; (focus (simp -dsimp only [simx, zzC, zzB, tys, ite_self, opnL, callB, stepOp, ofVal, opBuiltin, opLen, PV.sk, scalBin, scalUn, intBin, opLoad, natOf, opConvert, opField, cellsP, oneP, Value.oneCell', opStore, toIV, scalT, scalA, scalC, boxesA, boxesC, ↓reduceIte, Nat.reduceSub, Nat.reduceEqDiff, Nat.reduceAdd, Nat.reduceMul, Nat.reduceLT, Nat.reduceLeDiff, Int.reduceToNat, Int.reduceLE, Int.reduceLT, Int.reduceNeg, reduceCtorEq, zzL, if_true, if_false] <;> rfl)); apply Exists.intro; apply And.intro; (focus (first | exact aw | exact q1 | exact q2 | exact q3 | exact q4))) | refine ⟨(by show drawK _ _ = true; kernel_rfl : drawX _ _ _), ?_⟩ | exact (by show drawK _ _ = true; kernel_rfl : drawX _ _ _) | simp -dsimp (maxSteps := 20000000) (disch := omega) only [simx, zzC, zzB, tys, ite_self, opnL, callB, stepOp, ofVal, opBuiltin, opLen, PV.sk, scalBin, scalUn, intBin, opLoad, natOf, opConvert, opField, cellsP, oneP, Value.oneCell', opStore, toIV, scalT, scalA, scalC, boxesA, boxesC, ↓reduceIte, Nat.reduceSub, Nat.reduceEqDiff, Nat.reduceAdd, Nat.reduceMul, Nat.reduceLT, Nat.reduceLeDiff, Int.reduceToNat, Int.reduceLE, Int.reduceLT, Int.reduceNeg, reduceCtorEq, zzR, gos, Int.reduceAdd, Int.reduceSub, Int.reduceMul, Int.reduceEq])
  by_cases c5 : (cols.length : Int) ≤ 60
  case neg =>
    refine X_startP (n := 225) (m := 6) (rs := [.tmp 12]) Try.func5 rfl rfl rfl rfl (by decide) fun base => ?_
    repeat (first | ((first | refine X_call_fn2 rfl (by simp only [tys]) ?_ | refine X_dcall_fn2 rfl (by simp only [tys]) ?_); apply Exists.intro; apply And.intro; (focus (simp -dsimp only [simx, zzC, zzB, tys, ite_self, opnL, callB, stepOp, ofVal, opBuiltin, opLen, PV.sk, scalBin, scalUn, intBin, opLoad, natOf, opConvert, opField, cellsP, oneP, Value.oneCell', opStore, toIV, scalT, scalA, scalC, boxesA, boxesC, ↓reduceIte, Nat.reduceSub, Nat.reduceEqDiff, Nat.reduceAdd, Nat.reduceMul, Nat.reduceLT, Nat.reduceLeDiff, Int.reduceToNat, Int.reduceLE, Int.reduceLT, Int.reduceNeg, reduceCtorEq, zzL, if_true, if_false] <;> rfl)); apply Exists.intro; apply And.intro; (focus (first | exact aw | exact q1 | exact q2 | exact q3 | exact q4))) | refine ⟨(by show drawK _ _ = true; kernel_rfl : drawX _ _ _), ?_⟩ | exact (by show drawK _ _ = true; kernel_rfl : drawX _ _ _) | simp -dsimp (maxSteps := 20000000) (disch := omega) only [simx, zzC, zzB, tys, ite_self, opnL, callB, stepOp, ofVal, opBuiltin, opLen, PV.sk, scalBin, scalUn, intBin, opLoad, natOf, opConvert, opField, cellsP, oneP, Value.oneCell', opStore, toIV, scalT, scalA, scalC, boxesA, boxesC, ↓reduceIte, Nat.reduceSub, Nat.reduceEqDiff, Nat.reduceAdd, Nat.reduceMul, Nat.reduceLT, Nat.reduceLeDiff, Int.reduceToNat, Int.reduceLE, Int.reduceLT, Int.reduceNeg, reduceCtorEq, zzR, gos, Int.reduceAdd, Int.reduceSub, Int.reduceMul, Int.reduceEq])
  subst c3
  obtain ⟨R, C, rfl, rfl, A⟩ := mat_of h1
  obtain ⟨C', D, e1, rfl, B⟩ := mat_of h2
  obtain rfl : C = C' := by omega
  have ai : ∀ a ∈ l, In p a := fun a ha => in_of A.has wl ha
  have bi : ∀ a ∈ m, In p a := fun a ha => in_of B.has wm ha
  have p1 := A.hp.1
  have r1 := A.r1
  have r2 := A.r2
  have k1 := A.c1
  have k2 := A.c2
  have d1 := B.c1
  have d2 := B.c2
  have AB := mul_mt A B
  have abi := mulM_in (p := p) (by omega) (r := R) (c := C) (d := D) (a := l) (b := m)
  have bd1 := rc_bd r2 d2
  -- the calls
  have m1 := mmul_walk p R C l C D m hl hm wl wm
  rw [mulR_ok A B] at m1
  have pk1 := pick_walk p R C l rows (tbl C (fun i => (i : Int))) hl hr (by rw [tbl_len, mx_len]; omega)
  have pk2 := pick_walk p C D m (tbl C (fun i => (i : Int))) cols hm (by rw [tbl_len, mx_len]; omega) hc
  have pk3 := pick_walk p R D (mulM p R C l D m) rows cols (by rw [mulM_len, mx_len]; omega) hr hc
  have al := all_of (p := p) k1 k2
  have tl : (tbl C (fun i => (i : Int))).length = C := tbl_len ..
  have fin : ∃ x1 e1 y1 f1 z1 g1 w1 h1, pickR p R C l rows (tbl C (fun i => (i : Int))) = (x1, e1) ∧ pickR p C D m (tbl C (fun i => (i : Int))) cols = (y1, f1) ∧ pickR p R D (mulM p R C l D m) rows cols = (z1, g1) ∧ mulR p x1.1 x1.2.1 x1.2.2 y1.1 y1.2.1 y1.2.2 = (w1, h1) ∧
      (x1.2.2.length ≤ maxLen ∧ y1.2.2.length ≤ maxLen ∧ w1.2.2.length ≤ maxLen) ∧ (W64s x1.2.2 ∧ W64s y1.2.2) ∧
      (e1 = 0 ∧ f1 = 0 ∧ g1 = 0 ∧ h1 = 0 ∧ w1 = z1 ∨ e1 = 1 ∧ g1 = 1 ∨ e1 = 0 ∧ f1 = 1 ∧ g1 = 1) := by
    have z0 : (0 : Nat) ≤ maxLen := Nat.zero_le _
    have w0 : W64s [] := fun a ha => by cases ha
    have n1 : ∀ a b q, mulR p 0 0 [] a b q = ((0, 0, []), 1) := fun a b q => rfl
    have n2 : ∀ a b q, mulR p a b q 0 0 [] = ((0, 0, []), 1) := fun a b q => by
      unfold mulR
      rw [show MatB p 0 0 [] = false from rfl]; simp
    have la := ((within_iff _ _).1 al).2
    have no1 : pickR p C D m (tbl C (fun i => (i : Int))) cols = ((0, 0, []), 1) ∨ ∃ q, pickR p C D m (tbl C (fun i => (i : Int))) cols = q ∧ q.1.2.2.length ≤ maxLen ∧ W64s q.1.2.2 := by
      cases c7 : withinB cols D with
      | false => exact .inl (pickR_no (by rw [c7, Bool.and_false]))
      | true =>
        refine .inr ⟨_, pickR_ok B al c7, ?_, in_w64s A.hp (pick_in B.len bi la ((within_iff _ _).1 c7).2)⟩
        rw [pickM_len, tl, mx_len]; have := Nat.mul_le_mul k2 (show cols.length ≤ 60 by omega); omega
    cases c6 : withinB rows R with
    | false =>
      have h3 : pickR p R C l rows (tbl C (fun i => (i : Int))) = ((0, 0, []), 1) := pickR_no (by rw [c6]; rfl)
      have h4 : pickR p R D (mulM p R C l D m) rows cols = ((0, 0, []), 1) := pickR_no (by rw [c6]; rfl)
      rcases no1 with h5 | ⟨⟨q1, q2⟩, h5, h6, h7⟩
      · exact ⟨_, _, _, _, _, _, _, _, h3, h5, h4, n1 _ _ _, ⟨z0, z0, z0⟩, ⟨w0, w0⟩, .inr (.inl ⟨rfl, rfl⟩)⟩
      · exact ⟨_, _, _, _, _, _, _, _, h3, h5, h4, n1 _ _ _, ⟨z0, h6, z0⟩, ⟨w0, h7⟩, .inr (.inl ⟨rfl, rfl⟩)⟩
    | true =>
      have h3 := pickR_ok A c6 al
      have lr : rows.length * C ≤ 60 * 64 := Nat.mul_le_mul (by omega) k2
      have wr : W64s (pickM C l rows (tbl C (fun i => (i : Int)))) := in_w64s A.hp (pick_in A.len ai ((within_iff _ _).1 c6).2 la)
      have lx : (pickM C l rows (tbl C (fun i => (i : Int)))).length ≤ maxLen := by rw [pickM_len, tl, mx_len]; omega
      cases c7 : withinB cols D with
      | false =>
        have h5 : pickR p C D m (tbl C (fun i => (i : Int))) cols = ((0, 0, []), 1) := pickR_no (by rw [c7, Bool.and_false])
        have h4 : pickR p R D (mulM p R C l D m) rows cols = ((0, 0, []), 1) := pickR_no (by rw [c7, Bool.and_false])
        exact ⟨_, _, _, _, _, _, _, _, h3, h5, h4, n2 _ _ _, ⟨lx, z0, z0⟩, ⟨wr, w0⟩, .inr (.inr ⟨rfl, rfl, rfl⟩)⟩
      | true =>
        have h5 := pickR_ok B al c7
        have h4 := pickR_ok AB c6 c7
        have lc : C * cols.length ≤ 64 * 60 := Nat.mul_le_mul k2 (by omega)
        have lrc : rows.length * cols.length ≤ 60 * 60 := Nat.mul_le_mul (by omega) (by omega)
        have wc : W64s (pickM D m (tbl C (fun i => (i : Int))) cols) := in_w64s A.hp (pick_in B.len bi la ((within_iff _ _).1 c7).2)
        obtain ⟨⟨g1, g2⟩, g3⟩ := (within_iff _ _).1 c6
        obtain ⟨⟨g4, g5⟩, g6⟩ := (within_iff _ _).1 c7
        have X : Mt p rows.length C (pickM C l rows (tbl C (fun i => (i : Int)))) := ⟨A.hp, g1, g2, k1, k2, by rw [pickM_len, tl], fun a ha => (pick_in A.len ai g3 la a ha).2⟩
        have Y : Mt p C cols.length (pickM D m (tbl C (fun i => (i : Int))) cols) := ⟨A.hp, k1, k2, g4, g5, by rw [pickM_len, tl], fun a ha => (pick_in B.len bi la g6 a ha).2⟩
        have e := pick_mul (p := p) A.len B.len g3 g6 rfl
        rw [tl] at h3 h5
        have h6 := mulR_ok X Y
        refine ⟨_, _, _, _, _, _, _, _, h3, h5, h4, h6, ⟨lx, ?_, ?_⟩, ⟨wr, wc⟩, .inl ⟨rfl, rfl, rfl, rfl, ?_⟩⟩
        · rw [pickM_len, tl, mx_len]; omega
        · rw [mulM_len, mx_len]; omega
        · rw [e]
  obtain ⟨⟨xa, xb, xc⟩, e1, ⟨ya, yb, yc⟩, f1, ⟨za, zb, zc⟩, g1, ⟨wa, wb, wc⟩, h1', v1, v2, v3, v4, ⟨b1, b2, b3⟩, ⟨b4, b5⟩, fin⟩ := fin
  rw [v1] at pk1
  rw [v2] at pk2
  rw [v3] at pk3
  simp only at v4 b1 b2 b3 b4 b5 fin
  have m2 := mmul_walk p xa xb xc ya yb yc b1 b2 b4 b5
  rw [v4] at m2
  have s1 := msame_walk wa wb wc za zb zc b3
  clear v1 v2 v3 v4 b1 b2 b3 b4 b5 h1 h2
  obtain ⟨T, rfl⟩ := Int.eq_ofNat_of_zero_le w5.1
  have iR : T % R < R := Nat.mod_lt _ (by omega)
  have iC : T % C < C := Nat.mod_lt _ (by omega)
  have x1 : (T : Int) % (R : Int) = ((T % R : Nat) : Int) := rfl
  have x2 : (T : Int) % (C : Int) = ((T % C : Nat) : Int) := rfl
  have x3 : IntKind.i64.wrap (T : Int) = (T : Int) := iw_of (by omega) (by omega)
  have uw : ∀ n i, W64s (unitV n i) := by
    intro n i a ha
    obtain ⟨k, hk, rfl⟩ := tbl_mem ha
    unfold W64
    split <;> omega
  have n1 := left_walk p R C l (unitV R (T % R)) hl (by rw [unitV_len, mx_len]; omega) wl (uw _ _)
  have n2 := times_walk p R C l (unitV C (T % C)) hl (by rw [unitV_len, mx_len]; omega) wl (uw _ _)
  have hu : ∀ n i, HasB p (unitV n i) = true := by
    intro n i
    rw [has_iff]
    refine ⟨?_, A.hp.1, A.hp.2⟩
    intro a ha
    obtain ⟨k, hk, rfl⟩ := tbl_mem ha
    split <;> omega
  rw [show mlR p (unitV R (T % R)) R C l = (rowM C l (T % R), 0) by
    unfold mlR
    rw [mat_mk A, hu, unitV_len, if_pos (by simp), Int.toNat_natCast, Int.toNat_natCast]
    have := left_unit (p := p) A.len ai iR
    unfold leftM at this
    rw [this]] at n1
  rw [show timesR p R C l (unitV C (T % C)) = (timesM p R C l (unitV C (T % C)), 0) by
    unfold timesR
    rw [mat_mk A, hu, unitV_len, if_pos (by simp), Int.toNat_natCast, Int.toNat_natCast]] at n2
  have tu := fun i (hi : i < R) => times_unit (p := p) A.len ai iC hi
  have tlen := timesM_len p R C l (unitV C (T % C))
  generalize timesM p R C l (unitV C (T % C)) = col at n2 tu tlen
  have cut : ∀ n i, i < n → ((tbl n (fun _ => 0)).map iu).take i ++ [IV.v (.int .u64 1)] ++ ((tbl n (fun _ => 0)).map iu).drop (i + 1) = (unitV n i).map iu := by
    intro n i hi
    rw [tbl_put_iu _ 1 hi]; unfold unitV; rfl
  rw [show lu (unitV R (T % R)) = PV.i (.l R ((unitV R (T % R)).map iu)) by unfold lu; rw [unitV_len]] at n1
  rw [show lu (unitV C (T % C)) = PV.i (.l C ((unitV C (T % C)).map iu)) by unfold lu; rw [unitV_len]] at n2
  have rl := rowM_len A.len iR
  have s2 := same_walk (rowM C l (T % R)) (rowM C l (T % R)) (by rw [rl, mx_len]; omega)
  rw [decide_eq_true rfl] at s2
  rw [show lu (rowM C l (T % R)) = PV.i (.l C ((rowM C l (T % R)).map iu)) by unfold lu; rw [rl]] at n1 s2
  have y1 : (T % R + 1) * C = T % R * C + C := Nat.succ_mul _ C
  have y2 := ic_bd (c := C) iR
  have y3 := rc_bd r2 k2
  have e1 : IntKind.i64.wrap (((T % R : Nat) : Int) * (C : Int)) = ((T % R * C : Nat) : Int) := by rw [← Int.natCast_mul]; exact iw_of (by omega) (by omega)
  have e2 : IntKind.i64.wrap ((((T % R : Nat) : Int) + 1) * (C : Int)) = ((T % R * C + C : Nat) : Int) := by
    rw [show (((T % R : Nat) : Int) + 1) * (C : Int) = ((T % R * C + C : Nat) : Int) by rw [← y1]; push_cast; rfl]; exact iw_of (by omega) (by omega)
  have e3 : T % R * C + C - T % R * C = C := by omega
  have e4 : ((l.map iu).drop (T % R * C)).take C = (rowM C l (T % R)).map iu := by unfold rowM; rw [List.map_take, List.map_drop]
  have e5 : T % R * C ≤ T % R * C + C := by omega
  have e6 : T % R * C + C ≤ l.length := by rw [A.len]; exact y2
  have atw := fun i (hi : i < R) => at_walk A.len r2 k2 hi iC
  have tu2 : ∀ i, i < R → col[i]? = some (l.getD (i * C + T % C) 0) := by
    intro i hi
    rw [List.getElem?_eq_getElem (by omega)]
    have := tu i hi
    rw [List.getD_eq_getElem?_getD, List.getElem?_eq_getElem (by omega)] at this
    unfold cl at this
    exact congrArg some this
  have z1 := zero_tbl R
  have z2 := zero_tbl C
  have c1 := cut R _ iR
  have c2 := cut C _ iC
  have t1 : ((unitV R (T % R)).map iu).take R = (unitV R (T % R)).map iu := List.take_of_length_le (by rw [List.length_map, unitV_len]; exact Nat.le_refl _)
  have t2 : ((unitV C (T % C)).map iu).take C = (unitV C (T % C)).map iu := List.take_of_length_le (by rw [List.length_map, unitV_len]; exact Nat.le_refl _)
  have u1 := unitV_len R (T % R)
  have u2 := unitV_len C (T % C)
  clear tu cut hu uw
  generalize unitV R (T % R) = ur at *
  generalize unitV C (T % C) = uc at *
  generalize rowM C l (T % R) = rw_ at *
  generalize T % R = I at *
  generalize T % C = K at *
  clear ai bi abi AB B
  generalize hab : mulM p R C l D m = ab at *
  clear hab
  have tk : ((tbl C (fun i => (i : Int))).map ii).take C = (tbl C (fun i => (i : Int))).map ii := List.take_of_length_le (by rw [List.length_map, tl]; exact Nat.le_refl _)
  have ts := tbl_succ (f := fun i => (i : Int))
  rw [show li (tbl C (fun i => (i : Int))) = PV.i (.l C ((tbl C (fun i => (i : Int))).map ii)) by unfold li; rw [tl]] at pk1 pk2
  refine X_startP (n := 225) (m := 6) (rs := [.tmp 12]) Try.func5 rfl rfl rfl rfl (by decide) fun base => ?_
  repeat (first | ((first | refine X_call_fn2 rfl (by simp only [tys]) ?_ | refine X_dcall_fn2 rfl (by simp only [tys]) ?_); apply Exists.intro; apply And.intro; (focus (simp -dsimp only [simx, zzC, zzB, tys, ite_self, opnL, callB, stepOp, ofVal, opBuiltin, opLen, PV.sk, scalBin, scalUn, intBin, opLoad, natOf, opConvert, opField, cellsP, oneP, Value.oneCell', opStore, toIV, scalT, scalA, scalC, boxesA, boxesC, ↓reduceIte, Nat.reduceSub, Nat.reduceEqDiff, Nat.reduceAdd, Nat.reduceMul, Nat.reduceLT, Nat.reduceLeDiff, Int.reduceToNat, Int.reduceLE, Int.reduceLT, Int.reduceNeg, reduceCtorEq, zzL, if_true, if_false] <;> rfl)); apply Exists.intro; apply And.intro; (focus (first | exact aw | exact q1 | exact q2 | exact q3 | exact q4 | exact m1))) | refine ⟨(by show drawK _ _ = true; kernel_rfl : drawX _ _ _), ?_⟩ | exact (by show drawK _ _ = true; kernel_rfl : drawX _ _ _) | simp -dsimp (maxSteps := 20000000) (disch := omega) only [simx, zzC, zzB, tys, ite_self, opnL, callB, stepOp, ofVal, opBuiltin, opLen, PV.sk, scalBin, scalUn, intBin, opLoad, natOf, opConvert, opField, cellsP, oneP, Value.oneCell', opStore, toIV, scalT, scalA, scalC, boxesA, boxesC, ↓reduceIte, Nat.reduceSub, Nat.reduceEqDiff, Nat.reduceAdd, Nat.reduceMul, Nat.reduceLT, Nat.reduceLeDiff, Int.reduceToNat, Int.reduceLE, Int.reduceLT, Int.reduceNeg, reduceCtorEq, gos, Int.reduceAdd, Int.reduceSub, Int.reduceMul, Int.reduceEq])
  refine X_loopH [0, 3, 4, 5, 7, 8, 13, 15, 16] [(10, 2) :: base] (0) (C) (fun j => True) (fun j => [(15, rowP ((10, 3) :: base) 1 j ((tbl j (fun i => (i : Int))).map ii)), (16, i64 j)]) (fun j => rowH (((Heap.none.put ((0, 0) :: base) (.var [i64 R, i64 C, lu l])).put ((0, 1) :: base) (.var [i64 C, i64 D, lu m])).put ((5, 7) :: base) (.var [i64 R, i64 D, lu ab])) ((10, 3) :: base) j ((tbl j (fun i => (i : Int))).map ii)) ?_ ?_ ?_ ?_ ?_ (by decide) ?_
  · exact (fgt_cons (by simp only [Heap.none_at]) (by (simp -dsimp only [zzB, tys, ite_self, opnL, callB, stepOp, ofVal, opBuiltin, opLen, PV.sk, scalBin, scalUn, intBin, opLoad, natOf, opConvert, opField, cellsP, oneP, Value.oneCell', opStore, toIV, scalT, scalA, scalC, boxesA, boxesC, ↓reduceIte, Nat.reduceSub, Nat.reduceEqDiff, Nat.reduceAdd, Nat.reduceMul, Nat.reduceLT, Nat.reduceLeDiff, Int.reduceToNat, Int.reduceLE, Int.reduceLT, Int.reduceNeg, reduceCtorEq, notIn_cons, notIn_nil]) <;> simp [refsL, refsP, mem_refs_rowP]) (by repeat (first | exact noVar_none _ | refine noVar_row ?_ | refine noVar_rowH ?_ | refine noVar_var ?_ (by simp [refsL, refsP, mem_refs_rowP]))) (fgt_nil))
  · ((simp -dsimp (disch := omega) only [simx, zzB, tys, ite_self, opnL, callB, stepOp, ofVal, opBuiltin, opLen, PV.sk, scalBin, scalUn, intBin, opLoad, natOf, opConvert, opField, cellsP, oneP, Value.oneCell', opStore, toIV, scalT, scalA, scalC, boxesA, boxesC, ↓reduceIte, Nat.reduceSub, Nat.reduceEqDiff, Nat.reduceAdd, Nat.reduceMul, Nat.reduceLT, Nat.reduceLeDiff, Int.reduceToNat, Int.reduceLE, Int.reduceLT, Int.reduceNeg, reduceCtorEq, gos, Int.reduceAdd, Int.reduceSub, Int.reduceMul, Int.reduceEq]) <;> first | rfl | simp [rowP])
  · funext c
    simp (maxSteps := 20000000) only [Heap.drop_at, rowH_app, Heap.put_at, Heap.none_at, List.mem_cons, List.not_mem_nil, or_false]
    by_cases e0 : c = (0, 0) :: base
    · subst e0; simp []
    by_cases e1 : c = (0, 1) :: base
    · subst e1; simp []
    by_cases e2 : c = (5, 7) :: base
    · subst e2; simp []
    by_cases e3 : c = (10, 2) :: base
    · subst e3; simp []
    simp [e0, e1, e2, e3]
  · omega
  · trivial
  · intro j hj _
    by_cases cj : j < C
    · have tj := tbl_len j (fun i => (i : Int))
      have ts1 := ts j
      repeat (first | refine ⟨(by show drawK _ _ = true; kernel_rfl : drawX _ _ _), ?_⟩ | exact (by show drawK _ _ = true; kernel_rfl : drawX _ _ _) | simp -dsimp (maxSteps := 20000000) (disch := omega) only [simx, zzC, zzB, tys, ite_self, opnL, callB, stepOp, ofVal, opBuiltin, opLen, PV.sk, scalBin, scalUn, intBin, opLoad, natOf, opConvert, opField, cellsP, oneP, Value.oneCell', opStore, toIV, scalT, scalA, scalC, boxesA, boxesC, ↓reduceIte, Nat.reduceSub, Nat.reduceEqDiff, Nat.reduceAdd, Nat.reduceMul, Nat.reduceLT, Nat.reduceLeDiff, Int.reduceToNat, Int.reduceLE, Int.reduceLT, Int.reduceNeg, reduceCtorEq, gos, Int.reduceAdd, Int.reduceSub, Int.reduceMul, Int.reduceEq, cj])
      refine X_append_one 3 [.int .i64 0] [ii j] (by simp only [tys]) (by simp only [tys]) rfl (by decide) (by rw [List.length_map, tj, Nat.mul_one]) (by simp [Heap.put_at, Heap.none_at, rowH_app]) (by simp [Heap.put_at]; rfl) rfl (by simp only [tys]; omega) (by rw [mx_len]; omega) ?_
      repeat (first | refine ⟨(by show drawK _ _ = true; kernel_rfl : drawX _ _ _), ?_⟩ | exact (by show drawK _ _ = true; kernel_rfl : drawX _ _ _) | simp -dsimp (maxSteps := 20000000) (disch := omega) only [simx, zzC, zzB, tys, ite_self, opnL, callB, stepOp, ofVal, opBuiltin, opLen, PV.sk, scalBin, scalUn, intBin, opLoad, natOf, opConvert, opField, cellsP, oneP, Value.oneCell', opStore, toIV, scalT, scalA, scalC, boxesA, boxesC, ↓reduceIte, Nat.reduceSub, Nat.reduceEqDiff, Nat.reduceAdd, Nat.reduceMul, Nat.reduceLT, Nat.reduceLeDiff, Int.reduceToNat, Int.reduceLE, Int.reduceLT, Int.reduceNeg, reduceCtorEq, gos, Int.reduceAdd, Int.reduceSub, Int.reduceMul, Int.reduceEq, cj])
      refine ⟨cj, (fgt_cons (by simp only [Heap.none_at]) (by (simp -dsimp only [zzB, tys, ite_self, opnL, callB, stepOp, ofVal, opBuiltin, opLen, PV.sk, scalBin, scalUn, intBin, opLoad, natOf, opConvert, opField, cellsP, oneP, Value.oneCell', opStore, toIV, scalT, scalA, scalC, boxesA, boxesC, ↓reduceIte, Nat.reduceSub, Nat.reduceEqDiff, Nat.reduceAdd, Nat.reduceMul, Nat.reduceLT, Nat.reduceLeDiff, Int.reduceToNat, Int.reduceLE, Int.reduceLT, Int.reduceNeg, reduceCtorEq, notIn_cons, notIn_nil]) <;> simp [refsL, refsP, mem_refs_rowP]) (by repeat (first | exact noVar_none _ | refine noVar_row ?_ | refine noVar_rowH ?_ | refine noVar_var ?_ (by simp [refsL, refsP, mem_refs_rowP]))) (fgt_nil)), ⟨?_, rfl⟩, ?_⟩
      · rw [ts1, List.map_append]; rfl
      · funext c
        simp (maxSteps := 20000000) only [Heap.drop_at, rowH_app, Heap.put_at, Heap.none_at, List.mem_cons, List.not_mem_nil, or_false]
        by_cases e0 : c = (0, 0) :: base
        · subst e0; simp [ts1]
        by_cases e1 : c = (0, 1) :: base
        · subst e1; simp [ts1]
        by_cases e2 : c = (5, 7) :: base
        · subst e2; simp [ts1]
        by_cases e3 : c = (10, 2) :: base
        · subst e3; simp [ts1]
        by_cases e4 : c = (10, 3) :: base
        · subst e4; simp [ts1]
        simp [e0, e1, e2, e3, e4, ts1]
    · obtain rfl : C = j := by omega
      clear ts
      have rp := fun s z cs => rowP_pos s z cs (show 0 < C by omega)
      have rh := fun h s cs => rowH_pos h s cs (show 0 < C by omega)
      have ll : ((tbl C (fun i => (i : Int))).map ii).length = C := by rw [List.length_map, tl]
      have f1 : R * 8 ≤ 140737488355328 := by omega
      have f2 : R ≤ 140737488355328 := by omega
      have f3 : C * 8 ≤ 140737488355328 := by omega
      have f4 : C ≤ 140737488355328 := by omega
      have iR' : I + 1 ≤ R := iR
      have iC' : K + 1 ≤ C := iC
      rcases fin with ⟨rfl, rfl, rfl, rfl, fw⟩ | ⟨rfl, rfl⟩ | ⟨rfl, rfl, rfl⟩
      · cases fw
        rw [show sameMB za zb zc za zb zc = true by simp [sameMB]] at s1
        repeat (first | ((first | refine X_call_fn2 rfl (by simp only [tys]) ?_ | refine X_dcall_fn2 rfl (by simp only [tys]) ?_); apply Exists.intro; apply And.intro; (focus (simp -dsimp only [simx, zzC, zzB, tys, ite_self, opnL, callB, stepOp, ofVal, opBuiltin, opLen, PV.sk, scalBin, scalUn, intBin, opLoad, natOf, opConvert, opField, cellsP, oneP, Value.oneCell', opStore, toIV, scalT, scalA, scalC, boxesA, boxesC, ↓reduceIte, Nat.reduceSub, Nat.reduceEqDiff, Nat.reduceAdd, Nat.reduceMul, Nat.reduceLT, Nat.reduceLeDiff, Int.reduceToNat, Int.reduceLE, Int.reduceLT, Int.reduceNeg, reduceCtorEq, zzL, if_true, if_false, ll, tk, List.length_map, u1, t1, u2, t2] <;> rfl)); apply Exists.intro; apply And.intro; (focus (first | exact pk1 | exact pk2 | exact pk3 | exact m2 | exact s1 | exact n1 | exact n2 | exact s2))) | refine ⟨(by show drawK _ _ = true; kernel_rfl : drawX _ _ _), ?_⟩ | exact (by show drawK _ _ = true; kernel_rfl : drawX _ _ _) | simp -dsimp (maxSteps := 20000000) (disch := omega) only [simx, zzC, zzB, tys, ite_self, opnL, callB, stepOp, ofVal, opBuiltin, opLen, PV.sk, scalBin, scalUn, intBin, opLoad, natOf, opConvert, opField, cellsP, oneP, Value.oneCell', opStore, toIV, scalT, scalA, scalC, boxesA, boxesC, ↓reduceIte, Nat.reduceSub, Nat.reduceEqDiff, Nat.reduceAdd, Nat.reduceMul, Nat.reduceLT, Nat.reduceLeDiff, Int.reduceToNat, Int.reduceLE, Int.reduceLT, Int.reduceNeg, reduceCtorEq, gos, Int.reduceAdd, Int.reduceSub, Int.reduceMul, Int.reduceEq, rp, rh, z1, z2, c1, c2, x1, x2, x3, iR, iC, iR', iC', f1, f2, f3, f4, e1, e2, e3, e4, e5, e6, tlen, tbl_len, List.length_map])
        refine X_loopH [7, 29, 31, 33] [(0, 1) :: base, (5, 7) :: base, (10, 3) :: base, (11, 8) :: base, (12, 8) :: base, (13, 8) :: base, (14, 7) :: base, (18, 2) :: base, (22, 2) :: base] (0) (R) (fun j => True) (fun j => [(33, i64 j)]) (fun j => Heap.none.put ((0, 0) :: base) (.var [i64 R, i64 C, lu l])) ?_ ?_ ?_ ?_ ?_ (by decide) ?_
        · exact (fgt_cons (by simp only [Heap.none_at]) (by (simp -dsimp only [zzB, tys, ite_self, opnL, callB, stepOp, ofVal, opBuiltin, opLen, PV.sk, scalBin, scalUn, intBin, opLoad, natOf, opConvert, opField, cellsP, oneP, Value.oneCell', opStore, toIV, scalT, scalA, scalC, boxesA, boxesC, ↓reduceIte, Nat.reduceSub, Nat.reduceEqDiff, Nat.reduceAdd, Nat.reduceMul, Nat.reduceLT, Nat.reduceLeDiff, Int.reduceToNat, Int.reduceLE, Int.reduceLT, Int.reduceNeg, reduceCtorEq, notIn_cons, notIn_nil]) <;> simp [refsL, refsP, mem_refs_rowP]) (by repeat (first | exact noVar_none _ | refine noVar_row ?_ | refine noVar_rowH ?_ | refine noVar_var ?_ (by simp [refsL, refsP, mem_refs_rowP]))) (fgt_cons (by simp only [Heap.none_at]) (by (simp -dsimp only [zzB, tys, ite_self, opnL, callB, stepOp, ofVal, opBuiltin, opLen, PV.sk, scalBin, scalUn, intBin, opLoad, natOf, opConvert, opField, cellsP, oneP, Value.oneCell', opStore, toIV, scalT, scalA, scalC, boxesA, boxesC, ↓reduceIte, Nat.reduceSub, Nat.reduceEqDiff, Nat.reduceAdd, Nat.reduceMul, Nat.reduceLT, Nat.reduceLeDiff, Int.reduceToNat, Int.reduceLE, Int.reduceLT, Int.reduceNeg, reduceCtorEq, notIn_cons, notIn_nil]) <;> simp [refsL, refsP, mem_refs_rowP]) (by repeat (first | exact noVar_none _ | refine noVar_row ?_ | refine noVar_rowH ?_ | refine noVar_var ?_ (by simp [refsL, refsP, mem_refs_rowP]))) (fgt_cons (by simp only [Heap.none_at]) (by (simp -dsimp only [zzB, tys, ite_self, opnL, callB, stepOp, ofVal, opBuiltin, opLen, PV.sk, scalBin, scalUn, intBin, opLoad, natOf, opConvert, opField, cellsP, oneP, Value.oneCell', opStore, toIV, scalT, scalA, scalC, boxesA, boxesC, ↓reduceIte, Nat.reduceSub, Nat.reduceEqDiff, Nat.reduceAdd, Nat.reduceMul, Nat.reduceLT, Nat.reduceLeDiff, Int.reduceToNat, Int.reduceLE, Int.reduceLT, Int.reduceNeg, reduceCtorEq, notIn_cons, notIn_nil]) <;> simp [refsL, refsP, mem_refs_rowP]) (by repeat (first | exact noVar_none _ | refine noVar_row ?_ | refine noVar_rowH ?_ | refine noVar_var ?_ (by simp [refsL, refsP, mem_refs_rowP]))) (fgt_cons (by simp only [Heap.none_at]) (by (simp -dsimp only [zzB, tys, ite_self, opnL, callB, stepOp, ofVal, opBuiltin, opLen, PV.sk, scalBin, scalUn, intBin, opLoad, natOf, opConvert, opField, cellsP, oneP, Value.oneCell', opStore, toIV, scalT, scalA, scalC, boxesA, boxesC, ↓reduceIte, Nat.reduceSub, Nat.reduceEqDiff, Nat.reduceAdd, Nat.reduceMul, Nat.reduceLT, Nat.reduceLeDiff, Int.reduceToNat, Int.reduceLE, Int.reduceLT, Int.reduceNeg, reduceCtorEq, notIn_cons, notIn_nil]) <;> simp [refsL, refsP, mem_refs_rowP]) (by repeat (first | exact noVar_none _ | refine noVar_row ?_ | refine noVar_rowH ?_ | refine noVar_var ?_ (by simp [refsL, refsP, mem_refs_rowP]))) (fgt_cons (by simp only [Heap.none_at]) (by (simp -dsimp only [zzB, tys, ite_self, opnL, callB, stepOp, ofVal, opBuiltin, opLen, PV.sk, scalBin, scalUn, intBin, opLoad, natOf, opConvert, opField, cellsP, oneP, Value.oneCell', opStore, toIV, scalT, scalA, scalC, boxesA, boxesC, ↓reduceIte, Nat.reduceSub, Nat.reduceEqDiff, Nat.reduceAdd, Nat.reduceMul, Nat.reduceLT, Nat.reduceLeDiff, Int.reduceToNat, Int.reduceLE, Int.reduceLT, Int.reduceNeg, reduceCtorEq, notIn_cons, notIn_nil]) <;> simp [refsL, refsP, mem_refs_rowP]) (by repeat (first | exact noVar_none _ | refine noVar_row ?_ | refine noVar_rowH ?_ | refine noVar_var ?_ (by simp [refsL, refsP, mem_refs_rowP]))) (fgt_cons (by simp only [Heap.none_at]) (by (simp -dsimp only [zzB, tys, ite_self, opnL, callB, stepOp, ofVal, opBuiltin, opLen, PV.sk, scalBin, scalUn, intBin, opLoad, natOf, opConvert, opField, cellsP, oneP, Value.oneCell', opStore, toIV, scalT, scalA, scalC, boxesA, boxesC, ↓reduceIte, Nat.reduceSub, Nat.reduceEqDiff, Nat.reduceAdd, Nat.reduceMul, Nat.reduceLT, Nat.reduceLeDiff, Int.reduceToNat, Int.reduceLE, Int.reduceLT, Int.reduceNeg, reduceCtorEq, notIn_cons, notIn_nil]) <;> simp [refsL, refsP, mem_refs_rowP]) (by repeat (first | exact noVar_none _ | refine noVar_row ?_ | refine noVar_rowH ?_ | refine noVar_var ?_ (by simp [refsL, refsP, mem_refs_rowP]))) (fgt_cons (by simp only [Heap.none_at]) (by (simp -dsimp only [zzB, tys, ite_self, opnL, callB, stepOp, ofVal, opBuiltin, opLen, PV.sk, scalBin, scalUn, intBin, opLoad, natOf, opConvert, opField, cellsP, oneP, Value.oneCell', opStore, toIV, scalT, scalA, scalC, boxesA, boxesC, ↓reduceIte, Nat.reduceSub, Nat.reduceEqDiff, Nat.reduceAdd, Nat.reduceMul, Nat.reduceLT, Nat.reduceLeDiff, Int.reduceToNat, Int.reduceLE, Int.reduceLT, Int.reduceNeg, reduceCtorEq, notIn_cons, notIn_nil]) <;> simp [refsL, refsP, mem_refs_rowP]) (by repeat (first | exact noVar_none _ | refine noVar_row ?_ | refine noVar_rowH ?_ | refine noVar_var ?_ (by simp [refsL, refsP, mem_refs_rowP]))) (fgt_cons (by simp only [Heap.none_at]) (by (simp -dsimp only [zzB, tys, ite_self, opnL, callB, stepOp, ofVal, opBuiltin, opLen, PV.sk, scalBin, scalUn, intBin, opLoad, natOf, opConvert, opField, cellsP, oneP, Value.oneCell', opStore, toIV, scalT, scalA, scalC, boxesA, boxesC, ↓reduceIte, Nat.reduceSub, Nat.reduceEqDiff, Nat.reduceAdd, Nat.reduceMul, Nat.reduceLT, Nat.reduceLeDiff, Int.reduceToNat, Int.reduceLE, Int.reduceLT, Int.reduceNeg, reduceCtorEq, notIn_cons, notIn_nil]) <;> simp [refsL, refsP, mem_refs_rowP]) (by repeat (first | exact noVar_none _ | refine noVar_row ?_ | refine noVar_rowH ?_ | refine noVar_var ?_ (by simp [refsL, refsP, mem_refs_rowP]))) (fgt_cons (by simp only [Heap.none_at]) (by (simp -dsimp only [zzB, tys, ite_self, opnL, callB, stepOp, ofVal, opBuiltin, opLen, PV.sk, scalBin, scalUn, intBin, opLoad, natOf, opConvert, opField, cellsP, oneP, Value.oneCell', opStore, toIV, scalT, scalA, scalC, boxesA, boxesC, ↓reduceIte, Nat.reduceSub, Nat.reduceEqDiff, Nat.reduceAdd, Nat.reduceMul, Nat.reduceLT, Nat.reduceLeDiff, Int.reduceToNat, Int.reduceLE, Int.reduceLT, Int.reduceNeg, reduceCtorEq, notIn_cons, notIn_nil]) <;> simp [refsL, refsP, mem_refs_rowP]) (by repeat (first | exact noVar_none _ | refine noVar_row ?_ | refine noVar_rowH ?_ | refine noVar_var ?_ (by simp [refsL, refsP, mem_refs_rowP]))) (fgt_nil))))))))))
        · ((simp -dsimp (disch := omega) only [simx, zzB, tys, ite_self, opnL, callB, stepOp, ofVal, opBuiltin, opLen, PV.sk, scalBin, scalUn, intBin, opLoad, natOf, opConvert, opField, cellsP, oneP, Value.oneCell', opStore, toIV, scalT, scalA, scalC, boxesA, boxesC, ↓reduceIte, Nat.reduceSub, Nat.reduceEqDiff, Nat.reduceAdd, Nat.reduceMul, Nat.reduceLT, Nat.reduceLeDiff, Int.reduceToNat, Int.reduceLE, Int.reduceLT, Int.reduceNeg, reduceCtorEq, gos, Int.reduceAdd, Int.reduceSub, Int.reduceMul, Int.reduceEq]) <;> first | rfl | simp)
        · funext c
          simp (maxSteps := 20000000) only [Heap.drop_at, rowH_app, Heap.put_at, Heap.none_at, List.mem_cons, List.not_mem_nil, or_false]
          by_cases e0 : c = (0, 0) :: base
          · subst e0; simp []
          by_cases e1 : c = (0, 1) :: base
          · subst e1; simp []
          by_cases e2 : c = (5, 7) :: base
          · subst e2; simp []
          by_cases e3 : c = (10, 3) :: base
          · subst e3; simp []
          by_cases e4 : c = (11, 8) :: base
          · subst e4; simp []
          by_cases e5 : c = (12, 8) :: base
          · subst e5; simp []
          by_cases e6 : c = (13, 8) :: base
          · subst e6; simp []
          by_cases e7 : c = (14, 7) :: base
          · subst e7; simp []
          by_cases e8 : c = (18, 2) :: base
          · subst e8; simp []
          by_cases e9 : c = (22, 2) :: base
          · subst e9; simp []
          simp [e0, e1, e2, e3, e4, e5, e6, e7, e8, e9]
        · omega
        · trivial
        · intro j hj _
          by_cases cj : j < R
          · have d := atw j cj
            have g := tu2 j cj
            generalize l.getD (j * C + K) 0 = x at d g
            repeat (first | ((first | refine X_call_fn2 rfl (by simp only [tys]) ?_ | refine X_dcall_fn2 rfl (by simp only [tys]) ?_); apply Exists.intro; apply And.intro; (focus (simp -dsimp only [simx, zzC, zzB, tys, ite_self, opnL, callB, stepOp, ofVal, opBuiltin, opLen, PV.sk, scalBin, scalUn, intBin, opLoad, natOf, opConvert, opField, cellsP, oneP, Value.oneCell', opStore, toIV, scalT, scalA, scalC, boxesA, boxesC, ↓reduceIte, Nat.reduceSub, Nat.reduceEqDiff, Nat.reduceAdd, Nat.reduceMul, Nat.reduceLT, Nat.reduceLeDiff, Int.reduceToNat, Int.reduceLE, Int.reduceLT, Int.reduceNeg, reduceCtorEq, zzL, if_true, if_false] <;> rfl)); apply Exists.intro; apply And.intro; (focus (first | exact d))) | refine ⟨(by show drawK _ _ = true; kernel_rfl : drawX _ _ _), ?_⟩ | exact (by show drawK _ _ = true; kernel_rfl : drawX _ _ _) | simp -dsimp (maxSteps := 20000000) (disch := omega) only [simx, zzC, zzB, tys, ite_self, opnL, callB, stepOp, ofVal, opBuiltin, opLen, PV.sk, scalBin, scalUn, intBin, opLoad, natOf, opConvert, opField, cellsP, oneP, Value.oneCell', opStore, toIV, scalT, scalA, scalC, boxesA, boxesC, ↓reduceIte, Nat.reduceSub, Nat.reduceEqDiff, Nat.reduceAdd, Nat.reduceMul, Nat.reduceLT, Nat.reduceLeDiff, Int.reduceToNat, Int.reduceLE, Int.reduceLT, Int.reduceNeg, reduceCtorEq, gos, Int.reduceAdd, Int.reduceSub, Int.reduceMul, Int.reduceEq, cj, g, tlen])
            refine ⟨cj, (fgt_cons (by simp only [Heap.none_at]) (by (simp -dsimp only [zzB, tys, ite_self, opnL, callB, stepOp, ofVal, opBuiltin, opLen, PV.sk, scalBin, scalUn, intBin, opLoad, natOf, opConvert, opField, cellsP, oneP, Value.oneCell', opStore, toIV, scalT, scalA, scalC, boxesA, boxesC, ↓reduceIte, Nat.reduceSub, Nat.reduceEqDiff, Nat.reduceAdd, Nat.reduceMul, Nat.reduceLT, Nat.reduceLeDiff, Int.reduceToNat, Int.reduceLE, Int.reduceLT, Int.reduceNeg, reduceCtorEq, notIn_cons, notIn_nil]) <;> simp [refsL, refsP, mem_refs_rowP]) (by repeat (first | exact noVar_none _ | refine noVar_row ?_ | refine noVar_rowH ?_ | refine noVar_var ?_ (by simp [refsL, refsP, mem_refs_rowP]))) (fgt_cons (by simp only [Heap.none_at]) (by (simp -dsimp only [zzB, tys, ite_self, opnL, callB, stepOp, ofVal, opBuiltin, opLen, PV.sk, scalBin, scalUn, intBin, opLoad, natOf, opConvert, opField, cellsP, oneP, Value.oneCell', opStore, toIV, scalT, scalA, scalC, boxesA, boxesC, ↓reduceIte, Nat.reduceSub, Nat.reduceEqDiff, Nat.reduceAdd, Nat.reduceMul, Nat.reduceLT, Nat.reduceLeDiff, Int.reduceToNat, Int.reduceLE, Int.reduceLT, Int.reduceNeg, reduceCtorEq, notIn_cons, notIn_nil]) <;> simp [refsL, refsP, mem_refs_rowP]) (by repeat (first | exact noVar_none _ | refine noVar_row ?_ | refine noVar_rowH ?_ | refine noVar_var ?_ (by simp [refsL, refsP, mem_refs_rowP]))) (fgt_cons (by simp only [Heap.none_at]) (by (simp -dsimp only [zzB, tys, ite_self, opnL, callB, stepOp, ofVal, opBuiltin, opLen, PV.sk, scalBin, scalUn, intBin, opLoad, natOf, opConvert, opField, cellsP, oneP, Value.oneCell', opStore, toIV, scalT, scalA, scalC, boxesA, boxesC, ↓reduceIte, Nat.reduceSub, Nat.reduceEqDiff, Nat.reduceAdd, Nat.reduceMul, Nat.reduceLT, Nat.reduceLeDiff, Int.reduceToNat, Int.reduceLE, Int.reduceLT, Int.reduceNeg, reduceCtorEq, notIn_cons, notIn_nil]) <;> simp [refsL, refsP, mem_refs_rowP]) (by repeat (first | exact noVar_none _ | refine noVar_row ?_ | refine noVar_rowH ?_ | refine noVar_var ?_ (by simp [refsL, refsP, mem_refs_rowP]))) (fgt_cons (by simp only [Heap.none_at]) (by (simp -dsimp only [zzB, tys, ite_self, opnL, callB, stepOp, ofVal, opBuiltin, opLen, PV.sk, scalBin, scalUn, intBin, opLoad, natOf, opConvert, opField, cellsP, oneP, Value.oneCell', opStore, toIV, scalT, scalA, scalC, boxesA, boxesC, ↓reduceIte, Nat.reduceSub, Nat.reduceEqDiff, Nat.reduceAdd, Nat.reduceMul, Nat.reduceLT, Nat.reduceLeDiff, Int.reduceToNat, Int.reduceLE, Int.reduceLT, Int.reduceNeg, reduceCtorEq, notIn_cons, notIn_nil]) <;> simp [refsL, refsP, mem_refs_rowP]) (by repeat (first | exact noVar_none _ | refine noVar_row ?_ | refine noVar_rowH ?_ | refine noVar_var ?_ (by simp [refsL, refsP, mem_refs_rowP]))) (fgt_cons (by simp only [Heap.none_at]) (by (simp -dsimp only [zzB, tys, ite_self, opnL, callB, stepOp, ofVal, opBuiltin, opLen, PV.sk, scalBin, scalUn, intBin, opLoad, natOf, opConvert, opField, cellsP, oneP, Value.oneCell', opStore, toIV, scalT, scalA, scalC, boxesA, boxesC, ↓reduceIte, Nat.reduceSub, Nat.reduceEqDiff, Nat.reduceAdd, Nat.reduceMul, Nat.reduceLT, Nat.reduceLeDiff, Int.reduceToNat, Int.reduceLE, Int.reduceLT, Int.reduceNeg, reduceCtorEq, notIn_cons, notIn_nil]) <;> simp [refsL, refsP, mem_refs_rowP]) (by repeat (first | exact noVar_none _ | refine noVar_row ?_ | refine noVar_rowH ?_ | refine noVar_var ?_ (by simp [refsL, refsP, mem_refs_rowP]))) (fgt_cons (by simp only [Heap.none_at]) (by (simp -dsimp only [zzB, tys, ite_self, opnL, callB, stepOp, ofVal, opBuiltin, opLen, PV.sk, scalBin, scalUn, intBin, opLoad, natOf, opConvert, opField, cellsP, oneP, Value.oneCell', opStore, toIV, scalT, scalA, scalC, boxesA, boxesC, ↓reduceIte, Nat.reduceSub, Nat.reduceEqDiff, Nat.reduceAdd, Nat.reduceMul, Nat.reduceLT, Nat.reduceLeDiff, Int.reduceToNat, Int.reduceLE, Int.reduceLT, Int.reduceNeg, reduceCtorEq, notIn_cons, notIn_nil]) <;> simp [refsL, refsP, mem_refs_rowP]) (by repeat (first | exact noVar_none _ | refine noVar_row ?_ | refine noVar_rowH ?_ | refine noVar_var ?_ (by simp [refsL, refsP, mem_refs_rowP]))) (fgt_cons (by simp only [Heap.none_at]) (by (simp -dsimp only [zzB, tys, ite_self, opnL, callB, stepOp, ofVal, opBuiltin, opLen, PV.sk, scalBin, scalUn, intBin, opLoad, natOf, opConvert, opField, cellsP, oneP, Value.oneCell', opStore, toIV, scalT, scalA, scalC, boxesA, boxesC, ↓reduceIte, Nat.reduceSub, Nat.reduceEqDiff, Nat.reduceAdd, Nat.reduceMul, Nat.reduceLT, Nat.reduceLeDiff, Int.reduceToNat, Int.reduceLE, Int.reduceLT, Int.reduceNeg, reduceCtorEq, notIn_cons, notIn_nil]) <;> simp [refsL, refsP, mem_refs_rowP]) (by repeat (first | exact noVar_none _ | refine noVar_row ?_ | refine noVar_rowH ?_ | refine noVar_var ?_ (by simp [refsL, refsP, mem_refs_rowP]))) (fgt_cons (by simp only [Heap.none_at]) (by (simp -dsimp only [zzB, tys, ite_self, opnL, callB, stepOp, ofVal, opBuiltin, opLen, PV.sk, scalBin, scalUn, intBin, opLoad, natOf, opConvert, opField, cellsP, oneP, Value.oneCell', opStore, toIV, scalT, scalA, scalC, boxesA, boxesC, ↓reduceIte, Nat.reduceSub, Nat.reduceEqDiff, Nat.reduceAdd, Nat.reduceMul, Nat.reduceLT, Nat.reduceLeDiff, Int.reduceToNat, Int.reduceLE, Int.reduceLT, Int.reduceNeg, reduceCtorEq, notIn_cons, notIn_nil]) <;> simp [refsL, refsP, mem_refs_rowP]) (by repeat (first | exact noVar_none _ | refine noVar_row ?_ | refine noVar_rowH ?_ | refine noVar_var ?_ (by simp [refsL, refsP, mem_refs_rowP]))) (fgt_cons (by simp only [Heap.none_at]) (by (simp -dsimp only [zzB, tys, ite_self, opnL, callB, stepOp, ofVal, opBuiltin, opLen, PV.sk, scalBin, scalUn, intBin, opLoad, natOf, opConvert, opField, cellsP, oneP, Value.oneCell', opStore, toIV, scalT, scalA, scalC, boxesA, boxesC, ↓reduceIte, Nat.reduceSub, Nat.reduceEqDiff, Nat.reduceAdd, Nat.reduceMul, Nat.reduceLT, Nat.reduceLeDiff, Int.reduceToNat, Int.reduceLE, Int.reduceLT, Int.reduceNeg, reduceCtorEq, notIn_cons, notIn_nil]) <;> simp [refsL, refsP, mem_refs_rowP]) (by repeat (first | exact noVar_none _ | refine noVar_row ?_ | refine noVar_rowH ?_ | refine noVar_var ?_ (by simp [refsL, refsP, mem_refs_rowP]))) (fgt_nil)))))))))), rfl, ?_⟩
            funext c
            simp (maxSteps := 20000000) only [Heap.drop_at, rowH_app, Heap.put_at, Heap.none_at, List.mem_cons, List.not_mem_nil, or_false]
            by_cases e0 : c = (0, 0) :: base
            · subst e0; simp []
            by_cases e1 : c = (0, 1) :: base
            · subst e1; simp []
            by_cases e2 : c = (5, 7) :: base
            · subst e2; simp []
            by_cases e3 : c = (10, 3) :: base
            · subst e3; simp []
            by_cases e4 : c = (11, 8) :: base
            · subst e4; simp []
            by_cases e5 : c = (12, 8) :: base
            · subst e5; simp []
            by_cases e6 : c = (13, 8) :: base
            · subst e6; simp []
            by_cases e7 : c = (14, 7) :: base
            · subst e7; simp []
            by_cases e8 : c = (18, 2) :: base
            · subst e8; simp []
            by_cases e9 : c = (22, 2) :: base
            · subst e9; simp []
            simp [e0, e1, e2, e3, e4, e5, e6, e7, e8, e9]
          · obtain rfl : R = j := by omega
            repeat (first | refine ⟨(by show drawK _ _ = true; kernel_rfl : drawX _ _ _), ?_⟩ | exact (by show drawK _ _ = true; kernel_rfl : drawX _ _ _) | simp -dsimp (maxSteps := 20000000) (disch := omega) only [simx, zzC, zzB, tys, ite_self, opnL, callB, stepOp, ofVal, opBuiltin, opLen, PV.sk, scalBin, scalUn, intBin, opLoad, natOf, opConvert, opField, cellsP, oneP, Value.oneCell', opStore, toIV, scalT, scalA, scalC, boxesA, boxesC, ↓reduceIte, Nat.reduceSub, Nat.reduceEqDiff, Nat.reduceAdd, Nat.reduceMul, Nat.reduceLT, Nat.reduceLeDiff, Int.reduceToNat, Int.reduceLE, Int.reduceLT, Int.reduceNeg, reduceCtorEq, zzR, gos, Int.reduceAdd, Int.reduceSub, Int.reduceMul, Int.reduceEq])
      · clear s1
        repeat (first | ((first | refine X_call_fn2 rfl (by simp only [tys]) ?_ | refine X_dcall_fn2 rfl (by simp only [tys]) ?_); apply Exists.intro; apply And.intro; (focus (simp -dsimp only [simx, zzC, zzB, tys, ite_self, opnL, callB, stepOp, ofVal, opBuiltin, opLen, PV.sk, scalBin, scalUn, intBin, opLoad, natOf, opConvert, opField, cellsP, oneP, Value.oneCell', opStore, toIV, scalT, scalA, scalC, boxesA, boxesC, ↓reduceIte, Nat.reduceSub, Nat.reduceEqDiff, Nat.reduceAdd, Nat.reduceMul, Nat.reduceLT, Nat.reduceLeDiff, Int.reduceToNat, Int.reduceLE, Int.reduceLT, Int.reduceNeg, reduceCtorEq, zzL, if_true, if_false, ll, tk, List.length_map, u1, t1, u2, t2] <;> rfl)); apply Exists.intro; apply And.intro; (focus (first | exact pk1 | exact pk2 | exact pk3 | exact m2 | exact n1 | exact n2 | exact s2))) | refine ⟨(by show drawK _ _ = true; kernel_rfl : drawX _ _ _), ?_⟩ | exact (by show drawK _ _ = true; kernel_rfl : drawX _ _ _) | simp -dsimp (maxSteps := 20000000) (disch := omega) only [simx, zzC, zzB, tys, ite_self, opnL, callB, stepOp, ofVal, opBuiltin, opLen, PV.sk, scalBin, scalUn, intBin, opLoad, natOf, opConvert, opField, cellsP, oneP, Value.oneCell', opStore, toIV, scalT, scalA, scalC, boxesA, boxesC, ↓reduceIte, Nat.reduceSub, Nat.reduceEqDiff, Nat.reduceAdd, Nat.reduceMul, Nat.reduceLT, Nat.reduceLeDiff, Int.reduceToNat, Int.reduceLE, Int.reduceLT, Int.reduceNeg, reduceCtorEq, gos, Int.reduceAdd, Int.reduceSub, Int.reduceMul, Int.reduceEq, rp, rh, z1, z2, c1, c2, x1, x2, x3, iR, iC, iR', iC', f1, f2, f3, f4, e1, e2, e3, e4, e5, e6, tlen, tbl_len, List.length_map])
        refine X_loopH [7, 29, 31, 33] [(0, 1) :: base, (5, 7) :: base, (10, 3) :: base, (11, 8) :: base, (12, 8) :: base, (13, 8) :: base, (14, 7) :: base, (18, 2) :: base, (22, 2) :: base] (0) (R) (fun j => True) (fun j => [(33, i64 j)]) (fun j => Heap.none.put ((0, 0) :: base) (.var [i64 R, i64 C, lu l])) ?_ ?_ ?_ ?_ ?_ (by decide) ?_
        · exact (fgt_cons (by simp only [Heap.none_at]) (by (simp -dsimp only [zzB, tys, ite_self, opnL, callB, stepOp, ofVal, opBuiltin, opLen, PV.sk, scalBin, scalUn, intBin, opLoad, natOf, opConvert, opField, cellsP, oneP, Value.oneCell', opStore, toIV, scalT, scalA, scalC, boxesA, boxesC, ↓reduceIte, Nat.reduceSub, Nat.reduceEqDiff, Nat.reduceAdd, Nat.reduceMul, Nat.reduceLT, Nat.reduceLeDiff, Int.reduceToNat, Int.reduceLE, Int.reduceLT, Int.reduceNeg, reduceCtorEq, notIn_cons, notIn_nil]) <;> simp [refsL, refsP, mem_refs_rowP]) (by repeat (first | exact noVar_none _ | refine noVar_row ?_ | refine noVar_rowH ?_ | refine noVar_var ?_ (by simp [refsL, refsP, mem_refs_rowP]))) (fgt_cons (by simp only [Heap.none_at]) (by (simp -dsimp only [zzB, tys, ite_self, opnL, callB, stepOp, ofVal, opBuiltin, opLen, PV.sk, scalBin, scalUn, intBin, opLoad, natOf, opConvert, opField, cellsP, oneP, Value.oneCell', opStore, toIV, scalT, scalA, scalC, boxesA, boxesC, ↓reduceIte, Nat.reduceSub, Nat.reduceEqDiff, Nat.reduceAdd, Nat.reduceMul, Nat.reduceLT, Nat.reduceLeDiff, Int.reduceToNat, Int.reduceLE, Int.reduceLT, Int.reduceNeg, reduceCtorEq, notIn_cons, notIn_nil]) <;> simp [refsL, refsP, mem_refs_rowP]) (by repeat (first | exact noVar_none _ | refine noVar_row ?_ | refine noVar_rowH ?_ | refine noVar_var ?_ (by simp [refsL, refsP, mem_refs_rowP]))) (fgt_cons (by simp only [Heap.none_at]) (by (simp -dsimp only [zzB, tys, ite_self, opnL, callB, stepOp, ofVal, opBuiltin, opLen, PV.sk, scalBin, scalUn, intBin, opLoad, natOf, opConvert, opField, cellsP, oneP, Value.oneCell', opStore, toIV, scalT, scalA, scalC, boxesA, boxesC, ↓reduceIte, Nat.reduceSub, Nat.reduceEqDiff, Nat.reduceAdd, Nat.reduceMul, Nat.reduceLT, Nat.reduceLeDiff, Int.reduceToNat, Int.reduceLE, Int.reduceLT, Int.reduceNeg, reduceCtorEq, notIn_cons, notIn_nil]) <;> simp [refsL, refsP, mem_refs_rowP]) (by repeat (first | exact noVar_none _ | refine noVar_row ?_ | refine noVar_rowH ?_ | refine noVar_var ?_ (by simp [refsL, refsP, mem_refs_rowP]))) (fgt_cons (by simp only [Heap.none_at]) (by (simp -dsimp only [zzB, tys, ite_self, opnL, callB, stepOp, ofVal, opBuiltin, opLen, PV.sk, scalBin, scalUn, intBin, opLoad, natOf, opConvert, opField, cellsP, oneP, Value.oneCell', opStore, toIV, scalT, scalA, scalC, boxesA, boxesC, ↓reduceIte, Nat.reduceSub, Nat.reduceEqDiff, Nat.reduceAdd, Nat.reduceMul, Nat.reduceLT, Nat.reduceLeDiff, Int.reduceToNat, Int.reduceLE, Int.reduceLT, Int.reduceNeg, reduceCtorEq, notIn_cons, notIn_nil]) <;> simp [refsL, refsP, mem_refs_rowP]) (by repeat (first | exact noVar_none _ | refine noVar_row ?_ | refine noVar_rowH ?_ | refine noVar_var ?_ (by simp [refsL, refsP, mem_refs_rowP]))) (fgt_cons (by simp only [Heap.none_at]) (by (simp -dsimp only [zzB, tys, ite_self, opnL, callB, stepOp, ofVal, opBuiltin, opLen, PV.sk, scalBin, scalUn, intBin, opLoad, natOf, opConvert, opField, cellsP, oneP, Value.oneCell', opStore, toIV, scalT, scalA, scalC, boxesA, boxesC, ↓reduceIte, Nat.reduceSub, Nat.reduceEqDiff, Nat.reduceAdd, Nat.reduceMul, Nat.reduceLT, Nat.reduceLeDiff, Int.reduceToNat, Int.reduceLE, Int.reduceLT, Int.reduceNeg, reduceCtorEq, notIn_cons, notIn_nil]) <;> simp [refsL, refsP, mem_refs_rowP]) (by repeat (first | exact noVar_none _ | refine noVar_row ?_ | refine noVar_rowH ?_ | refine noVar_var ?_ (by simp [refsL, refsP, mem_refs_rowP]))) (fgt_cons (by simp only [Heap.none_at]) (by (simp -dsimp only [zzB, tys, ite_self, opnL, callB, stepOp, ofVal, opBuiltin, opLen, PV.sk, scalBin, scalUn, intBin, opLoad, natOf, opConvert, opField, cellsP, oneP, Value.oneCell', opStore, toIV, scalT, scalA, scalC, boxesA, boxesC, ↓reduceIte, Nat.reduceSub, Nat.reduceEqDiff, Nat.reduceAdd, Nat.reduceMul, Nat.reduceLT, Nat.reduceLeDiff, Int.reduceToNat, Int.reduceLE, Int.reduceLT, Int.reduceNeg, reduceCtorEq, notIn_cons, notIn_nil]) <;> simp [refsL, refsP, mem_refs_rowP]) (by repeat (first | exact noVar_none _ | refine noVar_row ?_ | refine noVar_rowH ?_ | refine noVar_var ?_ (by simp [refsL, refsP, mem_refs_rowP]))) (fgt_cons (by simp only [Heap.none_at]) (by (simp -dsimp only [zzB, tys, ite_self, opnL, callB, stepOp, ofVal, opBuiltin, opLen, PV.sk, scalBin, scalUn, intBin, opLoad, natOf, opConvert, opField, cellsP, oneP, Value.oneCell', opStore, toIV, scalT, scalA, scalC, boxesA, boxesC, ↓reduceIte, Nat.reduceSub, Nat.reduceEqDiff, Nat.reduceAdd, Nat.reduceMul, Nat.reduceLT, Nat.reduceLeDiff, Int.reduceToNat, Int.reduceLE, Int.reduceLT, Int.reduceNeg, reduceCtorEq, notIn_cons, notIn_nil]) <;> simp [refsL, refsP, mem_refs_rowP]) (by repeat (first | exact noVar_none _ | refine noVar_row ?_ | refine noVar_rowH ?_ | refine noVar_var ?_ (by simp [refsL, refsP, mem_refs_rowP]))) (fgt_cons (by simp only [Heap.none_at]) (by (simp -dsimp only [zzB, tys, ite_self, opnL, callB, stepOp, ofVal, opBuiltin, opLen, PV.sk, scalBin, scalUn, intBin, opLoad, natOf, opConvert, opField, cellsP, oneP, Value.oneCell', opStore, toIV, scalT, scalA, scalC, boxesA, boxesC, ↓reduceIte, Nat.reduceSub, Nat.reduceEqDiff, Nat.reduceAdd, Nat.reduceMul, Nat.reduceLT, Nat.reduceLeDiff, Int.reduceToNat, Int.reduceLE, Int.reduceLT, Int.reduceNeg, reduceCtorEq, notIn_cons, notIn_nil]) <;> simp [refsL, refsP, mem_refs_rowP]) (by repeat (first | exact noVar_none _ | refine noVar_row ?_ | refine noVar_rowH ?_ | refine noVar_var ?_ (by simp [refsL, refsP, mem_refs_rowP]))) (fgt_cons (by simp only [Heap.none_at]) (by (simp -dsimp only [zzB, tys, ite_self, opnL, callB, stepOp, ofVal, opBuiltin, opLen, PV.sk, scalBin, scalUn, intBin, opLoad, natOf, opConvert, opField, cellsP, oneP, Value.oneCell', opStore, toIV, scalT, scalA, scalC, boxesA, boxesC, ↓reduceIte, Nat.reduceSub, Nat.reduceEqDiff, Nat.reduceAdd, Nat.reduceMul, Nat.reduceLT, Nat.reduceLeDiff, Int.reduceToNat, Int.reduceLE, Int.reduceLT, Int.reduceNeg, reduceCtorEq, notIn_cons, notIn_nil]) <;> simp [refsL, refsP, mem_refs_rowP]) (by repeat (first | exact noVar_none _ | refine noVar_row ?_ | refine noVar_rowH ?_ | refine noVar_var ?_ (by simp [refsL, refsP, mem_refs_rowP]))) (fgt_nil))))))))))
        · ((simp -dsimp (disch := omega) only [simx, zzB, tys, ite_self, opnL, callB, stepOp, ofVal, opBuiltin, opLen, PV.sk, scalBin, scalUn, intBin, opLoad, natOf, opConvert, opField, cellsP, oneP, Value.oneCell', opStore, toIV, scalT, scalA, scalC, boxesA, boxesC, ↓reduceIte, Nat.reduceSub, Nat.reduceEqDiff, Nat.reduceAdd, Nat.reduceMul, Nat.reduceLT, Nat.reduceLeDiff, Int.reduceToNat, Int.reduceLE, Int.reduceLT, Int.reduceNeg, reduceCtorEq, gos, Int.reduceAdd, Int.reduceSub, Int.reduceMul, Int.reduceEq]) <;> first | rfl | simp)
        · funext c
          simp (maxSteps := 20000000) only [Heap.drop_at, rowH_app, Heap.put_at, Heap.none_at, List.mem_cons, List.not_mem_nil, or_false]
          by_cases e0 : c = (0, 0) :: base
          · subst e0; simp []
          by_cases e1 : c = (0, 1) :: base
          · subst e1; simp []
          by_cases e2 : c = (5, 7) :: base
          · subst e2; simp []
          by_cases e3 : c = (10, 3) :: base
          · subst e3; simp []
          by_cases e4 : c = (11, 8) :: base
          · subst e4; simp []
          by_cases e5 : c = (12, 8) :: base
          · subst e5; simp []
          by_cases e6 : c = (13, 8) :: base
          · subst e6; simp []
          by_cases e7 : c = (14, 7) :: base
          · subst e7; simp []
          by_cases e8 : c = (18, 2) :: base
          · subst e8; simp []
          by_cases e9 : c = (22, 2) :: base
          · subst e9; simp []
          simp [e0, e1, e2, e3, e4, e5, e6, e7, e8, e9]
        · omega
        · trivial
        · intro j hj _
          by_cases cj : j < R
          · have d := atw j cj
            have g := tu2 j cj
            generalize l.getD (j * C + K) 0 = x at d g
            repeat (first | ((first | refine X_call_fn2 rfl (by simp only [tys]) ?_ | refine X_dcall_fn2 rfl (by simp only [tys]) ?_); apply Exists.intro; apply And.intro; (focus (simp -dsimp only [simx, zzC, zzB, tys, ite_self, opnL, callB, stepOp, ofVal, opBuiltin, opLen, PV.sk, scalBin, scalUn, intBin, opLoad, natOf, opConvert, opField, cellsP, oneP, Value.oneCell', opStore, toIV, scalT, scalA, scalC, boxesA, boxesC, ↓reduceIte, Nat.reduceSub, Nat.reduceEqDiff, Nat.reduceAdd, Nat.reduceMul, Nat.reduceLT, Nat.reduceLeDiff, Int.reduceToNat, Int.reduceLE, Int.reduceLT, Int.reduceNeg, reduceCtorEq, zzL, if_true, if_false] <;> rfl)); apply Exists.intro; apply And.intro; (focus (first | exact d))) | refine ⟨(by show drawK _ _ = true; kernel_rfl : drawX _ _ _), ?_⟩ | exact (by show drawK _ _ = true; kernel_rfl : drawX _ _ _) | simp -dsimp (maxSteps := 20000000) (disch := omega) only [simx, zzC, zzB, tys, ite_self, opnL, callB, stepOp, ofVal, opBuiltin, opLen, PV.sk, scalBin, scalUn, intBin, opLoad, natOf, opConvert, opField, cellsP, oneP, Value.oneCell', opStore, toIV, scalT, scalA, scalC, boxesA, boxesC, ↓reduceIte, Nat.reduceSub, Nat.reduceEqDiff, Nat.reduceAdd, Nat.reduceMul, Nat.reduceLT, Nat.reduceLeDiff, Int.reduceToNat, Int.reduceLE, Int.reduceLT, Int.reduceNeg, reduceCtorEq, gos, Int.reduceAdd, Int.reduceSub, Int.reduceMul, Int.reduceEq, cj, g, tlen])
            refine ⟨cj, (fgt_cons (by simp only [Heap.none_at]) (by (simp -dsimp only [zzB, tys, ite_self, opnL, callB, stepOp, ofVal, opBuiltin, opLen, PV.sk, scalBin, scalUn, intBin, opLoad, natOf, opConvert, opField, cellsP, oneP, Value.oneCell', opStore, toIV, scalT, scalA, scalC, boxesA, boxesC, ↓reduceIte, Nat.reduceSub, Nat.reduceEqDiff, Nat.reduceAdd, Nat.reduceMul, Nat.reduceLT, Nat.reduceLeDiff, Int.reduceToNat, Int.reduceLE, Int.reduceLT, Int.reduceNeg, reduceCtorEq, notIn_cons, notIn_nil]) <;> simp [refsL, refsP, mem_refs_rowP]) (by repeat (first | exact noVar_none _ | refine noVar_row ?_ | refine noVar_rowH ?_ | refine noVar_var ?_ (by simp [refsL, refsP, mem_refs_rowP]))) (fgt_cons (by simp only [Heap.none_at]) (by (simp -dsimp only [zzB, tys, ite_self, opnL, callB, stepOp, ofVal, opBuiltin, opLen, PV.sk, scalBin, scalUn, intBin, opLoad, natOf, opConvert, opField, cellsP, oneP, Value.oneCell', opStore, toIV, scalT, scalA, scalC, boxesA, boxesC, ↓reduceIte, Nat.reduceSub, Nat.reduceEqDiff, Nat.reduceAdd, Nat.reduceMul, Nat.reduceLT, Nat.reduceLeDiff, Int.reduceToNat, Int.reduceLE, Int.reduceLT, Int.reduceNeg, reduceCtorEq, notIn_cons, notIn_nil]) <;> simp [refsL, refsP, mem_refs_rowP]) (by repeat (first | exact noVar_none _ | refine noVar_row ?_ | refine noVar_rowH ?_ | refine noVar_var ?_ (by simp [refsL, refsP, mem_refs_rowP]))) (fgt_cons (by simp only [Heap.none_at]) (by (simp -dsimp only [zzB, tys, ite_self, opnL, callB, stepOp, ofVal, opBuiltin, opLen, PV.sk, scalBin, scalUn, intBin, opLoad, natOf, opConvert, opField, cellsP, oneP, Value.oneCell', opStore, toIV, scalT, scalA, scalC, boxesA, boxesC, ↓reduceIte, Nat.reduceSub, Nat.reduceEqDiff, Nat.reduceAdd, Nat.reduceMul, Nat.reduceLT, Nat.reduceLeDiff, Int.reduceToNat, Int.reduceLE, Int.reduceLT, Int.reduceNeg, reduceCtorEq, notIn_cons, notIn_nil]) <;> simp [refsL, refsP, mem_refs_rowP]) (by repeat (first | exact noVar_none _ | refine noVar_row ?_ | refine noVar_rowH ?_ | refine noVar_var ?_ (by simp [refsL, refsP, mem_refs_rowP]))) (fgt_cons (by simp only [Heap.none_at]) (by (simp -dsimp only [zzB, tys, ite_self, opnL, callB, stepOp, ofVal, opBuiltin, opLen, PV.sk, scalBin, scalUn, intBin, opLoad, natOf, opConvert, opField, cellsP, oneP, Value.oneCell', opStore, toIV, scalT, scalA, scalC, boxesA, boxesC, ↓reduceIte, Nat.reduceSub, Nat.reduceEqDiff, Nat.reduceAdd, Nat.reduceMul, Nat.reduceLT, Nat.reduceLeDiff, Int.reduceToNat, Int.reduceLE, Int.reduceLT, Int.reduceNeg, reduceCtorEq, notIn_cons, notIn_nil]) <;> simp [refsL, refsP, mem_refs_rowP]) (by repeat (first | exact noVar_none _ | refine noVar_row ?_ | refine noVar_rowH ?_ | refine noVar_var ?_ (by simp [refsL, refsP, mem_refs_rowP]))) (fgt_cons (by simp only [Heap.none_at]) (by (simp -dsimp only [zzB, tys, ite_self, opnL, callB, stepOp, ofVal, opBuiltin, opLen, PV.sk, scalBin, scalUn, intBin, opLoad, natOf, opConvert, opField, cellsP, oneP, Value.oneCell', opStore, toIV, scalT, scalA, scalC, boxesA, boxesC, ↓reduceIte, Nat.reduceSub, Nat.reduceEqDiff, Nat.reduceAdd, Nat.reduceMul, Nat.reduceLT, Nat.reduceLeDiff, Int.reduceToNat, Int.reduceLE, Int.reduceLT, Int.reduceNeg, reduceCtorEq, notIn_cons, notIn_nil]) <;> simp [refsL, refsP, mem_refs_rowP]) (by repeat (first | exact noVar_none _ | refine noVar_row ?_ | refine noVar_rowH ?_ | refine noVar_var ?_ (by simp [refsL, refsP, mem_refs_rowP]))) (fgt_cons (by simp only [Heap.none_at]) (by (simp -dsimp only [zzB, tys, ite_self, opnL, callB, stepOp, ofVal, opBuiltin, opLen, PV.sk, scalBin, scalUn, intBin, opLoad, natOf, opConvert, opField, cellsP, oneP, Value.oneCell', opStore, toIV, scalT, scalA, scalC, boxesA, boxesC, ↓reduceIte, Nat.reduceSub, Nat.reduceEqDiff, Nat.reduceAdd, Nat.reduceMul, Nat.reduceLT, Nat.reduceLeDiff, Int.reduceToNat, Int.reduceLE, Int.reduceLT, Int.reduceNeg, reduceCtorEq, notIn_cons, notIn_nil]) <;> simp [refsL, refsP, mem_refs_rowP]) (by repeat (first | exact noVar_none _ | refine noVar_row ?_ | refine noVar_rowH ?_ | refine noVar_var ?_ (by simp [refsL, refsP, mem_refs_rowP]))) (fgt_cons (by simp only [Heap.none_at]) (by (simp -dsimp only [zzB, tys, ite_self, opnL, callB, stepOp, ofVal, opBuiltin, opLen, PV.sk, scalBin, scalUn, intBin, opLoad, natOf, opConvert, opField, cellsP, oneP, Value.oneCell', opStore, toIV, scalT, scalA, scalC, boxesA, boxesC, ↓reduceIte, Nat.reduceSub, Nat.reduceEqDiff, Nat.reduceAdd, Nat.reduceMul, Nat.reduceLT, Nat.reduceLeDiff, Int.reduceToNat, Int.reduceLE, Int.reduceLT, Int.reduceNeg, reduceCtorEq, notIn_cons, notIn_nil]) <;> simp [refsL, refsP, mem_refs_rowP]) (by repeat (first | exact noVar_none _ | refine noVar_row ?_ | refine noVar_rowH ?_ | refine noVar_var ?_ (by simp [refsL, refsP, mem_refs_rowP]))) (fgt_cons (by simp only [Heap.none_at]) (by (simp -dsimp only [zzB, tys, ite_self, opnL, callB, stepOp, ofVal, opBuiltin, opLen, PV.sk, scalBin, scalUn, intBin, opLoad, natOf, opConvert, opField, cellsP, oneP, Value.oneCell', opStore, toIV, scalT, scalA, scalC, boxesA, boxesC, ↓reduceIte, Nat.reduceSub, Nat.reduceEqDiff, Nat.reduceAdd, Nat.reduceMul, Nat.reduceLT, Nat.reduceLeDiff, Int.reduceToNat, Int.reduceLE, Int.reduceLT, Int.reduceNeg, reduceCtorEq, notIn_cons, notIn_nil]) <;> simp [refsL, refsP, mem_refs_rowP]) (by repeat (first | exact noVar_none _ | refine noVar_row ?_ | refine noVar_rowH ?_ | refine noVar_var ?_ (by simp [refsL, refsP, mem_refs_rowP]))) (fgt_cons (by simp only [Heap.none_at]) (by (simp -dsimp only [zzB, tys, ite_self, opnL, callB, stepOp, ofVal, opBuiltin, opLen, PV.sk, scalBin, scalUn, intBin, opLoad, natOf, opConvert, opField, cellsP, oneP, Value.oneCell', opStore, toIV, scalT, scalA, scalC, boxesA, boxesC, ↓reduceIte, Nat.reduceSub, Nat.reduceEqDiff, Nat.reduceAdd, Nat.reduceMul, Nat.reduceLT, Nat.reduceLeDiff, Int.reduceToNat, Int.reduceLE, Int.reduceLT, Int.reduceNeg, reduceCtorEq, notIn_cons, notIn_nil]) <;> simp [refsL, refsP, mem_refs_rowP]) (by repeat (first | exact noVar_none _ | refine noVar_row ?_ | refine noVar_rowH ?_ | refine noVar_var ?_ (by simp [refsL, refsP, mem_refs_rowP]))) (fgt_nil)))))))))), rfl, ?_⟩
            funext c
            simp (maxSteps := 20000000) only [Heap.drop_at, rowH_app, Heap.put_at, Heap.none_at, List.mem_cons, List.not_mem_nil, or_false]
            by_cases e0 : c = (0, 0) :: base
            · subst e0; simp []
            by_cases e1 : c = (0, 1) :: base
            · subst e1; simp []
            by_cases e2 : c = (5, 7) :: base
            · subst e2; simp []
            by_cases e3 : c = (10, 3) :: base
            · subst e3; simp []
            by_cases e4 : c = (11, 8) :: base
            · subst e4; simp []
            by_cases e5 : c = (12, 8) :: base
            · subst e5; simp []
            by_cases e6 : c = (13, 8) :: base
            · subst e6; simp []
            by_cases e7 : c = (14, 7) :: base
            · subst e7; simp []
            by_cases e8 : c = (18, 2) :: base
            · subst e8; simp []
            by_cases e9 : c = (22, 2) :: base
            · subst e9; simp []
            simp [e0, e1, e2, e3, e4, e5, e6, e7, e8, e9]
          · obtain rfl : R = j := by omega
            repeat (first | refine ⟨(by show drawK _ _ = true; kernel_rfl : drawX _ _ _), ?_⟩ | exact (by show drawK _ _ = true; kernel_rfl : drawX _ _ _) | simp -dsimp (maxSteps := 20000000) (disch := omega) only [simx, zzC, zzB, tys, ite_self, opnL, callB, stepOp, ofVal, opBuiltin, opLen, PV.sk, scalBin, scalUn, intBin, opLoad, natOf, opConvert, opField, cellsP, oneP, Value.oneCell', opStore, toIV, scalT, scalA, scalC, boxesA, boxesC, ↓reduceIte, Nat.reduceSub, Nat.reduceEqDiff, Nat.reduceAdd, Nat.reduceMul, Nat.reduceLT, Nat.reduceLeDiff, Int.reduceToNat, Int.reduceLE, Int.reduceLT, Int.reduceNeg, reduceCtorEq, zzR, gos, Int.reduceAdd, Int.reduceSub, Int.reduceMul, Int.reduceEq])
      · clear s1
        repeat (first | ((first | refine X_call_fn2 rfl (by simp only [tys]) ?_ | refine X_dcall_fn2 rfl (by simp only [tys]) ?_); apply Exists.intro; apply And.intro; (focus (simp -dsimp only [simx, zzC, zzB, tys, ite_self, opnL, callB, stepOp, ofVal, opBuiltin, opLen, PV.sk, scalBin, scalUn, intBin, opLoad, natOf, opConvert, opField, cellsP, oneP, Value.oneCell', opStore, toIV, scalT, scalA, scalC, boxesA, boxesC, ↓reduceIte, Nat.reduceSub, Nat.reduceEqDiff, Nat.reduceAdd, Nat.reduceMul, Nat.reduceLT, Nat.reduceLeDiff, Int.reduceToNat, Int.reduceLE, Int.reduceLT, Int.reduceNeg, reduceCtorEq, zzL, if_true, if_false, ll, tk, List.length_map, u1, t1, u2, t2] <;> rfl)); apply Exists.intro; apply And.intro; (focus (first | exact pk1 | exact pk2 | exact pk3 | exact m2 | exact n1 | exact n2 | exact s2))) | refine ⟨(by show drawK _ _ = true; kernel_rfl : drawX _ _ _), ?_⟩ | exact (by show drawK _ _ = true; kernel_rfl : drawX _ _ _) | simp -dsimp (maxSteps := 20000000) (disch := omega) only [simx, zzC, zzB, tys, ite_self, opnL, callB, stepOp, ofVal, opBuiltin, opLen, PV.sk, scalBin, scalUn, intBin, opLoad, natOf, opConvert, opField, cellsP, oneP, Value.oneCell', opStore, toIV, scalT, scalA, scalC, boxesA, boxesC, ↓reduceIte, Nat.reduceSub, Nat.reduceEqDiff, Nat.reduceAdd, Nat.reduceMul, Nat.reduceLT, Nat.reduceLeDiff, Int.reduceToNat, Int.reduceLE, Int.reduceLT, Int.reduceNeg, reduceCtorEq, gos, Int.reduceAdd, Int.reduceSub, Int.reduceMul, Int.reduceEq, rp, rh, z1, z2, c1, c2, x1, x2, x3, iR, iC, iR', iC', f1, f2, f3, f4, e1, e2, e3, e4, e5, e6, tlen, tbl_len, List.length_map])
        refine X_loopH [7, 29, 31, 33] [(0, 1) :: base, (5, 7) :: base, (10, 3) :: base, (11, 8) :: base, (12, 8) :: base, (13, 8) :: base, (14, 7) :: base, (18, 2) :: base, (22, 2) :: base] (0) (R) (fun j => True) (fun j => [(33, i64 j)]) (fun j => Heap.none.put ((0, 0) :: base) (.var [i64 R, i64 C, lu l])) ?_ ?_ ?_ ?_ ?_ (by decide) ?_
        · exact (fgt_cons (by simp only [Heap.none_at]) (by (simp -dsimp only [zzB, tys, ite_self, opnL, callB, stepOp, ofVal, opBuiltin, opLen, PV.sk, scalBin, scalUn, intBin, opLoad, natOf, opConvert, opField, cellsP, oneP, Value.oneCell', opStore, toIV, scalT, scalA, scalC, boxesA, boxesC, ↓reduceIte, Nat.reduceSub, Nat.reduceEqDiff, Nat.reduceAdd, Nat.reduceMul, Nat.reduceLT, Nat.reduceLeDiff, Int.reduceToNat, Int.reduceLE, Int.reduceLT, Int.reduceNeg, reduceCtorEq, notIn_cons, notIn_nil]) <;> simp [refsL, refsP, mem_refs_rowP]) (by repeat (first | exact noVar_none _ | refine noVar_row ?_ | refine noVar_rowH ?_ | refine noVar_var ?_ (by simp [refsL, refsP, mem_refs_rowP]))) (fgt_cons (by simp only [Heap.none_at]) (by (simp -dsimp only [zzB, tys, ite_self, opnL, callB, stepOp, ofVal, opBuiltin, opLen, PV.sk, scalBin, scalUn, intBin, opLoad, natOf, opConvert, opField, cellsP, oneP, Value.oneCell', opStore, toIV, scalT, scalA, scalC, boxesA, boxesC, ↓reduceIte, Nat.reduceSub, Nat.reduceEqDiff, Nat.reduceAdd, Nat.reduceMul, Nat.reduceLT, Nat.reduceLeDiff, Int.reduceToNat, Int.reduceLE, Int.reduceLT, Int.reduceNeg, reduceCtorEq, notIn_cons, notIn_nil]) <;> simp [refsL, refsP, mem_refs_rowP]) (by repeat (first | exact noVar_none _ | refine noVar_row ?_ | refine noVar_rowH ?_ | refine noVar_var ?_ (by simp [refsL, refsP, mem_refs_rowP]))) (fgt_cons (by simp only [Heap.none_at]) (by (simp -dsimp only [zzB, tys, ite_self, opnL, callB, stepOp, ofVal, opBuiltin, opLen, PV.sk, scalBin, scalUn, intBin, opLoad, natOf, opConvert, opField, cellsP, oneP, Value.oneCell', opStore, toIV, scalT, scalA, scalC, boxesA, boxesC, ↓reduceIte, Nat.reduceSub, Nat.reduceEqDiff, Nat.reduceAdd, Nat.reduceMul, Nat.reduceLT, Nat.reduceLeDiff, Int.reduceToNat, Int.reduceLE, Int.reduceLT, Int.reduceNeg, reduceCtorEq, notIn_cons, notIn_nil]) <;> simp [refsL, refsP, mem_refs_rowP]) (by repeat (first | exact noVar_none _ | refine noVar_row ?_ | refine noVar_rowH ?_ | refine noVar_var ?_ (by simp [refsL, refsP, mem_refs_rowP]))) (fgt_cons (by simp only [Heap.none_at]) (by (simp -dsimp only [zzB, tys, ite_self, opnL, callB, stepOp, ofVal, opBuiltin, opLen, PV.sk, scalBin, scalUn, intBin, opLoad, natOf, opConvert, opField, cellsP, oneP, Value.oneCell', opStore, toIV, scalT, scalA, scalC, boxesA, boxesC, ↓reduceIte, Nat.reduceSub, Nat.reduceEqDiff, Nat.reduceAdd, Nat.reduceMul, Nat.reduceLT, Nat.reduceLeDiff, Int.reduceToNat, Int.reduceLE, Int.reduceLT, Int.reduceNeg, reduceCtorEq, notIn_cons, notIn_nil]) <;> simp [refsL, refsP, mem_refs_rowP]) (by repeat (first | exact noVar_none _ | refine noVar_row ?_ | refine noVar_rowH ?_ | refine noVar_var ?_ (by simp [refsL, refsP, mem_refs_rowP]))) (fgt_cons (by simp only [Heap.none_at]) (by (simp -dsimp only [zzB, tys, ite_self, opnL, callB, stepOp, ofVal, opBuiltin, opLen, PV.sk, scalBin, scalUn, intBin, opLoad, natOf, opConvert, opField, cellsP, oneP, Value.oneCell', opStore, toIV, scalT, scalA, scalC, boxesA, boxesC, ↓reduceIte, Nat.reduceSub, Nat.reduceEqDiff, Nat.reduceAdd, Nat.reduceMul, Nat.reduceLT, Nat.reduceLeDiff, Int.reduceToNat, Int.reduceLE, Int.reduceLT, Int.reduceNeg, reduceCtorEq, notIn_cons, notIn_nil]) <;> simp [refsL, refsP, mem_refs_rowP]) (by repeat (first | exact noVar_none _ | refine noVar_row ?_ | refine noVar_rowH ?_ | refine noVar_var ?_ (by simp [refsL, refsP, mem_refs_rowP]))) (fgt_cons (by simp only [Heap.none_at]) (by (simp -dsimp only [zzB, tys, ite_self, opnL, callB, stepOp, ofVal, opBuiltin, opLen, PV.sk, scalBin, scalUn, intBin, opLoad, natOf, opConvert, opField, cellsP, oneP, Value.oneCell', opStore, toIV, scalT, scalA, scalC, boxesA, boxesC, ↓reduceIte, Nat.reduceSub, Nat.reduceEqDiff, Nat.reduceAdd, Nat.reduceMul, Nat.reduceLT, Nat.reduceLeDiff, Int.reduceToNat, Int.reduceLE, Int.reduceLT, Int.reduceNeg, reduceCtorEq, notIn_cons, notIn_nil]) <;> simp [refsL, refsP, mem_refs_rowP]) (by repeat (first | exact noVar_none _ | refine noVar_row ?_ | refine noVar_rowH ?_ | refine noVar_var ?_ (by simp [refsL, refsP, mem_refs_rowP]))) (fgt_cons (by simp only [Heap.none_at]) (by (simp -dsimp only [zzB, tys, ite_self, opnL, callB, stepOp, ofVal, opBuiltin, opLen, PV.sk, scalBin, scalUn, intBin, opLoad, natOf, opConvert, opField, cellsP, oneP, Value.oneCell', opStore, toIV, scalT, scalA, scalC, boxesA, boxesC, ↓reduceIte, Nat.reduceSub, Nat.reduceEqDiff, Nat.reduceAdd, Nat.reduceMul, Nat.reduceLT, Nat.reduceLeDiff, Int.reduceToNat, Int.reduceLE, Int.reduceLT, Int.reduceNeg, reduceCtorEq, notIn_cons, notIn_nil]) <;> simp [refsL, refsP, mem_refs_rowP]) (by repeat (first | exact noVar_none _ | refine noVar_row ?_ | refine noVar_rowH ?_ | refine noVar_var ?_ (by simp [refsL, refsP, mem_refs_rowP]))) (fgt_cons (by simp only [Heap.none_at]) (by (simp -dsimp only [zzB, tys, ite_self, opnL, callB, stepOp, ofVal, opBuiltin, opLen, PV.sk, scalBin, scalUn, intBin, opLoad, natOf, opConvert, opField, cellsP, oneP, Value.oneCell', opStore, toIV, scalT, scalA, scalC, boxesA, boxesC, ↓reduceIte, Nat.reduceSub, Nat.reduceEqDiff, Nat.reduceAdd, Nat.reduceMul, Nat.reduceLT, Nat.reduceLeDiff, Int.reduceToNat, Int.reduceLE, Int.reduceLT, Int.reduceNeg, reduceCtorEq, notIn_cons, notIn_nil]) <;> simp [refsL, refsP, mem_refs_rowP]) (by repeat (first | exact noVar_none _ | refine noVar_row ?_ | refine noVar_rowH ?_ | refine noVar_var ?_ (by simp [refsL, refsP, mem_refs_rowP]))) (fgt_cons (by simp only [Heap.none_at]) (by (simp -dsimp only [zzB, tys, ite_self, opnL, callB, stepOp, ofVal, opBuiltin, opLen, PV.sk, scalBin, scalUn, intBin, opLoad, natOf, opConvert, opField, cellsP, oneP, Value.oneCell', opStore, toIV, scalT, scalA, scalC, boxesA, boxesC, ↓reduceIte, Nat.reduceSub, Nat.reduceEqDiff, Nat.reduceAdd, Nat.reduceMul, Nat.reduceLT, Nat.reduceLeDiff, Int.reduceToNat, Int.reduceLE, Int.reduceLT, Int.reduceNeg, reduceCtorEq, notIn_cons, notIn_nil]) <;> simp [refsL, refsP, mem_refs_rowP]) (by repeat (first | exact noVar_none _ | refine noVar_row ?_ | refine noVar_rowH ?_ | refine noVar_var ?_ (by simp [refsL, refsP, mem_refs_rowP]))) (fgt_nil))))))))))
        · ((simp -dsimp (disch := omega) only [simx, zzB, tys, ite_self, opnL, callB, stepOp, ofVal, opBuiltin, opLen, PV.sk, scalBin, scalUn, intBin, opLoad, natOf, opConvert, opField, cellsP, oneP, Value.oneCell', opStore, toIV, scalT, scalA, scalC, boxesA, boxesC, ↓reduceIte, Nat.reduceSub, Nat.reduceEqDiff, Nat.reduceAdd, Nat.reduceMul, Nat.reduceLT, Nat.reduceLeDiff, Int.reduceToNat, Int.reduceLE, Int.reduceLT, Int.reduceNeg, reduceCtorEq, gos, Int.reduceAdd, Int.reduceSub, Int.reduceMul, Int.reduceEq]) <;> first | rfl | simp)
        · funext c
          simp (maxSteps := 20000000) only [Heap.drop_at, rowH_app, Heap.put_at, Heap.none_at, List.mem_cons, List.not_mem_nil, or_false]
          by_cases e0 : c = (0, 0) :: base
          · subst e0; simp []
          by_cases e1 : c = (0, 1) :: base
          · subst e1; simp []
          by_cases e2 : c = (5, 7) :: base
          · subst e2; simp []
          by_cases e3 : c = (10, 3) :: base
          · subst e3; simp []
          by_cases e4 : c = (11, 8) :: base
          · subst e4; simp []
          by_cases e5 : c = (12, 8) :: base
          · subst e5; simp []
          by_cases e6 : c = (13, 8) :: base
          · subst e6; simp []
          by_cases e7 : c = (14, 7) :: base
          · subst e7; simp []
          by_cases e8 : c = (18, 2) :: base
          · subst e8; simp []
          by_cases e9 : c = (22, 2) :: base
          · subst e9; simp []
          simp [e0, e1, e2, e3, e4, e5, e6, e7, e8, e9]
        · omega
        · trivial
        · intro j hj _
          by_cases cj : j < R
          · have d := atw j cj
            have g := tu2 j cj
            generalize l.getD (j * C + K) 0 = x at d g
            repeat (first | ((first | refine X_call_fn2 rfl (by simp only [tys]) ?_ | refine X_dcall_fn2 rfl (by simp only [tys]) ?_); apply Exists.intro; apply And.intro; (focus (simp -dsimp only [simx, zzC, zzB, tys, ite_self, opnL, callB, stepOp, ofVal, opBuiltin, opLen, PV.sk, scalBin, scalUn, intBin, opLoad, natOf, opConvert, opField, cellsP, oneP, Value.oneCell', opStore, toIV, scalT, scalA, scalC, boxesA, boxesC, ↓reduceIte, Nat.reduceSub, Nat.reduceEqDiff, Nat.reduceAdd, Nat.reduceMul, Nat.reduceLT, Nat.reduceLeDiff, Int.reduceToNat, Int.reduceLE, Int.reduceLT, Int.reduceNeg, reduceCtorEq, zzL, if_true, if_false] <;> rfl)); apply Exists.intro; apply And.intro; (focus (first | exact d))) | refine ⟨(by show drawK _ _ = true; kernel_rfl : drawX _ _ _), ?_⟩ | exact (by show drawK _ _ = true; kernel_rfl : drawX _ _ _) | simp -dsimp (maxSteps := 20000000) (disch := omega) only [simx, zzC, zzB, tys, ite_self, opnL, callB, stepOp, ofVal, opBuiltin, opLen, PV.sk, scalBin, scalUn, intBin, opLoad, natOf, opConvert, opField, cellsP, oneP, Value.oneCell', opStore, toIV, scalT, scalA, scalC, boxesA, boxesC, ↓reduceIte, Nat.reduceSub, Nat.reduceEqDiff, Nat.reduceAdd, Nat.reduceMul, Nat.reduceLT, Nat.reduceLeDiff, Int.reduceToNat, Int.reduceLE, Int.reduceLT, Int.reduceNeg, reduceCtorEq, gos, Int.reduceAdd, Int.reduceSub, Int.reduceMul, Int.reduceEq, cj, g, tlen])
            refine ⟨cj, (fgt_cons (by simp only [Heap.none_at]) (by (simp -dsimp only [zzB, tys, ite_self, opnL, callB, stepOp, ofVal, opBuiltin, opLen, PV.sk, scalBin, scalUn, intBin, opLoad, natOf, opConvert, opField, cellsP, oneP, Value.oneCell', opStore, toIV, scalT, scalA, scalC, boxesA, boxesC, ↓reduceIte, Nat.reduceSub, Nat.reduceEqDiff, Nat.reduceAdd, Nat.reduceMul, Nat.reduceLT, Nat.reduceLeDiff, Int.reduceToNat, Int.reduceLE, Int.reduceLT, Int.reduceNeg, reduceCtorEq, notIn_cons, notIn_nil]) <;> simp [refsL, refsP, mem_refs_rowP]) (by repeat (first | exact noVar_none _ | refine noVar_row ?_ | refine noVar_rowH ?_ | refine noVar_var ?_ (by simp [refsL, refsP, mem_refs_rowP]))) (fgt_cons (by simp only [Heap.none_at]) (by (simp -dsimp only [zzB, tys, ite_self, opnL, callB, stepOp, ofVal, opBuiltin, opLen, PV.sk, scalBin, scalUn, intBin, opLoad, natOf, opConvert, opField, cellsP, oneP, Value.oneCell', opStore, toIV, scalT, scalA, scalC, boxesA, boxesC, ↓reduceIte, Nat.reduceSub, Nat.reduceEqDiff, Nat.reduceAdd, Nat.reduceMul, Nat.reduceLT, Nat.reduceLeDiff, Int.reduceToNat, Int.reduceLE, Int.reduceLT, Int.reduceNeg, reduceCtorEq, notIn_cons, notIn_nil]) <;> simp [refsL, refsP, mem_refs_rowP]) (by repeat (first | exact noVar_none _ | refine noVar_row ?_ | refine noVar_rowH ?_ | refine noVar_var ?_ (by simp [refsL, refsP, mem_refs_rowP]))) (fgt_cons (by simp only [Heap.none_at]) (by (simp -dsimp only [zzB, tys, ite_self, opnL, callB, stepOp, ofVal, opBuiltin, opLen, PV.sk, scalBin, scalUn, intBin, opLoad, natOf, opConvert, opField, cellsP, oneP, Value.oneCell', opStore, toIV, scalT, scalA, scalC, boxesA, boxesC, ↓reduceIte, Nat.reduceSub, Nat.reduceEqDiff, Nat.reduceAdd, Nat.reduceMul, Nat.reduceLT, Nat.reduceLeDiff, Int.reduceToNat, Int.reduceLE, Int.reduceLT, Int.reduceNeg, reduceCtorEq, notIn_cons, notIn_nil]) <;> simp [refsL, refsP, mem_refs_rowP]) (by repeat (first | exact noVar_none _ | refine noVar_row ?_ | refine noVar_rowH ?_ | refine noVar_var ?_ (by simp [refsL, refsP, mem_refs_rowP]))) (fgt_cons (by simp only [Heap.none_at]) (by (simp -dsimp only [zzB, tys, ite_self, opnL, callB, stepOp, ofVal, opBuiltin, opLen, PV.sk, scalBin, scalUn, intBin, opLoad, natOf, opConvert, opField, cellsP, oneP, Value.oneCell', opStore, toIV, scalT, scalA, scalC, boxesA, boxesC, ↓reduceIte, Nat.reduceSub, Nat.reduceEqDiff, Nat.reduceAdd, Nat.reduceMul, Nat.reduceLT, Nat.reduceLeDiff, Int.reduceToNat, Int.reduceLE, Int.reduceLT, Int.reduceNeg, reduceCtorEq, notIn_cons, notIn_nil]) <;> simp [refsL, refsP, mem_refs_rowP]) (by repeat (first | exact noVar_none _ | refine noVar_row ?_ | refine noVar_rowH ?_ | refine noVar_var ?_ (by simp [refsL, refsP, mem_refs_rowP]))) (fgt_cons (by simp only [Heap.none_at]) (by (simp -dsimp only [zzB, tys, ite_self, opnL, callB, stepOp, ofVal, opBuiltin, opLen, PV.sk, scalBin, scalUn, intBin, opLoad, natOf, opConvert, opField, cellsP, oneP, Value.oneCell', opStore, toIV, scalT, scalA, scalC, boxesA, boxesC, ↓reduceIte, Nat.reduceSub, Nat.reduceEqDiff, Nat.reduceAdd, Nat.reduceMul, Nat.reduceLT, Nat.reduceLeDiff, Int.reduceToNat, Int.reduceLE, Int.reduceLT, Int.reduceNeg, reduceCtorEq, notIn_cons, notIn_nil]) <;> simp [refsL, refsP, mem_refs_rowP]) (by repeat (first | exact noVar_none _ | refine noVar_row ?_ | refine noVar_rowH ?_ | refine noVar_var ?_ (by simp [refsL, refsP, mem_refs_rowP]))) (fgt_cons (by simp only [Heap.none_at]) (by (simp -dsimp only [zzB, tys, ite_self, opnL, callB, stepOp, ofVal, opBuiltin, opLen, PV.sk, scalBin, scalUn, intBin, opLoad, natOf, opConvert, opField, cellsP, oneP, Value.oneCell', opStore, toIV, scalT, scalA, scalC, boxesA, boxesC, ↓reduceIte, Nat.reduceSub, Nat.reduceEqDiff, Nat.reduceAdd, Nat.reduceMul, Nat.reduceLT, Nat.reduceLeDiff, Int.reduceToNat, Int.reduceLE, Int.reduceLT, Int.reduceNeg, reduceCtorEq, notIn_cons, notIn_nil]) <;> simp [refsL, refsP, mem_refs_rowP]) (by repeat (first | exact noVar_none _ | refine noVar_row ?_ | refine noVar_rowH ?_ | refine noVar_var ?_ (by simp [refsL, refsP, mem_refs_rowP]))) (fgt_cons (by simp only [Heap.none_at]) (by (simp -dsimp only [zzB, tys, ite_self, opnL, callB, stepOp, ofVal, opBuiltin, opLen, PV.sk, scalBin, scalUn, intBin, opLoad, natOf, opConvert, opField, cellsP, oneP, Value.oneCell', opStore, toIV, scalT, scalA, scalC, boxesA, boxesC, ↓reduceIte, Nat.reduceSub, Nat.reduceEqDiff, Nat.reduceAdd, Nat.reduceMul, Nat.reduceLT, Nat.reduceLeDiff, Int.reduceToNat, Int.reduceLE, Int.reduceLT, Int.reduceNeg, reduceCtorEq, notIn_cons, notIn_nil]) <;> simp [refsL, refsP, mem_refs_rowP]) (by repeat (first | exact noVar_none _ | refine noVar_row ?_ | refine noVar_rowH ?_ | refine noVar_var ?_ (by simp [refsL, refsP, mem_refs_rowP]))) (fgt_cons (by simp only [Heap.none_at]) (by (simp -dsimp only [zzB, tys, ite_self, opnL, callB, stepOp, ofVal, opBuiltin, opLen, PV.sk, scalBin, scalUn, intBin, opLoad, natOf, opConvert, opField, cellsP, oneP, Value.oneCell', opStore, toIV, scalT, scalA, scalC, boxesA, boxesC, ↓reduceIte, Nat.reduceSub, Nat.reduceEqDiff, Nat.reduceAdd, Nat.reduceMul, Nat.reduceLT, Nat.reduceLeDiff, Int.reduceToNat, Int.reduceLE, Int.reduceLT, Int.reduceNeg, reduceCtorEq, notIn_cons, notIn_nil]) <;> simp [refsL, refsP, mem_refs_rowP]) (by repeat (first | exact noVar_none _ | refine noVar_row ?_ | refine noVar_rowH ?_ | refine noVar_var ?_ (by simp [refsL, refsP, mem_refs_rowP]))) (fgt_cons (by simp only [Heap.none_at]) (by (simp -dsimp only [zzB, tys, ite_self, opnL, callB, stepOp, ofVal, opBuiltin, opLen, PV.sk, scalBin, scalUn, intBin, opLoad, natOf, opConvert, opField, cellsP, oneP, Value.oneCell', opStore, toIV, scalT, scalA, scalC, boxesA, boxesC, ↓reduceIte, Nat.reduceSub, Nat.reduceEqDiff, Nat.reduceAdd, Nat.reduceMul, Nat.reduceLT, Nat.reduceLeDiff, Int.reduceToNat, Int.reduceLE, Int.reduceLT, Int.reduceNeg, reduceCtorEq, notIn_cons, notIn_nil]) <;> simp [refsL, refsP, mem_refs_rowP]) (by repeat (first | exact noVar_none _ | refine noVar_row ?_ | refine noVar_rowH ?_ | refine noVar_var ?_ (by simp [refsL, refsP, mem_refs_rowP]))) (fgt_nil)))))))))), rfl, ?_⟩
            funext c
            simp (maxSteps := 20000000) only [Heap.drop_at, rowH_app, Heap.put_at, Heap.none_at, List.mem_cons, List.not_mem_nil, or_false]
            by_cases e0 : c = (0, 0) :: base
            · subst e0; simp []
            by_cases e1 : c = (0, 1) :: base
            · subst e1; simp []
            by_cases e2 : c = (5, 7) :: base
            · subst e2; simp []
            by_cases e3 : c = (10, 3) :: base
            · subst e3; simp []
            by_cases e4 : c = (11, 8) :: base
            · subst e4; simp []
            by_cases e5 : c = (12, 8) :: base
            · subst e5; simp []
            by_cases e6 : c = (13, 8) :: base
            · subst e6; simp []
            by_cases e7 : c = (14, 7) :: base
            · subst e7; simp []
            by_cases e8 : c = (18, 2) :: base
            · subst e8; simp []
            by_cases e9 : c = (22, 2) :: base
            · subst e9; simp []
            simp [e0, e1, e2, e3, e4, e5, e6, e7, e8, e9]
          · obtain rfl : R = j := by omega
            repeat (first | refine ⟨(by show drawK _ _ = true; kernel_rfl : drawX _ _ _), ?_⟩ | exact (by show drawK _ _ = true; kernel_rfl : drawX _ _ _) | simp -dsimp (maxSteps := 20000000) (disch := omega) only [simx, zzC, zzB, tys, ite_self, opnL, callB, stepOp, ofVal, opBuiltin, opLen, PV.sk, scalBin, scalUn, intBin, opLoad, natOf, opConvert, opField, cellsP, oneP, Value.oneCell', opStore, toIV, scalT, scalA, scalC, boxesA, boxesC, ↓reduceIte, Nat.reduceSub, Nat.reduceEqDiff, Nat.reduceAdd, Nat.reduceMul, Nat.reduceLT, Nat.reduceLeDiff, Int.reduceToNat, Int.reduceLE, Int.reduceLT, Int.reduceNeg, reduceCtorEq, zzR, gos, Int.reduceAdd, Int.reduceSub, Int.reduceMul, Int.reduceEq])
end Go.Proofs.Ytnnkoghmglpnmaa.TM
