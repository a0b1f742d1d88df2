/- Layer 1, FieldRight: of any numbers and modulus, every answer is the document's. -/
import Derived.Test.YtdfhkdddlfmceaaWFieldR
namespace Go.Proofs.Ytdfhkdddlfmceaa.TM
open Go Go.RowKit
set_option linter.unusedVariables false
set_option linter.defProp false
set_option linter.unusedSimpArgs false
attribute [local irreducible] K W WOps Effs Xg Xo Xr Xdg Xdo Xdr Xif CallsP CallR

set_option maxHeartbeats 4000000 in
set_option maxRecDepth 100000 in
theorem awake01_walk : CallsP Try.prog 29 [] (bl true) := by
  have md : Md 7 := ⟨by decide, by decide⟩
  have d1 := Mul_walk 7 5 3 ⟨by decide, by decide⟩ ⟨by decide, by decide⟩
  rw [show twoR 7 5 3 (5 * 3 % 7) = (1, 0) by decide +kernel] at d1
  obtain ⟨r2, e2, d2⟩ := Inv_walk 7 5 ⟨by decide, by decide⟩
  rw [show HasB 7 [5] = true by decide +kernel, if_pos rfl] at e2
  unfold invR at e2
  rw [if_pos (by decide +kernel), finv_spec (x := 3) ⟨by decide, by decide⟩ (by decide +kernel)] at e2
  obtain ⟨r5, e5, d5⟩ := Inv_walk 6 3 ⟨by decide, by decide⟩
  rw [show HasB 6 [3] = true by decide +kernel, if_pos rfl] at e5
  unfold invR at e5
  rw [if_neg (by decide +kernel)] at e5
  subst e2 e5
  have d3 := Pow_walk 7 3 6 ⟨by decide, by decide⟩ (by decide)
  rw [show powR 7 3 6 = (1, 0) by decide +kernel] at d3
  have w1 : W64s [1, 2] := by show ∀ x ∈ _, 0 ≤ x ∧ x < _; decide
  have w2 : W64s [3, 4] := by show ∀ x ∈ _, 0 ≤ x ∧ x < _; decide
  have d4 := dot_walk 7 [1, 2] [3, 4] (by decide) (by decide) w1 w2
  rw [show dotR 7 [1, 2] [3, 4] = (4, 0) by decide +kernel] at d4
  have d6 := has_walk 7 [6] (by decide)
  rw [show HasB 7 [6] = true by decide +kernel] at d6
  have d7 := has_walk 7 [7] (by decide)
  rw [show HasB 7 [7] = false by decide +kernel] at d7
  refine X_startP (n := 76) (m := 0) (rs := [.tmp 0]) Try.func29 rfl rfl rfl rfl (by decide) fun base => ?_
  repeat (first | ((first | refine X_call_fn2 rfl (by simp only [tys]) ?_ | refine X_dcall_fn2 rfl (by simp only [tys]) ?_); apply Exists.intro; apply And.intro; (focus (simp -dsimp only [simx, zzB, tys, ite_self, opnL, callB, stepOp, ofVal, opBuiltin, opLen, PV.sk, scalBin, scalUn, intBin, opLoad, natOf, opConvert, opField, cellsP, oneP, Value.oneCell', opStore, toIV, scalT, scalA, scalC, boxesA, boxesC, ↓reduceIte, Nat.reduceSub, Nat.reduceEqDiff, Nat.reduceAdd, Nat.reduceMul, Nat.reduceLT, Nat.reduceLeDiff, Int.reduceToNat, Int.reduceLE, Int.reduceLT, Int.reduceNeg, reduceCtorEq, zzL, if_true, if_false] <;> rfl)); apply Exists.intro; apply And.intro; (focus (first | exact d1 | exact d2 | exact d3 | exact d4 | exact d5 | exact d6 | exact d7))) | refine ⟨(by show drawK _ _ = true; kernel_rfl : drawX _ _ _), ?_⟩ | exact (by show drawK _ _ = true; kernel_rfl : drawX _ _ _) | simp -dsimp (maxSteps := 20000000) (disch := omega) only [simx, zzB, tys, ite_self, opnL, callB, stepOp, ofVal, opBuiltin, opLen, PV.sk, scalBin, scalUn, intBin, opLoad, natOf, opConvert, opField, cellsP, oneP, Value.oneCell', opStore, toIV, scalT, scalA, scalC, boxesA, boxesC, ↓reduceIte, Nat.reduceSub, Nat.reduceEqDiff, Nat.reduceAdd, Nat.reduceMul, Nat.reduceLT, Nat.reduceLeDiff, Int.reduceToNat, Int.reduceLE, Int.reduceLT, Int.reduceNeg, reduceCtorEq, zzR, gos, Int.reduceAdd, Int.reduceSub, Int.reduceMul, Int.reduceEq])
theorem twoR_no {p a b v : Int} (h : HasB p [a, b] = false) : twoR p a b v = (0, 1) := by unfold twoR; rw [h]; rfl
theorem twoR_ok {p a b v : Int} (h : HasB p [a, b] = true) : twoR p a b v = (v, 0) := by unfold twoR; rw [h]; rfl
theorem has_l {p : Int} (hr : RightB p = false) (l : List Int) : HasB p l = false := by unfold HasB; rw [hr, Bool.and_false]
set_option maxHeartbeats 16000000 in
set_option maxRecDepth 100000 in
theorem fieldRight_true (p : Int) (a : Int) (b : Int) (n : Int) (l : List Int) (m : List Int) (w0 : (Lit.int .u64 p).wf = true) (w1 : (Lit.int .u64 a).wf = true) (w2 : (Lit.int .u64 b).wf = true) (w3 : (Lit.int .u64 n).wf = true) (w4 : (l.length ≤ maxLen ∧ ∀ e23_ ∈ l, (Lit.int .u64 e23_).wf = true)) (w5 : (m.length ≤ maxLen ∧ ∀ e23_ ∈ m, (Lit.int .u64 e23_).wf = true)) :
    CallsP Try.prog 12 [u64 p, u64 a, u64 b, u64 n, lu l, lu m] (bl true) := by
  replace w0 := w64_of w0
  replace w1 := w64_of w1
  replace w2 := w64_of w2
  replace w3 := w64_of w3
  obtain ⟨hl, wl⟩ := w4
  obtain ⟨hm, wm⟩ := w5
  replace wl := w64_all wl
  replace wm := w64_all wm
  have aw := awake01_walk
  by_cases c1 : (l.length : Int) ≤ 60
  case neg =>
    clear wl wm
    refine X_startP (n := 333) (m := 6) (rs := [.tmp 12]) Try.func12 rfl rfl rfl rfl (by decide) fun base => ?_
    repeat (first | ((first | refine X_call_fn2 rfl (by simp only [tys]) ?_ | refine X_dcall_fn2 rfl (by simp only [tys]) ?_); apply Exists.intro; apply And.intro; (focus (simp -dsimp only [simx, zzB, tys, ite_self, opnL, callB, stepOp, ofVal, opBuiltin, opLen, PV.sk, scalBin, scalUn, intBin, opLoad, natOf, opConvert, opField, cellsP, oneP, Value.oneCell', opStore, toIV, scalT, scalA, scalC, boxesA, boxesC, ↓reduceIte, Nat.reduceSub, Nat.reduceEqDiff, Nat.reduceAdd, Nat.reduceMul, Nat.reduceLT, Nat.reduceLeDiff, Int.reduceToNat, Int.reduceLE, Int.reduceLT, Int.reduceNeg, reduceCtorEq, zzL, if_true, if_false] <;> rfl)); apply Exists.intro; apply And.intro; (focus (first | exact aw))) | refine ⟨(by show drawK _ _ = true; kernel_rfl : drawX _ _ _), ?_⟩ | exact (by show drawK _ _ = true; kernel_rfl : drawX _ _ _) | simp -dsimp (maxSteps := 20000000) (disch := omega) only [simx, zzB, tys, ite_self, opnL, callB, stepOp, ofVal, opBuiltin, opLen, PV.sk, scalBin, scalUn, intBin, opLoad, natOf, opConvert, opField, cellsP, oneP, Value.oneCell', opStore, toIV, scalT, scalA, scalC, boxesA, boxesC, ↓reduceIte, Nat.reduceSub, Nat.reduceEqDiff, Nat.reduceAdd, Nat.reduceMul, Nat.reduceLT, Nat.reduceLeDiff, Int.reduceToNat, Int.reduceLE, Int.reduceLT, Int.reduceNeg, reduceCtorEq, zzR, gos, Int.reduceAdd, Int.reduceSub, Int.reduceMul, Int.reduceEq])
  by_cases c2 : (m.length : Int) ≤ 60
  case neg =>
    clear wl wm
    refine X_startP (n := 333) (m := 6) (rs := [.tmp 12]) Try.func12 rfl rfl rfl rfl (by decide) fun base => ?_
    repeat (first | ((first | refine X_call_fn2 rfl (by simp only [tys]) ?_ | refine X_dcall_fn2 rfl (by simp only [tys]) ?_); apply Exists.intro; apply And.intro; (focus (simp -dsimp only [simx, zzB, tys, ite_self, opnL, callB, stepOp, ofVal, opBuiltin, opLen, PV.sk, scalBin, scalUn, intBin, opLoad, natOf, opConvert, opField, cellsP, oneP, Value.oneCell', opStore, toIV, scalT, scalA, scalC, boxesA, boxesC, ↓reduceIte, Nat.reduceSub, Nat.reduceEqDiff, Nat.reduceAdd, Nat.reduceMul, Nat.reduceLT, Nat.reduceLeDiff, Int.reduceToNat, Int.reduceLE, Int.reduceLT, Int.reduceNeg, reduceCtorEq, zzL, if_true, if_false] <;> rfl)); apply Exists.intro; apply And.intro; (focus (first | exact aw))) | refine ⟨(by show drawK _ _ = true; kernel_rfl : drawX _ _ _), ?_⟩ | exact (by show drawK _ _ = true; kernel_rfl : drawX _ _ _) | simp -dsimp (maxSteps := 20000000) (disch := omega) only [simx, zzB, tys, ite_self, opnL, callB, stepOp, ofVal, opBuiltin, opLen, PV.sk, scalBin, scalUn, intBin, opLoad, natOf, opConvert, opField, cellsP, oneP, Value.oneCell', opStore, toIV, scalT, scalA, scalC, boxesA, boxesC, ↓reduceIte, Nat.reduceSub, Nat.reduceEqDiff, Nat.reduceAdd, Nat.reduceMul, Nat.reduceLT, Nat.reduceLeDiff, Int.reduceToNat, Int.reduceLE, Int.reduceLT, Int.reduceNeg, reduceCtorEq, zzR, gos, Int.reduceAdd, Int.reduceSub, Int.reduceMul, Int.reduceEq])
  obtain ⟨N, rfl⟩ := Int.eq_ofNat_of_zero_le w3.1
  have hN : N < 18446744073709551616 := by have := w3.2; omega
  have r1 := right_walk p
  have r2 := rright_walk p
  have h1 := has_walk p l hl
  have h2 := rhas_walk p l hl
  have h3 := rhas_walk p m hm
  have dd := dot_walk p l m hl hm wl wm
  have ad := Add_walk p a b w1 w2
  have su := Sub_walk p a b w1 w2
  have mu := Mul_walk p a b w1 w2
  have pw := Pow_walk p a N w1 hN
  have no := norm_walk p N w3
  obtain ⟨iv, ie, ic⟩ := Inv_walk p a w1
  obtain ⟨dv, de, dc⟩ := Div_walk p a b w1 w2
  have a0 := w1.1
  have b0 := w2.1
  cases hr : RightB p with
  | false =>
    have hh := has_l hr
    rw [hr] at r1 r2
    rw [hh] at h1 h2
    rw [show dotR p l m = (0, 1) by unfold dotR; rw [hh]; rfl] at dd
    rw [twoR_no (hh _)] at ad su mu
    rw [show powR p a N = (0, 1) by unfold powR; rw [hh]; rfl] at pw
    rw [show normR p N = (0, 1) by unfold normR; rw [hr]; rfl] at no
    rw [hh, if_neg (by decide)] at ie de
    subst ie de
    clear hh wl wm h3
    refine X_startP (n := 333) (m := 6) (rs := [.tmp 12]) Try.func12 rfl rfl rfl rfl (by decide) fun base => ?_
    repeat (first | ((first | refine X_call_fn2 rfl (by simp only [tys]) ?_ | refine X_dcall_fn2 rfl (by simp only [tys]) ?_); apply Exists.intro; apply And.intro; (focus (simp -dsimp only [simx, zzB, tys, ite_self, opnL, callB, stepOp, ofVal, opBuiltin, opLen, PV.sk, scalBin, scalUn, intBin, opLoad, natOf, opConvert, opField, cellsP, oneP, Value.oneCell', opStore, toIV, scalT, scalA, scalC, boxesA, boxesC, ↓reduceIte, Nat.reduceSub, Nat.reduceEqDiff, Nat.reduceAdd, Nat.reduceMul, Nat.reduceLT, Nat.reduceLeDiff, Int.reduceToNat, Int.reduceLE, Int.reduceLT, Int.reduceNeg, reduceCtorEq, zzL, if_true, if_false] <;> rfl)); apply Exists.intro; apply And.intro; (focus (first | exact aw | exact r1 | exact r2 | exact h1 | exact h2 | exact dd | exact ad | exact su | exact mu | exact pw | exact no | exact ic | exact dc))) | refine ⟨(by show drawK _ _ = true; kernel_rfl : drawX _ _ _), ?_⟩ | exact (by show drawK _ _ = true; kernel_rfl : drawX _ _ _) | simp -dsimp (maxSteps := 20000000) (disch := omega) only [simx, zzB, tys, ite_self, opnL, callB, stepOp, ofVal, opBuiltin, opLen, PV.sk, scalBin, scalUn, intBin, opLoad, natOf, opConvert, opField, cellsP, oneP, Value.oneCell', opStore, toIV, scalT, scalA, scalC, boxesA, boxesC, ↓reduceIte, Nat.reduceSub, Nat.reduceEqDiff, Nat.reduceAdd, Nat.reduceMul, Nat.reduceLT, Nat.reduceLeDiff, Int.reduceToNat, Int.reduceLE, Int.reduceLT, Int.reduceNeg, reduceCtorEq, zzR, gos, Int.reduceAdd, Int.reduceSub, Int.reduceMul, Int.reduceEq])
  | true =>
  obtain ⟨p1, p2⟩ := (right_iff p).1 hr
  have hp : Md p := ⟨p1, p2⟩
  rw [hr] at r1 r2
  rw [show normR p N = ((N : Int) % p, 0) by unfold normR; rw [hr]; rfl] at no
  have L : ∃ x e, dotR p l m = (x, e) ∧ ((HasB p l = false ∧ x = 0 ∧ e = 1) ∨ (HasB p l = true ∧ HasB p m = false ∧ x = 0 ∧ e = 1) ∨ (HasB p l = true ∧ HasB p m = true ∧ ¬ (l.length : Int) = m.length ∧ x = 0 ∧ e = 1) ∨
      (HasB p l = true ∧ HasB p m = true ∧ (l.length : Int) = m.length ∧ e = 0 ∧ CallsP Try.prog 40 [u64 p, lu l, lu m] (u64 x))) := by
    cases c3 : HasB p l with
    | false => exact ⟨0, 1, by unfold dotR; rw [c3]; rfl, .inl ⟨rfl, rfl, rfl⟩⟩
    | true =>
      cases c4 : HasB p m with
      | false => exact ⟨0, 1, by unfold dotR; rw [c3, c4]; rfl, .inr (.inl ⟨rfl, rfl, rfl, rfl⟩)⟩
      | true =>
        by_cases c5 : (l.length : Int) = m.length
        · have c6 : l.length = m.length := by omega
          refine ⟨dotI l m % p, 0, by unfold dotR; rw [c3, c4, if_pos (by simp [c6])], .inr (.inr (.inr ⟨rfl, rfl, c5, rfl, ?_⟩))⟩
          have x1 := ((has_iff _ _).1 c3).1
          have x2 := ((has_iff _ _).1 c4).1
          exact rdot_walk hp (fun z hz => ⟨(wl z hz).1, x1 z hz⟩) (fun z hz => ⟨(wm z hz).1, x2 z hz⟩) c6 hl
        · exact ⟨0, 1, by unfold dotR; rw [c3, c4, if_neg (by simp; omega)], .inr (.inr (.inl ⟨rfl, rfl, c5, rfl, rfl⟩))⟩
  obtain ⟨dx, dE, ed, L⟩ := L
  rw [ed] at dd
  clear ed wl wm
  -- what a and b tell
  have B : (¬ a < p ∧ twoR p a b ((a + b) % p) = (0, 1) ∧ twoR p a b ((a - b) % p) = (0, 1) ∧ twoR p a b (a * b % p) = (0, 1) ∧ powR p a N = (0, 1) ∧ iv = (0, 1) ∧ dv = (0, 1)) ∨
      (∃ pv, a < p ∧ ¬ b < p ∧ twoR p a b ((a + b) % p) = (0, 1) ∧ twoR p a b ((a - b) % p) = (0, 1) ∧ twoR p a b (a * b % p) = (0, 1) ∧ powR p a N = (pv, 0) ∧ dv = (0, 1) ∧ CallsP Try.prog 41 [u64 p, u64 a] (.tup [u64 iv.1, i64 iv.2]) ∧ CallsP Try.prog 42 [u64 p, u64 a, u64 N] (u64 pv)) ∨
      (∃ pv sv tv uv rv re, a < p ∧ b < p ∧ twoR p a b ((a + b) % p) = (sv, 0) ∧ twoR p a b ((a - b) % p) = (tv, 0) ∧ twoR p a b (a * b % p) = (uv, 0) ∧ powR p a N = (pv, 0) ∧ CallsP Try.prog 41 [u64 p, u64 a] (.tup [u64 iv.1, i64 iv.2]) ∧ CallsP Try.prog 42 [u64 p, u64 a, u64 N] (u64 pv) ∧
        CallsP Try.prog 41 [u64 p, u64 b] (.tup [u64 rv, i64 re]) ∧ CallsP Try.prog 43 [u64 p, u64 a, u64 b] (u64 sv) ∧ CallsP Try.prog 44 [u64 p, u64 a, u64 b] (u64 tv) ∧ CallsP Try.prog 45 [u64 p, u64 a, u64 b] (u64 uv) ∧
        (re = 5 ∧ dv = (0, 5) ∧ True ∨ re = 0 ∧ ∃ q, dv = (q, 0) ∧ CallsP Try.prog 45 [u64 p, u64 a, u64 rv] (u64 q))) := by
    by_cases ca : a < p
    case neg =>
      have f1 : HasB p [a] = false := by cases h : HasB p [a]; rfl; exact absurd (((has_iff _ _).1 h).1 a (by simp)) ca
      have f2 : HasB p [a, b] = false := by cases h : HasB p [a, b]; rfl; exact absurd (((has_iff _ _).1 h).1 a (by simp)) ca
      rw [f1, if_neg (by decide)] at ie
      rw [f2, if_neg (by decide)] at de
      exact .inl ⟨ca, twoR_no f2, twoR_no f2, twoR_no f2, by unfold powR; rw [f1]; rfl, ie, de⟩
    have ia : In p a := ⟨a0, ca⟩
    have f1 : HasB p [a] = true := (has_iff _ _).2 ⟨by simpa using ca, p1, p2⟩
    obtain ⟨r, er, rc⟩ := rinv_walk p a hp ia
    rw [f1, if_pos rfl, ← er] at ie
    rw [← ie] at rc
    have pwe : powR p a N = (a ^ N % p, 0) := by unfold powR; rw [f1]; rfl
    have rp := rpow_walk p a hp ia N N (Nat.le_refl _) hN
    by_cases cb : b < p
    case neg =>
      have f2 : HasB p [a, b] = false := by cases h : HasB p [a, b]; rfl; exact absurd (((has_iff _ _).1 h).1 b (by simp)) cb
      rw [f2, if_neg (by decide)] at de
      exact .inr (.inl ⟨_, ca, cb, twoR_no f2, twoR_no f2, twoR_no f2, pwe, de, rc, rp⟩)
    have ib : In p b := ⟨b0, cb⟩
    have f2 : HasB p [a, b] = true := (has_iff _ _).2 ⟨by simp; exact ⟨ca, cb⟩, p1, p2⟩
    rw [f2, if_pos rfl] at de
    obtain ⟨r', er', rc'⟩ := rinv_walk p b hp ib
    have m1 := rmul_walk' p a b hp ia w2
    refine .inr (.inr ⟨_, _, _, _, r'.1, r'.2, ca, cb, twoR_ok f2, twoR_ok f2, twoR_ok f2, pwe, rc, rp, rc', radd_walk p a b hp ia ib, rsub_walk p a b hp ia ib, m1, ?_⟩)
    unfold invR at er'
    unfold divR at de
    by_cases g : Int.gcd p b = 1
    · rw [if_pos g] at er' de
      refine .inr ⟨by rw [er'], _, de, ?_⟩
      rw [er']
      exact rmul_walk' p a _ hp ia ((finv_in p1 p2 ib g).1.w64 (by omega))
    · rw [if_neg g] at er' de
      exact .inl ⟨by rw [er'], de, trivial⟩
  clear ie de hp w0 w1 w2
  rcases L with ⟨l1, rfl, rfl⟩ | ⟨l1, l2, rfl, rfl⟩ | ⟨l1, l2, l3, rfl, rfl⟩ | ⟨l1, l2, l3, rfl, rd⟩
  · rw [l1] at h1 h2
    clear h3 l1
    have h3 : True := trivial
    have rd : True := trivial
    rcases B with ⟨ca, e1, e2, e3, e4, rfl, rfl⟩ | ⟨pv, ca, cb, e1, e2, e3, e4, rfl, ri, rp⟩ | ⟨pv, sv, tv, uv, rv, re, ca, cb, e1, e2, e3, e4, ri, rp, rj, ra, rs, rm, ⟨rfl, rfl, rn⟩ | ⟨rfl, q, rfl, rn⟩⟩
    · rw [e1] at ad; rw [e2] at su; rw [e3] at mu; rw [e4] at pw
      refine X_startP (n := 333) (m := 6) (rs := [.tmp 12]) Try.func12 rfl rfl rfl rfl (by decide) fun base => ?_
      repeat (first | ((first | refine X_call_fn2 rfl (by simp only [tys]) ?_ | refine X_dcall_fn2 rfl (by simp only [tys]) ?_); apply Exists.intro; apply And.intro; (focus (simp -dsimp only [simx, zzB, tys, ite_self, opnL, callB, stepOp, ofVal, opBuiltin, opLen, PV.sk, scalBin, scalUn, intBin, opLoad, natOf, opConvert, opField, cellsP, oneP, Value.oneCell', opStore, toIV, scalT, scalA, scalC, boxesA, boxesC, ↓reduceIte, Nat.reduceSub, Nat.reduceEqDiff, Nat.reduceAdd, Nat.reduceMul, Nat.reduceLT, Nat.reduceLeDiff, Int.reduceToNat, Int.reduceLE, Int.reduceLT, Int.reduceNeg, reduceCtorEq, zzL, if_true, if_false] <;> rfl)); apply Exists.intro; apply And.intro; (focus (first | exact aw | exact r1 | exact r2 | exact h1 | exact h2 | exact h3 | exact dd | exact rd | exact ad | exact su | exact mu | exact pw | exact no | exact ic | exact dc))) | refine ⟨(by show drawK _ _ = true; kernel_rfl : drawX _ _ _), ?_⟩ | exact (by show drawK _ _ = true; kernel_rfl : drawX _ _ _) | simp -dsimp (maxSteps := 20000000) (disch := omega) only [simx, zzB, tys, ite_self, opnL, callB, stepOp, ofVal, opBuiltin, opLen, PV.sk, scalBin, scalUn, intBin, opLoad, natOf, opConvert, opField, cellsP, oneP, Value.oneCell', opStore, toIV, scalT, scalA, scalC, boxesA, boxesC, ↓reduceIte, Nat.reduceSub, Nat.reduceEqDiff, Nat.reduceAdd, Nat.reduceMul, Nat.reduceLT, Nat.reduceLeDiff, Int.reduceToNat, Int.reduceLE, Int.reduceLT, Int.reduceNeg, reduceCtorEq, zzR, gos, Int.reduceAdd, Int.reduceSub, Int.reduceMul, Int.reduceEq])
    · rw [e1] at ad; rw [e2] at su; rw [e3] at mu; rw [e4] at pw
      obtain ⟨i1, i2⟩ := iv
      refine X_startP (n := 333) (m := 6) (rs := [.tmp 12]) Try.func12 rfl rfl rfl rfl (by decide) fun base => ?_
      repeat (first | ((first | refine X_call_fn2 rfl (by simp only [tys]) ?_ | refine X_dcall_fn2 rfl (by simp only [tys]) ?_); apply Exists.intro; apply And.intro; (focus (simp -dsimp only [simx, zzB, tys, ite_self, opnL, callB, stepOp, ofVal, opBuiltin, opLen, PV.sk, scalBin, scalUn, intBin, opLoad, natOf, opConvert, opField, cellsP, oneP, Value.oneCell', opStore, toIV, scalT, scalA, scalC, boxesA, boxesC, ↓reduceIte, Nat.reduceSub, Nat.reduceEqDiff, Nat.reduceAdd, Nat.reduceMul, Nat.reduceLT, Nat.reduceLeDiff, Int.reduceToNat, Int.reduceLE, Int.reduceLT, Int.reduceNeg, reduceCtorEq, zzL, if_true, if_false] <;> rfl)); apply Exists.intro; apply And.intro; (focus (first | exact aw | exact r1 | exact r2 | exact h1 | exact h2 | exact h3 | exact dd | exact rd | exact ad | exact su | exact mu | exact pw | exact no | exact ic | exact dc | exact ri | exact rp))) | refine ⟨(by show drawK _ _ = true; kernel_rfl : drawX _ _ _), ?_⟩ | exact (by show drawK _ _ = true; kernel_rfl : drawX _ _ _) | simp -dsimp (maxSteps := 20000000) (disch := omega) only [simx, zzB, tys, ite_self, opnL, callB, stepOp, ofVal, opBuiltin, opLen, PV.sk, scalBin, scalUn, intBin, opLoad, natOf, opConvert, opField, cellsP, oneP, Value.oneCell', opStore, toIV, scalT, scalA, scalC, boxesA, boxesC, ↓reduceIte, Nat.reduceSub, Nat.reduceEqDiff, Nat.reduceAdd, Nat.reduceMul, Nat.reduceLT, Nat.reduceLeDiff, Int.reduceToNat, Int.reduceLE, Int.reduceLT, Int.reduceNeg, reduceCtorEq, zzR, gos, Int.reduceAdd, Int.reduceSub, Int.reduceMul, Int.reduceEq])
    · rw [e1] at ad; rw [e2] at su; rw [e3] at mu; rw [e4] at pw
      obtain ⟨i1, i2⟩ := iv
      refine X_startP (n := 333) (m := 6) (rs := [.tmp 12]) Try.func12 rfl rfl rfl rfl (by decide) fun base => ?_
      repeat (first | ((first | refine X_call_fn2 rfl (by simp only [tys]) ?_ | refine X_dcall_fn2 rfl (by simp only [tys]) ?_); apply Exists.intro; apply And.intro; (focus (simp -dsimp only [simx, zzB, tys, ite_self, opnL, callB, stepOp, ofVal, opBuiltin, opLen, PV.sk, scalBin, scalUn, intBin, opLoad, natOf, opConvert, opField, cellsP, oneP, Value.oneCell', opStore, toIV, scalT, scalA, scalC, boxesA, boxesC, ↓reduceIte, Nat.reduceSub, Nat.reduceEqDiff, Nat.reduceAdd, Nat.reduceMul, Nat.reduceLT, Nat.reduceLeDiff, Int.reduceToNat, Int.reduceLE, Int.reduceLT, Int.reduceNeg, reduceCtorEq, zzL, if_true, if_false] <;> rfl)); apply Exists.intro; apply And.intro; (focus (first | exact aw | exact r1 | exact r2 | exact h1 | exact h2 | exact h3 | exact dd | exact rd | exact ad | exact su | exact mu | exact pw | exact no | exact ic | exact dc | exact ri | exact rp | exact rj | exact ra | exact rs | exact rm))) | refine ⟨(by show drawK _ _ = true; kernel_rfl : drawX _ _ _), ?_⟩ | exact (by show drawK _ _ = true; kernel_rfl : drawX _ _ _) | simp -dsimp (maxSteps := 20000000) (disch := omega) only [simx, zzB, tys, ite_self, opnL, callB, stepOp, ofVal, opBuiltin, opLen, PV.sk, scalBin, scalUn, intBin, opLoad, natOf, opConvert, opField, cellsP, oneP, Value.oneCell', opStore, toIV, scalT, scalA, scalC, boxesA, boxesC, ↓reduceIte, Nat.reduceSub, Nat.reduceEqDiff, Nat.reduceAdd, Nat.reduceMul, Nat.reduceLT, Nat.reduceLeDiff, Int.reduceToNat, Int.reduceLE, Int.reduceLT, Int.reduceNeg, reduceCtorEq, zzR, gos, Int.reduceAdd, Int.reduceSub, Int.reduceMul, Int.reduceEq])
    · rw [e1] at ad; rw [e2] at su; rw [e3] at mu; rw [e4] at pw
      obtain ⟨i1, i2⟩ := iv
      refine X_startP (n := 333) (m := 6) (rs := [.tmp 12]) Try.func12 rfl rfl rfl rfl (by decide) fun base => ?_
      repeat (first | ((first | refine X_call_fn2 rfl (by simp only [tys]) ?_ | refine X_dcall_fn2 rfl (by simp only [tys]) ?_); apply Exists.intro; apply And.intro; (focus (simp -dsimp only [simx, zzB, tys, ite_self, opnL, callB, stepOp, ofVal, opBuiltin, opLen, PV.sk, scalBin, scalUn, intBin, opLoad, natOf, opConvert, opField, cellsP, oneP, Value.oneCell', opStore, toIV, scalT, scalA, scalC, boxesA, boxesC, ↓reduceIte, Nat.reduceSub, Nat.reduceEqDiff, Nat.reduceAdd, Nat.reduceMul, Nat.reduceLT, Nat.reduceLeDiff, Int.reduceToNat, Int.reduceLE, Int.reduceLT, Int.reduceNeg, reduceCtorEq, zzL, if_true, if_false] <;> rfl)); apply Exists.intro; apply And.intro; (focus (first | exact aw | exact r1 | exact r2 | exact h1 | exact h2 | exact h3 | exact dd | exact rd | exact ad | exact su | exact mu | exact pw | exact no | exact ic | exact dc | exact ri | exact rp | exact rj | exact ra | exact rs | exact rm | exact rn))) | refine ⟨(by show drawK _ _ = true; kernel_rfl : drawX _ _ _), ?_⟩ | exact (by show drawK _ _ = true; kernel_rfl : drawX _ _ _) | simp -dsimp (maxSteps := 20000000) (disch := omega) only [simx, zzB, tys, ite_self, opnL, callB, stepOp, ofVal, opBuiltin, opLen, PV.sk, scalBin, scalUn, intBin, opLoad, natOf, opConvert, opField, cellsP, oneP, Value.oneCell', opStore, toIV, scalT, scalA, scalC, boxesA, boxesC, ↓reduceIte, Nat.reduceSub, Nat.reduceEqDiff, Nat.reduceAdd, Nat.reduceMul, Nat.reduceLT, Nat.reduceLeDiff, Int.reduceToNat, Int.reduceLE, Int.reduceLT, Int.reduceNeg, reduceCtorEq, zzR, gos, Int.reduceAdd, Int.reduceSub, Int.reduceMul, Int.reduceEq])
  · rw [l1] at h1 h2
    rw [l2] at h3
    clear l1 l2
    have rd : True := trivial
    rcases B with ⟨ca, e1, e2, e3, e4, rfl, rfl⟩ | ⟨pv, ca, cb, e1, e2, e3, e4, rfl, ri, rp⟩ | ⟨pv, sv, tv, uv, rv, re, ca, cb, e1, e2, e3, e4, ri, rp, rj, ra, rs, rm, ⟨rfl, rfl, rn⟩ | ⟨rfl, q, rfl, rn⟩⟩
    · rw [e1] at ad; rw [e2] at su; rw [e3] at mu; rw [e4] at pw
      refine X_startP (n := 333) (m := 6) (rs := [.tmp 12]) Try.func12 rfl rfl rfl rfl (by decide) fun base => ?_
      repeat (first | ((first | refine X_call_fn2 rfl (by simp only [tys]) ?_ | refine X_dcall_fn2 rfl (by simp only [tys]) ?_); apply Exists.intro; apply And.intro; (focus (simp -dsimp only [simx, zzB, tys, ite_self, opnL, callB, stepOp, ofVal, opBuiltin, opLen, PV.sk, scalBin, scalUn, intBin, opLoad, natOf, opConvert, opField, cellsP, oneP, Value.oneCell', opStore, toIV, scalT, scalA, scalC, boxesA, boxesC, ↓reduceIte, Nat.reduceSub, Nat.reduceEqDiff, Nat.reduceAdd, Nat.reduceMul, Nat.reduceLT, Nat.reduceLeDiff, Int.reduceToNat, Int.reduceLE, Int.reduceLT, Int.reduceNeg, reduceCtorEq, zzL, if_true, if_false] <;> rfl)); apply Exists.intro; apply And.intro; (focus (first | exact aw | exact r1 | exact r2 | exact h1 | exact h2 | exact h3 | exact dd | exact rd | exact ad | exact su | exact mu | exact pw | exact no | exact ic | exact dc))) | refine ⟨(by show drawK _ _ = true; kernel_rfl : drawX _ _ _), ?_⟩ | exact (by show drawK _ _ = true; kernel_rfl : drawX _ _ _) | simp -dsimp (maxSteps := 20000000) (disch := omega) only [simx, zzB, tys, ite_self, opnL, callB, stepOp, ofVal, opBuiltin, opLen, PV.sk, scalBin, scalUn, intBin, opLoad, natOf, opConvert, opField, cellsP, oneP, Value.oneCell', opStore, toIV, scalT, scalA, scalC, boxesA, boxesC, ↓reduceIte, Nat.reduceSub, Nat.reduceEqDiff, Nat.reduceAdd, Nat.reduceMul, Nat.reduceLT, Nat.reduceLeDiff, Int.reduceToNat, Int.reduceLE, Int.reduceLT, Int.reduceNeg, reduceCtorEq, zzR, gos, Int.reduceAdd, Int.reduceSub, Int.reduceMul, Int.reduceEq])
    · rw [e1] at ad; rw [e2] at su; rw [e3] at mu; rw [e4] at pw
      obtain ⟨i1, i2⟩ := iv
      refine X_startP (n := 333) (m := 6) (rs := [.tmp 12]) Try.func12 rfl rfl rfl rfl (by decide) fun base => ?_
      repeat (first | ((first | refine X_call_fn2 rfl (by simp only [tys]) ?_ | refine X_dcall_fn2 rfl (by simp only [tys]) ?_); apply Exists.intro; apply And.intro; (focus (simp -dsimp only [simx, zzB, tys, ite_self, opnL, callB, stepOp, ofVal, opBuiltin, opLen, PV.sk, scalBin, scalUn, intBin, opLoad, natOf, opConvert, opField, cellsP, oneP, Value.oneCell', opStore, toIV, scalT, scalA, scalC, boxesA, boxesC, ↓reduceIte, Nat.reduceSub, Nat.reduceEqDiff, Nat.reduceAdd, Nat.reduceMul, Nat.reduceLT, Nat.reduceLeDiff, Int.reduceToNat, Int.reduceLE, Int.reduceLT, Int.reduceNeg, reduceCtorEq, zzL, if_true, if_false] <;> rfl)); apply Exists.intro; apply And.intro; (focus (first | exact aw | exact r1 | exact r2 | exact h1 | exact h2 | exact h3 | exact dd | exact rd | exact ad | exact su | exact mu | exact pw | exact no | exact ic | exact dc | exact ri | exact rp))) | refine ⟨(by show drawK _ _ = true; kernel_rfl : drawX _ _ _), ?_⟩ | exact (by show drawK _ _ = true; kernel_rfl : drawX _ _ _) | simp -dsimp (maxSteps := 20000000) (disch := omega) only [simx, zzB, tys, ite_self, opnL, callB, stepOp, ofVal, opBuiltin, opLen, PV.sk, scalBin, scalUn, intBin, opLoad, natOf, opConvert, opField, cellsP, oneP, Value.oneCell', opStore, toIV, scalT, scalA, scalC, boxesA, boxesC, ↓reduceIte, Nat.reduceSub, Nat.reduceEqDiff, Nat.reduceAdd, Nat.reduceMul, Nat.reduceLT, Nat.reduceLeDiff, Int.reduceToNat, Int.reduceLE, Int.reduceLT, Int.reduceNeg, reduceCtorEq, zzR, gos, Int.reduceAdd, Int.reduceSub, Int.reduceMul, Int.reduceEq])
    · rw [e1] at ad; rw [e2] at su; rw [e3] at mu; rw [e4] at pw
      obtain ⟨i1, i2⟩ := iv
      refine X_startP (n := 333) (m := 6) (rs := [.tmp 12]) Try.func12 rfl rfl rfl rfl (by decide) fun base => ?_
      repeat (first | ((first | refine X_call_fn2 rfl (by simp only [tys]) ?_ | refine X_dcall_fn2 rfl (by simp only [tys]) ?_); apply Exists.intro; apply And.intro; (focus (simp -dsimp only [simx, zzB, tys, ite_self, opnL, callB, stepOp, ofVal, opBuiltin, opLen, PV.sk, scalBin, scalUn, intBin, opLoad, natOf, opConvert, opField, cellsP, oneP, Value.oneCell', opStore, toIV, scalT, scalA, scalC, boxesA, boxesC, ↓reduceIte, Nat.reduceSub, Nat.reduceEqDiff, Nat.reduceAdd, Nat.reduceMul, Nat.reduceLT, Nat.reduceLeDiff, Int.reduceToNat, Int.reduceLE, Int.reduceLT, Int.reduceNeg, reduceCtorEq, zzL, if_true, if_false] <;> rfl)); apply Exists.intro; apply And.intro; (focus (first | exact aw | exact r1 | exact r2 | exact h1 | exact h2 | exact h3 | exact dd | exact rd | exact ad | exact su | exact mu | exact pw | exact no | exact ic | exact dc | exact ri | exact rp | exact rj | exact ra | exact rs | exact rm))) | refine ⟨(by show drawK _ _ = true; kernel_rfl : drawX _ _ _), ?_⟩ | exact (by show drawK _ _ = true; kernel_rfl : drawX _ _ _) | simp -dsimp (maxSteps := 20000000) (disch := omega) only [simx, zzB, tys, ite_self, opnL, callB, stepOp, ofVal, opBuiltin, opLen, PV.sk, scalBin, scalUn, intBin, opLoad, natOf, opConvert, opField, cellsP, oneP, Value.oneCell', opStore, toIV, scalT, scalA, scalC, boxesA, boxesC, ↓reduceIte, Nat.reduceSub, Nat.reduceEqDiff, Nat.reduceAdd, Nat.reduceMul, Nat.reduceLT, Nat.reduceLeDiff, Int.reduceToNat, Int.reduceLE, Int.reduceLT, Int.reduceNeg, reduceCtorEq, zzR, gos, Int.reduceAdd, Int.reduceSub, Int.reduceMul, Int.reduceEq])
    · rw [e1] at ad; rw [e2] at su; rw [e3] at mu; rw [e4] at pw
      obtain ⟨i1, i2⟩ := iv
      refine X_startP (n := 333) (m := 6) (rs := [.tmp 12]) Try.func12 rfl rfl rfl rfl (by decide) fun base => ?_
      repeat (first | ((first | refine X_call_fn2 rfl (by simp only [tys]) ?_ | refine X_dcall_fn2 rfl (by simp only [tys]) ?_); apply Exists.intro; apply And.intro; (focus (simp -dsimp only [simx, zzB, tys, ite_self, opnL, callB, stepOp, ofVal, opBuiltin, opLen, PV.sk, scalBin, scalUn, intBin, opLoad, natOf, opConvert, opField, cellsP, oneP, Value.oneCell', opStore, toIV, scalT, scalA, scalC, boxesA, boxesC, ↓reduceIte, Nat.reduceSub, Nat.reduceEqDiff, Nat.reduceAdd, Nat.reduceMul, Nat.reduceLT, Nat.reduceLeDiff, Int.reduceToNat, Int.reduceLE, Int.reduceLT, Int.reduceNeg, reduceCtorEq, zzL, if_true, if_false] <;> rfl)); apply Exists.intro; apply And.intro; (focus (first | exact aw | exact r1 | exact r2 | exact h1 | exact h2 | exact h3 | exact dd | exact rd | exact ad | exact su | exact mu | exact pw | exact no | exact ic | exact dc | exact ri | exact rp | exact rj | exact ra | exact rs | exact rm | exact rn))) | refine ⟨(by show drawK _ _ = true; kernel_rfl : drawX _ _ _), ?_⟩ | exact (by show drawK _ _ = true; kernel_rfl : drawX _ _ _) | simp -dsimp (maxSteps := 20000000) (disch := omega) only [simx, zzB, tys, ite_self, opnL, callB, stepOp, ofVal, opBuiltin, opLen, PV.sk, scalBin, scalUn, intBin, opLoad, natOf, opConvert, opField, cellsP, oneP, Value.oneCell', opStore, toIV, scalT, scalA, scalC, boxesA, boxesC, ↓reduceIte, Nat.reduceSub, Nat.reduceEqDiff, Nat.reduceAdd, Nat.reduceMul, Nat.reduceLT, Nat.reduceLeDiff, Int.reduceToNat, Int.reduceLE, Int.reduceLT, Int.reduceNeg, reduceCtorEq, zzR, gos, Int.reduceAdd, Int.reduceSub, Int.reduceMul, Int.reduceEq])
  · rw [l1] at h1 h2
    rw [l2] at h3
    clear l1 l2
    have rd : True := trivial
    rcases B with ⟨ca, e1, e2, e3, e4, rfl, rfl⟩ | ⟨pv, ca, cb, e1, e2, e3, e4, rfl, ri, rp⟩ | ⟨pv, sv, tv, uv, rv, re, ca, cb, e1, e2, e3, e4, ri, rp, rj, ra, rs, rm, ⟨rfl, rfl, rn⟩ | ⟨rfl, q, rfl, rn⟩⟩
    · rw [e1] at ad; rw [e2] at su; rw [e3] at mu; rw [e4] at pw
      refine X_startP (n := 333) (m := 6) (rs := [.tmp 12]) Try.func12 rfl rfl rfl rfl (by decide) fun base => ?_
      repeat (first | ((first | refine X_call_fn2 rfl (by simp only [tys]) ?_ | refine X_dcall_fn2 rfl (by simp only [tys]) ?_); apply Exists.intro; apply And.intro; (focus (simp -dsimp only [simx, zzB, tys, ite_self, opnL, callB, stepOp, ofVal, opBuiltin, opLen, PV.sk, scalBin, scalUn, intBin, opLoad, natOf, opConvert, opField, cellsP, oneP, Value.oneCell', opStore, toIV, scalT, scalA, scalC, boxesA, boxesC, ↓reduceIte, Nat.reduceSub, Nat.reduceEqDiff, Nat.reduceAdd, Nat.reduceMul, Nat.reduceLT, Nat.reduceLeDiff, Int.reduceToNat, Int.reduceLE, Int.reduceLT, Int.reduceNeg, reduceCtorEq, zzL, if_true, if_false] <;> rfl)); apply Exists.intro; apply And.intro; (focus (first | exact aw | exact r1 | exact r2 | exact h1 | exact h2 | exact h3 | exact dd | exact rd | exact ad | exact su | exact mu | exact pw | exact no | exact ic | exact dc))) | refine ⟨(by show drawK _ _ = true; kernel_rfl : drawX _ _ _), ?_⟩ | exact (by show drawK _ _ = true; kernel_rfl : drawX _ _ _) | simp -dsimp (maxSteps := 20000000) (disch := omega) only [simx, zzB, tys, ite_self, opnL, callB, stepOp, ofVal, opBuiltin, opLen, PV.sk, scalBin, scalUn, intBin, opLoad, natOf, opConvert, opField, cellsP, oneP, Value.oneCell', opStore, toIV, scalT, scalA, scalC, boxesA, boxesC, ↓reduceIte, Nat.reduceSub, Nat.reduceEqDiff, Nat.reduceAdd, Nat.reduceMul, Nat.reduceLT, Nat.reduceLeDiff, Int.reduceToNat, Int.reduceLE, Int.reduceLT, Int.reduceNeg, reduceCtorEq, zzR, gos, Int.reduceAdd, Int.reduceSub, Int.reduceMul, Int.reduceEq])
    · rw [e1] at ad; rw [e2] at su; rw [e3] at mu; rw [e4] at pw
      obtain ⟨i1, i2⟩ := iv
      refine X_startP (n := 333) (m := 6) (rs := [.tmp 12]) Try.func12 rfl rfl rfl rfl (by decide) fun base => ?_
      repeat (first | ((first | refine X_call_fn2 rfl (by simp only [tys]) ?_ | refine X_dcall_fn2 rfl (by simp only [tys]) ?_); apply Exists.intro; apply And.intro; (focus (simp -dsimp only [simx, zzB, tys, ite_self, opnL, callB, stepOp, ofVal, opBuiltin, opLen, PV.sk, scalBin, scalUn, intBin, opLoad, natOf, opConvert, opField, cellsP, oneP, Value.oneCell', opStore, toIV, scalT, scalA, scalC, boxesA, boxesC, ↓reduceIte, Nat.reduceSub, Nat.reduceEqDiff, Nat.reduceAdd, Nat.reduceMul, Nat.reduceLT, Nat.reduceLeDiff, Int.reduceToNat, Int.reduceLE, Int.reduceLT, Int.reduceNeg, reduceCtorEq, zzL, if_true, if_false] <;> rfl)); apply Exists.intro; apply And.intro; (focus (first | exact aw | exact r1 | exact r2 | exact h1 | exact h2 | exact h3 | exact dd | exact rd | exact ad | exact su | exact mu | exact pw | exact no | exact ic | exact dc | exact ri | exact rp))) | refine ⟨(by show drawK _ _ = true; kernel_rfl : drawX _ _ _), ?_⟩ | exact (by show drawK _ _ = true; kernel_rfl : drawX _ _ _) | simp -dsimp (maxSteps := 20000000) (disch := omega) only [simx, zzB, tys, ite_self, opnL, callB, stepOp, ofVal, opBuiltin, opLen, PV.sk, scalBin, scalUn, intBin, opLoad, natOf, opConvert, opField, cellsP, oneP, Value.oneCell', opStore, toIV, scalT, scalA, scalC, boxesA, boxesC, ↓reduceIte, Nat.reduceSub, Nat.reduceEqDiff, Nat.reduceAdd, Nat.reduceMul, Nat.reduceLT, Nat.reduceLeDiff, Int.reduceToNat, Int.reduceLE, Int.reduceLT, Int.reduceNeg, reduceCtorEq, zzR, gos, Int.reduceAdd, Int.reduceSub, Int.reduceMul, Int.reduceEq])
    · rw [e1] at ad; rw [e2] at su; rw [e3] at mu; rw [e4] at pw
      obtain ⟨i1, i2⟩ := iv
      refine X_startP (n := 333) (m := 6) (rs := [.tmp 12]) Try.func12 rfl rfl rfl rfl (by decide) fun base => ?_
      repeat (first | ((first | refine X_call_fn2 rfl (by simp only [tys]) ?_ | refine X_dcall_fn2 rfl (by simp only [tys]) ?_); apply Exists.intro; apply And.intro; (focus (simp -dsimp only [simx, zzB, tys, ite_self, opnL, callB, stepOp, ofVal, opBuiltin, opLen, PV.sk, scalBin, scalUn, intBin, opLoad, natOf, opConvert, opField, cellsP, oneP, Value.oneCell', opStore, toIV, scalT, scalA, scalC, boxesA, boxesC, ↓reduceIte, Nat.reduceSub, Nat.reduceEqDiff, Nat.reduceAdd, Nat.reduceMul, Nat.reduceLT, Nat.reduceLeDiff, Int.reduceToNat, Int.reduceLE, Int.reduceLT, Int.reduceNeg, reduceCtorEq, zzL, if_true, if_false] <;> rfl)); apply Exists.intro; apply And.intro; (focus (first | exact aw | exact r1 | exact r2 | exact h1 | exact h2 | exact h3 | exact dd | exact rd | exact ad | exact su | exact mu | exact pw | exact no | exact ic | exact dc | exact ri | exact rp | exact rj | exact ra | exact rs | exact rm))) | refine ⟨(by show drawK _ _ = true; kernel_rfl : drawX _ _ _), ?_⟩ | exact (by show drawK _ _ = true; kernel_rfl : drawX _ _ _) | simp -dsimp (maxSteps := 20000000) (disch := omega) only [simx, zzB, tys, ite_self, opnL, callB, stepOp, ofVal, opBuiltin, opLen, PV.sk, scalBin, scalUn, intBin, opLoad, natOf, opConvert, opField, cellsP, oneP, Value.oneCell', opStore, toIV, scalT, scalA, scalC, boxesA, boxesC, ↓reduceIte, Nat.reduceSub, Nat.reduceEqDiff, Nat.reduceAdd, Nat.reduceMul, Nat.reduceLT, Nat.reduceLeDiff, Int.reduceToNat, Int.reduceLE, Int.reduceLT, Int.reduceNeg, reduceCtorEq, zzR, gos, Int.reduceAdd, Int.reduceSub, Int.reduceMul, Int.reduceEq])
    · rw [e1] at ad; rw [e2] at su; rw [e3] at mu; rw [e4] at pw
      obtain ⟨i1, i2⟩ := iv
      refine X_startP (n := 333) (m := 6) (rs := [.tmp 12]) Try.func12 rfl rfl rfl rfl (by decide) fun base => ?_
      repeat (first | ((first | refine X_call_fn2 rfl (by simp only [tys]) ?_ | refine X_dcall_fn2 rfl (by simp only [tys]) ?_); apply Exists.intro; apply And.intro; (focus (simp -dsimp only [simx, zzB, tys, ite_self, opnL, callB, stepOp, ofVal, opBuiltin, opLen, PV.sk, scalBin, scalUn, intBin, opLoad, natOf, opConvert, opField, cellsP, oneP, Value.oneCell', opStore, toIV, scalT, scalA, scalC, boxesA, boxesC, ↓reduceIte, Nat.reduceSub, Nat.reduceEqDiff, Nat.reduceAdd, Nat.reduceMul, Nat.reduceLT, Nat.reduceLeDiff, Int.reduceToNat, Int.reduceLE, Int.reduceLT, Int.reduceNeg, reduceCtorEq, zzL, if_true, if_false] <;> rfl)); apply Exists.intro; apply And.intro; (focus (first | exact aw | exact r1 | exact r2 | exact h1 | exact h2 | exact h3 | exact dd | exact rd | exact ad | exact su | exact mu | exact pw | exact no | exact ic | exact dc | exact ri | exact rp | exact rj | exact ra | exact rs | exact rm | exact rn))) | refine ⟨(by show drawK _ _ = true; kernel_rfl : drawX _ _ _), ?_⟩ | exact (by show drawK _ _ = true; kernel_rfl : drawX _ _ _) | simp -dsimp (maxSteps := 20000000) (disch := omega) only [simx, zzB, tys, ite_self, opnL, callB, stepOp, ofVal, opBuiltin, opLen, PV.sk, scalBin, scalUn, intBin, opLoad, natOf, opConvert, opField, cellsP, oneP, Value.oneCell', opStore, toIV, scalT, scalA, scalC, boxesA, boxesC, ↓reduceIte, Nat.reduceSub, Nat.reduceEqDiff, Nat.reduceAdd, Nat.reduceMul, Nat.reduceLT, Nat.reduceLeDiff, Int.reduceToNat, Int.reduceLE, Int.reduceLT, Int.reduceNeg, reduceCtorEq, zzR, gos, Int.reduceAdd, Int.reduceSub, Int.reduceMul, Int.reduceEq])
  · rw [l1] at h1 h2
    rw [l2] at h3
    clear l1 l2
    rcases B with ⟨ca, e1, e2, e3, e4, rfl, rfl⟩ | ⟨pv, ca, cb, e1, e2, e3, e4, rfl, ri, rp⟩ | ⟨pv, sv, tv, uv, rv, re, ca, cb, e1, e2, e3, e4, ri, rp, rj, ra, rs, rm, ⟨rfl, rfl, rn⟩ | ⟨rfl, q, rfl, rn⟩⟩
    · rw [e1] at ad; rw [e2] at su; rw [e3] at mu; rw [e4] at pw
      refine X_startP (n := 333) (m := 6) (rs := [.tmp 12]) Try.func12 rfl rfl rfl rfl (by decide) fun base => ?_
      repeat (first | ((first | refine X_call_fn2 rfl (by simp only [tys]) ?_ | refine X_dcall_fn2 rfl (by simp only [tys]) ?_); apply Exists.intro; apply And.intro; (focus (simp -dsimp only [simx, zzB, tys, ite_self, opnL, callB, stepOp, ofVal, opBuiltin, opLen, PV.sk, scalBin, scalUn, intBin, opLoad, natOf, opConvert, opField, cellsP, oneP, Value.oneCell', opStore, toIV, scalT, scalA, scalC, boxesA, boxesC, ↓reduceIte, Nat.reduceSub, Nat.reduceEqDiff, Nat.reduceAdd, Nat.reduceMul, Nat.reduceLT, Nat.reduceLeDiff, Int.reduceToNat, Int.reduceLE, Int.reduceLT, Int.reduceNeg, reduceCtorEq, zzL, if_true, if_false] <;> rfl)); apply Exists.intro; apply And.intro; (focus (first | exact aw | exact r1 | exact r2 | exact h1 | exact h2 | exact h3 | exact dd | exact rd | exact ad | exact su | exact mu | exact pw | exact no | exact ic | exact dc))) | refine ⟨(by show drawK _ _ = true; kernel_rfl : drawX _ _ _), ?_⟩ | exact (by show drawK _ _ = true; kernel_rfl : drawX _ _ _) | simp -dsimp (maxSteps := 20000000) (disch := omega) only [simx, zzB, tys, ite_self, opnL, callB, stepOp, ofVal, opBuiltin, opLen, PV.sk, scalBin, scalUn, intBin, opLoad, natOf, opConvert, opField, cellsP, oneP, Value.oneCell', opStore, toIV, scalT, scalA, scalC, boxesA, boxesC, ↓reduceIte, Nat.reduceSub, Nat.reduceEqDiff, Nat.reduceAdd, Nat.reduceMul, Nat.reduceLT, Nat.reduceLeDiff, Int.reduceToNat, Int.reduceLE, Int.reduceLT, Int.reduceNeg, reduceCtorEq, zzR, gos, Int.reduceAdd, Int.reduceSub, Int.reduceMul, Int.reduceEq])
    · rw [e1] at ad; rw [e2] at su; rw [e3] at mu; rw [e4] at pw
      obtain ⟨i1, i2⟩ := iv
      refine X_startP (n := 333) (m := 6) (rs := [.tmp 12]) Try.func12 rfl rfl rfl rfl (by decide) fun base => ?_
      repeat (first | ((first | refine X_call_fn2 rfl (by simp only [tys]) ?_ | refine X_dcall_fn2 rfl (by simp only [tys]) ?_); apply Exists.intro; apply And.intro; (focus (simp -dsimp only [simx, zzB, tys, ite_self, opnL, callB, stepOp, ofVal, opBuiltin, opLen, PV.sk, scalBin, scalUn, intBin, opLoad, natOf, opConvert, opField, cellsP, oneP, Value.oneCell', opStore, toIV, scalT, scalA, scalC, boxesA, boxesC, ↓reduceIte, Nat.reduceSub, Nat.reduceEqDiff, Nat.reduceAdd, Nat.reduceMul, Nat.reduceLT, Nat.reduceLeDiff, Int.reduceToNat, Int.reduceLE, Int.reduceLT, Int.reduceNeg, reduceCtorEq, zzL, if_true, if_false] <;> rfl)); apply Exists.intro; apply And.intro; (focus (first | exact aw | exact r1 | exact r2 | exact h1 | exact h2 | exact h3 | exact dd | exact rd | exact ad | exact su | exact mu | exact pw | exact no | exact ic | exact dc | exact ri | exact rp))) | refine ⟨(by show drawK _ _ = true; kernel_rfl : drawX _ _ _), ?_⟩ | exact (by show drawK _ _ = true; kernel_rfl : drawX _ _ _) | simp -dsimp (maxSteps := 20000000) (disch := omega) only [simx, zzB, tys, ite_self, opnL, callB, stepOp, ofVal, opBuiltin, opLen, PV.sk, scalBin, scalUn, intBin, opLoad, natOf, opConvert, opField, cellsP, oneP, Value.oneCell', opStore, toIV, scalT, scalA, scalC, boxesA, boxesC, ↓reduceIte, Nat.reduceSub, Nat.reduceEqDiff, Nat.reduceAdd, Nat.reduceMul, Nat.reduceLT, Nat.reduceLeDiff, Int.reduceToNat, Int.reduceLE, Int.reduceLT, Int.reduceNeg, reduceCtorEq, zzR, gos, Int.reduceAdd, Int.reduceSub, Int.reduceMul, Int.reduceEq])
    · rw [e1] at ad; rw [e2] at su; rw [e3] at mu; rw [e4] at pw
      obtain ⟨i1, i2⟩ := iv
      refine X_startP (n := 333) (m := 6) (rs := [.tmp 12]) Try.func12 rfl rfl rfl rfl (by decide) fun base => ?_
      repeat (first | ((first | refine X_call_fn2 rfl (by simp only [tys]) ?_ | refine X_dcall_fn2 rfl (by simp only [tys]) ?_); apply Exists.intro; apply And.intro; (focus (simp -dsimp only [simx, zzB, tys, ite_self, opnL, callB, stepOp, ofVal, opBuiltin, opLen, PV.sk, scalBin, scalUn, intBin, opLoad, natOf, opConvert, opField, cellsP, oneP, Value.oneCell', opStore, toIV, scalT, scalA, scalC, boxesA, boxesC, ↓reduceIte, Nat.reduceSub, Nat.reduceEqDiff, Nat.reduceAdd, Nat.reduceMul, Nat.reduceLT, Nat.reduceLeDiff, Int.reduceToNat, Int.reduceLE, Int.reduceLT, Int.reduceNeg, reduceCtorEq, zzL, if_true, if_false] <;> rfl)); apply Exists.intro; apply And.intro; (focus (first | exact aw | exact r1 | exact r2 | exact h1 | exact h2 | exact h3 | exact dd | exact rd | exact ad | exact su | exact mu | exact pw | exact no | exact ic | exact dc | exact ri | exact rp | exact rj | exact ra | exact rs | exact rm))) | refine ⟨(by show drawK _ _ = true; kernel_rfl : drawX _ _ _), ?_⟩ | exact (by show drawK _ _ = true; kernel_rfl : drawX _ _ _) | simp -dsimp (maxSteps := 20000000) (disch := omega) only [simx, zzB, tys, ite_self, opnL, callB, stepOp, ofVal, opBuiltin, opLen, PV.sk, scalBin, scalUn, intBin, opLoad, natOf, opConvert, opField, cellsP, oneP, Value.oneCell', opStore, toIV, scalT, scalA, scalC, boxesA, boxesC, ↓reduceIte, Nat.reduceSub, Nat.reduceEqDiff, Nat.reduceAdd, Nat.reduceMul, Nat.reduceLT, Nat.reduceLeDiff, Int.reduceToNat, Int.reduceLE, Int.reduceLT, Int.reduceNeg, reduceCtorEq, zzR, gos, Int.reduceAdd, Int.reduceSub, Int.reduceMul, Int.reduceEq])
    · rw [e1] at ad; rw [e2] at su; rw [e3] at mu; rw [e4] at pw
      obtain ⟨i1, i2⟩ := iv
      refine X_startP (n := 333) (m := 6) (rs := [.tmp 12]) Try.func12 rfl rfl rfl rfl (by decide) fun base => ?_
      repeat (first | ((first | refine X_call_fn2 rfl (by simp only [tys]) ?_ | refine X_dcall_fn2 rfl (by simp only [tys]) ?_); apply Exists.intro; apply And.intro; (focus (simp -dsimp only [simx, zzB, tys, ite_self, opnL, callB, stepOp, ofVal, opBuiltin, opLen, PV.sk, scalBin, scalUn, intBin, opLoad, natOf, opConvert, opField, cellsP, oneP, Value.oneCell', opStore, toIV, scalT, scalA, scalC, boxesA, boxesC, ↓reduceIte, Nat.reduceSub, Nat.reduceEqDiff, Nat.reduceAdd, Nat.reduceMul, Nat.reduceLT, Nat.reduceLeDiff, Int.reduceToNat, Int.reduceLE, Int.reduceLT, Int.reduceNeg, reduceCtorEq, zzL, if_true, if_false] <;> rfl)); apply Exists.intro; apply And.intro; (focus (first | exact aw | exact r1 | exact r2 | exact h1 | exact h2 | exact h3 | exact dd | exact rd | exact ad | exact su | exact mu | exact pw | exact no | exact ic | exact dc | exact ri | exact rp | exact rj | exact ra | exact rs | exact rm | exact rn))) | refine ⟨(by show drawK _ _ = true; kernel_rfl : drawX _ _ _), ?_⟩ | exact (by show drawK _ _ = true; kernel_rfl : drawX _ _ _) | simp -dsimp (maxSteps := 20000000) (disch := omega) only [simx, zzB, tys, ite_self, opnL, callB, stepOp, ofVal, opBuiltin, opLen, PV.sk, scalBin, scalUn, intBin, opLoad, natOf, opConvert, opField, cellsP, oneP, Value.oneCell', opStore, toIV, scalT, scalA, scalC, boxesA, boxesC, ↓reduceIte, Nat.reduceSub, Nat.reduceEqDiff, Nat.reduceAdd, Nat.reduceMul, Nat.reduceLT, Nat.reduceLeDiff, Int.reduceToNat, Int.reduceLE, Int.reduceLT, Int.reduceNeg, reduceCtorEq, zzR, gos, Int.reduceAdd, Int.reduceSub, Int.reduceMul, Int.reduceEq])
end Go.Proofs.Ytdfhkdddlfmceaa.TM
