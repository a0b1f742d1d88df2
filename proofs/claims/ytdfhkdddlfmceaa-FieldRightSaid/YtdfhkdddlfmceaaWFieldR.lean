/- Layer 1's reference: Sub, Pow, Gcd, Inv, Dot, walked. -/
import Derived.Test.YtdfhkdddlfmceaaWFieldE
import Derived.Test.YtdfhkdddlfmceaaWDot
namespace Go.Proofs.Ytdfhkdddlfmceaa.TM
open Go Go.RowKit
set_option linter.unusedVariables false
set_option linter.defProp false
set_option linter.unusedSimpArgs false
attribute [local irreducible] K W WOps Effs Xg Xo Xr Xdg Xdo Xdr Xif CallsP CallR

theorem rsub_walk (p a b : Int) (hp : Md p) (ha : In p a) (hb : In p b) : CallsP Try.prog 44 [u64 p, u64 a, u64 b] (u64 ((a - b) % p)) := by
  have p1 := hp.1; have p2 := hp.2
  have a1 := ha.1; have a2 := ha.2; have b1 := hb.1; have b2 := hb.2
  have e : (a + p - b) % p = (a - b) % p := by rw [show a + p - b = a - b + p * 1 by omega, Int.add_mul_emod_self_left]
  rw [← e]
  refine X_startP (n := 14) (m := 3) (rs := [.tmp 6]) Try.func44 rfl rfl rfl rfl (by decide) fun base => ?_
  repeat (first | refine ⟨(by show drawK _ _ = true; kernel_rfl : drawX _ _ _), ?_⟩ | exact (by show drawK _ _ = true; kernel_rfl : drawX _ _ _) | simp -dsimp (maxSteps := 20000000) (disch := omega) only [simx, zzB, tys, ite_self, opnL, callB, stepOp, ofVal, opBuiltin, opLen, PV.sk, scalBin, scalUn, intBin, opLoad, natOf, opConvert, opField, cellsP, oneP, Value.oneCell', opStore, toIV, scalT, scalA, scalC, boxesA, boxesC, ↓reduceIte, Nat.reduceSub, Nat.reduceEqDiff, Nat.reduceAdd, Nat.reduceMul, Nat.reduceLT, Nat.reduceLeDiff, Int.reduceToNat, Int.reduceLE, Int.reduceLT, Int.reduceNeg, reduceCtorEq, zzR, gos, Int.reduceAdd, Int.reduceSub, Int.reduceMul, Int.reduceEq])
theorem rmul_walk' (p a b : Int) (hp : Md p) (ha : In p a) (hb : W64 b) : CallsP Try.prog 45 [u64 p, u64 a, u64 b] (u64 (a * b % p)) := rmul_walk p a hp ha b.toNat b hb.1 hb.2 (Nat.le_refl _)
theorem sq_half (p a : Int) (n : Nat) (h : n % 2 = 0) : a ^ (n / 2) % p * (a ^ (n / 2) % p) % p = a ^ n % p := by
  rw [mm_l, mm_r, ← Int.pow_add]
  congr 2; omega
theorem sq_half1 (p a : Int) (n : Nat) (h : n % 2 = 1) : a ^ (n / 2) % p * (a ^ (n / 2) % p) % p * a % p = a ^ n % p := by
  rw [mm_l, Int.mul_assoc, mm_l, show a ^ (n / 2) * (a ^ (n / 2) % p * a) = a * a ^ (n / 2) * (a ^ (n / 2) % p) by grind, mm_r]
  rw [show a * a ^ (n / 2) * a ^ (n / 2) = a ^ n by
    rw [Int.mul_assoc, ← Int.pow_add, Int.mul_comm, ← Int.pow_succ]
    congr 1; omega]
theorem rpow_walk (p a : Int) (hp : Md p) (ha : In p a) : ∀ (m n : Nat), n ≤ m → n < 18446744073709551616 → CallsP Try.prog 42 [u64 p, u64 a, u64 n] (u64 (a ^ n % p)) := by
  have p1 := hp.1; have p2 := hp.2
  intro m
  induction m with
  | zero =>
    intro n h1 h2
    obtain rfl : n = 0 := by omega
    rw [Int.pow_zero, Int.emod_eq_of_lt (by omega) (by omega)]
    refine X_startP (n := 27) (m := 3) (rs := [.tmp 6]) Try.func42 rfl rfl rfl rfl (by decide) fun base => ?_
    repeat (first | refine ⟨(by show drawK _ _ = true; kernel_rfl : drawX _ _ _), ?_⟩ | exact (by show drawK _ _ = true; kernel_rfl : drawX _ _ _) | simp -dsimp (maxSteps := 20000000) (disch := omega) only [simx, zzB, tys, ite_self, opnL, callB, stepOp, ofVal, opBuiltin, opLen, PV.sk, scalBin, scalUn, intBin, opLoad, natOf, opConvert, opField, cellsP, oneP, Value.oneCell', opStore, toIV, scalT, scalA, scalC, boxesA, boxesC, ↓reduceIte, Nat.reduceSub, Nat.reduceEqDiff, Nat.reduceAdd, Nat.reduceMul, Nat.reduceLT, Nat.reduceLeDiff, Int.reduceToNat, Int.reduceLE, Int.reduceLT, Int.reduceNeg, reduceCtorEq, zzR, gos, Int.reduceAdd, Int.reduceSub, Int.reduceMul, Int.reduceEq])
  | succ m ih =>
    intro n h1 h2
    by_cases c : n = 0
    · subst c
      rw [Int.pow_zero, Int.emod_eq_of_lt (by omega) (by omega)]
      refine X_startP (n := 27) (m := 3) (rs := [.tmp 6]) Try.func42 rfl rfl rfl rfl (by decide) fun base => ?_
      repeat (first | refine ⟨(by show drawK _ _ = true; kernel_rfl : drawX _ _ _), ?_⟩ | exact (by show drawK _ _ = true; kernel_rfl : drawX _ _ _) | simp -dsimp (maxSteps := 20000000) (disch := omega) only [simx, zzB, tys, ite_self, opnL, callB, stepOp, ofVal, opBuiltin, opLen, PV.sk, scalBin, scalUn, intBin, opLoad, natOf, opConvert, opField, cellsP, oneP, Value.oneCell', opStore, toIV, scalT, scalA, scalC, boxesA, boxesC, ↓reduceIte, Nat.reduceSub, Nat.reduceEqDiff, Nat.reduceAdd, Nat.reduceMul, Nat.reduceLT, Nat.reduceLeDiff, Int.reduceToNat, Int.reduceLE, Int.reduceLT, Int.reduceNeg, reduceCtorEq, zzR, gos, Int.reduceAdd, Int.reduceSub, Int.reduceMul, Int.reduceEq])
    · have r := ih (n / 2) (by omega) (by omega)
      have i1 := emod_in (p := p) (a ^ (n / 2)) (by omega)
      have d1 := rmul_walk' p _ _ hp i1 (i1.w64 (by omega))
      have e2 : (n : Int) / 2 = ((n / 2 : Nat) : Int) := by omega
      by_cases e : n % 2 = 0
      · rw [sq_half p a n e] at d1
        have e3 : (n : Int) % 2 = 0 := by omega
        clear i1 ih
        refine X_startP (n := 27) (m := 3) (rs := [.tmp 6]) Try.func42 rfl rfl rfl rfl (by decide) fun base => ?_
        repeat (first | ((first | refine X_call_fn2 rfl (by simp only [tys]) ?_ | refine X_dcall_fn2 rfl (by simp only [tys]) ?_); apply Exists.intro; apply And.intro; (focus (simp -dsimp only [simx, zzB, tys, ite_self, opnL, callB, stepOp, ofVal, opBuiltin, opLen, PV.sk, scalBin, scalUn, intBin, opLoad, natOf, opConvert, opField, cellsP, oneP, Value.oneCell', opStore, toIV, scalT, scalA, scalC, boxesA, boxesC, ↓reduceIte, Nat.reduceSub, Nat.reduceEqDiff, Nat.reduceAdd, Nat.reduceMul, Nat.reduceLT, Nat.reduceLeDiff, Int.reduceToNat, Int.reduceLE, Int.reduceLT, Int.reduceNeg, reduceCtorEq, zzL, if_true, if_false] <;> rfl)); apply Exists.intro; apply And.intro; (focus (first | exact r | exact d1))) | refine ⟨(by show drawK _ _ = true; kernel_rfl : drawX _ _ _), ?_⟩ | exact (by show drawK _ _ = true; kernel_rfl : drawX _ _ _) | simp -dsimp (maxSteps := 20000000) (disch := omega) only [simx, zzB, tys, ite_self, opnL, callB, stepOp, ofVal, opBuiltin, opLen, PV.sk, scalBin, scalUn, intBin, opLoad, natOf, opConvert, opField, cellsP, oneP, Value.oneCell', opStore, toIV, scalT, scalA, scalC, boxesA, boxesC, ↓reduceIte, Nat.reduceSub, Nat.reduceEqDiff, Nat.reduceAdd, Nat.reduceMul, Nat.reduceLT, Nat.reduceLeDiff, Int.reduceToNat, Int.reduceLE, Int.reduceLT, Int.reduceNeg, reduceCtorEq, zzR, gos, Int.reduceAdd, Int.reduceSub, Int.reduceMul, Int.reduceEq, e2, e3])
      · have i2 := emod_in (p := p) (a ^ (n / 2) % p * (a ^ (n / 2) % p)) (by omega)
        have d2 := rmul_walk' p _ a hp i2 (ha.w64 (by omega))
        rw [sq_half1 p a n (by omega)] at d2
        have e3 : (n : Int) % 2 = 1 := by omega
        clear i1 i2 ih
        refine X_startP (n := 27) (m := 3) (rs := [.tmp 6]) Try.func42 rfl rfl rfl rfl (by decide) fun base => ?_
        repeat (first | ((first | refine X_call_fn2 rfl (by simp only [tys]) ?_ | refine X_dcall_fn2 rfl (by simp only [tys]) ?_); apply Exists.intro; apply And.intro; (focus (simp -dsimp only [simx, zzB, tys, ite_self, opnL, callB, stepOp, ofVal, opBuiltin, opLen, PV.sk, scalBin, scalUn, intBin, opLoad, natOf, opConvert, opField, cellsP, oneP, Value.oneCell', opStore, toIV, scalT, scalA, scalC, boxesA, boxesC, ↓reduceIte, Nat.reduceSub, Nat.reduceEqDiff, Nat.reduceAdd, Nat.reduceMul, Nat.reduceLT, Nat.reduceLeDiff, Int.reduceToNat, Int.reduceLE, Int.reduceLT, Int.reduceNeg, reduceCtorEq, zzL, if_true, if_false] <;> rfl)); apply Exists.intro; apply And.intro; (focus (first | exact r | exact d1 | exact d2))) | refine ⟨(by show drawK _ _ = true; kernel_rfl : drawX _ _ _), ?_⟩ | exact (by show drawK _ _ = true; kernel_rfl : drawX _ _ _) | simp -dsimp (maxSteps := 20000000) (disch := omega) only [simx, zzB, tys, ite_self, opnL, callB, stepOp, ofVal, opBuiltin, opLen, PV.sk, scalBin, scalUn, intBin, opLoad, natOf, opConvert, opField, cellsP, oneP, Value.oneCell', opStore, toIV, scalT, scalA, scalC, boxesA, boxesC, ↓reduceIte, Nat.reduceSub, Nat.reduceEqDiff, Nat.reduceAdd, Nat.reduceMul, Nat.reduceLT, Nat.reduceLeDiff, Int.reduceToNat, Int.reduceLE, Int.reduceLT, Int.reduceNeg, reduceCtorEq, zzR, gos, Int.reduceAdd, Int.reduceSub, Int.reduceMul, Int.reduceEq, e2, e3])
theorem rgcd_walk (a b : Int) (wa : W64 a) (wb : W64 b) : CallsP Try.prog 37 [u64 a, u64 b] (u64 (Int.gcd a b : Int)) := by
  obtain ⟨N, g1, g0, g2⟩ := gc_run wa.1 wb.1
  rw [← g0]
  refine X_startP (n := 12) (m := 2) (rs := [.tmp 4]) Try.func37 rfl rfl rfl rfl (by decide) fun base => ?_
  repeat (first | refine ⟨(by show drawK _ _ = true; kernel_rfl : drawX _ _ _), ?_⟩ | exact (by show drawK _ _ = true; kernel_rfl : drawX _ _ _) | simp -dsimp (maxSteps := 20000000) (disch := omega) only [simx, zzB, tys, ite_self, opnL, callB, stepOp, ofVal, opBuiltin, opLen, PV.sk, scalBin, scalUn, intBin, opLoad, natOf, opConvert, opField, cellsP, oneP, Value.oneCell', opStore, toIV, scalT, scalA, scalC, boxesA, boxesC, ↓reduceIte, Nat.reduceSub, Nat.reduceEqDiff, Nat.reduceAdd, Nat.reduceMul, Nat.reduceLT, Nat.reduceLeDiff, Int.reduceToNat, Int.reduceLE, Int.reduceLT, Int.reduceNeg, reduceCtorEq, gos, Int.reduceAdd, Int.reduceSub, Int.reduceMul, Int.reduceEq])
  refine X_loopH [0, 1] [] (0) (N) (fun j => True) (fun j => [(0, u64 (itJ gcT j (a, b)).1), (1, u64 (itJ gcT j (a, b)).2)]) (fun j => Heap.none) ?_ ?_ ?_ ?_ ?_ (by decide) ?_
  · exact (fgt_nil)
  · ((simp -dsimp (disch := omega) only [simx, zzB, tys, ite_self, opnL, callB, stepOp, ofVal, opBuiltin, opLen, PV.sk, scalBin, scalUn, intBin, opLoad, natOf, opConvert, opField, cellsP, oneP, Value.oneCell', opStore, toIV, scalT, scalA, scalC, boxesA, boxesC, ↓reduceIte, Nat.reduceSub, Nat.reduceEqDiff, Nat.reduceAdd, Nat.reduceMul, Nat.reduceLT, Nat.reduceLeDiff, Int.reduceToNat, Int.reduceLE, Int.reduceLT, Int.reduceNeg, reduceCtorEq, gos, Int.reduceAdd, Int.reduceSub, Int.reduceMul, Int.reduceEq]) <;> first | rfl | simp [itJ])
  · exact drop_nil _
  · omega
  · trivial
  · intro j hj _
    by_cases cj : j < N
    · obtain ⟨⟨i1, i2⟩, hs⟩ := g2 j hj
      replace hs := hs cj
      obtain ⟨x, y, ht⟩ : ∃ x y, itJ gcT j (a, b) = (x, y) := ⟨_, _, rfl⟩
      have nx : itJ gcT (j + 1) (a, b) = (y, x % y) := by rw [itJ, ht]; rfl
      rw [ht] at i1 i2 hs ⊢
      clear g1 g2 g0 ht
      simp only at i1 i2 hs ⊢
      repeat (first | refine ⟨(by show drawK _ _ = true; kernel_rfl : drawX _ _ _), ?_⟩ | exact (by show drawK _ _ = true; kernel_rfl : drawX _ _ _) | simp -dsimp (maxSteps := 20000000) (disch := omega) only [simx, zzB, tys, ite_self, opnL, callB, stepOp, ofVal, opBuiltin, opLen, PV.sk, scalBin, scalUn, intBin, opLoad, natOf, opConvert, opField, cellsP, oneP, Value.oneCell', opStore, toIV, scalT, scalA, scalC, boxesA, boxesC, ↓reduceIte, Nat.reduceSub, Nat.reduceEqDiff, Nat.reduceAdd, Nat.reduceMul, Nat.reduceLT, Nat.reduceLeDiff, Int.reduceToNat, Int.reduceLE, Int.reduceLT, Int.reduceNeg, reduceCtorEq, gos, Int.reduceAdd, Int.reduceSub, Int.reduceMul, Int.reduceEq, hs])
      refine ⟨cj, (fgt_nil), ?_, drop_nil _⟩
      rw [nx]
      repeat' first | rfl | apply And.intro
    · obtain rfl : N = j := by omega
      clear g2
      generalize itJ gcT N (a, b) = t at g1 g0 ⊢
      obtain ⟨x, y⟩ := t
      simp only at g1 ⊢
      subst g1
      repeat (first | refine ⟨(by show drawK _ _ = true; kernel_rfl : drawX _ _ _), ?_⟩ | exact (by show drawK _ _ = true; kernel_rfl : drawX _ _ _) | simp -dsimp (maxSteps := 20000000) (disch := omega) only [simx, zzB, tys, ite_self, opnL, callB, stepOp, ofVal, opBuiltin, opLen, PV.sk, scalBin, scalUn, intBin, opLoad, natOf, opConvert, opField, cellsP, oneP, Value.oneCell', opStore, toIV, scalT, scalA, scalC, boxesA, boxesC, ↓reduceIte, Nat.reduceSub, Nat.reduceEqDiff, Nat.reduceAdd, Nat.reduceMul, Nat.reduceLT, Nat.reduceLeDiff, Int.reduceToNat, Int.reduceLE, Int.reduceLT, Int.reduceNeg, reduceCtorEq, zzR, gos, Int.reduceAdd, Int.reduceSub, Int.reduceMul, Int.reduceEq])
theorem rinv_walk (p a : Int) (hp : Md p) (ha : In p a) : ∃ r : Int × Int, r = invR p a ∧ CallsP Try.prog 41 [u64 p, u64 a] (.tup [u64 r.1, i64 r.2]) := by
  refine ⟨_, rfl, ?_⟩
  have p1 := hp.1; have p2 := hp.2
  have g := rgcd_walk p a ⟨by omega, by omega⟩ (ha.w64 (by omega))
  unfold invR
  by_cases c : Int.gcd p a = 1
  · obtain ⟨N, g1, g2⟩ := em_run p1 ha
    obtain ⟨E, _⟩ := g2 N (Nat.le_refl _)
    rw [g1] at E
    rw [if_pos c, em_end p1 E c]
    have c' : (Int.gcd p a : Int) = 1 := by omega
    rw [c'] at g
    clear c c' E
    refine X_startP (n := 39) (m := 2) (rs := [.tmp 4, .tmp 5]) Try.func41 rfl rfl rfl rfl (by decide) fun base => ?_
    repeat (first | ((first | refine X_call_fn2 rfl (by simp only [tys]) ?_ | refine X_dcall_fn2 rfl (by simp only [tys]) ?_); apply Exists.intro; apply And.intro; (focus (simp -dsimp only [simx, zzB, tys, ite_self, opnL, callB, stepOp, ofVal, opBuiltin, opLen, PV.sk, scalBin, scalUn, intBin, opLoad, natOf, opConvert, opField, cellsP, oneP, Value.oneCell', opStore, toIV, scalT, scalA, scalC, boxesA, boxesC, ↓reduceIte, Nat.reduceSub, Nat.reduceEqDiff, Nat.reduceAdd, Nat.reduceMul, Nat.reduceLT, Nat.reduceLeDiff, Int.reduceToNat, Int.reduceLE, Int.reduceLT, Int.reduceNeg, reduceCtorEq, zzL, if_true, if_false] <;> rfl)); apply Exists.intro; apply And.intro; (focus (first | exact g))) | refine ⟨(by show drawK _ _ = true; kernel_rfl : drawX _ _ _), ?_⟩ | exact (by show drawK _ _ = true; kernel_rfl : drawX _ _ _) | simp -dsimp (maxSteps := 20000000) (disch := omega) only [simx, zzB, tys, ite_self, opnL, callB, stepOp, ofVal, opBuiltin, opLen, PV.sk, scalBin, scalUn, intBin, opLoad, natOf, opConvert, opField, cellsP, oneP, Value.oneCell', opStore, toIV, scalT, scalA, scalC, boxesA, boxesC, ↓reduceIte, Nat.reduceSub, Nat.reduceEqDiff, Nat.reduceAdd, Nat.reduceMul, Nat.reduceLT, Nat.reduceLeDiff, Int.reduceToNat, Int.reduceLE, Int.reduceLT, Int.reduceNeg, reduceCtorEq, gos, Int.reduceAdd, Int.reduceSub, Int.reduceMul, Int.reduceEq])
    clear g
    refine X_loopH [0, 6, 7, 8, 9] [] (0) (N) (fun j => True) (fun j => [(6, u64 (itJ (emT p) j (p, a, 0, 1)).1), (7, u64 (itJ (emT p) j (p, a, 0, 1)).2.1), (8, u64 (itJ (emT p) j (p, a, 0, 1)).2.2.1), (9, u64 (itJ (emT p) j (p, a, 0, 1)).2.2.2)]) (fun j => Heap.none) ?_ ?_ ?_ ?_ ?_ (by decide) ?_
    · exact (fgt_nil)
    · ((simp -dsimp (disch := omega) only [simx, zzB, tys, ite_self, opnL, callB, stepOp, ofVal, opBuiltin, opLen, PV.sk, scalBin, scalUn, intBin, opLoad, natOf, opConvert, opField, cellsP, oneP, Value.oneCell', opStore, toIV, scalT, scalA, scalC, boxesA, boxesC, ↓reduceIte, Nat.reduceSub, Nat.reduceEqDiff, Nat.reduceAdd, Nat.reduceMul, Nat.reduceLT, Nat.reduceLeDiff, Int.reduceToNat, Int.reduceLE, Int.reduceLT, Int.reduceNeg, reduceCtorEq, gos, Int.reduceAdd, Int.reduceSub, Int.reduceMul, Int.reduceEq]) <;> first | rfl | simp [itJ])
    · exact drop_nil _
    · omega
    · trivial
    · intro j hj _
      by_cases cj : j < N
      · obtain ⟨E, hs⟩ := g2 j hj
        replace hs := hs cj
        obtain ⟨r, s, x, y, ht⟩ : ∃ r s x y, itJ (emT p) j (p, a, 0, 1) = (r, s, x, y) := ⟨_, _, _, _, rfl⟩
        have nx : itJ (emT p) (j + 1) (p, a, 0, 1) = (s, r - r / s * s, y, (x - r / s % p * y % p) % p) := by rw [itJ, ht]; rfl
        rw [ht] at E hs ⊢
        clear g1 g2 ht
        simp only at E hs ⊢
        have hs0 := E.hs0; have hsr := E.hsr; have hrp := E.hrp
        have hq := Int.emod_add_mul_ediv r s
        have hqc : s * (r / s) = r / s * s := Int.mul_comm _ _
        have hm0 := Int.emod_nonneg r hs
        have hq0 : 0 ≤ r / s := Int.ediv_nonneg (by omega) hs0
        have hqr : r / s ≤ r := Int.ediv_le_self _ (by omega)
        have hqs0 : 0 ≤ r / s * s := Int.mul_nonneg hq0 hs0
        have iq := emod_in (r / s) (show 0 < p by omega)
        have im := emod_in (r / s % p * y) (show 0 < p by omega)
        have d1 := rmul_walk' p _ y hp iq (E.iy.w64 (by omega))
        have d2 := rsub_walk p x _ hp E.ix im
        have w1 : IntKind.u64.wrap (r / s) = r / s := uw_of (by omega) (by omega)
        have w2 : IntKind.u64.wrap (r / s * s) = r / s * s := uw_of (by omega) (by omega)
        have w3 : IntKind.u64.wrap (r - r / s * s) = r - r / s * s := uw_of (by omega) (by omega)
        clear iq im hq hqc hm0
        repeat (first | ((first | refine X_call_fn2 rfl (by simp only [tys]) ?_ | refine X_dcall_fn2 rfl (by simp only [tys]) ?_); apply Exists.intro; apply And.intro; (focus (simp -dsimp only [simx, zzB, tys, ite_self, opnL, callB, stepOp, ofVal, opBuiltin, opLen, PV.sk, scalBin, scalUn, intBin, opLoad, natOf, opConvert, opField, cellsP, oneP, Value.oneCell', opStore, toIV, scalT, scalA, scalC, boxesA, boxesC, ↓reduceIte, Nat.reduceSub, Nat.reduceEqDiff, Nat.reduceAdd, Nat.reduceMul, Nat.reduceLT, Nat.reduceLeDiff, Int.reduceToNat, Int.reduceLE, Int.reduceLT, Int.reduceNeg, reduceCtorEq, zzL, if_true, if_false] <;> rfl)); apply Exists.intro; apply And.intro; (focus (first | exact d1 | exact d2))) | refine ⟨(by show drawK _ _ = true; kernel_rfl : drawX _ _ _), ?_⟩ | exact (by show drawK _ _ = true; kernel_rfl : drawX _ _ _) | simp -dsimp (maxSteps := 20000000) (disch := omega) only [simx, zzB, tys, ite_self, opnL, callB, stepOp, ofVal, opBuiltin, opLen, PV.sk, scalBin, scalUn, intBin, opLoad, natOf, opConvert, opField, cellsP, oneP, Value.oneCell', opStore, toIV, scalT, scalA, scalC, boxesA, boxesC, ↓reduceIte, Nat.reduceSub, Nat.reduceEqDiff, Nat.reduceAdd, Nat.reduceMul, Nat.reduceLT, Nat.reduceLeDiff, Int.reduceToNat, Int.reduceLE, Int.reduceLT, Int.reduceNeg, reduceCtorEq, gos, Int.reduceAdd, Int.reduceSub, Int.reduceMul, Int.reduceEq, w1, w2, w3, hs])
        refine ⟨cj, (fgt_nil), ?_, drop_nil _⟩
        rw [nx]
        repeat' first | rfl | apply And.intro
      · obtain rfl : N = j := by omega
        clear g2
        generalize itJ (emT p) N (p, a, 0, 1) = t at g1 ⊢
        obtain ⟨r, s, x, y⟩ := t
        simp only at g1 ⊢
        subst g1
        repeat (first | refine ⟨(by show drawK _ _ = true; kernel_rfl : drawX _ _ _), ?_⟩ | exact (by show drawK _ _ = true; kernel_rfl : drawX _ _ _) | simp -dsimp (maxSteps := 20000000) (disch := omega) only [simx, zzB, tys, ite_self, opnL, callB, stepOp, ofVal, opBuiltin, opLen, PV.sk, scalBin, scalUn, intBin, opLoad, natOf, opConvert, opField, cellsP, oneP, Value.oneCell', opStore, toIV, scalT, scalA, scalC, boxesA, boxesC, ↓reduceIte, Nat.reduceSub, Nat.reduceEqDiff, Nat.reduceAdd, Nat.reduceMul, Nat.reduceLT, Nat.reduceLeDiff, Int.reduceToNat, Int.reduceLE, Int.reduceLT, Int.reduceNeg, reduceCtorEq, zzR, gos, Int.reduceAdd, Int.reduceSub, Int.reduceMul, Int.reduceEq])
  · have c' : ¬ (Int.gcd p a : Int) = 1 := by omega
    rw [if_neg c]
    generalize (Int.gcd p a : Int) = gg at g c'
    refine X_startP (n := 39) (m := 2) (rs := [.tmp 4, .tmp 5]) Try.func41 rfl rfl rfl rfl (by decide) fun base => ?_
    repeat (first | ((first | refine X_call_fn2 rfl (by simp only [tys]) ?_ | refine X_dcall_fn2 rfl (by simp only [tys]) ?_); apply Exists.intro; apply And.intro; (focus (simp -dsimp only [simx, zzB, tys, ite_self, opnL, callB, stepOp, ofVal, opBuiltin, opLen, PV.sk, scalBin, scalUn, intBin, opLoad, natOf, opConvert, opField, cellsP, oneP, Value.oneCell', opStore, toIV, scalT, scalA, scalC, boxesA, boxesC, ↓reduceIte, Nat.reduceSub, Nat.reduceEqDiff, Nat.reduceAdd, Nat.reduceMul, Nat.reduceLT, Nat.reduceLeDiff, Int.reduceToNat, Int.reduceLE, Int.reduceLT, Int.reduceNeg, reduceCtorEq, zzL, if_true, if_false] <;> rfl)); apply Exists.intro; apply And.intro; (focus (first | exact g))) | refine ⟨(by show drawK _ _ = true; kernel_rfl : drawX _ _ _), ?_⟩ | exact (by show drawK _ _ = true; kernel_rfl : drawX _ _ _) | simp -dsimp (maxSteps := 20000000) (disch := omega) only [simx, zzB, tys, ite_self, opnL, callB, stepOp, ofVal, opBuiltin, opLen, PV.sk, scalBin, scalUn, intBin, opLoad, natOf, opConvert, opField, cellsP, oneP, Value.oneCell', opStore, toIV, scalT, scalA, scalC, boxesA, boxesC, ↓reduceIte, Nat.reduceSub, Nat.reduceEqDiff, Nat.reduceAdd, Nat.reduceMul, Nat.reduceLT, Nat.reduceLeDiff, Int.reduceToNat, Int.reduceLE, Int.reduceLT, Int.reduceNeg, reduceCtorEq, zzR, gos, Int.reduceAdd, Int.reduceSub, Int.reduceMul, Int.reduceEq])
theorem rdot_walk {p : Int} (hp : Md p) {a b : List Int} (ha : ∀ x ∈ a, In p x) (hb : ∀ x ∈ b, In p x) (hl : a.length = b.length) (hm : a.length ≤ maxLen) : CallsP Try.prog 40 [u64 p, lu a, lu b] (u64 (dotI a b % p)) := by
  have p1 := hp.1; have p2 := hp.2
  rw [mx_len] at hm
  refine X_startP (n := 29) (m := 3) (rs := [.tmp 6]) Try.func40 rfl rfl rfl rfl (by decide) fun base => ?_
  repeat (first | refine ⟨(by show drawK _ _ = true; kernel_rfl : drawX _ _ _), ?_⟩ | exact (by show drawK _ _ = true; kernel_rfl : drawX _ _ _) | simp -dsimp (maxSteps := 20000000) (disch := omega) only [simx, zzB, tys, ite_self, opnL, callB, stepOp, ofVal, opBuiltin, opLen, PV.sk, scalBin, scalUn, intBin, opLoad, natOf, opConvert, opField, cellsP, oneP, Value.oneCell', opStore, toIV, scalT, scalA, scalC, boxesA, boxesC, ↓reduceIte, Nat.reduceSub, Nat.reduceEqDiff, Nat.reduceAdd, Nat.reduceMul, Nat.reduceLT, Nat.reduceLeDiff, Int.reduceToNat, Int.reduceLE, Int.reduceLT, Int.reduceNeg, reduceCtorEq, gos, Int.reduceAdd, Int.reduceSub, Int.reduceMul, Int.reduceEq])
  refine X_loopH [0, 1, 2, 7, 8] [] (0) (a.length) (fun j => True) (fun j => [(7, u64 (dotI (a.take j) (b.take j) % p)), (8, i64 j)]) (fun j => Heap.none) ?_ ?_ ?_ ?_ ?_ (by decide) ?_
  · exact (fgt_nil)
  · ((simp -dsimp (disch := omega) only [simx, zzB, tys, ite_self, opnL, callB, stepOp, ofVal, opBuiltin, opLen, PV.sk, scalBin, scalUn, intBin, opLoad, natOf, opConvert, opField, cellsP, oneP, Value.oneCell', opStore, toIV, scalT, scalA, scalC, boxesA, boxesC, ↓reduceIte, Nat.reduceSub, Nat.reduceEqDiff, Nat.reduceAdd, Nat.reduceMul, Nat.reduceLT, Nat.reduceLeDiff, Int.reduceToNat, Int.reduceLE, Int.reduceLT, Int.reduceNeg, reduceCtorEq, gos, Int.reduceAdd, Int.reduceSub, Int.reduceMul, Int.reduceEq]) <;> first | rfl | simp [dotI_nil])
  · exact drop_nil _
  · omega
  · trivial
  · intro j hj _
    by_cases c : j < a.length
    · have c' : j < b.length := by omega
      have g1 : a[j]? = some a[j] := List.getElem?_eq_getElem c
      have g2 : b[j]? = some b[j] := List.getElem?_eq_getElem c'
      have i1 := ha _ (List.getElem_mem c)
      have i2 := hb _ (List.getElem_mem c')
      have i3 := emod_in (p := p) (a[j] * b[j]) (by omega)
      have i4 := emod_in (p := p) (dotI (a.take j) (b.take j)) (by omega)
      have d1 := rmul_walk' p _ _ hp i1 (i2.w64 (by omega))
      have d2 := radd_walk p _ _ hp i4 i3
      have e : (dotI (a.take j) (b.take j) % p + a[j] * b[j] % p) % p = dotI (a.take (j + 1)) (b.take (j + 1)) % p := by rw [dotI_take c c', am_l, am_r]
      rw [e] at d2
      clear i1 i2 i3 i4
      repeat (first | ((first | refine X_call_fn2 rfl (by simp only [tys]) ?_ | refine X_dcall_fn2 rfl (by simp only [tys]) ?_); apply Exists.intro; apply And.intro; (focus (simp -dsimp only [simx, zzB, tys, ite_self, opnL, callB, stepOp, ofVal, opBuiltin, opLen, PV.sk, scalBin, scalUn, intBin, opLoad, natOf, opConvert, opField, cellsP, oneP, Value.oneCell', opStore, toIV, scalT, scalA, scalC, boxesA, boxesC, ↓reduceIte, Nat.reduceSub, Nat.reduceEqDiff, Nat.reduceAdd, Nat.reduceMul, Nat.reduceLT, Nat.reduceLeDiff, Int.reduceToNat, Int.reduceLE, Int.reduceLT, Int.reduceNeg, reduceCtorEq, zzL, if_true, if_false] <;> rfl)); apply Exists.intro; apply And.intro; (focus (first | exact d1 | exact d2))) | refine ⟨(by show drawK _ _ = true; kernel_rfl : drawX _ _ _), ?_⟩ | exact (by show drawK _ _ = true; kernel_rfl : drawX _ _ _) | simp -dsimp (maxSteps := 20000000) (disch := omega) only [simx, zzB, tys, ite_self, opnL, callB, stepOp, ofVal, opBuiltin, opLen, PV.sk, scalBin, scalUn, intBin, opLoad, natOf, opConvert, opField, cellsP, oneP, Value.oneCell', opStore, toIV, scalT, scalA, scalC, boxesA, boxesC, ↓reduceIte, Nat.reduceSub, Nat.reduceEqDiff, Nat.reduceAdd, Nat.reduceMul, Nat.reduceLT, Nat.reduceLeDiff, Int.reduceToNat, Int.reduceLE, Int.reduceLT, Int.reduceNeg, reduceCtorEq, gos, Int.reduceAdd, Int.reduceSub, Int.reduceMul, Int.reduceEq, c, c', g1, g2])
      exact ⟨c, (fgt_nil), rfl, drop_nil _⟩
    · have hj : j = a.length := by omega
      subst hj
      have e1 : b.take a.length = b := by rw [hl]; exact List.take_length
      repeat (first | refine ⟨(by show drawK _ _ = true; kernel_rfl : drawX _ _ _), ?_⟩ | exact (by show drawK _ _ = true; kernel_rfl : drawX _ _ _) | simp -dsimp (maxSteps := 20000000) (disch := omega) only [simx, zzB, tys, ite_self, opnL, callB, stepOp, ofVal, opBuiltin, opLen, PV.sk, scalBin, scalUn, intBin, opLoad, natOf, opConvert, opField, cellsP, oneP, Value.oneCell', opStore, toIV, scalT, scalA, scalC, boxesA, boxesC, ↓reduceIte, Nat.reduceSub, Nat.reduceEqDiff, Nat.reduceAdd, Nat.reduceMul, Nat.reduceLT, Nat.reduceLeDiff, Int.reduceToNat, Int.reduceLE, Int.reduceLT, Int.reduceNeg, reduceCtorEq, zzR, gos, Int.reduceAdd, Int.reduceSub, Int.reduceMul, Int.reduceEq, List.take_length, e1])
end Go.Proofs.Ytdfhkdddlfmceaa.TM
