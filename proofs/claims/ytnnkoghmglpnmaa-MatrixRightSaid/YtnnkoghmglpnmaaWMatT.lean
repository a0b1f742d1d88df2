/- Layer 5's reference: is a thin matrix right? walked. -/
import Derived.Test.YtnnkoghmglpnmaaWMatS
import Derived.Test.YtnnkoghmglpnmaaWMatThin
namespace Go.Proofs.Ytnnkoghmglpnmaa.TM
open Go Go.RowKit
set_option linter.unusedVariables false
set_option linter.defProp false
set_option linter.unusedSimpArgs false
attribute [local irreducible] K W WOps Effs Xg Xo Xr Xdg Xdo Xdr Xif CallsP CallR

theorem spB_iff (p r c : Int) (b k v : List Int) : spB p r c b k v = true ↔ ((1 ≤ r ∧ r ≤ 64) ∧ (1 ≤ c ∧ c ≤ 64) ∧ (b.length = r.toNat + 1 ∧ b.getD 0 0 = 0 ∧ b.getD r.toNat 0 = k.length ∧ sF b r.toNat = true ∧ k.length = v.length) ∧ HasB p v = true ∧ (0 : Int) ∉ v ∧ ∀ i, i < r.toNat → risF (-1) (segI b k i) c = true) := by
  simp only [spB, begB, Bool.and_eq_true, side_iff, Bool.not_eq_true', decide_eq_false_iff_not, decide_eq_true_eq, List.all_eq_true, List.mem_range]
theorem spB_no {p r c : Int} {b k v : List Int} (h : ¬ ((1 ≤ r ∧ r ≤ 64) ∧ (1 ≤ c ∧ c ≤ 64) ∧ (b.length = r.toNat + 1 ∧ b.getD 0 0 = 0 ∧ b.getD r.toNat 0 = k.length ∧ sF b r.toNat = true ∧ k.length = v.length) ∧ HasB p v = true ∧ (0 : Int) ∉ v ∧ ∀ i, i < r.toNat → risF (-1) (segI b k i) c = true)) : spB p r c b k v = false := by
  cases e : spB p r c b k v with
  | false => rfl
  | true => exact absurd ((spB_iff ..).1 e) h
set_option maxHeartbeats 16000000 in
set_option maxRecDepth 100000 in
theorem rsparse_walk (p r c : Int) (b k v : List Int) (hr : -9223372036854775808 ≤ r ∧ r < 9223372036854775808) (hb : b.length ≤ maxLen) (hk : k.length ≤ maxLen) (hv : v.length ≤ maxLen) :
    CallsP Try.prog 34 [u64 p, spP r c b k v] (bl (spB p r c b k v)) := by
  have h := rhas_walk p v hv
  by_cases c1 : r < 1
  · rw [spB_no (fun g => by omega)]
    refine X_startP (n := 156) (m := 2) (rs := [.tmp 4]) Try.func34 rfl rfl rfl rfl (by decide) fun base => ?_
    repeat (first | refine ⟨(by show drawK _ _ = true; kernel_rfl : drawX _ _ _), ?_⟩ | exact (by show drawK _ _ = true; kernel_rfl : drawX _ _ _) | simp -dsimp (maxSteps := 20000000) (disch := omega) only [simx, zzC, zzB, tys, ite_self, opnL, callB, stepOp, ofVal, opBuiltin, opLen, PV.sk, scalBin, scalUn, intBin, opLoad, natOf, opConvert, opField, cellsP, oneP, Value.oneCell', opStore, toIV, scalT, scalA, scalC, boxesA, boxesC, ↓reduceIte, Nat.reduceSub, Nat.reduceEqDiff, Nat.reduceAdd, Nat.reduceMul, Nat.reduceLT, Nat.reduceLeDiff, Int.reduceToNat, Int.reduceLE, Int.reduceLT, Int.reduceNeg, reduceCtorEq, zzR, gos, Int.reduceAdd, Int.reduceSub, Int.reduceMul, Int.reduceEq])
  by_cases c2 : r > 64
  · rw [spB_no (fun g => by omega)]
    refine X_startP (n := 156) (m := 2) (rs := [.tmp 4]) Try.func34 rfl rfl rfl rfl (by decide) fun base => ?_
    repeat (first | refine ⟨(by show drawK _ _ = true; kernel_rfl : drawX _ _ _), ?_⟩ | exact (by show drawK _ _ = true; kernel_rfl : drawX _ _ _) | simp -dsimp (maxSteps := 20000000) (disch := omega) only [simx, zzC, zzB, tys, ite_self, opnL, callB, stepOp, ofVal, opBuiltin, opLen, PV.sk, scalBin, scalUn, intBin, opLoad, natOf, opConvert, opField, cellsP, oneP, Value.oneCell', opStore, toIV, scalT, scalA, scalC, boxesA, boxesC, ↓reduceIte, Nat.reduceSub, Nat.reduceEqDiff, Nat.reduceAdd, Nat.reduceMul, Nat.reduceLT, Nat.reduceLeDiff, Int.reduceToNat, Int.reduceLE, Int.reduceLT, Int.reduceNeg, reduceCtorEq, zzR, gos, Int.reduceAdd, Int.reduceSub, Int.reduceMul, Int.reduceEq])
  by_cases c3 : c < 1
  · rw [spB_no (fun g => by omega)]
    refine X_startP (n := 156) (m := 2) (rs := [.tmp 4]) Try.func34 rfl rfl rfl rfl (by decide) fun base => ?_
    repeat (first | refine ⟨(by show drawK _ _ = true; kernel_rfl : drawX _ _ _), ?_⟩ | exact (by show drawK _ _ = true; kernel_rfl : drawX _ _ _) | simp -dsimp (maxSteps := 20000000) (disch := omega) only [simx, zzC, zzB, tys, ite_self, opnL, callB, stepOp, ofVal, opBuiltin, opLen, PV.sk, scalBin, scalUn, intBin, opLoad, natOf, opConvert, opField, cellsP, oneP, Value.oneCell', opStore, toIV, scalT, scalA, scalC, boxesA, boxesC, ↓reduceIte, Nat.reduceSub, Nat.reduceEqDiff, Nat.reduceAdd, Nat.reduceMul, Nat.reduceLT, Nat.reduceLeDiff, Int.reduceToNat, Int.reduceLE, Int.reduceLT, Int.reduceNeg, reduceCtorEq, zzR, gos, Int.reduceAdd, Int.reduceSub, Int.reduceMul, Int.reduceEq])
  by_cases c4 : c > 64
  · rw [spB_no (fun g => by omega)]
    refine X_startP (n := 156) (m := 2) (rs := [.tmp 4]) Try.func34 rfl rfl rfl rfl (by decide) fun base => ?_
    repeat (first | refine ⟨(by show drawK _ _ = true; kernel_rfl : drawX _ _ _), ?_⟩ | exact (by show drawK _ _ = true; kernel_rfl : drawX _ _ _) | simp -dsimp (maxSteps := 20000000) (disch := omega) only [simx, zzC, zzB, tys, ite_self, opnL, callB, stepOp, ofVal, opBuiltin, opLen, PV.sk, scalBin, scalUn, intBin, opLoad, natOf, opConvert, opField, cellsP, oneP, Value.oneCell', opStore, toIV, scalT, scalA, scalC, boxesA, boxesC, ↓reduceIte, Nat.reduceSub, Nat.reduceEqDiff, Nat.reduceAdd, Nat.reduceMul, Nat.reduceLT, Nat.reduceLeDiff, Int.reduceToNat, Int.reduceLE, Int.reduceLT, Int.reduceNeg, reduceCtorEq, zzR, gos, Int.reduceAdd, Int.reduceSub, Int.reduceMul, Int.reduceEq])
  obtain ⟨R, rfl⟩ := Int.eq_ofNat_of_zero_le (show 0 ≤ r by omega)
  obtain ⟨C, rfl⟩ := Int.eq_ofNat_of_zero_le (show 0 ≤ c by omega)
  by_cases c5 : (b.length : Int) = R + 1
  case neg =>
    rw [spB_no (fun g => by have := g.2.2.1.1; rw [Int.toNat_natCast] at this; omega)]
    refine X_startP (n := 156) (m := 2) (rs := [.tmp 4]) Try.func34 rfl rfl rfl rfl (by decide) fun base => ?_
    repeat (first | refine ⟨(by show drawK _ _ = true; kernel_rfl : drawX _ _ _), ?_⟩ | exact (by show drawK _ _ = true; kernel_rfl : drawX _ _ _) | simp -dsimp (maxSteps := 20000000) (disch := omega) only [simx, zzC, zzB, tys, ite_self, opnL, callB, stepOp, ofVal, opBuiltin, opLen, PV.sk, scalBin, scalUn, intBin, opLoad, natOf, opConvert, opField, cellsP, oneP, Value.oneCell', opStore, toIV, scalT, scalA, scalC, boxesA, boxesC, ↓reduceIte, Nat.reduceSub, Nat.reduceEqDiff, Nat.reduceAdd, Nat.reduceMul, Nat.reduceLT, Nat.reduceLeDiff, Int.reduceToNat, Int.reduceLE, Int.reduceLT, Int.reduceNeg, reduceCtorEq, zzR, gos, Int.reduceAdd, Int.reduceSub, Int.reduceMul, Int.reduceEq])
  by_cases c6 : (k.length : Int) = v.length
  case neg =>
    rw [spB_no (fun g => by have := g.2.2.1.2.2.2.2; omega)]
    refine X_startP (n := 156) (m := 2) (rs := [.tmp 4]) Try.func34 rfl rfl rfl rfl (by decide) fun base => ?_
    repeat (first | refine ⟨(by show drawK _ _ = true; kernel_rfl : drawX _ _ _), ?_⟩ | exact (by show drawK _ _ = true; kernel_rfl : drawX _ _ _) | simp -dsimp (maxSteps := 20000000) (disch := omega) only [simx, zzC, zzB, tys, ite_self, opnL, callB, stepOp, ofVal, opBuiltin, opLen, PV.sk, scalBin, scalUn, intBin, opLoad, natOf, opConvert, opField, cellsP, oneP, Value.oneCell', opStore, toIV, scalT, scalA, scalC, boxesA, boxesC, ↓reduceIte, Nat.reduceSub, Nat.reduceEqDiff, Nat.reduceAdd, Nat.reduceMul, Nat.reduceLT, Nat.reduceLeDiff, Int.reduceToNat, Int.reduceLE, Int.reduceLT, Int.reduceNeg, reduceCtorEq, zzR, gos, Int.reduceAdd, Int.reduceSub, Int.reduceMul, Int.reduceEq])
  cases c7 : HasB p v with
  | false =>
    rw [c7] at h
    rw [spB_no (fun g => by have := g.2.2.2.1; rw [c7] at this; cases this)]
    refine X_startP (n := 156) (m := 2) (rs := [.tmp 4]) Try.func34 rfl rfl rfl rfl (by decide) fun base => ?_
    repeat (first | ((first | refine X_call_fn2 rfl (by simp only [tys]) ?_ | refine X_dcall_fn2 rfl (by simp only [tys]) ?_); apply Exists.intro; apply And.intro; (focus (simp -dsimp only [simx, zzC, zzB, tys, ite_self, opnL, callB, stepOp, ofVal, opBuiltin, opLen, PV.sk, scalBin, scalUn, intBin, opLoad, natOf, opConvert, opField, cellsP, oneP, Value.oneCell', opStore, toIV, scalT, scalA, scalC, boxesA, boxesC, ↓reduceIte, Nat.reduceSub, Nat.reduceEqDiff, Nat.reduceAdd, Nat.reduceMul, Nat.reduceLT, Nat.reduceLeDiff, Int.reduceToNat, Int.reduceLE, Int.reduceLT, Int.reduceNeg, reduceCtorEq, zzL, if_true, if_false] <;> rfl)); apply Exists.intro; apply And.intro; (focus (first | exact h))) | refine ⟨(by show drawK _ _ = true; kernel_rfl : drawX _ _ _), ?_⟩ | exact (by show drawK _ _ = true; kernel_rfl : drawX _ _ _) | simp -dsimp (maxSteps := 20000000) (disch := omega) only [simx, zzC, zzB, tys, ite_self, opnL, callB, stepOp, ofVal, opBuiltin, opLen, PV.sk, scalBin, scalUn, intBin, opLoad, natOf, opConvert, opField, cellsP, oneP, Value.oneCell', opStore, toIV, scalT, scalA, scalC, boxesA, boxesC, ↓reduceIte, Nat.reduceSub, Nat.reduceEqDiff, Nat.reduceAdd, Nat.reduceMul, Nat.reduceLT, Nat.reduceLeDiff, Int.reduceToNat, Int.reduceLE, Int.reduceLT, Int.reduceNeg, reduceCtorEq, zzR, gos, Int.reduceAdd, Int.reduceSub, Int.reduceMul, Int.reduceEq])
  | true =>
  rw [c7] at h
  have l0 : 0 < b.length := by omega
  have lR : R < b.length := by omega
  have g0 : b[0]? = some (b.getD 0 0) := by rw [List.getD_eq_getElem?_getD, List.getElem?_eq_getElem l0]; rfl
  have gR : b[R]? = some (b.getD R 0) := by rw [List.getD_eq_getElem?_getD, List.getElem?_eq_getElem lR]; rfl
  by_cases c8 : b.getD 0 0 = 0
  case neg =>
    rw [spB_no (fun g => c8 g.2.2.1.2.1)]
    generalize b.getD 0 0 = b0 at g0 c8
    refine X_startP (n := 156) (m := 2) (rs := [.tmp 4]) Try.func34 rfl rfl rfl rfl (by decide) fun base => ?_
    repeat (first | ((first | refine X_call_fn2 rfl (by simp only [tys]) ?_ | refine X_dcall_fn2 rfl (by simp only [tys]) ?_); apply Exists.intro; apply And.intro; (focus (simp -dsimp only [simx, zzC, zzB, tys, ite_self, opnL, callB, stepOp, ofVal, opBuiltin, opLen, PV.sk, scalBin, scalUn, intBin, opLoad, natOf, opConvert, opField, cellsP, oneP, Value.oneCell', opStore, toIV, scalT, scalA, scalC, boxesA, boxesC, ↓reduceIte, Nat.reduceSub, Nat.reduceEqDiff, Nat.reduceAdd, Nat.reduceMul, Nat.reduceLT, Nat.reduceLeDiff, Int.reduceToNat, Int.reduceLE, Int.reduceLT, Int.reduceNeg, reduceCtorEq, zzL, if_true, if_false] <;> rfl)); apply Exists.intro; apply And.intro; (focus (first | exact h))) | refine ⟨(by show drawK _ _ = true; kernel_rfl : drawX _ _ _), ?_⟩ | exact (by show drawK _ _ = true; kernel_rfl : drawX _ _ _) | simp -dsimp (maxSteps := 20000000) (disch := omega) only [simx, zzC, zzB, tys, ite_self, opnL, callB, stepOp, ofVal, opBuiltin, opLen, PV.sk, scalBin, scalUn, intBin, opLoad, natOf, opConvert, opField, cellsP, oneP, Value.oneCell', opStore, toIV, scalT, scalA, scalC, boxesA, boxesC, ↓reduceIte, Nat.reduceSub, Nat.reduceEqDiff, Nat.reduceAdd, Nat.reduceMul, Nat.reduceLT, Nat.reduceLeDiff, Int.reduceToNat, Int.reduceLE, Int.reduceLT, Int.reduceNeg, reduceCtorEq, zzR, gos, Int.reduceAdd, Int.reduceSub, Int.reduceMul, Int.reduceEq, g0, l0])
  by_cases c9 : b.getD R 0 = k.length
  case neg =>
    rw [spB_no (fun g => by have := g.2.2.1.2.2.1; rw [Int.toNat_natCast] at this; exact c9 this)]
    rw [c8] at g0
    generalize b.getD R 0 = b0 at gR c9
    clear c8
    refine X_startP (n := 156) (m := 2) (rs := [.tmp 4]) Try.func34 rfl rfl rfl rfl (by decide) fun base => ?_
    repeat (first | ((first | refine X_call_fn2 rfl (by simp only [tys]) ?_ | refine X_dcall_fn2 rfl (by simp only [tys]) ?_); apply Exists.intro; apply And.intro; (focus (simp -dsimp only [simx, zzC, zzB, tys, ite_self, opnL, callB, stepOp, ofVal, opBuiltin, opLen, PV.sk, scalBin, scalUn, intBin, opLoad, natOf, opConvert, opField, cellsP, oneP, Value.oneCell', opStore, toIV, scalT, scalA, scalC, boxesA, boxesC, ↓reduceIte, Nat.reduceSub, Nat.reduceEqDiff, Nat.reduceAdd, Nat.reduceMul, Nat.reduceLT, Nat.reduceLeDiff, Int.reduceToNat, Int.reduceLE, Int.reduceLT, Int.reduceNeg, reduceCtorEq, zzL, if_true, if_false] <;> rfl)); apply Exists.intro; apply And.intro; (focus (first | exact h))) | refine ⟨(by show drawK _ _ = true; kernel_rfl : drawX _ _ _), ?_⟩ | exact (by show drawK _ _ = true; kernel_rfl : drawX _ _ _) | simp -dsimp (maxSteps := 20000000) (disch := omega) only [simx, zzC, zzB, tys, ite_self, opnL, callB, stepOp, ofVal, opBuiltin, opLen, PV.sk, scalBin, scalUn, intBin, opLoad, natOf, opConvert, opField, cellsP, oneP, Value.oneCell', opStore, toIV, scalT, scalA, scalC, boxesA, boxesC, ↓reduceIte, Nat.reduceSub, Nat.reduceEqDiff, Nat.reduceAdd, Nat.reduceMul, Nat.reduceLT, Nat.reduceLeDiff, Int.reduceToNat, Int.reduceLE, Int.reduceLT, Int.reduceNeg, reduceCtorEq, zzR, gos, Int.reduceAdd, Int.reduceSub, Int.reduceMul, Int.reduceEq, g0, l0, gR, lR])
  rw [c8] at g0
  rw [c9] at gR
  have gb : ∀ i, i ≤ R → i < b.length ∧ b[i]? = some (b.getD i 0) := by
    intro i hi
    have : i < b.length := by omega
    exact ⟨this, by rw [List.getD_eq_getElem?_getD, List.getElem?_eq_getElem this]; rfl⟩
  rw [mx_len] at hk
  refine X_startP (n := 156) (m := 2) (rs := [.tmp 4]) Try.func34 rfl rfl rfl rfl (by decide) fun base => ?_
  repeat (first | ((first | refine X_call_fn2 rfl (by simp only [tys]) ?_ | refine X_dcall_fn2 rfl (by simp only [tys]) ?_); apply Exists.intro; apply And.intro; (focus (simp -dsimp only [simx, zzC, zzB, tys, ite_self, opnL, callB, stepOp, ofVal, opBuiltin, opLen, PV.sk, scalBin, scalUn, intBin, opLoad, natOf, opConvert, opField, cellsP, oneP, Value.oneCell', opStore, toIV, scalT, scalA, scalC, boxesA, boxesC, ↓reduceIte, Nat.reduceSub, Nat.reduceEqDiff, Nat.reduceAdd, Nat.reduceMul, Nat.reduceLT, Nat.reduceLeDiff, Int.reduceToNat, Int.reduceLE, Int.reduceLT, Int.reduceNeg, reduceCtorEq, zzL, if_true, if_false] <;> rfl)); apply Exists.intro; apply And.intro; (focus (first | exact h))) | refine ⟨(by show drawK _ _ = true; kernel_rfl : drawX _ _ _), ?_⟩ | exact (by show drawK _ _ = true; kernel_rfl : drawX _ _ _) | simp -dsimp (maxSteps := 20000000) (disch := omega) only [simx, zzC, zzB, tys, ite_self, opnL, callB, stepOp, ofVal, opBuiltin, opLen, PV.sk, scalBin, scalUn, intBin, opLoad, natOf, opConvert, opField, cellsP, oneP, Value.oneCell', opStore, toIV, scalT, scalA, scalC, boxesA, boxesC, ↓reduceIte, Nat.reduceSub, Nat.reduceEqDiff, Nat.reduceAdd, Nat.reduceMul, Nat.reduceLT, Nat.reduceLeDiff, Int.reduceToNat, Int.reduceLE, Int.reduceLT, Int.reduceNeg, reduceCtorEq, gos, Int.reduceAdd, Int.reduceSub, Int.reduceMul, Int.reduceEq, g0, l0, gR, lR])
  refine X_loopH [3, 5] [] (0) (R) (fun j => ∀ i, i < j → b.getD i 0 ≤ b.getD (i + 1) 0) (fun j => [(5, i64 j)]) (fun j => Heap.none.put ((0, 0) :: base) (.var [i64 R, i64 C, li b, li k, lu v])) ?_ ?_ ?_ ?_ ?_ (by decide) ?_
  · exact (fgt_nil)
  · ((simp -dsimp (disch := omega) only [simx, zzB, tys, ite_self, opnL, callB, stepOp, ofVal, opBuiltin, opLen, PV.sk, scalBin, scalUn, intBin, opLoad, natOf, opConvert, opField, cellsP, oneP, Value.oneCell', opStore, toIV, scalT, scalA, scalC, boxesA, boxesC, ↓reduceIte, Nat.reduceSub, Nat.reduceEqDiff, Nat.reduceAdd, Nat.reduceMul, Nat.reduceLT, Nat.reduceLeDiff, Int.reduceToNat, Int.reduceLE, Int.reduceLT, Int.reduceNeg, reduceCtorEq, gos, Int.reduceAdd, Int.reduceSub, Int.reduceMul, Int.reduceEq]) <;> first | rfl | simp)
  · funext c
    simp (maxSteps := 20000000) only [Heap.drop_at, rowH_app, Heap.put_at, Heap.none_at, List.mem_cons, List.not_mem_nil, or_false]
    by_cases e0 : c = (0, 0) :: base
    · subst e0; simp []
    simp [e0]
  · omega
  · intro i hi; omega
  · intro j hj hf
    by_cases cj : j < R
    · obtain ⟨x1, x2⟩ := gb j (by omega)
      obtain ⟨x3, x4⟩ := gb (j + 1) (by omega)
      have e6 : (j : Int) + 1 = ((j + 1 : Nat) : Int) := rfl
      by_cases cm : b.getD j 0 ≤ b.getD (j + 1) 0
      · have nf : ∀ i, i < j + 1 → b.getD i 0 ≤ b.getD (i + 1) 0 := by
          intro i hi
          by_cases e : i = j
          · subst e; exact cm
          · exact hf i (by omega)
        clear hf
        generalize b.getD j 0 = u at x2 cm
        generalize b.getD (j + 1) 0 = w at x4 cm
        repeat (first | refine ⟨(by show drawK _ _ = true; kernel_rfl : drawX _ _ _), ?_⟩ | exact (by show drawK _ _ = true; kernel_rfl : drawX _ _ _) | simp -dsimp (maxSteps := 20000000) (disch := omega) only [simx, zzC, zzB, tys, ite_self, opnL, callB, stepOp, ofVal, opBuiltin, opLen, PV.sk, scalBin, scalUn, intBin, opLoad, natOf, opConvert, opField, cellsP, oneP, Value.oneCell', opStore, toIV, scalT, scalA, scalC, boxesA, boxesC, ↓reduceIte, Nat.reduceSub, Nat.reduceEqDiff, Nat.reduceAdd, Nat.reduceMul, Nat.reduceLT, Nat.reduceLeDiff, Int.reduceToNat, Int.reduceLE, Int.reduceLT, Int.reduceNeg, reduceCtorEq, gos, Int.reduceAdd, Int.reduceSub, Int.reduceMul, Int.reduceEq, cj, e6, x1, x2, x3, x4])
        exact ⟨cj, (fgt_nil), nf, drop_nil _⟩
      · rw [spB_no (fun g => by
          have := sF_adj g.2.2.1.2.2.2.1 j (by rw [Int.toNat_natCast]; exact cj)
          exact cm this)]
        clear hf
        generalize b.getD j 0 = u at x2 cm
        generalize b.getD (j + 1) 0 = w at x4 cm
        repeat (first | refine ⟨(by show drawK _ _ = true; kernel_rfl : drawX _ _ _), ?_⟩ | exact (by show drawK _ _ = true; kernel_rfl : drawX _ _ _) | simp -dsimp (maxSteps := 20000000) (disch := omega) only [simx, zzC, zzB, tys, ite_self, opnL, callB, stepOp, ofVal, opBuiltin, opLen, PV.sk, scalBin, scalUn, intBin, opLoad, natOf, opConvert, opField, cellsP, oneP, Value.oneCell', opStore, toIV, scalT, scalA, scalC, boxesA, boxesC, ↓reduceIte, Nat.reduceSub, Nat.reduceEqDiff, Nat.reduceAdd, Nat.reduceMul, Nat.reduceLT, Nat.reduceLeDiff, Int.reduceToNat, Int.reduceLE, Int.reduceLT, Int.reduceNeg, reduceCtorEq, zzR, gos, Int.reduceAdd, Int.reduceSub, Int.reduceMul, Int.reduceEq, cj, e6, x1, x2, x3, x4])
    · obtain rfl : R = j := by omega
      have bg : begB R b k v = true := by
        simp only [begB, Bool.and_eq_true, decide_eq_true_eq]
        exact ⟨by omega, c8, c9, sF_of hf, by omega⟩
      have sl : ∀ (w : List Int), w.length = k.length → ∀ i, i < R → ∃ x y : Nat, b[i]? = some (x : Int) ∧ b[i + 1]? = some (y : Int) ∧ i < b.length ∧ i + 1 < b.length ∧ x ≤ y ∧ y ≤ w.length ∧ segI b w i = (w.drop x).take (y - x) ∧ (segI b w i).length = y - x := by
        intro w hw i hi
        obtain ⟨x, y, g1, g2, l1, l2, xy, yk, sg⟩ := beg_facts bg i hi
        have sw : segI b w i = (w.drop x).take (y - x) := by
          unfold segI
          rw [List.getD_eq_getElem?_getD, List.getD_eq_getElem?_getD, g1, g2]; rfl
        exact ⟨x, y, g1, g2, l1, l2, xy, by omega, sw, by rw [sw, List.length_take, List.length_drop]; omega⟩
      clear hf g0 gR l0 lR gb
      repeat (first | refine ⟨(by show drawK _ _ = true; kernel_rfl : drawX _ _ _), ?_⟩ | exact (by show drawK _ _ = true; kernel_rfl : drawX _ _ _) | simp -dsimp (maxSteps := 20000000) (disch := omega) only [simx, zzC, zzB, tys, ite_self, opnL, callB, stepOp, ofVal, opBuiltin, opLen, PV.sk, scalBin, scalUn, intBin, opLoad, natOf, opConvert, opField, cellsP, oneP, Value.oneCell', opStore, toIV, scalT, scalA, scalC, boxesA, boxesC, ↓reduceIte, Nat.reduceSub, Nat.reduceEqDiff, Nat.reduceAdd, Nat.reduceMul, Nat.reduceLT, Nat.reduceLeDiff, Int.reduceToNat, Int.reduceLE, Int.reduceLT, Int.reduceNeg, reduceCtorEq, gos, Int.reduceAdd, Int.reduceSub, Int.reduceMul, Int.reduceEq])
      refine X_loopH [3, 6] [] (0) (R) (fun j => ∀ i, i < j → risF (-1) (segI b k i) C = true ∧ (0 : Int) ∉ segI b v i) (fun j => [(6, i64 j)]) (fun j => Heap.none.put ((0, 0) :: base) (.var [i64 R, i64 C, li b, li k, lu v])) ?_ ?_ ?_ ?_ ?_ (by decide) ?_
      · exact (fgt_nil)
      · ((simp -dsimp (disch := omega) only [simx, zzB, tys, ite_self, opnL, callB, stepOp, ofVal, opBuiltin, opLen, PV.sk, scalBin, scalUn, intBin, opLoad, natOf, opConvert, opField, cellsP, oneP, Value.oneCell', opStore, toIV, scalT, scalA, scalC, boxesA, boxesC, ↓reduceIte, Nat.reduceSub, Nat.reduceEqDiff, Nat.reduceAdd, Nat.reduceMul, Nat.reduceLT, Nat.reduceLeDiff, Int.reduceToNat, Int.reduceLE, Int.reduceLT, Int.reduceNeg, reduceCtorEq, gos, Int.reduceAdd, Int.reduceSub, Int.reduceMul, Int.reduceEq]) <;> first | rfl | simp)
      · exact drop_nil _
      · omega
      · intro i hi; omega
      · intro j hj hf
        by_cases cj : j < R
        · obtain ⟨a, y, g1, g2, l1, l2, xy, yk, sg, lk⟩ := sl k rfl j cj
          obtain ⟨a', y', g1', g2', _, _, _, yv, sv, lv⟩ := sl v (by omega) j cj
          obtain rfl : a = a' := by rw [g1] at g1'; have := Option.some.inj g1'; omega
          obtain rfl : y = y' := by rw [g2] at g2'; have := Option.some.inj g2'; omega
          clear g1' g2' sl
          have e6 : (j : Int) + 1 = ((j + 1 : Nat) : Int) := rfl
          repeat (first | refine ⟨(by show drawK _ _ = true; kernel_rfl : drawX _ _ _), ?_⟩ | exact (by show drawK _ _ = true; kernel_rfl : drawX _ _ _) | simp -dsimp (maxSteps := 20000000) (disch := omega) only [simx, zzC, zzB, tys, ite_self, opnL, callB, stepOp, ofVal, opBuiltin, opLen, PV.sk, scalBin, scalUn, intBin, opLoad, natOf, opConvert, opField, cellsP, oneP, Value.oneCell', opStore, toIV, scalT, scalA, scalC, boxesA, boxesC, ↓reduceIte, Nat.reduceSub, Nat.reduceEqDiff, Nat.reduceAdd, Nat.reduceMul, Nat.reduceLT, Nat.reduceLeDiff, Int.reduceToNat, Int.reduceLE, Int.reduceLT, Int.reduceNeg, reduceCtorEq, gos, Int.reduceAdd, Int.reduceSub, Int.reduceMul, Int.reduceEq, cj, g1, l1])
          refine X_loopH [3, 6, 7] [] (0) (y - a) (fun j_ => (risF (lastJ (segI b k j) j_) ((segI b k j).drop j_) C = risF (-1) (segI b k j) C ∧ (∀ q ∈ (segI b v j).take j_, q ≠ 0)) ∧ (0 < j_ → 0 ≤ lastJ (segI b k j) j_)) (fun j_ => [(7, i64 ((a + j_ : Nat) : Int))]) (fun j_ => Heap.none.put ((0, 0) :: base) (.var [i64 R, i64 C, li b, li k, lu v])) ?_ ?_ ?_ ?_ ?_ (by decide) ?_
          · exact (fgt_nil)
          · ((simp -dsimp (disch := omega) only [simx, zzB, tys, ite_self, opnL, callB, stepOp, ofVal, opBuiltin, opLen, PV.sk, scalBin, scalUn, intBin, opLoad, natOf, opConvert, opField, cellsP, oneP, Value.oneCell', opStore, toIV, scalT, scalA, scalC, boxesA, boxesC, ↓reduceIte, Nat.reduceSub, Nat.reduceEqDiff, Nat.reduceAdd, Nat.reduceMul, Nat.reduceLT, Nat.reduceLeDiff, Int.reduceToNat, Int.reduceLE, Int.reduceLT, Int.reduceNeg, reduceCtorEq, gos, Int.reduceAdd, Int.reduceSub, Int.reduceMul, Int.reduceEq]) <;> first | rfl | simp)
          · exact drop_nil _
          · omega
          · exact ⟨⟨rfl, fun q hq => by simp at hq⟩, fun h => by omega⟩
          · intro m hm hg
            obtain ⟨⟨hg1, hg2⟩, hg3⟩ := hg
            by_cases cm : m < y - a
            · obtain ⟨m1, m2, gk⟩ := wr_eq (v := v) sg lk cm yk
              obtain ⟨n1, n2, gv⟩ := wr_eq (v := v) sv lv cm yv
              have am : ((a + m : Nat) : Int) < (y : Int) := by omega
              have tv : (segI b v j).take (m + 1) = (segI b v j).take m ++ [(segI b v j)[m]] := List.take_succ_eq_append_getElem n2
              have vm : (segI b v j)[m] ∈ v := segI_mem (List.getElem_mem n2)
              have lj : lastJ (segI b k j) (m + 1) = (segI b k j)[m] := by simp [lastJ, List.getD_eq_getElem?_getD, List.getElem?_eq_getElem m2]
              rw [dropE m2, risF] at hg1
              -- the one ahead
              have pv : 0 < m → ∃ w, k[a + m - 1]? = some w ∧ lastJ (segI b k j) m = w ∧ a + m - 1 < k.length := by
                intro h0
                obtain ⟨m', rfl⟩ : ∃ m', m = m' + 1 := ⟨m - 1, by omega⟩
                obtain ⟨z1, z2, z3⟩ := wr_eq (v := v) sg lk (show m' < y - a by omega) yk
                refine ⟨_, z3, ?_, by omega⟩
                simp [lastJ, List.getD_eq_getElem?_getD, List.getElem?_eq_getElem z2]
              have lz : m = 0 → lastJ (segI b k j) m = -1 := by rintro rfl; rfl
              generalize lastJ (segI b k j) m = last at hg1 hg3 pv lz
              have dr : (segI b k j).drop (m + 1) = (segI b k j).drop (m + 1) := rfl
              generalize (segI b k j)[m] = q at gk hg1 lj
              generalize (segI b v j)[m] = u at gv tv vm
              by_cases u0 : u = 0
              · rw [spB_no (fun g => g.2.2.2.2.1 (u0 ▸ vm))]
                clear hg1 hg2 hg3 pv tv vm
                repeat (first | refine ⟨(by show drawK _ _ = true; kernel_rfl : drawX _ _ _), ?_⟩ | exact (by show drawK _ _ = true; kernel_rfl : drawX _ _ _) | simp -dsimp (maxSteps := 20000000) (disch := omega) only [simx, zzC, zzB, tys, ite_self, opnL, callB, stepOp, ofVal, opBuiltin, opLen, PV.sk, scalBin, scalUn, intBin, opLoad, natOf, opConvert, opField, cellsP, oneP, Value.oneCell', opStore, toIV, scalT, scalA, scalC, boxesA, boxesC, ↓reduceIte, Nat.reduceSub, Nat.reduceEqDiff, Nat.reduceAdd, Nat.reduceMul, Nat.reduceLT, Nat.reduceLeDiff, Int.reduceToNat, Int.reduceLE, Int.reduceLT, Int.reduceNeg, reduceCtorEq, zzR, gos, Int.reduceAdd, Int.reduceSub, Int.reduceMul, Int.reduceEq, cj, e6, g2, l2, am, gk, gv, m1, n1, u0])
              have lo : -1 ≤ last := by
                by_cases h0 : 0 < m
                · have := hg3 h0; omega
                · have := lz (by omega); omega
              have no : ∀ (hq : q ≤ last ∨ (C : Int) ≤ q), spB p R C b k v = false := by
                intro hq
                rw [if_pos hq] at hg1
                exact spB_no (fun g => by have := g.2.2.2.2.2 j (by rw [Int.toNat_natCast]; exact cj); rw [← hg1] at this; cases this)
              by_cases q0 : q < 0
              · rw [no (by omega)]
                clear hg1 hg2 hg3 pv tv vm no
                repeat (first | refine ⟨(by show drawK _ _ = true; kernel_rfl : drawX _ _ _), ?_⟩ | exact (by show drawK _ _ = true; kernel_rfl : drawX _ _ _) | simp -dsimp (maxSteps := 20000000) (disch := omega) only [simx, zzC, zzB, tys, ite_self, opnL, callB, stepOp, ofVal, opBuiltin, opLen, PV.sk, scalBin, scalUn, intBin, opLoad, natOf, opConvert, opField, cellsP, oneP, Value.oneCell', opStore, toIV, scalT, scalA, scalC, boxesA, boxesC, ↓reduceIte, Nat.reduceSub, Nat.reduceEqDiff, Nat.reduceAdd, Nat.reduceMul, Nat.reduceLT, Nat.reduceLeDiff, Int.reduceToNat, Int.reduceLE, Int.reduceLT, Int.reduceNeg, reduceCtorEq, zzR, gos, Int.reduceAdd, Int.reduceSub, Int.reduceMul, Int.reduceEq, cj, e6, g2, l2, am, gk, gv, m1, n1, u0])
              by_cases q1 : (C : Int) ≤ q
              · rw [no (by omega)]
                clear hg1 hg2 hg3 pv tv vm no
                repeat (first | refine ⟨(by show drawK _ _ = true; kernel_rfl : drawX _ _ _), ?_⟩ | exact (by show drawK _ _ = true; kernel_rfl : drawX _ _ _) | simp -dsimp (maxSteps := 20000000) (disch := omega) only [simx, zzC, zzB, tys, ite_self, opnL, callB, stepOp, ofVal, opBuiltin, opLen, PV.sk, scalBin, scalUn, intBin, opLoad, natOf, opConvert, opField, cellsP, oneP, Value.oneCell', opStore, toIV, scalT, scalA, scalC, boxesA, boxesC, ↓reduceIte, Nat.reduceSub, Nat.reduceEqDiff, Nat.reduceAdd, Nat.reduceMul, Nat.reduceLT, Nat.reduceLeDiff, Int.reduceToNat, Int.reduceLE, Int.reduceLT, Int.reduceNeg, reduceCtorEq, zzR, gos, Int.reduceAdd, Int.reduceSub, Int.reduceMul, Int.reduceEq, cj, e6, g2, l2, am, gk, gv, m1, n1, u0])
              have nz : ∀ z ∈ (segI b v j).take (m + 1), z ≠ 0 := by
                rw [tv]
                intro z hz
                rcases List.mem_append.1 hz with hz | hz
                · exact hg2 z hz
                · simp at hz; subst hz; exact u0
              have g1j : j < b.length := l1
              by_cases h0 : 0 < m
              · obtain ⟨w, w1, w2, w3⟩ := pv h0
                subst w2
                have e7 : ((a + m : Nat) : Int) - 1 = ((a + m - 1 : Nat) : Int) := by omega
                by_cases q2 : q ≤ last
                · rw [no (by omega)]
                  clear hg1 hg2 hg3 pv tv vm no nz
                  repeat (first | refine ⟨(by show drawK _ _ = true; kernel_rfl : drawX _ _ _), ?_⟩ | exact (by show drawK _ _ = true; kernel_rfl : drawX _ _ _) | simp -dsimp (maxSteps := 20000000) (disch := omega) only [simx, zzC, zzB, tys, ite_self, opnL, callB, stepOp, ofVal, opBuiltin, opLen, PV.sk, scalBin, scalUn, intBin, opLoad, natOf, opConvert, opField, cellsP, oneP, Value.oneCell', opStore, toIV, scalT, scalA, scalC, boxesA, boxesC, ↓reduceIte, Nat.reduceSub, Nat.reduceEqDiff, Nat.reduceAdd, Nat.reduceMul, Nat.reduceLT, Nat.reduceLeDiff, Int.reduceToNat, Int.reduceLE, Int.reduceLT, Int.reduceNeg, reduceCtorEq, zzR, gos, Int.reduceAdd, Int.reduceSub, Int.reduceMul, Int.reduceEq, cj, e6, e7, g1, g1j, g2, l2, am, gk, gv, m1, n1, u0, w1, w3])
                · rw [if_neg (by omega)] at hg1
                  clear hg2 hg3 pv tv vm no
                  repeat (first | refine ⟨(by show drawK _ _ = true; kernel_rfl : drawX _ _ _), ?_⟩ | exact (by show drawK _ _ = true; kernel_rfl : drawX _ _ _) | simp -dsimp (maxSteps := 20000000) (disch := omega) only [simx, zzC, zzB, tys, ite_self, opnL, callB, stepOp, ofVal, opBuiltin, opLen, PV.sk, scalBin, scalUn, intBin, opLoad, natOf, opConvert, opField, cellsP, oneP, Value.oneCell', opStore, toIV, scalT, scalA, scalC, boxesA, boxesC, ↓reduceIte, Nat.reduceSub, Nat.reduceEqDiff, Nat.reduceAdd, Nat.reduceMul, Nat.reduceLT, Nat.reduceLeDiff, Int.reduceToNat, Int.reduceLE, Int.reduceLT, Int.reduceNeg, reduceCtorEq, gos, Int.reduceAdd, Int.reduceSub, Int.reduceMul, Int.reduceEq, cj, e6, e7, g1, g1j, g2, l2, am, gk, gv, m1, n1, u0, w1, w3])
                  refine ⟨cm, (fgt_nil), ⟨⟨by rw [lj]; exact hg1, nz⟩, fun _ => by rw [lj]; omega⟩, ?_, drop_nil _⟩
                  rfl
              · have m0 : m = 0 := by omega
                have last1 := lz m0
                rw [if_neg (by omega)] at hg1
                have e8 : ¬ ((a : Int) < ((a + m : Nat) : Int)) := by omega
                clear hg2 hg3 pv tv vm no lz
                repeat (first | refine ⟨(by show drawK _ _ = true; kernel_rfl : drawX _ _ _), ?_⟩ | exact (by show drawK _ _ = true; kernel_rfl : drawX _ _ _) | simp -dsimp (maxSteps := 20000000) (disch := omega) only [simx, zzC, zzB, tys, ite_self, opnL, callB, stepOp, ofVal, opBuiltin, opLen, PV.sk, scalBin, scalUn, intBin, opLoad, natOf, opConvert, opField, cellsP, oneP, Value.oneCell', opStore, toIV, scalT, scalA, scalC, boxesA, boxesC, ↓reduceIte, Nat.reduceSub, Nat.reduceEqDiff, Nat.reduceAdd, Nat.reduceMul, Nat.reduceLT, Nat.reduceLeDiff, Int.reduceToNat, Int.reduceLE, Int.reduceLT, Int.reduceNeg, reduceCtorEq, gos, Int.reduceAdd, Int.reduceSub, Int.reduceMul, Int.reduceEq, cj, e6, e8, g1, g1j, g2, l2, am, gk, gv, m1, n1, u0])
                refine ⟨cm, (fgt_nil), ⟨⟨by rw [lj]; exact hg1, nz⟩, fun _ => by rw [lj]; omega⟩, ?_, drop_nil _⟩
                rfl
            · have hm' : m = y - a := by omega
              have am : ((a + m : Nat) : Int) = (y : Int) := by omega
              rw [am]
              rw [List.drop_eq_nil_of_le (by omega), risF] at hg1
              rw [List.take_of_length_le (by omega)] at hg2
              repeat (first | refine ⟨(by show drawK _ _ = true; kernel_rfl : drawX _ _ _), ?_⟩ | exact (by show drawK _ _ = true; kernel_rfl : drawX _ _ _) | simp -dsimp (maxSteps := 20000000) (disch := omega) only [simx, zzC, zzB, tys, ite_self, opnL, callB, stepOp, ofVal, opBuiltin, opLen, PV.sk, scalBin, scalUn, intBin, opLoad, natOf, opConvert, opField, cellsP, oneP, Value.oneCell', opStore, toIV, scalT, scalA, scalC, boxesA, boxesC, ↓reduceIte, Nat.reduceSub, Nat.reduceEqDiff, Nat.reduceAdd, Nat.reduceMul, Nat.reduceLT, Nat.reduceLeDiff, Int.reduceToNat, Int.reduceLE, Int.reduceLT, Int.reduceNeg, reduceCtorEq, gos, Int.reduceAdd, Int.reduceSub, Int.reduceMul, Int.reduceEq, cj, e6, g2, l2])
              refine ⟨cj, (fgt_nil), ?_, drop_nil _⟩
              intro i hi
              by_cases e : i = j
              · subst e; exact ⟨hg1.symm, fun h => hg2 0 h rfl⟩
              · exact hf i (by omega)
        · obtain rfl : R = j := by omega
          have all : (0 : Int) ∉ v := by
            have e := seg_all bg (show v.length = k.length by omega)
            rw [← e]
            intro h
            obtain ⟨i, hi, h⟩ := List.mem_flatMap.1 h
            exact (hf i (List.mem_range.1 hi)).2 h
          have ok : spB p R C b k v = true := (spB_iff ..).2 ⟨by omega, by omega, by rw [Int.toNat_natCast]; simp only [begB, Bool.and_eq_true, decide_eq_true_eq] at bg; exact bg, c7, all, by rw [Int.toNat_natCast]; exact fun i hi => (hf i hi).1⟩
          rw [ok]
          repeat (first | refine ⟨(by show drawK _ _ = true; kernel_rfl : drawX _ _ _), ?_⟩ | exact (by show drawK _ _ = true; kernel_rfl : drawX _ _ _) | simp -dsimp (maxSteps := 20000000) (disch := omega) only [simx, zzC, zzB, tys, ite_self, opnL, callB, stepOp, ofVal, opBuiltin, opLen, PV.sk, scalBin, scalUn, intBin, opLoad, natOf, opConvert, opField, cellsP, oneP, Value.oneCell', opStore, toIV, scalT, scalA, scalC, boxesA, boxesC, ↓reduceIte, Nat.reduceSub, Nat.reduceEqDiff, Nat.reduceAdd, Nat.reduceMul, Nat.reduceLT, Nat.reduceLeDiff, Int.reduceToNat, Int.reduceLE, Int.reduceLT, Int.reduceNeg, reduceCtorEq, zzR, gos, Int.reduceAdd, Int.reduceSub, Int.reduceMul, Int.reduceEq])
end Go.Proofs.Ytnnkoghmglpnmaa.TM
