/- Layer 5: is a thin matrix right? walked. -/
import Derived.Test.YtnnkoghmglpnmaaWMatF
import Derived.Test.YtnnkoghmglpnmaaWMatA
namespace Go.Proofs.Ytnnkoghmglpnmaa.TM
open Go Go.RowKit
set_option linter.unusedVariables false
set_option linter.defProp false
set_option linter.unusedSimpArgs false
attribute [local irreducible] K W WOps Effs Xg Xo Xr Xdg Xdo Xdr Xif CallsP CallR

theorem sF_adj {l : List Int} : ∀ {n : Nat}, sF l n = true → ∀ i, i < n → l.getD i 0 ≤ l.getD (i + 1) 0
  | 0, _, i, hi => by omega
  | n + 1, h, i, hi => by
    rw [sF] at h
    by_cases c : l.getD (n + 1) 0 < l.getD n 0
    · rw [if_pos c] at h; cases h
    · rw [if_neg c] at h
      by_cases e : i = n
      · subst e; omega
      · exact sF_adj h i (by omega)
theorem sF_lo {l : List Int} {n : Nat} (h : sF l n = true) : ∀ i, i ≤ n → l.getD 0 0 ≤ l.getD i 0
  | 0, _ => Int.le_refl _
  | i + 1, hi => Int.le_trans (sF_lo h i (by omega)) (sF_adj h i (by omega))
theorem sF_hi {l : List Int} {n : Nat} (h : sF l n = true) : ∀ d i, i + d = n → l.getD i 0 ≤ l.getD n 0
  | 0, i, hi => by have : i = n := by omega
                   subst this; exact Int.le_refl _
  | d + 1, i, hi => Int.le_trans (sF_adj h i (by omega)) (sF_hi h d (i + 1) (by omega))
/-- A row's columns. -/
def segI (b k : List Int) (i : Nat) : List Int := (k.drop (b.getD i 0).toNat).take ((b.getD (i + 1) 0).toNat - (b.getD i 0).toNat)
def spB (p r c : Int) (b k v : List Int) : Bool := SideB r && (SideB c && (begB r.toNat b k v && (HasB p v && (!decide ((0 : Int) ∈ v) && (List.range r.toNat).all fun i => risF (-1) (segI b k i) c))))
theorem range_all_next {f : Nat → Bool} {j : Nat} : (List.range (j + 1)).all f = ((List.range j).all f && f j) := by rw [List.range_succ, List.all_append]; simp
theorem range_all_no {f : Nat → Bool} {j n : Nat} (hj : j < n) (h : f j = false) : (List.range n).all f = false := by
  rw [List.all_eq_false]; exact ⟨j, List.mem_range.2 hj, by simp [h]⟩
theorem beg_facts {r : Nat} {b k v : List Int} (h : begB r b k v = true) (i : Nat) (hi : i < r) : ∃ x y : Nat, b[i]? = some (x : Int) ∧ b[i + 1]? = some (y : Int) ∧ i < b.length ∧ i + 1 < b.length ∧ x ≤ y ∧ y ≤ k.length ∧ segI b k i = (k.drop x).take (y - x) := by
  simp only [begB, Bool.and_eq_true, decide_eq_true_eq] at h
  obtain ⟨h1, h2, h3, h4, h5⟩ := h
  have a1 := sF_adj h4 i hi
  have a2 := sF_lo h4 i (by omega)
  have a3 := sF_hi h4 (r - (i + 1)) (i + 1) (by omega)
  rw [h2] at a2
  rw [h3] at a3
  have l1 : i < b.length := by omega
  have l2 : i + 1 < b.length := by omega
  obtain ⟨x, hx⟩ := Int.eq_ofNat_of_zero_le a2
  obtain ⟨y, hy⟩ := Int.eq_ofNat_of_zero_le (Int.le_trans a2 a1)
  refine ⟨x, y, ?_, ?_, l1, l2, by omega, by omega, ?_⟩
  · rw [List.getElem?_eq_getElem l1, ← hx, List.getD_eq_getElem?_getD, List.getElem?_eq_getElem l1]; rfl
  · rw [List.getElem?_eq_getElem l2, ← hy, List.getD_eq_getElem?_getD, List.getElem?_eq_getElem l2]; rfl
  · unfold segI; rw [hx, hy]; rfl
set_option maxHeartbeats 2000000 in
theorem sparse_walk (p r c : Int) (b k v : List Int) (hb : b.length ≤ maxLen) (hk : k.length ≤ maxLen) (hv : v.length ≤ maxLen) : CallsP Try.prog 33 [u64 p, spP r c b k v] (bl (spB p r c b k v)) := by
  have q1 := side_walk r
  have q2 := side_walk c
  have q4 := has_walk p v hv
  have q5 := contains_walk v 0 hv
  unfold spB
  cases h1 : SideB r with
  | false =>
    rw [h1] at q1
    refine X_startP (n := 57) (m := 2) (rs := [.tmp 4]) Try.func33 rfl rfl rfl rfl (by decide) fun base => ?_
    repeat (first | ((first | refine X_call_fn2 rfl (by simp only [tys]) ?_ | refine X_dcall_fn2 rfl (by simp only [tys]) ?_); apply Exists.intro; apply And.intro; (focus (simp -dsimp only [simx, zzC, zzB, tys, ite_self, opnL, callB, stepOp, ofVal, opBuiltin, opLen, PV.sk, scalBin, scalUn, intBin, opLoad, natOf, opConvert, opField, cellsP, oneP, Value.oneCell', opStore, toIV, scalT, scalA, scalC, boxesA, boxesC, ↓reduceIte, Nat.reduceSub, Nat.reduceEqDiff, Nat.reduceAdd, Nat.reduceMul, Nat.reduceLT, Nat.reduceLeDiff, Int.reduceToNat, Int.reduceLE, Int.reduceLT, Int.reduceNeg, reduceCtorEq, zzL, if_true, if_false] <;> rfl)); apply Exists.intro; apply And.intro; (focus (first | exact q1))) | refine ⟨(by show drawK _ _ = true; kernel_rfl : drawX _ _ _), ?_⟩ | exact (by show drawK _ _ = true; kernel_rfl : drawX _ _ _) | simp -dsimp (maxSteps := 20000000) (disch := omega) only [simx, zzC, zzB, tys, ite_self, opnL, callB, stepOp, ofVal, opBuiltin, opLen, PV.sk, scalBin, scalUn, intBin, opLoad, natOf, opConvert, opField, cellsP, oneP, Value.oneCell', opStore, toIV, scalT, scalA, scalC, boxesA, boxesC, ↓reduceIte, Nat.reduceSub, Nat.reduceEqDiff, Nat.reduceAdd, Nat.reduceMul, Nat.reduceLT, Nat.reduceLeDiff, Int.reduceToNat, Int.reduceLE, Int.reduceLT, Int.reduceNeg, reduceCtorEq, zzR, gos, Int.reduceAdd, Int.reduceSub, Int.reduceMul, Int.reduceEq])
  | true =>
    rw [h1] at q1
    rw [side_iff] at h1
    obtain ⟨R, rfl⟩ := Int.eq_ofNat_of_zero_le (show 0 ≤ r by omega)
    have q3 := begun_walk R c b k v (by omega) hb
    simp only [Int.toNat_natCast]
    cases h2 : SideB c with
    | false =>
      rw [h2] at q2
      refine X_startP (n := 57) (m := 2) (rs := [.tmp 4]) Try.func33 rfl rfl rfl rfl (by decide) fun base => ?_
      repeat (first | ((first | refine X_call_fn2 rfl (by simp only [tys]) ?_ | refine X_dcall_fn2 rfl (by simp only [tys]) ?_); apply Exists.intro; apply And.intro; (focus (simp -dsimp only [simx, zzC, zzB, tys, ite_self, opnL, callB, stepOp, ofVal, opBuiltin, opLen, PV.sk, scalBin, scalUn, intBin, opLoad, natOf, opConvert, opField, cellsP, oneP, Value.oneCell', opStore, toIV, scalT, scalA, scalC, boxesA, boxesC, ↓reduceIte, Nat.reduceSub, Nat.reduceEqDiff, Nat.reduceAdd, Nat.reduceMul, Nat.reduceLT, Nat.reduceLeDiff, Int.reduceToNat, Int.reduceLE, Int.reduceLT, Int.reduceNeg, reduceCtorEq, zzL, if_true, if_false] <;> rfl)); apply Exists.intro; apply And.intro; (focus (first | exact q1 | exact q2))) | refine ⟨(by show drawK _ _ = true; kernel_rfl : drawX _ _ _), ?_⟩ | exact (by show drawK _ _ = true; kernel_rfl : drawX _ _ _) | simp -dsimp (maxSteps := 20000000) (disch := omega) only [simx, zzC, zzB, tys, ite_self, opnL, callB, stepOp, ofVal, opBuiltin, opLen, PV.sk, scalBin, scalUn, intBin, opLoad, natOf, opConvert, opField, cellsP, oneP, Value.oneCell', opStore, toIV, scalT, scalA, scalC, boxesA, boxesC, ↓reduceIte, Nat.reduceSub, Nat.reduceEqDiff, Nat.reduceAdd, Nat.reduceMul, Nat.reduceLT, Nat.reduceLeDiff, Int.reduceToNat, Int.reduceLE, Int.reduceLT, Int.reduceNeg, reduceCtorEq, zzR, gos, Int.reduceAdd, Int.reduceSub, Int.reduceMul, Int.reduceEq])
    | true =>
      rw [h2] at q2
      cases h3 : begB R b k v with
      | false =>
        rw [h3] at q3
        refine X_startP (n := 57) (m := 2) (rs := [.tmp 4]) Try.func33 rfl rfl rfl rfl (by decide) fun base => ?_
        repeat (first | ((first | refine X_call_fn2 rfl (by simp only [tys]) ?_ | refine X_dcall_fn2 rfl (by simp only [tys]) ?_); apply Exists.intro; apply And.intro; (focus (simp -dsimp only [simx, zzC, zzB, tys, ite_self, opnL, callB, stepOp, ofVal, opBuiltin, opLen, PV.sk, scalBin, scalUn, intBin, opLoad, natOf, opConvert, opField, cellsP, oneP, Value.oneCell', opStore, toIV, scalT, scalA, scalC, boxesA, boxesC, ↓reduceIte, Nat.reduceSub, Nat.reduceEqDiff, Nat.reduceAdd, Nat.reduceMul, Nat.reduceLT, Nat.reduceLeDiff, Int.reduceToNat, Int.reduceLE, Int.reduceLT, Int.reduceNeg, reduceCtorEq, zzL, if_true, if_false] <;> rfl)); apply Exists.intro; apply And.intro; (focus (first | exact q1 | exact q2 | exact q3))) | refine ⟨(by show drawK _ _ = true; kernel_rfl : drawX _ _ _), ?_⟩ | exact (by show drawK _ _ = true; kernel_rfl : drawX _ _ _) | simp -dsimp (maxSteps := 20000000) (disch := omega) only [simx, zzC, zzB, tys, ite_self, opnL, callB, stepOp, ofVal, opBuiltin, opLen, PV.sk, scalBin, scalUn, intBin, opLoad, natOf, opConvert, opField, cellsP, oneP, Value.oneCell', opStore, toIV, scalT, scalA, scalC, boxesA, boxesC, ↓reduceIte, Nat.reduceSub, Nat.reduceEqDiff, Nat.reduceAdd, Nat.reduceMul, Nat.reduceLT, Nat.reduceLeDiff, Int.reduceToNat, Int.reduceLE, Int.reduceLT, Int.reduceNeg, reduceCtorEq, zzR, gos, Int.reduceAdd, Int.reduceSub, Int.reduceMul, Int.reduceEq])
      | true =>
        rw [h3] at q3
        cases h4 : HasB p v with
        | false =>
          rw [h4] at q4
          refine X_startP (n := 57) (m := 2) (rs := [.tmp 4]) Try.func33 rfl rfl rfl rfl (by decide) fun base => ?_
          repeat (first | ((first | refine X_call_fn2 rfl (by simp only [tys]) ?_ | refine X_dcall_fn2 rfl (by simp only [tys]) ?_); apply Exists.intro; apply And.intro; (focus (simp -dsimp only [simx, zzC, zzB, tys, ite_self, opnL, callB, stepOp, ofVal, opBuiltin, opLen, PV.sk, scalBin, scalUn, intBin, opLoad, natOf, opConvert, opField, cellsP, oneP, Value.oneCell', opStore, toIV, scalT, scalA, scalC, boxesA, boxesC, ↓reduceIte, Nat.reduceSub, Nat.reduceEqDiff, Nat.reduceAdd, Nat.reduceMul, Nat.reduceLT, Nat.reduceLeDiff, Int.reduceToNat, Int.reduceLE, Int.reduceLT, Int.reduceNeg, reduceCtorEq, zzL, if_true, if_false] <;> rfl)); apply Exists.intro; apply And.intro; (focus (first | exact q1 | exact q2 | exact q3 | exact q4))) | refine ⟨(by show drawK _ _ = true; kernel_rfl : drawX _ _ _), ?_⟩ | exact (by show drawK _ _ = true; kernel_rfl : drawX _ _ _) | simp -dsimp (maxSteps := 20000000) (disch := omega) only [simx, zzC, zzB, tys, ite_self, opnL, callB, stepOp, ofVal, opBuiltin, opLen, PV.sk, scalBin, scalUn, intBin, opLoad, natOf, opConvert, opField, cellsP, oneP, Value.oneCell', opStore, toIV, scalT, scalA, scalC, boxesA, boxesC, ↓reduceIte, Nat.reduceSub, Nat.reduceEqDiff, Nat.reduceAdd, Nat.reduceMul, Nat.reduceLT, Nat.reduceLeDiff, Int.reduceToNat, Int.reduceLE, Int.reduceLT, Int.reduceNeg, reduceCtorEq, zzR, gos, Int.reduceAdd, Int.reduceSub, Int.reduceMul, Int.reduceEq])
        | true =>
          rw [h4] at q4
          cases h5 : decide ((0 : Int) ∈ v) with
          | true =>
            rw [h5] at q5
            refine X_startP (n := 57) (m := 2) (rs := [.tmp 4]) Try.func33 rfl rfl rfl rfl (by decide) fun base => ?_
            repeat (first | ((first | refine X_call_fn2 rfl (by simp only [tys]) ?_ | refine X_dcall_fn2 rfl (by simp only [tys]) ?_); apply Exists.intro; apply And.intro; (focus (simp -dsimp only [simx, zzC, zzB, tys, ite_self, opnL, callB, stepOp, ofVal, opBuiltin, opLen, PV.sk, scalBin, scalUn, intBin, opLoad, natOf, opConvert, opField, cellsP, oneP, Value.oneCell', opStore, toIV, scalT, scalA, scalC, boxesA, boxesC, ↓reduceIte, Nat.reduceSub, Nat.reduceEqDiff, Nat.reduceAdd, Nat.reduceMul, Nat.reduceLT, Nat.reduceLeDiff, Int.reduceToNat, Int.reduceLE, Int.reduceLT, Int.reduceNeg, reduceCtorEq, zzL, if_true, if_false] <;> rfl)); apply Exists.intro; apply And.intro; (focus (first | exact q1 | exact q2 | exact q3 | exact q4 | exact q5))) | refine ⟨(by show drawK _ _ = true; kernel_rfl : drawX _ _ _), ?_⟩ | exact (by show drawK _ _ = true; kernel_rfl : drawX _ _ _) | simp -dsimp (maxSteps := 20000000) (disch := omega) only [simx, zzC, zzB, tys, ite_self, opnL, callB, stepOp, ofVal, opBuiltin, opLen, PV.sk, scalBin, scalUn, intBin, opLoad, natOf, opConvert, opField, cellsP, oneP, Value.oneCell', opStore, toIV, scalT, scalA, scalC, boxesA, boxesC, ↓reduceIte, Nat.reduceSub, Nat.reduceEqDiff, Nat.reduceAdd, Nat.reduceMul, Nat.reduceLT, Nat.reduceLeDiff, Int.reduceToNat, Int.reduceLE, Int.reduceLT, Int.reduceNeg, reduceCtorEq, zzR, gos, Int.reduceAdd, Int.reduceSub, Int.reduceMul, Int.reduceEq])
          | false =>
            rw [h5] at q5
            simp only [Bool.true_and, Bool.not_false]
            refine X_startP (n := 57) (m := 2) (rs := [.tmp 4]) Try.func33 rfl rfl rfl rfl (by decide) fun base => ?_
            repeat (first | ((first | refine X_call_fn2 rfl (by simp only [tys]) ?_ | refine X_dcall_fn2 rfl (by simp only [tys]) ?_); apply Exists.intro; apply And.intro; (focus (simp -dsimp only [simx, zzC, zzB, tys, ite_self, opnL, callB, stepOp, ofVal, opBuiltin, opLen, PV.sk, scalBin, scalUn, intBin, opLoad, natOf, opConvert, opField, cellsP, oneP, Value.oneCell', opStore, toIV, scalT, scalA, scalC, boxesA, boxesC, ↓reduceIte, Nat.reduceSub, Nat.reduceEqDiff, Nat.reduceAdd, Nat.reduceMul, Nat.reduceLT, Nat.reduceLeDiff, Int.reduceToNat, Int.reduceLE, Int.reduceLT, Int.reduceNeg, reduceCtorEq, zzL, if_true, if_false] <;> rfl)); apply Exists.intro; apply And.intro; (focus (first | exact q1 | exact q2 | exact q3 | exact q4 | exact q5))) | refine ⟨(by show drawK _ _ = true; kernel_rfl : drawX _ _ _), ?_⟩ | exact (by show drawK _ _ = true; kernel_rfl : drawX _ _ _) | simp -dsimp (maxSteps := 20000000) (disch := omega) only [simx, zzC, zzB, tys, ite_self, opnL, callB, stepOp, ofVal, opBuiltin, opLen, PV.sk, scalBin, scalUn, intBin, opLoad, natOf, opConvert, opField, cellsP, oneP, Value.oneCell', opStore, toIV, scalT, scalA, scalC, boxesA, boxesC, ↓reduceIte, Nat.reduceSub, Nat.reduceEqDiff, Nat.reduceAdd, Nat.reduceMul, Nat.reduceLT, Nat.reduceLeDiff, Int.reduceToNat, Int.reduceLE, Int.reduceLT, Int.reduceNeg, reduceCtorEq, gos, Int.reduceAdd, Int.reduceSub, Int.reduceMul, Int.reduceEq])
            refine X_loopH [3, 34, 35] [] (0) (R) (fun j => (List.range j).all (fun i => risF (-1) (segI b k i) c) = true) (fun j => [(35, i64 j)]) (fun j => Heap.none.put ((0, 0) :: base) (.var [i64 R, i64 c, li b, li k, lu v])) ?_ ?_ ?_ ?_ ?_ (by decide) ?_
            · exact (fgt_nil)
            · ((simp -dsimp (disch := omega) only [simx, zzB, tys, ite_self, opnL, callB, stepOp, ofVal, opBuiltin, opLen, PV.sk, scalBin, scalUn, intBin, opLoad, natOf, opConvert, opField, cellsP, oneP, Value.oneCell', opStore, toIV, scalT, scalA, scalC, boxesA, boxesC, ↓reduceIte, Nat.reduceSub, Nat.reduceEqDiff, Nat.reduceAdd, Nat.reduceMul, Nat.reduceLT, Nat.reduceLeDiff, Int.reduceToNat, Int.reduceLE, Int.reduceLT, Int.reduceNeg, reduceCtorEq, gos, Int.reduceAdd, Int.reduceSub, Int.reduceMul, Int.reduceEq]) <;> first | rfl | simp)
            · exact drop_nil _
            · omega
            · rfl
            · intro j hj hf
              by_cases cj : j < R
              · obtain ⟨x, y, g1, g2, l1, l2, xy, yk, sg⟩ := beg_facts h3 j cj
                have hsl : (segI b k j).length = y - x := by rw [sg, List.length_take, List.length_drop]; omega
                have d := rising_walk (segI b k j) c (by rw [hsl]; omega)
                have e4 : ((k.map ii).drop x).take (y - x) = (segI b k j).map ii := by rw [sg, List.map_take, List.map_drop]
                rw [show li (segI b k j) = .i (.l (y - x) ((segI b k j).map ii)) by rw [← hsl]] at d
                have e6 : (j : Int) + 1 = ((j + 1 : Nat) : Int) := rfl
                have nx := range_all_next (f := fun i => risF (-1) (segI b k i) c) (j := j)
                have no := range_all_no (f := fun i => risF (-1) (segI b k i) c) cj
                cases hr : risF (-1) (segI b k j) c with
                | false =>
                  rw [hr] at d
                  rw [no hr]
                  clear q1 q2 q3 q4 q5 nx no hf sg
                  repeat (first | ((first | refine X_call_fn2 rfl (by simp only [tys]) ?_ | refine X_dcall_fn2 rfl (by simp only [tys]) ?_); apply Exists.intro; apply And.intro; (focus (simp -dsimp only [simx, zzC, zzB, tys, ite_self, opnL, callB, stepOp, ofVal, opBuiltin, opLen, PV.sk, scalBin, scalUn, intBin, opLoad, natOf, opConvert, opField, cellsP, oneP, Value.oneCell', opStore, toIV, scalT, scalA, scalC, boxesA, boxesC, ↓reduceIte, Nat.reduceSub, Nat.reduceEqDiff, Nat.reduceAdd, Nat.reduceMul, Nat.reduceLT, Nat.reduceLeDiff, Int.reduceToNat, Int.reduceLE, Int.reduceLT, Int.reduceNeg, reduceCtorEq, zzL, if_true, if_false] <;> rfl)); apply Exists.intro; apply And.intro; (focus (first | exact d))) | refine ⟨(by show drawK _ _ = true; kernel_rfl : drawX _ _ _), ?_⟩ | exact (by show drawK _ _ = true; kernel_rfl : drawX _ _ _) | simp -dsimp (maxSteps := 20000000) (disch := omega) only [simx, zzC, zzB, tys, ite_self, opnL, callB, stepOp, ofVal, opBuiltin, opLen, PV.sk, scalBin, scalUn, intBin, opLoad, natOf, opConvert, opField, cellsP, oneP, Value.oneCell', opStore, toIV, scalT, scalA, scalC, boxesA, boxesC, ↓reduceIte, Nat.reduceSub, Nat.reduceEqDiff, Nat.reduceAdd, Nat.reduceMul, Nat.reduceLT, Nat.reduceLeDiff, Int.reduceToNat, Int.reduceLE, Int.reduceLT, Int.reduceNeg, reduceCtorEq, zzR, gos, Int.reduceAdd, Int.reduceSub, Int.reduceMul, Int.reduceEq, cj, e6, g1, g2, l1, l2, xy, yk, e4, List.length_map, li, hsl])
                | true =>
                  rw [hr] at d
                  rw [hf, hr] at nx
                  clear q1 q2 q3 q4 q5 no hf sg
                  repeat (first | ((first | refine X_call_fn2 rfl (by simp only [tys]) ?_ | refine X_dcall_fn2 rfl (by simp only [tys]) ?_); apply Exists.intro; apply And.intro; (focus (simp -dsimp only [simx, zzC, zzB, tys, ite_self, opnL, callB, stepOp, ofVal, opBuiltin, opLen, PV.sk, scalBin, scalUn, intBin, opLoad, natOf, opConvert, opField, cellsP, oneP, Value.oneCell', opStore, toIV, scalT, scalA, scalC, boxesA, boxesC, ↓reduceIte, Nat.reduceSub, Nat.reduceEqDiff, Nat.reduceAdd, Nat.reduceMul, Nat.reduceLT, Nat.reduceLeDiff, Int.reduceToNat, Int.reduceLE, Int.reduceLT, Int.reduceNeg, reduceCtorEq, zzL, if_true, if_false] <;> rfl)); apply Exists.intro; apply And.intro; (focus (first | exact d))) | refine ⟨(by show drawK _ _ = true; kernel_rfl : drawX _ _ _), ?_⟩ | exact (by show drawK _ _ = true; kernel_rfl : drawX _ _ _) | simp -dsimp (maxSteps := 20000000) (disch := omega) only [simx, zzC, zzB, tys, ite_self, opnL, callB, stepOp, ofVal, opBuiltin, opLen, PV.sk, scalBin, scalUn, intBin, opLoad, natOf, opConvert, opField, cellsP, oneP, Value.oneCell', opStore, toIV, scalT, scalA, scalC, boxesA, boxesC, ↓reduceIte, Nat.reduceSub, Nat.reduceEqDiff, Nat.reduceAdd, Nat.reduceMul, Nat.reduceLT, Nat.reduceLeDiff, Int.reduceToNat, Int.reduceLE, Int.reduceLT, Int.reduceNeg, reduceCtorEq, gos, Int.reduceAdd, Int.reduceSub, Int.reduceMul, Int.reduceEq, cj, e6, g1, g2, l1, l2, xy, yk, e4, List.length_map, li, hsl])
                  exact ⟨cj, (fgt_nil), nx, drop_nil _⟩
              · have hj : j = R := by omega
                subst hj
                rw [hf]
                repeat (first | refine ⟨(by show drawK _ _ = true; kernel_rfl : drawX _ _ _), ?_⟩ | exact (by show drawK _ _ = true; kernel_rfl : drawX _ _ _) | simp -dsimp (maxSteps := 20000000) (disch := omega) only [simx, zzC, zzB, tys, ite_self, opnL, callB, stepOp, ofVal, opBuiltin, opLen, PV.sk, scalBin, scalUn, intBin, opLoad, natOf, opConvert, opField, cellsP, oneP, Value.oneCell', opStore, toIV, scalT, scalA, scalC, boxesA, boxesC, ↓reduceIte, Nat.reduceSub, Nat.reduceEqDiff, Nat.reduceAdd, Nat.reduceMul, Nat.reduceLT, Nat.reduceLeDiff, Int.reduceToNat, Int.reduceLE, Int.reduceLT, Int.reduceNeg, reduceCtorEq, zzR, gos, Int.reduceAdd, Int.reduceSub, Int.reduceMul, Int.reduceEq])
end Go.Proofs.Ytnnkoghmglpnmaa.TM
