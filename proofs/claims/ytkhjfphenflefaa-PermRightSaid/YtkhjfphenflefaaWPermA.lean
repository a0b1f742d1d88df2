/- Layer 6: orders, walked. -/
import Derived.Test.YtkhjfphenflefaaWWords
namespace Go.Proofs.Ytkhjfphenflefaa.TM
open Go Go.RowKit
set_option linter.unusedVariables false
set_option linter.defProp false
set_option linter.unusedSimpArgs false
attribute [local irreducible] K W WOps Effs Xg Xo Xr Xdg Xdo Xdr Xif CallsP CallR

/-- Which of the first 64 numbers are in a list. -/
def seenC (s : List Int) : List IV := (List.range 64).map fun (i : Nat) => IV.v (Value.bool (decide ((i : Int) ∈ s)))
theorem seenC_len (s : List Int) : (seenC s).length = 64 := by simp [seenC]
theorem seenC_nil : [IV.v (Value.bool false), IV.v (Value.bool false), IV.v (Value.bool false), IV.v (Value.bool false), IV.v (Value.bool false), IV.v (Value.bool false), IV.v (Value.bool false), IV.v (Value.bool false), IV.v (Value.bool false), IV.v (Value.bool false), IV.v (Value.bool false), IV.v (Value.bool false), IV.v (Value.bool false), IV.v (Value.bool false), IV.v (Value.bool false), IV.v (Value.bool false), IV.v (Value.bool false), IV.v (Value.bool false), IV.v (Value.bool false), IV.v (Value.bool false), IV.v (Value.bool false), IV.v (Value.bool false), IV.v (Value.bool false), IV.v (Value.bool false), IV.v (Value.bool false), IV.v (Value.bool false), IV.v (Value.bool false), IV.v (Value.bool false), IV.v (Value.bool false), IV.v (Value.bool false), IV.v (Value.bool false), IV.v (Value.bool false), IV.v (Value.bool false), IV.v (Value.bool false), IV.v (Value.bool false), IV.v (Value.bool false), IV.v (Value.bool false), IV.v (Value.bool false), IV.v (Value.bool false), IV.v (Value.bool false), IV.v (Value.bool false), IV.v (Value.bool false), IV.v (Value.bool false), IV.v (Value.bool false), IV.v (Value.bool false), IV.v (Value.bool false), IV.v (Value.bool false), IV.v (Value.bool false), IV.v (Value.bool false), IV.v (Value.bool false), IV.v (Value.bool false), IV.v (Value.bool false), IV.v (Value.bool false), IV.v (Value.bool false), IV.v (Value.bool false), IV.v (Value.bool false), IV.v (Value.bool false), IV.v (Value.bool false), IV.v (Value.bool false), IV.v (Value.bool false), IV.v (Value.bool false), IV.v (Value.bool false), IV.v (Value.bool false), IV.v (Value.bool false)] = seenC [] := rfl
theorem seenC_get (s : List Int) {a : Int} (h0 : 0 ≤ a) (h1 : a < 64) : (seenC s)[a.toNat]? = some (IV.v (Value.bool (decide (a ∈ s)))) := by
  have h2 : a.toNat < 64 := by omega
  unfold seenC
  rw [List.getElem?_map, List.getElem?_range h2]
  simp only [Option.map_some, Int.toNat_of_nonneg h0]
theorem seenC_put (s : List Int) {a : Int} (h0 : 0 ≤ a) (h1 : a < 64) : (seenC s).take a.toNat ++ [IV.v (Value.bool true)] ++ (seenC s).drop (a.toNat + 1) = seenC (s ++ [a]) := by
  have h2 : a.toNat < 64 := by omega
  have hl := seenC_len s
  apply List.ext_getElem?
  intro i
  by_cases hi : i < 64
  · rw [List.append_assoc, List.getElem?_append, List.length_take, hl, show min a.toNat 64 = a.toNat by omega]
    have hr : (seenC (s ++ [a]))[i]? = some (IV.v (Value.bool (decide ((i : Int) ∈ s ++ [a])))) := by
      unfold seenC; rw [List.getElem?_map, List.getElem?_range hi]; rfl
    have hs : (seenC s)[i]? = some (IV.v (Value.bool (decide ((i : Int) ∈ s)))) := by
      unfold seenC; rw [List.getElem?_map, List.getElem?_range hi]; rfl
    rw [hr]
    by_cases c1 : i < a.toNat
    · rw [if_pos c1, List.getElem?_take, if_pos c1, hs]
      have : (i : Int) ≠ a := by omega
      simp [this]
    · rw [if_neg c1]
      by_cases c2 : i = a.toNat
      · have : (i : Int) = a := by omega
        rw [show i - a.toNat = 0 by omega]
        simp [this]
      · rw [List.getElem?_append_right (by simp; omega), List.getElem?_drop, List.length_singleton, show a.toNat + 1 + (i - a.toNat - 1) = i by omega, hs]
        have : (i : Int) ≠ a := by omega
        simp [this]
  · rw [List.getElem?_eq_none (by simp [hl]; omega), List.getElem?_eq_none (by rw [seenC_len]; omega)]
/-- Are all numbers of an order of n, and none of them twice, nor in s? -/
def ordF (n : Int) : List Int → List Int → Bool
  | _, [] => true
  | s, a :: l => !(decide (a < 0)) && (!(decide (n ≤ a)) && (!(decide (64 ≤ a)) && (!(decide (a ∈ s)) && ordF n (s ++ [a]) l)))
def orderB (l : List Int) : Bool := ordF l.length [] l && decide (1 ≤ (l.length : Int))
theorem ordF_drop (n : Int) (s : List Int) {l : List Int} {j : Nat} (h : j < l.length) : ordF n s (l.drop j) = (!(decide (l[j] < 0)) && (!(decide (n ≤ l[j])) && (!(decide (64 ≤ l[j])) && (!(decide (l[j] ∈ s)) && ordF n (s ++ [l[j]]) (l.drop (j + 1)))))) := by
  rw [List.drop_eq_getElem_cons h]; rfl
theorem order_right_walk (l : List Int) (hl : l.length ≤ maxLen) : CallsP Try.prog 45 [li l] (bl (orderB l)) := by
  unfold orderB
  have hm : maxLen = 9223372036854775807 := rfl
  refine X_startP (n := 35) (m := 1) (rs := [.tmp 2]) Try.func45 rfl rfl rfl rfl (by decide) fun base => ?_
  repeat (first | refine ⟨(by show drawK _ _ = true; kernel_rfl : drawX _ _ _), ?_⟩ | exact (by show drawK _ _ = true; kernel_rfl : drawX _ _ _) | simp -dsimp (maxSteps := 20000000) (disch := omega) only [simx, zzC, zzB, tys, ite_self, opnL, callB, readsB, stepOp, ofVal, opBuiltin, opLen, PV.sk, scalBin, scalUn, intBin, opLoad, natOf, opConvert, opField, cellsP, oneP, Value.oneCell', opStore, toIV, scalT, scalA, scalC, boxesA, boxesC, zipB_none, zipB_mx, isZ, opZip, zeroP, opAppendZ, opMakeMap, opLookup, mboxB, opUpdate, ↓reduceIte, Nat.reduceSub, Nat.reduceEqDiff, Nat.reduceAdd, Nat.reduceMul, Nat.reduceLT, Nat.reduceLeDiff, Int.reduceToNat, Int.reduceLE, Int.reduceLT, Int.reduceNeg, reduceCtorEq, gos, Int.reduceAdd, Int.reduceSub, Int.reduceMul, Int.reduceEq, seenC_nil])
  refine X_loopH [0, 3, 6, 7, 8] [] (0) (l.length) (fun j => ordF l.length (l.take j) (l.drop j) = ordF l.length [] l) (fun j => [(8, i64 j)]) (fun j => Heap.none.put ((1, 0) :: base) (.row false (seenC (l.take j)))) ?_ ?_ ?_ ?_ ?_ (by decide) ?_
  · exact (fgt_nil)
  · ((simp -dsimp (disch := omega) only [simx, zzB, tys, ite_self, opnL, callB, readsB, stepOp, ofVal, opBuiltin, opLen, PV.sk, scalBin, scalUn, intBin, opLoad, natOf, opConvert, opField, cellsP, oneP, Value.oneCell', opStore, toIV, scalT, scalA, scalC, boxesA, boxesC, zipB_none, zipB_mx, isZ, opZip, zeroP, opAppendZ, opMakeMap, opLookup, mboxB, opUpdate, ↓reduceIte, Nat.reduceSub, Nat.reduceEqDiff, Nat.reduceAdd, Nat.reduceMul, Nat.reduceLT, Nat.reduceLeDiff, Int.reduceToNat, Int.reduceLE, Int.reduceLT, Int.reduceNeg, reduceCtorEq, gos, Int.reduceAdd, Int.reduceSub, Int.reduceMul, Int.reduceEq]) <;> first | rfl | simp)
  · exact drop_nil _
  · omega
  · rfl
  · intro j hj hf
    by_cases cj : j < l.length
    · have g1 : l[j]? = some l[j] := List.getElem?_eq_getElem cj
      have tk : l.take (j + 1) = l.take j ++ [l[j]] := (List.take_append_getElem cj).symm
      rw [ordF_drop _ _ cj] at hf
      generalize l[j] = a at g1 tk hf
      by_cases c1 : a < 0
      · rw [← hf]
        repeat (first | refine ⟨(by show drawK _ _ = true; kernel_rfl : drawX _ _ _), ?_⟩ | exact (by show drawK _ _ = true; kernel_rfl : drawX _ _ _) | simp -dsimp (maxSteps := 20000000) (disch := omega) only [simx, zzC, zzB, tys, ite_self, opnL, callB, readsB, stepOp, ofVal, opBuiltin, opLen, PV.sk, scalBin, scalUn, intBin, opLoad, natOf, opConvert, opField, cellsP, oneP, Value.oneCell', opStore, toIV, scalT, scalA, scalC, boxesA, boxesC, zipB_none, zipB_mx, isZ, opZip, zeroP, opAppendZ, opMakeMap, opLookup, mboxB, opUpdate, ↓reduceIte, Nat.reduceSub, Nat.reduceEqDiff, Nat.reduceAdd, Nat.reduceMul, Nat.reduceLT, Nat.reduceLeDiff, Int.reduceToNat, Int.reduceLE, Int.reduceLT, Int.reduceNeg, reduceCtorEq, zzR, gos, Int.reduceAdd, Int.reduceSub, Int.reduceMul, Int.reduceEq, cj, g1, c1, decide_true, Bool.not_true, Bool.false_and])
      · have h0 : 0 ≤ a := by omega
        have c1' : ¬ a < 0 := c1
        by_cases c2 : (l.length : Int) ≤ a
        · rw [← hf]
          repeat (first | refine ⟨(by show drawK _ _ = true; kernel_rfl : drawX _ _ _), ?_⟩ | exact (by show drawK _ _ = true; kernel_rfl : drawX _ _ _) | simp -dsimp (maxSteps := 20000000) (disch := omega) only [simx, zzC, zzB, tys, ite_self, opnL, callB, readsB, stepOp, ofVal, opBuiltin, opLen, PV.sk, scalBin, scalUn, intBin, opLoad, natOf, opConvert, opField, cellsP, oneP, Value.oneCell', opStore, toIV, scalT, scalA, scalC, boxesA, boxesC, zipB_none, zipB_mx, isZ, opZip, zeroP, opAppendZ, opMakeMap, opLookup, mboxB, opUpdate, ↓reduceIte, Nat.reduceSub, Nat.reduceEqDiff, Nat.reduceAdd, Nat.reduceMul, Nat.reduceLT, Nat.reduceLeDiff, Int.reduceToNat, Int.reduceLE, Int.reduceLT, Int.reduceNeg, reduceCtorEq, zzR, gos, Int.reduceAdd, Int.reduceSub, Int.reduceMul, Int.reduceEq, cj, g1, c1', c2, decide_true, decide_false, Bool.not_true, Bool.not_false, Bool.false_and, Bool.true_and])
        · by_cases c3 : 64 ≤ a
          · rw [← hf]
            repeat (first | refine ⟨(by show drawK _ _ = true; kernel_rfl : drawX _ _ _), ?_⟩ | exact (by show drawK _ _ = true; kernel_rfl : drawX _ _ _) | simp -dsimp (maxSteps := 20000000) (disch := omega) only [simx, zzC, zzB, tys, ite_self, opnL, callB, readsB, stepOp, ofVal, opBuiltin, opLen, PV.sk, scalBin, scalUn, intBin, opLoad, natOf, opConvert, opField, cellsP, oneP, Value.oneCell', opStore, toIV, scalT, scalA, scalC, boxesA, boxesC, zipB_none, zipB_mx, isZ, opZip, zeroP, opAppendZ, opMakeMap, opLookup, mboxB, opUpdate, ↓reduceIte, Nat.reduceSub, Nat.reduceEqDiff, Nat.reduceAdd, Nat.reduceMul, Nat.reduceLT, Nat.reduceLeDiff, Int.reduceToNat, Int.reduceLE, Int.reduceLT, Int.reduceNeg, reduceCtorEq, zzR, gos, Int.reduceAdd, Int.reduceSub, Int.reduceMul, Int.reduceEq, cj, g1, c1', c2, c3, decide_true, decide_false, Bool.not_true, Bool.not_false, Bool.false_and, Bool.true_and])
          · have g2 := seenC_get (l.take j) h0 (by omega : a < 64)
            have c4 : a.toNat < 64 := by omega
            by_cases c5 : a ∈ l.take j
            · rw [← hf]
              repeat (first | refine ⟨(by show drawK _ _ = true; kernel_rfl : drawX _ _ _), ?_⟩ | exact (by show drawK _ _ = true; kernel_rfl : drawX _ _ _) | simp -dsimp (maxSteps := 20000000) (disch := omega) only [simx, zzC, zzB, tys, ite_self, opnL, callB, readsB, stepOp, ofVal, opBuiltin, opLen, PV.sk, scalBin, scalUn, intBin, opLoad, natOf, opConvert, opField, cellsP, oneP, Value.oneCell', opStore, toIV, scalT, scalA, scalC, boxesA, boxesC, zipB_none, zipB_mx, isZ, opZip, zeroP, opAppendZ, opMakeMap, opLookup, mboxB, opUpdate, ↓reduceIte, Nat.reduceSub, Nat.reduceEqDiff, Nat.reduceAdd, Nat.reduceMul, Nat.reduceLT, Nat.reduceLeDiff, Int.reduceToNat, Int.reduceLE, Int.reduceLT, Int.reduceNeg, reduceCtorEq, zzR, gos, Int.reduceAdd, Int.reduceSub, Int.reduceMul, Int.reduceEq, cj, g1, c1', c2, c3, c4, c5, h0, g2, seenC_len, decide_true, decide_false, Bool.not_true, Bool.not_false, Bool.false_and, Bool.true_and])
            · have g3 := seenC_put (l.take j) h0 (by omega : a < 64)
              have c6 : a.toNat + 1 ≤ 64 := c4
              simp only [c1, c2, c3, c5, decide_false, Bool.not_false, Bool.true_and] at hf
              rw [← tk] at hf g3
              repeat (first | refine ⟨(by show drawK _ _ = true; kernel_rfl : drawX _ _ _), ?_⟩ | exact (by show drawK _ _ = true; kernel_rfl : drawX _ _ _) | simp -dsimp (maxSteps := 20000000) (disch := omega) only [simx, zzC, zzB, tys, ite_self, opnL, callB, readsB, stepOp, ofVal, opBuiltin, opLen, PV.sk, scalBin, scalUn, intBin, opLoad, natOf, opConvert, opField, cellsP, oneP, Value.oneCell', opStore, toIV, scalT, scalA, scalC, boxesA, boxesC, zipB_none, zipB_mx, isZ, opZip, zeroP, opAppendZ, opMakeMap, opLookup, mboxB, opUpdate, ↓reduceIte, Nat.reduceSub, Nat.reduceEqDiff, Nat.reduceAdd, Nat.reduceMul, Nat.reduceLT, Nat.reduceLeDiff, Int.reduceToNat, Int.reduceLE, Int.reduceLT, Int.reduceNeg, reduceCtorEq, gos, Int.reduceAdd, Int.reduceSub, Int.reduceMul, Int.reduceEq, cj, g1, c1', c2, c3, c4, c5, c6, h0, g2, g3, seenC_len])
              refine ⟨cj, (fgt_nil), hf, rfl, ?_⟩
              funext c
              simp (maxSteps := 20000000) only [Heap.drop_at, rowH_app, Heap.put_at, Heap.none_at, List.mem_cons, List.not_mem_nil, or_false]
              by_cases e0 : c = (1, 0) :: base
              · subst e0; simp []
              simp [e0]
    · have hj : j = l.length := by omega
      subst hj
      rw [List.drop_length] at hf
      rw [← hf]
      simp only [ordF, Bool.true_and]
      repeat (first | refine ⟨(by show drawK _ _ = true; kernel_rfl : drawX _ _ _), ?_⟩ | exact (by show drawK _ _ = true; kernel_rfl : drawX _ _ _) | simp -dsimp (maxSteps := 20000000) (disch := omega) only [simx, zzC, zzB, tys, ite_self, opnL, callB, readsB, stepOp, ofVal, opBuiltin, opLen, PV.sk, scalBin, scalUn, intBin, opLoad, natOf, opConvert, opField, cellsP, oneP, Value.oneCell', opStore, toIV, scalT, scalA, scalC, boxesA, boxesC, zipB_none, zipB_mx, isZ, opZip, zeroP, opAppendZ, opMakeMap, opLookup, mboxB, opUpdate, ↓reduceIte, Nat.reduceSub, Nat.reduceEqDiff, Nat.reduceAdd, Nat.reduceMul, Nat.reduceLT, Nat.reduceLeDiff, Int.reduceToNat, Int.reduceLE, Int.reduceLT, Int.reduceNeg, reduceCtorEq, zzR, gos, Int.reduceAdd, Int.reduceSub, Int.reduceMul, Int.reduceEq])
end Go.Proofs.Ytkhjfphenflefaa.TM
