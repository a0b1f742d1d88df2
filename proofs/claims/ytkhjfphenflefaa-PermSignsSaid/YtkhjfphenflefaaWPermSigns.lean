/- PermSigns: the law, walked. -/
import Derived.Test.YtkhjfphenflefaaWSgnF
import Derived.Test.YtkhjfphenflefaaWPermAw
namespace Go.Proofs.Ytkhjfphenflefaa.TM
open Go Go.RowKit
set_option linter.unusedVariables false
set_option linter.defProp false
set_option linter.unusedSimpArgs false
attribute [local irreducible] K W WOps Effs Xg Xo Xr Xdg Xdo Xdr Xif CallsP CallR

theorem sgnR_one {l : List Int} (o : Ord l) : sgnR l = 1 ∨ sgnR l = -1 := by rw [sgnR_eq o]; exact sgnI_one _ _
set_option maxHeartbeats 4000000 in
theorem permSigns_true (a0 : List Int) (a1 : List Int) (a2 : Int) (a3 : Int) (w0 : (a0.length ≤ maxLen ∧ ∀ e22_ ∈ a0, (Lit.int .i64 e22_).wf = true)) (w1 : (a1.length ≤ maxLen ∧ ∀ e22_ ∈ a1, (Lit.int .i64 e22_).wf = true)) (w2 : (Lit.int .u8 a2).wf = true) (w3 : (Lit.int .u8 a3).wf = true) : CallsP Try.prog 3 [.i (IV.l a0.length (a0.map fun y => IV.v (.int .i64 y))), .i (IV.l a1.length (a1.map fun y => IV.v (.int .i64 y))), .i (IV.v (.int .u8 a2)), .i (IV.v (.int .u8 a3))] (bl true) := by
  have aw := awake06_walk
  have q1 := pright_walk a0 w0.1
  have q2 := pright_walk a1 w1.1
  change CallsP _ _ [li a0, li a1, .i (IV.v (.int .u8 a2)), .i (IV.v (.int .u8 a3))] _
  cases h1 : orderB a0 with
  | false =>
    rw [h1] at q1
    refine X_startP (n := 143) (m := 4) (rs := [.tmp 8]) Try.func3 rfl rfl rfl rfl (by decide) fun base => ?_
    repeat (first | ((first | refine X_call_fn2 rfl (by simp only [tys]) ?_ | refine X_dcall_fn2 rfl (by simp only [tys]) ?_); apply Exists.intro; apply And.intro; (focus (simp -dsimp only [simx, zzC, zzB, tys, ite_self, opnL, callB, readsB, stepOp, ofVal, opBuiltin, opLen, PV.sk, scalBin, scalUn, intBin, opLoad, natOf, opConvert, opField, cellsP, oneP, Value.oneCell', opStore, toIV, scalT, scalA, scalC, boxesA, boxesC, zipB_none, zipB_mx, isZ, opZip, zeroP, opMakeMap, opLookup, mboxB, opUpdate, ↓reduceIte, Nat.reduceSub, Nat.reduceEqDiff, Nat.reduceAdd, Nat.reduceMul, Nat.reduceLT, Nat.reduceLeDiff, Int.reduceToNat, Int.reduceLE, Int.reduceLT, Int.reduceNeg, reduceCtorEq, zzL, if_true, if_false] <;> rfl)); apply Exists.intro; apply And.intro; (focus (first | exact aw | exact q1))) | refine ⟨(by show drawK _ _ = true; kernel_rfl : drawX _ _ _), ?_⟩ | exact (by show drawK _ _ = true; kernel_rfl : drawX _ _ _) | simp -dsimp (maxSteps := 20000000) (disch := omega) only [simx, zzC, zzB, tys, ite_self, opnL, callB, readsB, stepOp, ofVal, opBuiltin, opLen, PV.sk, scalBin, scalUn, intBin, opLoad, natOf, opConvert, opField, cellsP, oneP, Value.oneCell', opStore, toIV, scalT, scalA, scalC, boxesA, boxesC, zipB_none, zipB_mx, isZ, opZip, zeroP, opMakeMap, opLookup, mboxB, opUpdate, ↓reduceIte, Nat.reduceSub, Nat.reduceEqDiff, Nat.reduceAdd, Nat.reduceMul, Nat.reduceLT, Nat.reduceLeDiff, Int.reduceToNat, Int.reduceLE, Int.reduceLT, Int.reduceNeg, reduceCtorEq, zzR, gos, Int.reduceAdd, Int.reduceSub, Int.reduceMul, Int.reduceEq])
  | true =>
    rw [h1] at q1
    cases h2 : orderB a1 with
    | false =>
      rw [h2] at q2
      refine X_startP (n := 143) (m := 4) (rs := [.tmp 8]) Try.func3 rfl rfl rfl rfl (by decide) fun base => ?_
      repeat (first | ((first | refine X_call_fn2 rfl (by simp only [tys]) ?_ | refine X_dcall_fn2 rfl (by simp only [tys]) ?_); apply Exists.intro; apply And.intro; (focus (simp -dsimp only [simx, zzC, zzB, tys, ite_self, opnL, callB, readsB, stepOp, ofVal, opBuiltin, opLen, PV.sk, scalBin, scalUn, intBin, opLoad, natOf, opConvert, opField, cellsP, oneP, Value.oneCell', opStore, toIV, scalT, scalA, scalC, boxesA, boxesC, zipB_none, zipB_mx, isZ, opZip, zeroP, opMakeMap, opLookup, mboxB, opUpdate, ↓reduceIte, Nat.reduceSub, Nat.reduceEqDiff, Nat.reduceAdd, Nat.reduceMul, Nat.reduceLT, Nat.reduceLeDiff, Int.reduceToNat, Int.reduceLE, Int.reduceLT, Int.reduceNeg, reduceCtorEq, zzL, if_true, if_false] <;> rfl)); apply Exists.intro; apply And.intro; (focus (first | exact aw | exact q1 | exact q2))) | refine ⟨(by show drawK _ _ = true; kernel_rfl : drawX _ _ _), ?_⟩ | exact (by show drawK _ _ = true; kernel_rfl : drawX _ _ _) | simp -dsimp (maxSteps := 20000000) (disch := omega) only [simx, zzC, zzB, tys, ite_self, opnL, callB, readsB, stepOp, ofVal, opBuiltin, opLen, PV.sk, scalBin, scalUn, intBin, opLoad, natOf, opConvert, opField, cellsP, oneP, Value.oneCell', opStore, toIV, scalT, scalA, scalC, boxesA, boxesC, zipB_none, zipB_mx, isZ, opZip, zeroP, opMakeMap, opLookup, mboxB, opUpdate, ↓reduceIte, Nat.reduceSub, Nat.reduceEqDiff, Nat.reduceAdd, Nat.reduceMul, Nat.reduceLT, Nat.reduceLeDiff, Int.reduceToNat, Int.reduceLE, Int.reduceLT, Int.reduceNeg, reduceCtorEq, zzR, gos, Int.reduceAdd, Int.reduceSub, Int.reduceMul, Int.reduceEq])
    | true =>
      rw [h2] at q2
      by_cases h3 : a0.length = a1.length
      · have o1 := (orderB_iff a0).1 h1
        have o2 := (orderB_iff a1).1 h2
        have d3 := then_walk a0 a1 w0.1 w1.1
        have d4 := back_walk a0 w0.1
        have d5 := sign_walk a0 w0.1
        have d6 := sign_walk a1 w1.1
        have e3 : (a0.length : Int) = a1.length := by omega
        have sr : ∀ l : List Int, Ord l → signR l = (sgnR l, 0) := fun l o => by unfold signR; rw [(orderB_iff l).2 o]; rfl
        obtain ⟨o3, g3⟩ := done_ord o1 o2 h3
        obtain ⟨o4, g4⟩ := back_ord o1
        have ol : ∀ l : List Int, Ord l → l.length ≤ maxLen := fun l o => by rw [mx_len]; have := o.le; omega
        have d7 := sign_walk _ (ol _ o3)
        have d8 := sign_walk _ (ol _ o4)
        rw [sr _ o3, g3] at d7
        rw [sr _ o4, g4] at d8
        rw [sr _ o1] at d5
        rw [sr _ o2] at d6
        rw [show thenR a0 a1 = (doneI a1 a0, 0) by unfold thenR; rw [h1, h2, decide_eq_true h3]; rfl] at d3
        rw [show backR a0 = (tbl a0.length (backF a0 a0.length), 0) by unfold backR; rw [h1]; rfl] at d4
        have n1 := o1.pos
        have n2 := o1.le
        have x0 := u8_of w2
        have y0 := u8_of w3
        obtain ⟨X, rfl⟩ := Int.eq_ofNat_of_zero_le x0.1
        obtain ⟨Y, rfl⟩ := Int.eq_ofNat_of_zero_le y0.1
        have c1 : IntKind.i64.wrap (X : Int) = X := iw_of (by omega) (by omega)
        have c2 : IntKind.i64.wrap (Y : Int) = Y := iw_of (by omega) (by omega)
        have c3 : (X : Int) % (a1.length : Int) = ((X % a0.length : Nat) : Int) := by rw [← e3]; rfl
        have c4 : (Y : Int) % (a1.length : Int) = ((Y % a0.length : Nat) : Int) := by rw [← e3]; rfl
        have c5 : X % a0.length < a0.length := Nat.mod_lt _ n1
        have c6 : Y % a0.length < a0.length := Nat.mod_lt _ n1
        have c7 : ¬ (a1.length : Int) = 0 := by omega
        obtain ⟨o5, g5⟩ := swap_ord o1 c5 c6
        have d9 := sign_walk _ (ol _ o5)
        rw [sr _ o5, g5] at d9
        generalize X % a0.length = x at c3 c5 o5 g5 d9
        generalize Y % a0.length = y at c4 c6 o5 g5 d9
        clear h1 h2 h3 o3 o4 g3 g4 g5 ol sr w0 w1 w2 w3 x0 y0
        generalize tbl a0.length (backF a0 a0.length) = bk at d4 d8
        generalize doneI a1 a0 = dn at d3 d7
        have s1 := sgnR_one o1
        have s2 := sgnR_one o2
        generalize sgnR a0 = S at s1 d5 d7 d8 d9
        generalize sgnR a1 = T at s2 d6 d7
        have fz : (((x : Int) == (y : Int)) == ((if x = y then S else -S) == S)) = true := by
          by_cases hxy : x = y
          · subst hxy; simp
          · rw [if_neg hxy, beq_eq_false_iff_ne.2 (by omega : (x : Int) ≠ y), beq_eq_false_iff_ne.2 (by omega : -S ≠ S)]; rfl
        rcases s1 with rfl | rfl <;> rcases s2 with rfl | rfl
        all_goals (
          (try simp only [Int.neg_neg] at fz d9)
          refine X_startP (n := 143) (m := 4) (rs := [.tmp 8]) Try.func3 rfl rfl rfl rfl (by decide) fun base => ?_
          repeat (first | ((first | refine X_call_fn2 rfl (by simp only [tys]) ?_ | refine X_dcall_fn2 rfl (by simp only [tys]) ?_); apply Exists.intro; apply And.intro; (focus (simp -dsimp only [simx, zzC, zzB, tys, ite_self, opnL, callB, readsB, stepOp, ofVal, opBuiltin, opLen, PV.sk, scalBin, scalUn, intBin, opLoad, natOf, opConvert, opField, cellsP, oneP, Value.oneCell', opStore, toIV, scalT, scalA, scalC, boxesA, boxesC, zipB_none, zipB_mx, isZ, opZip, zeroP, opMakeMap, opLookup, mboxB, opUpdate, ↓reduceIte, Nat.reduceSub, Nat.reduceEqDiff, Nat.reduceAdd, Nat.reduceMul, Nat.reduceLT, Nat.reduceLeDiff, Int.reduceToNat, Int.reduceLE, Int.reduceLT, Int.reduceNeg, reduceCtorEq, zzL, if_true, if_false] <;> rfl)); apply Exists.intro; apply And.intro; (focus (first | exact aw | exact q1 | exact q2 | exact d3 | exact d4 | exact d5 | exact d6 | exact d7 | exact d8))) | refine ⟨(by show drawK _ _ = true; kernel_rfl : drawX _ _ _), ?_⟩ | exact (by show drawK _ _ = true; kernel_rfl : drawX _ _ _) | simp -dsimp (maxSteps := 20000000) (disch := omega) only [simx, zzC, zzB, tys, ite_self, opnL, callB, readsB, stepOp, ofVal, opBuiltin, opLen, PV.sk, scalBin, scalUn, intBin, opLoad, natOf, opConvert, opField, cellsP, oneP, Value.oneCell', opStore, toIV, scalT, scalA, scalC, boxesA, boxesC, zipB_none, zipB_mx, isZ, opZip, zeroP, opMakeMap, opLookup, mboxB, opUpdate, ↓reduceIte, Nat.reduceSub, Nat.reduceEqDiff, Nat.reduceAdd, Nat.reduceMul, Nat.reduceLT, Nat.reduceLeDiff, Int.reduceToNat, Int.reduceLE, Int.reduceLT, Int.reduceNeg, reduceCtorEq, gos, Int.reduceAdd, Int.reduceSub, Int.reduceMul, Int.reduceEq, e3, c1, c2, c3, c4, c7])
          refine Xr_eq (out := ⟨.view ((14, 0) :: base) 0 1 a0.length a0.length, [((14, 0) :: base, .row false (a0.map ii))]⟩) (by
            have hb : a0.length * 8 ≤ 140737488355328 := by omega
            have hm : a0.length ≤ maxLen := by rw [mx_len]; omega
            have h0 : ¬ a0.length = 0 := by omega
            simp only [opAppend, tys, PV.sk, SK.cells, SK.len, List.length_map, List.length_cons, List.length_nil, Nat.zero_add, Nat.mul_one, if_true, Nat.zero_lt_one, hb, hm, h0, true_and, and_self, if_false, Heap.put_at, Nat.zero_mul, List.nil_append]) ?_
          have g1 : a0[x]? = some (fnI a0 x) := by rw [fnI, List.getD_eq_getElem?_getD, List.getElem?_eq_getElem c5]; rfl
          have g2 : a0[y]? = some (fnI a0 y) := by rw [fnI, List.getD_eq_getElem?_getD, List.getElem?_eq_getElem c6]; rfl
          have t0 : a0.map ii = (tbl a0.length (fnI a0)).map ii := congrArg (List.map ii) (tbl_of (l := a0) rfl)
          have t1 := tbl_put_ii (n := a0.length) (d := x) (fnI a0) (fnI a0 y) c5
          have t2 := tbl_put_ii (n := a0.length) (d := y) (fun q => if q = x then fnI a0 y else fnI a0 q) (fnI a0 x) c6
          have t3 : (fun q => if q = y then fnI a0 x else if q = x then fnI a0 y else fnI a0 q) = sw x y (fnI a0) := by
            funext q
            unfold sw
            by_cases h1 : q = x
            · by_cases h2 : q = y
              · rw [if_pos h2, if_pos h1, ← h1, ← h2]
              · rw [if_neg h2, if_pos h1, if_pos h1]
            · by_cases h2 : q = y
              · rw [if_pos h2, if_neg h1, if_pos h2]
              · rw [if_neg h2, if_neg h1, if_neg h1, if_neg h2]
          rw [t3] at t2
          rw [← t0] at t1
          have tl := tbl_len a0.length (fun q => if q = x then fnI a0 y else fnI a0 q)
          have tl2 := tbl_len a0.length (sw x y (fnI a0))
          rw [li, tl2] at d9
          generalize tbl a0.length (sw x y (fnI a0)) = L2 at t2 d9 tl2
          generalize tbl a0.length (fun q => if q = x then fnI a0 y else fnI a0 q) = L1 at t1 t2 tl
          generalize fnI a0 x = A at g1 t2
          generalize fnI a0 y = B at g2 t1
          have c8 : x + 1 ≤ a0.length := c5
          have c9 : y + 1 ≤ a0.length := c6
          have tk : (L2.map ii).take a0.length = L2.map ii := List.take_of_length_le (by simp [tl2])
          repeat (first | ((first | refine X_call_fn2 rfl (by simp only [tys]) ?_ | refine X_dcall_fn2 rfl (by simp only [tys]) ?_); apply Exists.intro; apply And.intro; (focus (simp -dsimp only [simx, zzC, zzB, tys, ite_self, opnL, callB, readsB, stepOp, ofVal, opBuiltin, opLen, PV.sk, scalBin, scalUn, intBin, opLoad, natOf, opConvert, opField, cellsP, oneP, Value.oneCell', opStore, toIV, scalT, scalA, scalC, boxesA, boxesC, zipB_none, zipB_mx, isZ, opZip, zeroP, opMakeMap, opLookup, mboxB, opUpdate, ↓reduceIte, Nat.reduceSub, Nat.reduceEqDiff, Nat.reduceAdd, Nat.reduceMul, Nat.reduceLT, Nat.reduceLeDiff, Int.reduceToNat, Int.reduceLE, Int.reduceLT, Int.reduceNeg, reduceCtorEq, zzL, if_true, if_false, List.length_map, tl2, tk, li, Nat.zero_add, Nat.mul_one, Nat.le_refl, List.drop_zero] <;> rfl)); apply Exists.intro; apply And.intro; (focus (first | exact d9))) | refine ⟨(by show drawK _ _ = true; kernel_rfl : drawX _ _ _), ?_⟩ | exact (by show drawK _ _ = true; kernel_rfl : drawX _ _ _) | simp -dsimp (maxSteps := 20000000) (disch := omega) only [simx, zzC, zzB, tys, ite_self, opnL, callB, readsB, stepOp, ofVal, opBuiltin, opLen, PV.sk, scalBin, scalUn, intBin, opLoad, natOf, opConvert, opField, cellsP, oneP, Value.oneCell', opStore, toIV, scalT, scalA, scalC, boxesA, boxesC, zipB_none, zipB_mx, isZ, opZip, zeroP, opMakeMap, opLookup, mboxB, opUpdate, ↓reduceIte, Nat.reduceSub, Nat.reduceEqDiff, Nat.reduceAdd, Nat.reduceMul, Nat.reduceLT, Nat.reduceLeDiff, Int.reduceToNat, Int.reduceLE, Int.reduceLT, Int.reduceNeg, reduceCtorEq, zzR, gos, Int.reduceAdd, Int.reduceSub, Int.reduceMul, Int.reduceEq, c1, c2, c3, c4, c5, c6, c7, c8, c9, g1, g2, t1, t2, List.length_map, tl, tl2, List.getElem?_map, tk, fz]))
      · have e3 : ¬ (a0.length : Int) = a1.length := by omega
        refine X_startP (n := 143) (m := 4) (rs := [.tmp 8]) Try.func3 rfl rfl rfl rfl (by decide) fun base => ?_
        repeat (first | ((first | refine X_call_fn2 rfl (by simp only [tys]) ?_ | refine X_dcall_fn2 rfl (by simp only [tys]) ?_); apply Exists.intro; apply And.intro; (focus (simp -dsimp only [simx, zzC, zzB, tys, ite_self, opnL, callB, readsB, stepOp, ofVal, opBuiltin, opLen, PV.sk, scalBin, scalUn, intBin, opLoad, natOf, opConvert, opField, cellsP, oneP, Value.oneCell', opStore, toIV, scalT, scalA, scalC, boxesA, boxesC, zipB_none, zipB_mx, isZ, opZip, zeroP, opMakeMap, opLookup, mboxB, opUpdate, ↓reduceIte, Nat.reduceSub, Nat.reduceEqDiff, Nat.reduceAdd, Nat.reduceMul, Nat.reduceLT, Nat.reduceLeDiff, Int.reduceToNat, Int.reduceLE, Int.reduceLT, Int.reduceNeg, reduceCtorEq, zzL, if_true, if_false] <;> rfl)); apply Exists.intro; apply And.intro; (focus (first | exact aw | exact q1 | exact q2))) | refine ⟨(by show drawK _ _ = true; kernel_rfl : drawX _ _ _), ?_⟩ | exact (by show drawK _ _ = true; kernel_rfl : drawX _ _ _) | simp -dsimp (maxSteps := 20000000) (disch := omega) only [simx, zzC, zzB, tys, ite_self, opnL, callB, readsB, stepOp, ofVal, opBuiltin, opLen, PV.sk, scalBin, scalUn, intBin, opLoad, natOf, opConvert, opField, cellsP, oneP, Value.oneCell', opStore, toIV, scalT, scalA, scalC, boxesA, boxesC, zipB_none, zipB_mx, isZ, opZip, zeroP, opMakeMap, opLookup, mboxB, opUpdate, ↓reduceIte, Nat.reduceSub, Nat.reduceEqDiff, Nat.reduceAdd, Nat.reduceMul, Nat.reduceLT, Nat.reduceLeDiff, Int.reduceToNat, Int.reduceLE, Int.reduceLT, Int.reduceNeg, reduceCtorEq, zzR, gos, Int.reduceAdd, Int.reduceSub, Int.reduceMul, Int.reduceEq, e3])
end Go.Proofs.Ytkhjfphenflefaa.TM
