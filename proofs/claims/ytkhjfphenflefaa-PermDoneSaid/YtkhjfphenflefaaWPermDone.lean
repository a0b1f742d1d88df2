/- PermDone: the law, walked. -/
import Derived.Test.YtkhjfphenflefaaWPermG
import Derived.Test.YtkhjfphenflefaaWPermAw
namespace Go.Proofs.Ytkhjfphenflefaa.TM
open Go Go.RowKit
set_option linter.unusedVariables false
set_option linter.defProp false
set_option linter.unusedSimpArgs false
attribute [local irreducible] K W WOps Effs Xg Xo Xr Xdg Xdo Xdr Xif CallsP CallR

abbrev flat (L : List (List Int)) (j : Nat) : List Int := (L.take j).flatten
theorem flat_next {L : List (List Int)} {j : Nat} (h : j < L.length) : (L.take (j + 1)).flatten = (L.take j).flatten ++ L[j] := by
  rw [List.take_succ_eq_append_getElem h, List.flatten_append]; simp
theorem flat_le (L : List (List Int)) (j : Nat) : (L.take j).flatten.length ≤ L.flatten.length := by
  have : L.flatten = (L.take j).flatten ++ (L.drop j).flatten := by rw [← List.flatten_append, List.take_append_drop]
  rw [this, List.length_append]; omega
set_option maxHeartbeats 4000000 in
set_option maxRecDepth 20000 in
theorem permDone_true (a0 : List Int) (a1 : List Int) (a2 : List Int) (w0 : (a0.length ≤ maxLen ∧ ∀ e22_ ∈ a0, (Lit.int .i64 e22_).wf = true)) (w1 : (a1.length ≤ maxLen ∧ ∀ e22_ ∈ a1, (Lit.int .i64 e22_).wf = true)) (w2 : (a2.length ≤ maxLen ∧ ∀ e32_ ∈ a2, (Lit.int .u64 e32_).wf = true)) : CallsP Try.prog 4 [.i (IV.l a0.length (a0.map fun y => IV.v (.int .i64 y))), .i (IV.l a1.length (a1.map fun y => IV.v (.int .i64 y))), .i (IV.l a2.length (a2.map fun y => IV.v (.int .u64 y)))] (bl true) := by
  have aw := awake06_walk
  have q1 := pright_walk a0 w0.1
  have q2 := pright_walk a1 w1.1
  change CallsP _ _ [li a0, li a1, lu a2] _
  cases h1 : orderB a0 with
  | false =>
    rw [h1] at q1
    refine X_startP (n := 225) (m := 3) (rs := [.tmp 6]) Try.func4 rfl rfl rfl rfl (by decide) fun base => ?_
    repeat (first | ((first | refine X_call_fn2 rfl (by simp only [tys]) ?_ | refine X_dcall_fn2 rfl (by simp only [tys]) ?_); apply Exists.intro; apply And.intro; (focus (simp -dsimp only [simx, zzC, zzB, tys, ite_self, opnL, callB, readsB, stepOp, ofVal, opBuiltin, opLen, PV.sk, scalBin, scalUn, intBin, opLoad, natOf, opConvert, opField, cellsP, oneP, Value.oneCell', opStore, toIV, scalT, scalA, scalC, boxesA, boxesC, zipB_none, zipB_mx, isZ, opZip, zeroP, opMakeMap, opLookup, mboxB, opUpdate, ↓reduceIte, Nat.reduceSub, Nat.reduceEqDiff, Nat.reduceAdd, Nat.reduceMul, Nat.reduceLT, Nat.reduceLeDiff, Int.reduceToNat, Int.reduceLE, Int.reduceLT, Int.reduceNeg, reduceCtorEq, zzL, if_true, if_false] <;> rfl)); apply Exists.intro; apply And.intro; (focus (first | exact aw | exact q1))) | refine ⟨(by show drawK _ _ = true; kernel_rfl : drawX _ _ _), ?_⟩ | exact (by show drawK _ _ = true; kernel_rfl : drawX _ _ _) | simp -dsimp (maxSteps := 20000000) (disch := omega) only [simx, zzC, zzB, tys, ite_self, opnL, callB, readsB, stepOp, ofVal, opBuiltin, opLen, PV.sk, scalBin, scalUn, intBin, opLoad, natOf, opConvert, opField, cellsP, oneP, Value.oneCell', opStore, toIV, scalT, scalA, scalC, boxesA, boxesC, zipB_none, zipB_mx, isZ, opZip, zeroP, opMakeMap, opLookup, mboxB, opUpdate, ↓reduceIte, Nat.reduceSub, Nat.reduceEqDiff, Nat.reduceAdd, Nat.reduceMul, Nat.reduceLT, Nat.reduceLeDiff, Int.reduceToNat, Int.reduceLE, Int.reduceLT, Int.reduceNeg, reduceCtorEq, zzR, gos, Int.reduceAdd, Int.reduceSub, Int.reduceMul, Int.reduceEq])
  | true =>
    rw [h1] at q1
    cases h2 : orderB a1 with
    | false =>
      rw [h2] at q2
      refine X_startP (n := 225) (m := 3) (rs := [.tmp 6]) Try.func4 rfl rfl rfl rfl (by decide) fun base => ?_
      repeat (first | ((first | refine X_call_fn2 rfl (by simp only [tys]) ?_ | refine X_dcall_fn2 rfl (by simp only [tys]) ?_); apply Exists.intro; apply And.intro; (focus (simp -dsimp only [simx, zzC, zzB, tys, ite_self, opnL, callB, readsB, stepOp, ofVal, opBuiltin, opLen, PV.sk, scalBin, scalUn, intBin, opLoad, natOf, opConvert, opField, cellsP, oneP, Value.oneCell', opStore, toIV, scalT, scalA, scalC, boxesA, boxesC, zipB_none, zipB_mx, isZ, opZip, zeroP, opMakeMap, opLookup, mboxB, opUpdate, ↓reduceIte, Nat.reduceSub, Nat.reduceEqDiff, Nat.reduceAdd, Nat.reduceMul, Nat.reduceLT, Nat.reduceLeDiff, Int.reduceToNat, Int.reduceLE, Int.reduceLT, Int.reduceNeg, reduceCtorEq, zzL, if_true, if_false] <;> rfl)); apply Exists.intro; apply And.intro; (focus (first | exact aw | exact q1 | exact q2))) | refine ⟨(by show drawK _ _ = true; kernel_rfl : drawX _ _ _), ?_⟩ | exact (by show drawK _ _ = true; kernel_rfl : drawX _ _ _) | simp -dsimp (maxSteps := 20000000) (disch := omega) only [simx, zzC, zzB, tys, ite_self, opnL, callB, readsB, stepOp, ofVal, opBuiltin, opLen, PV.sk, scalBin, scalUn, intBin, opLoad, natOf, opConvert, opField, cellsP, oneP, Value.oneCell', opStore, toIV, scalT, scalA, scalC, boxesA, boxesC, zipB_none, zipB_mx, isZ, opZip, zeroP, opMakeMap, opLookup, mboxB, opUpdate, ↓reduceIte, Nat.reduceSub, Nat.reduceEqDiff, Nat.reduceAdd, Nat.reduceMul, Nat.reduceLT, Nat.reduceLeDiff, Int.reduceToNat, Int.reduceLE, Int.reduceLT, Int.reduceNeg, reduceCtorEq, zzR, gos, Int.reduceAdd, Int.reduceSub, Int.reduceMul, Int.reduceEq])
    | true =>
      rw [h2] at q2
      by_cases h3 : a0.length = a1.length
      · have e3 : (a1.length : Int) = a0.length := by omega
        by_cases h4 : a2.length = a0.length
        · have e4 : (a2.length : Int) = a0.length := by omega
          have o1 := (orderB_iff a0).1 h1
          have o2 := (orderB_iff a1).1 h2
          obtain ⟨o3, _⟩ := done_ord o1 o2 h3
          obtain ⟨o4, _⟩ := back_ord o1
          have n1 := o1.pos
          have n2 := o1.le
          have ml : ∀ l : List Int, l.length ≤ 64 → l.length ≤ maxLen := fun l o => by rw [mx_len]; omega
          have dl : ∀ p x : List Int, Ord p → p.length = x.length → doR p x = (doneI p x, 0) := fun p x o h => by unfold doR; rw [(orderB_iff p).2 o, decide_eq_true h]; rfl
          have d1 := do_walk a0 a2 w0.1 w2.1
          rw [dl a0 a2 o1 h4.symm] at d1
          have al : (doneI a0 a2).length = a0.length := doneI_len _ _
          have d2 := do_walk a1 (doneI a0 a2) w1.1 (ml _ (by rw [al]; omega))
          rw [dl a1 _ o2 (by rw [al]; omega)] at d2
          have d3 := then_walk a0 a1 w0.1 w1.1
          rw [show thenR a0 a1 = (doneI a1 a0, 0) by unfold thenR; rw [h1, h2, decide_eq_true h3]; rfl] at d3
          have tl : (doneI a1 a0).length = a1.length := doneI_len _ _
          have d4 := do_walk (doneI a1 a0) a2 (ml _ o3.le) w2.1
          rw [dl _ a2 o3 (by rw [tl]; omega), ← done_done o2 h3] at d4
          have d5 := back_walk a0 w0.1
          rw [show backR a0 = (tbl a0.length (backF a0 a0.length), 0) by unfold backR; rw [h1]; rfl] at d5
          have bl' : (tbl a0.length (backF a0 a0.length)).length = a0.length := tbl_len _ _
          have d6 := do_walk (tbl a0.length (backF a0 a0.length)) (doneI a0 a2) (ml _ o4.le) (ml _ (by rw [al]; omega))
          rw [dl _ _ o4 (by rw [al, bl']), done_back o1 h4] at d6
          have d7 := then_walk a0 (tbl a0.length (backF a0 a0.length)) w0.1 (ml _ o4.le)
          rw [show thenR a0 (tbl a0.length (backF a0 a0.length)) = (idN a0.length, 0) by
            unfold thenR; rw [h1, (orderB_iff _).2 o4, decide_eq_true bl'.symm, then_back o1]; rfl] at d7
          have d8 := pone_walk (a0.length : Int)
          rw [show oneR (a0.length : Int) = (idN a0.length, 0) by
            unfold oneR; rw [decide_eq_false (by omega), decide_eq_false (by omega)]; rfl] at d8
          have s1 := same1_walk (doneI a1 (doneI a0 a2)) (doneI a1 (doneI a0 a2)) (ml _ (by rw [doneI_len]; omega))
          rw [decide_eq_true rfl] at s1
          have s2 := same1_walk a2 a2 w2.1
          rw [decide_eq_true rfl] at s2
          have s3 := same6_walk (idN a0.length) (idN a0.length) (ml _ (by rw [idN, tbl_len]; omega))
          rw [decide_eq_true rfl] at s3
          obtain ⟨r1, r2, r3⟩ := rings_ord o1
          have d9 := rings2_walk a0 w0.1
          rw [show ringsR a0 = (ringsI a0, 0) by unfold ringsR; rw [h1]; rfl] at d9
          have q3 := pright_walk (ringsI a0).flatten (ml _ r1.le)
          rw [(orderB_iff _).2 r1] at q3
          have fl := flat_le (ringsI a0)
          have ll : (ringsI a0).length ≤ a0.length := rgs_len a0 a0.length
          generalize ringsI a0 = L at d9 q3 r1 r2 r3 fl ll
          generalize doneI a1 (doneI a0 a2) = B at d2 d4 s1
          generalize doneI a0 a2 = A at d1 d2 d6
          generalize doneI a1 a0 = T at d3 d4
          generalize tbl a0.length (backF a0 a0.length) = U at d5 d6 d7
          generalize idN a0.length = O at d7 d8 s3
          clear h1 h2 o1 o2 o3 o4 dl al tl bl'
          refine X_startP (n := 225) (m := 3) (rs := [.tmp 6]) Try.func4 rfl rfl rfl rfl (by decide) fun base => ?_
          repeat (first | ((first | refine X_call_fn2 rfl (by simp only [tys]) ?_ | refine X_dcall_fn2 rfl (by simp only [tys]) ?_); apply Exists.intro; apply And.intro; (focus (simp -dsimp only [simx, zzC, zzB, tys, ite_self, opnL, callB, readsB, stepOp, ofVal, opBuiltin, opLen, PV.sk, scalBin, scalUn, intBin, opLoad, natOf, opConvert, opField, cellsP, oneP, Value.oneCell', opStore, toIV, scalT, scalA, scalC, boxesA, boxesC, zipB_none, zipB_mx, isZ, opZip, zeroP, opMakeMap, opLookup, mboxB, opUpdate, ↓reduceIte, Nat.reduceSub, Nat.reduceEqDiff, Nat.reduceAdd, Nat.reduceMul, Nat.reduceLT, Nat.reduceLeDiff, Int.reduceToNat, Int.reduceLE, Int.reduceLT, Int.reduceNeg, reduceCtorEq, zzL, if_true, if_false] <;> rfl)); apply Exists.intro; apply And.intro; (focus (first | exact aw | exact q1 | exact q2 | exact d1 | exact d2 | exact d3 | exact d4 | exact d5 | exact d6 | exact d7 | exact d8 | exact d9 | exact s1 | exact s2 | exact s3))) | refine ⟨(by show drawK _ _ = true; kernel_rfl : drawX _ _ _), ?_⟩ | exact (by show drawK _ _ = true; kernel_rfl : drawX _ _ _) | simp -dsimp (maxSteps := 20000000) (disch := omega) only [simx, zzC, zzB, tys, ite_self, opnL, callB, readsB, stepOp, ofVal, opBuiltin, opLen, PV.sk, scalBin, scalUn, intBin, opLoad, natOf, opConvert, opField, cellsP, oneP, Value.oneCell', opStore, toIV, scalT, scalA, scalC, boxesA, boxesC, zipB_none, zipB_mx, isZ, opZip, zeroP, opMakeMap, opLookup, mboxB, opUpdate, ↓reduceIte, Nat.reduceSub, Nat.reduceEqDiff, Nat.reduceAdd, Nat.reduceMul, Nat.reduceLT, Nat.reduceLeDiff, Int.reduceToNat, Int.reduceLE, Int.reduceLT, Int.reduceNeg, reduceCtorEq, gos, Int.reduceAdd, Int.reduceSub, Int.reduceMul, Int.reduceEq, e3, e4])
          refine X_loopH [0, 23, 24, 25, 26] [] (0) (L.length) (fun j => True) (fun j => [(25, rowP ((25, 5) :: base) 1 (flat L j).length ((flat L j).map ii)), (26, i64 j)]) (fun j => rowH Heap.none ((25, 5) :: base) (flat L j).length ((flat L j).map ii)) ?_ ?_ ?_ ?_ ?_ (by decide) ?_
          · exact (fgt_nil)
          · ((simp -dsimp (disch := omega) only [simx, zzB, tys, ite_self, opnL, callB, readsB, stepOp, ofVal, opBuiltin, opLen, PV.sk, scalBin, scalUn, intBin, opLoad, natOf, opConvert, opField, cellsP, oneP, Value.oneCell', opStore, toIV, scalT, scalA, scalC, boxesA, boxesC, zipB_none, zipB_mx, isZ, opZip, zeroP, opMakeMap, opLookup, mboxB, opUpdate, ↓reduceIte, Nat.reduceSub, Nat.reduceEqDiff, Nat.reduceAdd, Nat.reduceMul, Nat.reduceLT, Nat.reduceLeDiff, Int.reduceToNat, Int.reduceLE, Int.reduceLT, Int.reduceNeg, reduceCtorEq, gos, Int.reduceAdd, Int.reduceSub, Int.reduceMul, Int.reduceEq]) <;> first | rfl | simp [rowP])
          · funext c
            simp (maxSteps := 20000000) only [Heap.drop_at, rowH_app, Heap.put_at, Heap.none_at, List.mem_cons, List.not_mem_nil, or_false]
            simp [rowP]
          · omega
          · trivial
          · intro J hj _
            by_cases cj : J < L.length
            · have g1 : L[J]? = some L[J] := List.getElem?_eq_getElem cj
              obtain ⟨p1, p2⟩ := r3 L[J] (List.getElem_mem cj)
              have fx := flat_next cj
              generalize L[J] = r at g1 p1 p2 fx
              have f1 := fl (J + 1)
              rw [fx, List.length_append, r2] at f1
              have f2 : (flat L J).length + r.length ≤ 64 := by show (L.take J).flatten.length + r.length ≤ 64; omega
              have rl : r.length ≤ 64 := by omega
              clear f1
              repeat (first | refine ⟨(by show drawK _ _ = true; kernel_rfl : drawX _ _ _), ?_⟩ | exact (by show drawK _ _ = true; kernel_rfl : drawX _ _ _) | simp -dsimp (maxSteps := 20000000) (disch := omega) only [simx, zzC, zzB, tys, ite_self, opnL, callB, readsB, stepOp, ofVal, opBuiltin, opLen, PV.sk, scalBin, scalUn, intBin, opLoad, natOf, opConvert, opField, cellsP, oneP, Value.oneCell', opStore, toIV, scalT, scalA, scalC, boxesA, boxesC, zipB_none, zipB_mx, isZ, opZip, zeroP, opMakeMap, opLookup, mboxB, opUpdate, ↓reduceIte, Nat.reduceSub, Nat.reduceEqDiff, Nat.reduceAdd, Nat.reduceMul, Nat.reduceLT, Nat.reduceLeDiff, Int.reduceToNat, Int.reduceLE, Int.reduceLT, Int.reduceNeg, reduceCtorEq, gos, Int.reduceAdd, Int.reduceSub, Int.reduceMul, Int.reduceEq, cj, g1])
              refine X_loopH [0, 23, 24, 25, 26, 27] [] (0) (r.length) (fun j => True) (fun j => [(26, i64 J), (27, i64 j)]) (fun j => rowH Heap.none ((25, 5) :: base) (flat L J).length ((flat L J).map ii)) ?_ ?_ ?_ ?_ ?_ (by decide) ?_
              · exact (fgt_nil)
              · ((simp -dsimp (disch := omega) only [simx, zzB, tys, ite_self, opnL, callB, readsB, stepOp, ofVal, opBuiltin, opLen, PV.sk, scalBin, scalUn, intBin, opLoad, natOf, opConvert, opField, cellsP, oneP, Value.oneCell', opStore, toIV, scalT, scalA, scalC, boxesA, boxesC, zipB_none, zipB_mx, isZ, opZip, zeroP, opMakeMap, opLookup, mboxB, opUpdate, ↓reduceIte, Nat.reduceSub, Nat.reduceEqDiff, Nat.reduceAdd, Nat.reduceMul, Nat.reduceLT, Nat.reduceLeDiff, Int.reduceToNat, Int.reduceLE, Int.reduceLT, Int.reduceNeg, reduceCtorEq, gos, Int.reduceAdd, Int.reduceSub, Int.reduceMul, Int.reduceEq]) <;> first | rfl | simp [rowP])
              · exact drop_nil _
              · omega
              · trivial
              · intro k hk _
                by_cases ck : k < r.length
                · obtain ⟨x1, x2, x3, x4⟩ := p2 k ck
                  have gd : ∀ (l : List Int) {i : Nat}, i < l.length → l[i]? = some (l.getD i 0) := fun l i h => by rw [List.getD_eq_getElem?_getD, List.getElem?_eq_getElem h]; rfl
                  have y1 := gd r ck
                  have y2 := gd r p1
                  have km : (k + 1) % r.length < r.length := Nat.mod_lt _ p1
                  have y3 := gd r km
                  have kc : ((k : Int) + 1) % (r.length : Int) = (((k + 1) % r.length : Nat) : Int) := rfl
                  have y4 : (r.getD k 0).toNat < a0.length := by omega
                  have y5 := gd a0 y4
                  rw [nx] at x3
                  rw [x3] at y5
                  generalize (k + 1) % r.length = m at kc km y3 y5
                  generalize r.getD k 0 = X at x1 x2 x4 y1 y4 y5
                  generalize r.getD 0 0 = X0 at x4 y2
                  generalize r.getD m 0 = Y at y3 y5
                  clear p2 r3 fl fx d1 d2 d3 d4 d5 d6 d7 d8 d9 s1 s2 s3 q1 q2 q3 aw ml r1
                  have z1 : ¬ X < 0 := by omega
                  have z2 : ¬ (a0.length : Int) ≤ X := by omega
                  have z3 : ¬ X < X0 := by omega
                  repeat (first | refine ⟨(by show drawK _ _ = true; kernel_rfl : drawX _ _ _), ?_⟩ | exact (by show drawK _ _ = true; kernel_rfl : drawX _ _ _) | simp -dsimp (maxSteps := 20000000) (disch := omega) only [simx, zzC, zzB, tys, ite_self, opnL, callB, readsB, stepOp, ofVal, opBuiltin, opLen, PV.sk, scalBin, scalUn, intBin, opLoad, natOf, opConvert, opField, cellsP, oneP, Value.oneCell', opStore, toIV, scalT, scalA, scalC, boxesA, boxesC, zipB_none, zipB_mx, isZ, opZip, zeroP, opMakeMap, opLookup, mboxB, opUpdate, ↓reduceIte, Nat.reduceSub, Nat.reduceEqDiff, Nat.reduceAdd, Nat.reduceMul, Nat.reduceLT, Nat.reduceLeDiff, Int.reduceToNat, Int.reduceLE, Int.reduceLT, Int.reduceNeg, reduceCtorEq, gos, Int.reduceAdd, Int.reduceSub, Int.reduceMul, Int.reduceEq, cj, ck, g1, y1, y2, y3, y4, y5, kc, z1, z2, z3, x1, y4, km, p1])
                  exact ⟨ck, (fgt_nil), rfl, rfl⟩
                · have hk' : k = r.length := by omega
                  subst hk'
                  repeat (first | refine ⟨(by show drawK _ _ = true; kernel_rfl : drawX _ _ _), ?_⟩ | exact (by show drawK _ _ = true; kernel_rfl : drawX _ _ _) | simp -dsimp (maxSteps := 20000000) (disch := omega) only [simx, zzC, zzB, tys, ite_self, opnL, callB, readsB, stepOp, ofVal, opBuiltin, opLen, PV.sk, scalBin, scalUn, intBin, opLoad, natOf, opConvert, opField, cellsP, oneP, Value.oneCell', opStore, toIV, scalT, scalA, scalC, boxesA, boxesC, zipB_none, zipB_mx, isZ, opZip, zeroP, opMakeMap, opLookup, mboxB, opUpdate, ↓reduceIte, Nat.reduceSub, Nat.reduceEqDiff, Nat.reduceAdd, Nat.reduceMul, Nat.reduceLT, Nat.reduceLeDiff, Int.reduceToNat, Int.reduceLE, Int.reduceLT, Int.reduceNeg, reduceCtorEq, gos, Int.reduceAdd, Int.reduceSub, Int.reduceMul, Int.reduceEq, cj, g1])
                  refine X_append_list 3 [.int .i64 0] (r.map ii) (by simp only [tys]) (by simp only [tys]) rfl (by decide) (by rw [List.length_map, Nat.mul_one]) (by simp [Heap.put_at, Heap.none_at, rowH_app]) (by omega) (by rw [List.length_map, Nat.mul_one]) (by simp only [tys]; omega) (by rw [mx_len]; omega) ?_
                  have ep : rowP ((25, 5) :: base) 1 ((flat L J).length + r.length) ((flat L J).map ii ++ r.map ii) = .view ((25, 5) :: base) 0 1 ((flat L J).length + r.length) ((flat L J).map ii ++ r.map ii).length := if_neg (by omega)
                  repeat (first | refine ⟨(by show drawK _ _ = true; kernel_rfl : drawX _ _ _), ?_⟩ | exact (by show drawK _ _ = true; kernel_rfl : drawX _ _ _) | simp -dsimp (maxSteps := 20000000) (disch := omega) only [simx, zzC, zzB, tys, ite_self, opnL, callB, readsB, stepOp, ofVal, opBuiltin, opLen, PV.sk, scalBin, scalUn, intBin, opLoad, natOf, opConvert, opField, cellsP, oneP, Value.oneCell', opStore, toIV, scalT, scalA, scalC, boxesA, boxesC, zipB_none, zipB_mx, isZ, opZip, zeroP, opMakeMap, opLookup, mboxB, opUpdate, ↓reduceIte, Nat.reduceSub, Nat.reduceEqDiff, Nat.reduceAdd, Nat.reduceMul, Nat.reduceLT, Nat.reduceLeDiff, Int.reduceToNat, Int.reduceLE, Int.reduceLT, Int.reduceNeg, reduceCtorEq, gos, Int.reduceAdd, Int.reduceSub, Int.reduceMul, Int.reduceEq, ep])
                  have fx2 : flat L (J + 1) = flat L J ++ r := fx
                  refine ⟨cj, (fgt_nil), ⟨?_, rfl⟩, ?_⟩
                  · rw [fx2, List.map_append, show (flat L J ++ r).length = (flat L J).length + r.length from List.length_append, ep]
                  · rw [fx2, List.map_append, show (flat L J ++ r).length = (flat L J).length + r.length from List.length_append]
                    have hd : ¬ r.length = 0 := by omega
                    funext c
                    simp (maxSteps := 20000000) only [Heap.drop_at, rowH_app, Heap.put_at, Heap.none_at, List.mem_cons, List.not_mem_nil, or_false]
                    by_cases e0 : c = (25, 5) :: base
                    · subst e0; simp [hd]
                    simp [e0, hd]
            · have hj : J = L.length := by omega
              subst hj
              have fe : flat L L.length = L.flatten := by show (L.take L.length).flatten = _; rw [List.take_length]
              rw [fe]
              have hne : ¬ L.flatten.length = 0 := by omega
              have ep : rowP ((25, 5) :: base) 1 L.flatten.length (L.flatten.map ii) = .view ((25, 5) :: base) 0 1 L.flatten.length (L.flatten.map ii).length := if_neg hne
              have e2 : (L.flatten.map ii).take L.flatten.length = L.flatten.map ii := List.take_of_length_le (by rw [List.length_map]; exact Nat.le_refl _)
              have r2' : (L.flatten.length : Int) = a0.length := by omega
              repeat (first | ((first | refine X_call_fn2 rfl (by simp only [tys]) ?_ | refine X_dcall_fn2 rfl (by simp only [tys]) ?_); apply Exists.intro; apply And.intro; (focus (simp -dsimp only [simx, zzC, zzB, tys, ite_self, opnL, callB, readsB, stepOp, ofVal, opBuiltin, opLen, PV.sk, scalBin, scalUn, intBin, opLoad, natOf, opConvert, opField, cellsP, oneP, Value.oneCell', opStore, toIV, scalT, scalA, scalC, boxesA, boxesC, zipB_none, zipB_mx, isZ, opZip, zeroP, opMakeMap, opLookup, mboxB, opUpdate, ↓reduceIte, Nat.reduceSub, Nat.reduceEqDiff, Nat.reduceAdd, Nat.reduceMul, Nat.reduceLT, Nat.reduceLeDiff, Int.reduceToNat, Int.reduceLE, Int.reduceLT, Int.reduceNeg, reduceCtorEq, zzL, if_true, if_false, hne, ep, List.length_map, e2, li, Nat.zero_add, Nat.mul_one, Nat.le_refl, List.drop_zero] <;> rfl)); apply Exists.intro; apply And.intro; (focus (first | exact q3))) | refine ⟨(by show drawK _ _ = true; kernel_rfl : drawX _ _ _), ?_⟩ | exact (by show drawK _ _ = true; kernel_rfl : drawX _ _ _) | simp -dsimp (maxSteps := 20000000) (disch := omega) only [simx, zzC, zzB, tys, ite_self, opnL, callB, readsB, stepOp, ofVal, opBuiltin, opLen, PV.sk, scalBin, scalUn, intBin, opLoad, natOf, opConvert, opField, cellsP, oneP, Value.oneCell', opStore, toIV, scalT, scalA, scalC, boxesA, boxesC, zipB_none, zipB_mx, isZ, opZip, zeroP, opMakeMap, opLookup, mboxB, opUpdate, ↓reduceIte, Nat.reduceSub, Nat.reduceEqDiff, Nat.reduceAdd, Nat.reduceMul, Nat.reduceLT, Nat.reduceLeDiff, Int.reduceToNat, Int.reduceLE, Int.reduceLT, Int.reduceNeg, reduceCtorEq, zzR, gos, Int.reduceAdd, Int.reduceSub, Int.reduceMul, Int.reduceEq, hne, ep, List.length_map, e2, SK.len, r2', beq_self_eq_true])
        · have e4 : ¬ (a2.length : Int) = a0.length := by omega
          refine X_startP (n := 225) (m := 3) (rs := [.tmp 6]) Try.func4 rfl rfl rfl rfl (by decide) fun base => ?_
          repeat (first | ((first | refine X_call_fn2 rfl (by simp only [tys]) ?_ | refine X_dcall_fn2 rfl (by simp only [tys]) ?_); apply Exists.intro; apply And.intro; (focus (simp -dsimp only [simx, zzC, zzB, tys, ite_self, opnL, callB, readsB, stepOp, ofVal, opBuiltin, opLen, PV.sk, scalBin, scalUn, intBin, opLoad, natOf, opConvert, opField, cellsP, oneP, Value.oneCell', opStore, toIV, scalT, scalA, scalC, boxesA, boxesC, zipB_none, zipB_mx, isZ, opZip, zeroP, opMakeMap, opLookup, mboxB, opUpdate, ↓reduceIte, Nat.reduceSub, Nat.reduceEqDiff, Nat.reduceAdd, Nat.reduceMul, Nat.reduceLT, Nat.reduceLeDiff, Int.reduceToNat, Int.reduceLE, Int.reduceLT, Int.reduceNeg, reduceCtorEq, zzL, if_true, if_false] <;> rfl)); apply Exists.intro; apply And.intro; (focus (first | exact aw | exact q1 | exact q2))) | refine ⟨(by show drawK _ _ = true; kernel_rfl : drawX _ _ _), ?_⟩ | exact (by show drawK _ _ = true; kernel_rfl : drawX _ _ _) | simp -dsimp (maxSteps := 20000000) (disch := omega) only [simx, zzC, zzB, tys, ite_self, opnL, callB, readsB, stepOp, ofVal, opBuiltin, opLen, PV.sk, scalBin, scalUn, intBin, opLoad, natOf, opConvert, opField, cellsP, oneP, Value.oneCell', opStore, toIV, scalT, scalA, scalC, boxesA, boxesC, zipB_none, zipB_mx, isZ, opZip, zeroP, opMakeMap, opLookup, mboxB, opUpdate, ↓reduceIte, Nat.reduceSub, Nat.reduceEqDiff, Nat.reduceAdd, Nat.reduceMul, Nat.reduceLT, Nat.reduceLeDiff, Int.reduceToNat, Int.reduceLE, Int.reduceLT, Int.reduceNeg, reduceCtorEq, zzR, gos, Int.reduceAdd, Int.reduceSub, Int.reduceMul, Int.reduceEq, e3, e4])
      · have e3 : ¬ (a0.length : Int) = a1.length := by omega
        refine X_startP (n := 225) (m := 3) (rs := [.tmp 6]) Try.func4 rfl rfl rfl rfl (by decide) fun base => ?_
        repeat (first | ((first | refine X_call_fn2 rfl (by simp only [tys]) ?_ | refine X_dcall_fn2 rfl (by simp only [tys]) ?_); apply Exists.intro; apply And.intro; (focus (simp -dsimp only [simx, zzC, zzB, tys, ite_self, opnL, callB, readsB, stepOp, ofVal, opBuiltin, opLen, PV.sk, scalBin, scalUn, intBin, opLoad, natOf, opConvert, opField, cellsP, oneP, Value.oneCell', opStore, toIV, scalT, scalA, scalC, boxesA, boxesC, zipB_none, zipB_mx, isZ, opZip, zeroP, opMakeMap, opLookup, mboxB, opUpdate, ↓reduceIte, Nat.reduceSub, Nat.reduceEqDiff, Nat.reduceAdd, Nat.reduceMul, Nat.reduceLT, Nat.reduceLeDiff, Int.reduceToNat, Int.reduceLE, Int.reduceLT, Int.reduceNeg, reduceCtorEq, zzL, if_true, if_false] <;> rfl)); apply Exists.intro; apply And.intro; (focus (first | exact aw | exact q1 | exact q2))) | refine ⟨(by show drawK _ _ = true; kernel_rfl : drawX _ _ _), ?_⟩ | exact (by show drawK _ _ = true; kernel_rfl : drawX _ _ _) | simp -dsimp (maxSteps := 20000000) (disch := omega) only [simx, zzC, zzB, tys, ite_self, opnL, callB, readsB, stepOp, ofVal, opBuiltin, opLen, PV.sk, scalBin, scalUn, intBin, opLoad, natOf, opConvert, opField, cellsP, oneP, Value.oneCell', opStore, toIV, scalT, scalA, scalC, boxesA, boxesC, zipB_none, zipB_mx, isZ, opZip, zeroP, opMakeMap, opLookup, mboxB, opUpdate, ↓reduceIte, Nat.reduceSub, Nat.reduceEqDiff, Nat.reduceAdd, Nat.reduceMul, Nat.reduceLT, Nat.reduceLeDiff, Int.reduceToNat, Int.reduceLE, Int.reduceLT, Int.reduceNeg, reduceCtorEq, zzR, gos, Int.reduceAdd, Int.reduceSub, Int.reduceMul, Int.reduceEq, e3])
end Go.Proofs.Ytkhjfphenflefaa.TM
