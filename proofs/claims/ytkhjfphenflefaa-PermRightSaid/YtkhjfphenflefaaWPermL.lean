/- Layer 6's reference: rows. -/
import Derived.Test.YtkhjfphenflefaaWPermK
namespace Go.Proofs.Ytkhjfphenflefaa.TM
open Go Go.RowKit
set_option linter.unusedVariables false
set_option linter.defProp false
set_option linter.unusedSimpArgs false
attribute [local irreducible] K W WOps Effs Xg Xo Xr Xdg Xdo Xdr Xif CallsP CallR

theorem rowsL_next {p : List Int} {c : Nat} {l : List Int} {j : Nat} (h : j < p.length) : rowsL (p.take (j + 1)) c l = rowsL (p.take j) c l ++ (l.drop (p[j].toNat * c)).take c := by
  unfold rowsL
  rw [List.take_succ_eq_append_getElem h, List.flatMap_append]; simp
set_option maxHeartbeats 2000000 in
theorem rrows_walk (p : List Int) (R C : Nat) (l : List Int) (o : Ord p) (hR : p.length = R) (hc1 : 1 ≤ C) (hc2 : C ≤ 64) (hl : l.length = R * C) : CallsP Try.prog 30 [li p, matP R C l] (matP R C (rowsL p C l)) := by
  have o1 := o.le
  have o2 := o.pos
  have hRC : R * C ≤ 64 * 64 := Nat.mul_le_mul (by omega) hc2
  refine X_startP (n := 41) (m := 2) (rs := [.cell 4 43]) Try.func30 rfl rfl rfl rfl (by decide) fun base => ?_
  repeat (first | refine ⟨(by show drawK _ _ = true; kernel_rfl : drawX _ _ _), ?_⟩ | exact (by show drawK _ _ = true; kernel_rfl : drawX _ _ _) | simp -dsimp (maxSteps := 20000000) (disch := omega) only [simx, zzC, zzB, tys, ite_self, opnL, callB, readsB, stepOp, ofVal, opBuiltin, opLen, PV.sk, scalBin, scalUn, intBin, opLoad, natOf, opConvert, opField, cellsP, oneP, Value.oneCell', opStore, toIV, scalT, scalA, scalC, boxesA, boxesC, zipB_none, zipB_mx, isZ, opZip, zeroP, opAppendZ, opMakeMap, opLookup, mboxB, opUpdate, ↓reduceIte, Nat.reduceSub, Nat.reduceEqDiff, Nat.reduceAdd, Nat.reduceMul, Nat.reduceLT, Nat.reduceLeDiff, Int.reduceToNat, Int.reduceLE, Int.reduceLT, Int.reduceNeg, reduceCtorEq, gos, Int.reduceAdd, Int.reduceSub, Int.reduceMul, Int.reduceEq])
  refine X_loopH [0, 3, 4, 5, 6] [] (0) (p.length) (fun j => True) (fun j => [(6, i64 j)]) (fun j => rowH (((Heap.none.put ((0, 0) :: base) (.var [i64 R, i64 C, lu l])).put ((0, 1) :: base) (.var [i64 0, i64 0, .i (.v (.slice none 0 0))])).put ((1, 5) :: base) (.var [i64 R, i64 C, rowP ((5, 20) :: base) 1 (j * C) ((rowsL (p.take j) C l).map iu)])) ((5, 20) :: base) (j * C) ((rowsL (p.take j) C l).map iu)) ?_ ?_ ?_ ?_ ?_ (by decide) ?_
  · exact (fgt_nil)
  · ((simp -dsimp (disch := omega) only [simx, zzB, tys, ite_self, opnL, callB, readsB, stepOp, ofVal, opBuiltin, opLen, PV.sk, scalBin, scalUn, intBin, opLoad, natOf, opConvert, opField, cellsP, oneP, Value.oneCell', opStore, toIV, scalT, scalA, scalC, boxesA, boxesC, zipB_none, zipB_mx, isZ, opZip, zeroP, opAppendZ, opMakeMap, opLookup, mboxB, opUpdate, ↓reduceIte, Nat.reduceSub, Nat.reduceEqDiff, Nat.reduceAdd, Nat.reduceMul, Nat.reduceLT, Nat.reduceLeDiff, Int.reduceToNat, Int.reduceLE, Int.reduceLT, Int.reduceNeg, reduceCtorEq, gos, Int.reduceAdd, Int.reduceSub, Int.reduceMul, Int.reduceEq]) <;> first | rfl | simp [rowP])
  · funext c
    simp (maxSteps := 20000000) only [Heap.drop_at, rowH_app, Heap.put_at, Heap.none_at, List.mem_cons, List.not_mem_nil, or_false]
    by_cases e0 : c = (0, 0) :: base
    · subst e0; simp [rowP, Nat.zero_mul]
    by_cases e1 : c = (0, 1) :: base
    · subst e1; simp [rowP, Nat.zero_mul]
    by_cases e2 : c = (1, 5) :: base
    · subst e2; simp [rowP, Nat.zero_mul]
    by_cases e3 : c = (5, 20) :: base
    · subst e3; simp [rowP, Nat.zero_mul]
    simp [e0, e1, e2, e3, rowP, Nat.zero_mul]
  · omega
  · trivial
  · intro j hj _
    by_cases cj : j < p.length
    · have g1 : p[j]? = some p[j] := List.getElem?_eq_getElem cj
      have nx := rowsL_next (c := C) (l := l) cj
      have hm : ∀ a ∈ p, 0 ≤ a ∧ a < (R : Int) := fun a ha => by have := o.mem a ha; omega
      have rl : (rowsL (p.take j) C l).length = j * C := by
        rw [rowsL_len (R := R) (fun a ha => hm a (List.mem_of_mem_take ha)) hl, List.length_take, Nat.min_eq_left hj]
      obtain ⟨a0, a1⟩ := hm p[j] (List.getElem_mem cj)
      generalize p[j] = a at g1 nx a0 a1
      obtain ⟨A, rfl⟩ := Int.eq_ofNat_of_zero_le a0
      rw [Int.toNat_natCast] at nx
      generalize hG : rowsL (p.take j) C l = G at nx rl
      have hAC : A * C + C ≤ R * C := by
        have := Nat.mul_le_mul_right C (show A + 1 ≤ R by omega)
        rw [Nat.succ_mul] at this; exact this
      have m1 : (A : Int) * (C : Int) = ((A * C : Nat) : Int) := by push_cast; rfl
      have m2 : ((A : Int) + 1) * (C : Int) = ((A * C + C : Nat) : Int) := by push_cast; rw [Int.add_mul, Int.one_mul]
      have jc : (j + 1) * C = j * C + C := Nat.succ_mul j C
      have jC : j * C ≤ 64 * 64 := Nat.mul_le_mul (by omega) hc2
      generalize A * C = AC at nx hAC m1 m2
      have w1 : IntKind.i64.wrap (AC : Int) = AC := iw_of (by omega) (by omega)
      have w2 : IntKind.i64.wrap ((AC + C : Nat) : Int) = ((AC + C : Nat) : Int) := iw_of (by omega) (by omega)
      have s1 : AC + C - AC = C := by omega
      have s2 : AC ≤ AC + C := by omega
      have s3 : AC + C ≤ l.length := by omega
      have xl : (((l.map iu).drop AC).take C).length = C := by rw [List.length_take, List.length_drop, List.length_map]; omega
      have nx' : (rowsL (p.take (j + 1)) C l).map iu = G.map iu ++ ((l.map iu).drop AC).take C := by rw [nx, List.map_append, List.map_take, List.map_drop]
      clear nx
      have rl' : (G.map iu).length = j * C := by rw [List.length_map, rl]
      generalize G.map iu = Z at nx' rl'
      generalize hX : ((l.map iu).drop AC).take C = X at xl nx'
      have hrs : ∀ (s : Name) (z n : Nat) (cs : List IV), n ≠ 0 → rowP s z n cs = .view s 0 z n cs.length := fun s z n cs h => if_neg h
      generalize j * C = n at jc rl' jC
      cases n with
      | zero =>
        have : Z = [] := List.eq_nil_of_length_eq_zero rl'
        subst this
        repeat (first | refine ⟨(by show drawK _ _ = true; kernel_rfl : drawX _ _ _), ?_⟩ | exact (by show drawK _ _ = true; kernel_rfl : drawX _ _ _) | simp -dsimp (maxSteps := 20000000) (disch := omega) only [simx, zzC, zzB, tys, ite_self, opnL, callB, readsB, stepOp, ofVal, opBuiltin, opLen, PV.sk, scalBin, scalUn, intBin, opLoad, natOf, opConvert, opField, cellsP, oneP, Value.oneCell', opStore, toIV, scalT, scalA, scalC, boxesA, boxesC, zipB_none, zipB_mx, isZ, opZip, zeroP, opAppendZ, opMakeMap, opLookup, mboxB, opUpdate, ↓reduceIte, Nat.reduceSub, Nat.reduceEqDiff, Nat.reduceAdd, Nat.reduceMul, Nat.reduceLT, Nat.reduceLeDiff, Int.reduceToNat, Int.reduceLE, Int.reduceLT, Int.reduceNeg, reduceCtorEq, gos, Int.reduceAdd, Int.reduceSub, Int.reduceMul, Int.reduceEq, cj, g1, m1, m2, w1, w2, s1, s2, s3, hX, List.length_map, keysL_row0, keysL_rowS])
        refine X_dappend_list 55 [.int .u64 0] X (by simp only [tys]) (by simp only [tys]) rfl (by decide) (by simp) (by simp [Heap.put_at, Heap.none_at, rowH_app]) hc1 (by simp [xl]) (by simp only [tys]; omega) (by rw [mx_len]; omega) ?_
        obtain ⟨c, rfl⟩ : ∃ c, C = c + 1 := ⟨C - 1, by omega⟩
        rw [Nat.zero_add (c + 1)] at *
        repeat (first | refine ⟨(by show drawK _ _ = true; kernel_rfl : drawX _ _ _), ?_⟩ | exact (by show drawK _ _ = true; kernel_rfl : drawX _ _ _) | simp -dsimp (maxSteps := 20000000) (disch := omega) only [simx, zzC, zzB, tys, ite_self, opnL, callB, readsB, stepOp, ofVal, opBuiltin, opLen, PV.sk, scalBin, scalUn, intBin, opLoad, natOf, opConvert, opField, cellsP, oneP, Value.oneCell', opStore, toIV, scalT, scalA, scalC, boxesA, boxesC, zipB_none, zipB_mx, isZ, opZip, zeroP, opAppendZ, opMakeMap, opLookup, mboxB, opUpdate, ↓reduceIte, Nat.reduceSub, Nat.reduceEqDiff, Nat.reduceAdd, Nat.reduceMul, Nat.reduceLT, Nat.reduceLeDiff, Int.reduceToNat, Int.reduceLE, Int.reduceLT, Int.reduceNeg, reduceCtorEq, gos, Int.reduceAdd, Int.reduceSub, Int.reduceMul, Int.reduceEq, keysL_row0, keysL_rowS, rowP_succ, rowH_succ])
        refine ⟨cj, (fgt_nil), rfl, ?_⟩
        rw [nx', jc]
        funext c
        simp (maxSteps := 20000000) only [Heap.drop_at, rowH_app, Heap.put_at, Heap.none_at, List.mem_cons, List.not_mem_nil, or_false]
        by_cases e0 : c = (0, 0) :: base
        · subst e0; simp [rowP]
        by_cases e1 : c = (0, 1) :: base
        · subst e1; simp [rowP]
        by_cases e2 : c = (1, 5) :: base
        · subst e2; simp [rowP]
        by_cases e3 : c = (5, 20) :: base
        · subst e3; simp [rowP]
        simp [e0, e1, e2, e3, rowP]
      | succ n =>
        repeat (first | refine ⟨(by show drawK _ _ = true; kernel_rfl : drawX _ _ _), ?_⟩ | exact (by show drawK _ _ = true; kernel_rfl : drawX _ _ _) | simp -dsimp (maxSteps := 20000000) (disch := omega) only [simx, zzC, zzB, tys, ite_self, opnL, callB, readsB, stepOp, ofVal, opBuiltin, opLen, PV.sk, scalBin, scalUn, intBin, opLoad, natOf, opConvert, opField, cellsP, oneP, Value.oneCell', opStore, toIV, scalT, scalA, scalC, boxesA, boxesC, zipB_none, zipB_mx, isZ, opZip, zeroP, opAppendZ, opMakeMap, opLookup, mboxB, opUpdate, ↓reduceIte, Nat.reduceSub, Nat.reduceEqDiff, Nat.reduceAdd, Nat.reduceMul, Nat.reduceLT, Nat.reduceLeDiff, Int.reduceToNat, Int.reduceLE, Int.reduceLT, Int.reduceNeg, reduceCtorEq, gos, Int.reduceAdd, Int.reduceSub, Int.reduceMul, Int.reduceEq, cj, g1, m1, m2, w1, w2, s1, s2, s3, hX, List.length_map, keysL_row0, keysL_rowS])
        refine X_dappend_list 55 [.int .u64 0] X (by simp only [tys]) (by simp only [tys]) rfl (by decide) (by simp [rl']) (by simp [Heap.put_at, Heap.none_at, rowH_app]) hc1 (by simp [xl]) (by simp only [tys]; omega) (by rw [mx_len]; omega) ?_
        rw [show n + 1 + C = (n + C) + 1 by omega] at *
        repeat (first | refine ⟨(by show drawK _ _ = true; kernel_rfl : drawX _ _ _), ?_⟩ | exact (by show drawK _ _ = true; kernel_rfl : drawX _ _ _) | simp -dsimp (maxSteps := 20000000) (disch := omega) only [simx, zzC, zzB, tys, ite_self, opnL, callB, readsB, stepOp, ofVal, opBuiltin, opLen, PV.sk, scalBin, scalUn, intBin, opLoad, natOf, opConvert, opField, cellsP, oneP, Value.oneCell', opStore, toIV, scalT, scalA, scalC, boxesA, boxesC, zipB_none, zipB_mx, isZ, opZip, zeroP, opAppendZ, opMakeMap, opLookup, mboxB, opUpdate, ↓reduceIte, Nat.reduceSub, Nat.reduceEqDiff, Nat.reduceAdd, Nat.reduceMul, Nat.reduceLT, Nat.reduceLeDiff, Int.reduceToNat, Int.reduceLE, Int.reduceLT, Int.reduceNeg, reduceCtorEq, gos, Int.reduceAdd, Int.reduceSub, Int.reduceMul, Int.reduceEq, keysL_row0, keysL_rowS, rowP_succ, rowH_succ])
        refine ⟨cj, (fgt_nil), rfl, ?_⟩
        rw [nx', jc]
        funext c
        simp (maxSteps := 20000000) only [Heap.drop_at, rowH_app, Heap.put_at, Heap.none_at, List.mem_cons, List.not_mem_nil, or_false]
        by_cases e0 : c = (0, 0) :: base
        · subst e0; simp [rowP]
        by_cases e1 : c = (0, 1) :: base
        · subst e1; simp [rowP]
        by_cases e2 : c = (1, 5) :: base
        · subst e2; simp [rowP]
        by_cases e3 : c = (5, 20) :: base
        · subst e3; simp [rowP]
        simp [e0, e1, e2, e3, rowP]
    · have hj : j = p.length := by omega
      subst hj
      rw [List.take_length, hR]
      have rl : (rowsL p C l).length = R * C := by rw [rowsL_len (R := R) (fun a ha => by have := o.mem a ha; omega) hl, hR]
      have p0 : 0 < R * C := Nat.mul_pos (by omega) hc1
      generalize rowsL p C l = G at rl
      obtain ⟨n, hn⟩ : ∃ n, R * C = n + 1 := ⟨R * C - 1, by omega⟩
      rw [hn] at rl ⊢
      have e2 : (G.map iu).take (n + 1) = G.map iu := List.take_of_length_le (by rw [List.length_map, rl]; exact Nat.le_refl _)
      rw [matP, lu, rl]
      repeat (first | refine ⟨(by show drawK _ _ = true; kernel_rfl : drawX _ _ _), ?_⟩ | exact (by show drawK _ _ = true; kernel_rfl : drawX _ _ _) | simp -dsimp (maxSteps := 20000000) (disch := omega) only [simx, zzC, zzB, tys, ite_self, opnL, callB, readsB, stepOp, ofVal, opBuiltin, opLen, PV.sk, scalBin, scalUn, intBin, opLoad, natOf, opConvert, opField, cellsP, oneP, Value.oneCell', opStore, toIV, scalT, scalA, scalC, boxesA, boxesC, zipB_none, zipB_mx, isZ, opZip, zeroP, opAppendZ, opMakeMap, opLookup, mboxB, opUpdate, ↓reduceIte, Nat.reduceSub, Nat.reduceEqDiff, Nat.reduceAdd, Nat.reduceMul, Nat.reduceLT, Nat.reduceLeDiff, Int.reduceToNat, Int.reduceLE, Int.reduceLT, Int.reduceNeg, reduceCtorEq, zzR, gos, Int.reduceAdd, Int.reduceSub, Int.reduceMul, Int.reduceEq, hR, rowP_succ, rowH_succ, List.length_map, rl, e2])
end Go.Proofs.Ytkhjfphenflefaa.TM
