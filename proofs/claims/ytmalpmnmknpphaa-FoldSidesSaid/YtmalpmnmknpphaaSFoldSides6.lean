/- What is proved of functions, and plain facts, part 6. Conditions: none. -/
import Derived.Test.YtmalpmnmknpphaaSFoldSides5
set_option linter.defProp false
set_option linter.unusedSectionVars false
set_option linter.unusedSimpArgs false
set_option linter.unusedVariables false
namespace Go.Proofs.Ytmalpmnmknpphaa.TM
open Go Go.RowKit
attribute [local irreducible] K W WOps Effs Xg Xo Xr Xdg Xdo Xdr Xif CallsP CallR
set_option maxHeartbeats 4000000 in
theorem rowA1_walk {h : Heap} {base bT : Name} {P C i r : Nat} {T : Tk} {row : List Int} {L : List PV} (hP : Prm P) (hp : Md P) (I : TkI P C i T) (hrow : ∀ a ∈ row, In P a) (hl : row.length = C) (h0 : 0 < C) (hC : C ≤ 64) (hi : i < 64) (hL : L.length = i) (hr : T.us.length = r + 1)
    (hT : h ((3, 2) :: bT) = some (.var [rowP ((16, 11) :: base) 1 (r + 1) (T.rows.map ii), rowP ((16, 19) :: base) 1 (r + 1) (T.cols.map ii), clmP ((10, 8) :: base) i, rowP ((16, 27) :: base) 1 (r + 1) (T.us.map (lv C)), u64 P, rowP ((16, 34) :: base) 1 (r + 1) (T.vs.map iu)]))
    (hR : h ((16, 11) :: base) = if r + 1 = 0 then none else some (.row false (T.rows.map ii))) (hQ : h ((16, 19) :: base) = if r + 1 = 0 then none else some (.row false (T.cols.map ii))) (hU : h ((16, 27) :: base) = if r + 1 = 0 then none else some (.row false (T.us.map (lv C)))) (hV : h ((16, 34) :: base) = if r + 1 = 0 then none else some (.row false (T.vs.map iu)))
    (hCol : h ((10, 8) :: base) = clmB i L) (hNi : h ((900, i) :: base) = none)
    (j1 : h ((1, 1) :: base) = none) (j2 : h ((8, 2) :: base) = none) (j3 : h ((10, 7) :: base) = none) (j4 : h ((15, 7) :: base) = none) (j5 : h ((16, 10) :: base) = none) (j6 : h ((16, 18) :: base) = none) (j7 : h ((16, 26) :: base) = none) (j8 : h ((16, 33) :: base) = none)
    (nv : ∀ b ∈ [(1, 1) :: base, (8, 2) :: base, (10, 7) :: base, (15, 7) :: base, (16, 10) :: base, (16, 18) :: base, (16, 26) :: base, (16, 33) :: base], noVar b h) :
    ∃ h', CallR Try.prog base 98 [.ref ((3, 2) :: bT) 0 6, i64 i, .i (.l C (row.map iu))] h (bl true) h' ∧ (h'.drop [(1, 1) :: base, (8, 2) :: base, (10, 7) :: base, (15, 7) :: base, (16, 10) :: base, (16, 18) :: base, (16, 26) :: base, (16, 33) :: base] = cupH h base bT P C i L T (tkRow P T i row) (tkRow P T i row).us.length ∧ ∀ b ∈ [(1, 1) :: base, (8, 2) :: base, (10, 7) :: base, (15, 7) :: base, (16, 10) :: base, (16, 18) :: base, (16, 26) :: base, (16, 33) :: base], noVar b h') := by
  have nvL := nv_col hCol hL nv
  have rb : r + 1 ≤ i := by have := I.ri; omega
  have dc := (cloneU_own hl h0 (by omega)).toA
  have rl : (rstT P T row) = elR P T row (r + 1) := by unfold rstT; rw [hr]
  have x0 : xsT P T row = tbl (r + 1) (elX P T row) := by unfold xsT; rw [hr]
  have rn : ((elR P T row (r + 1))).length = C := by rw [elR_len, hl]
  have hix := indexA_walk (l := elR P T row (r + 1)) (by rw [mx_len]; omega)
  rw [lu, rn] at hix
  obtain ⟨te1, te2⟩ := tk_end I row (i : Int) rfl
  rw [rl, x0] at te1 te2
  rw [if_neg (by omega)] at hR hQ hU hV
  generalize hHH : cupH h base bT P C i L T (tkRow P T i row) (tkRow P T i row).us.length = HH
  refine X_startE (n := 151) (m := 3) (rs := [.tmp 6]) Try.func98 rfl rfl rfl rfl (by decide) ?_
  repeat (first | refine X_opc rfl ?_ | refine X_dopc rfl ?_ | refine ⟨(by show drawK _ _ = true; kernel_rfl : drawX _ _ _), ?_⟩ | exact (by show drawK _ _ = true; kernel_rfl : drawX _ _ _) | simp -dsimp (maxSteps := 20000000) (disch := omega) only [simx, zzC, zzB, tys, ite_self, opnL, callB, callX, readsB, stepOp, nilCmp, ofVal, opBuiltin, opLen, PV.sk, scalBin, scalUn, intBin, opLoad, natOf, opConvert, opField, cellsP, oneP, Value.oneCell', opStore, toIV, scalT, scalA, scalC, boxesA, boxesC, zipB_none, zipB_mx, isZ, opZip, zeroP, opAppendZ, opMakeMap, opLookup, mboxB, opUpdate, ↓reduceIte, Nat.reduceSub, Nat.reduceEqDiff, Nat.reduceAdd, Nat.reduceMul, Nat.reduceLT, Nat.reduceLeDiff, Int.reduceToNat, Int.reduceLE, Int.reduceLT, Int.reduceNeg, reduceCtorEq, gos, Int.reduceAdd, Int.reduceSub, Int.reduceMul, Int.reduceEq])
  ((first | refine X_call_ad (dc) rfl (by simp only [tys]) (by (simp -dsimp only [simx, zzC, zzB, tys, ite_self, opnL, callB, callX, readsB, stepOp, nilCmp, ofVal, opBuiltin, opLen, PV.sk, scalBin, scalUn, intBin, opLoad, natOf, opConvert, opField, cellsP, oneP, Value.oneCell', opStore, toIV, scalT, scalA, scalC, boxesA, boxesC, zipB_none, zipB_mx, isZ, opZip, zeroP, opAppendZ, opMakeMap, opLookup, mboxB, opUpdate, ↓reduceIte, Nat.reduceSub, Nat.reduceEqDiff, Nat.reduceAdd, Nat.reduceMul, Nat.reduceLT, Nat.reduceLeDiff, Int.reduceToNat, Int.reduceLE, Int.reduceLT, Int.reduceNeg, reduceCtorEq, zzL, if_true, if_false] <;> rfl)) (by simp [Heap.put_at, Heap.none_at, rowH_app, j1]) ?_ | refine X_dcall_ad (dc) rfl (by simp only [tys]) (by (simp -dsimp only [simx, zzC, zzB, tys, ite_self, opnL, callB, callX, readsB, stepOp, nilCmp, ofVal, opBuiltin, opLen, PV.sk, scalBin, scalUn, intBin, opLoad, natOf, opConvert, opField, cellsP, oneP, Value.oneCell', opStore, toIV, scalT, scalA, scalC, boxesA, boxesC, zipB_none, zipB_mx, isZ, opZip, zeroP, opAppendZ, opMakeMap, opLookup, mboxB, opUpdate, ↓reduceIte, Nat.reduceSub, Nat.reduceEqDiff, Nat.reduceAdd, Nat.reduceMul, Nat.reduceLT, Nat.reduceLeDiff, Int.reduceToNat, Int.reduceLE, Int.reduceLT, Int.reduceNeg, reduceCtorEq, zzL, if_true, if_false] <;> rfl)) (by simp [Heap.put_at, Heap.none_at, rowH_app, j1]) ?_))
  repeat (first | refine X_opc rfl ?_ | refine X_dopc rfl ?_ | refine ⟨(by show drawK _ _ = true; kernel_rfl : drawX _ _ _), ?_⟩ | exact (by show drawK _ _ = true; kernel_rfl : drawX _ _ _) | simp -dsimp (maxSteps := 20000000) (disch := omega) only [simx, zzC, zzB, tys, ite_self, opnL, callB, callX, readsB, stepOp, nilCmp, ofVal, opBuiltin, opLen, PV.sk, scalBin, scalUn, intBin, opLoad, natOf, opConvert, opField, cellsP, oneP, Value.oneCell', opStore, toIV, scalT, scalA, scalC, boxesA, boxesC, zipB_none, zipB_mx, isZ, opZip, zeroP, opAppendZ, opMakeMap, opLookup, mboxB, opUpdate, ↓reduceIte, Nat.reduceSub, Nat.reduceEqDiff, Nat.reduceAdd, Nat.reduceMul, Nat.reduceLT, Nat.reduceLeDiff, Int.reduceToNat, Int.reduceLE, Int.reduceLT, Int.reduceNeg, reduceCtorEq, gos, Int.reduceAdd, Int.reduceSub, Int.reduceMul, Int.reduceEq, hT, rowP_succ, List.length_map, hr])
  refine X_loopH [0, 1, 7, 8, 22, 23, 24] [(8, 2) :: base] (0) (r + 1) (fun j => True) (fun j => [(8, rowP ((900, i) :: base) 1 j ((tbl j (elX P T row)).map iu)), (23, i64 ((r + 1 : Nat) : Int)), (24, i64 j)]) (fun j => rowH (h.put ((1, 1) :: base) (.row false ((elR P T row j).map iu))) ((900, i) :: base) j ((tbl j (elX P T row)).map iu)) ?_ ?_ ?_ ?_ ?_ (by decide) ?_
  · exact fgt_cons j2 (by simp -dsimp only [simx, zzC, zzB, tys, ite_self, opnL, notIn_cons, notIn_nil] <;> simp [refsP]) (noVar_row (nv _ (by simp))) fgt_nil
  · repeat (first | refine X_opc rfl ?_ | refine X_dopc rfl ?_ | refine ⟨(by show drawK _ _ = true; kernel_rfl : drawX _ _ _), ?_⟩ | exact (by show drawK _ _ = true; kernel_rfl : drawX _ _ _) | simp -dsimp (maxSteps := 20000000) (disch := omega) only [simx, zzC, zzB, tys, ite_self, opnL, callB, callX, readsB, stepOp, nilCmp, ofVal, opBuiltin, opLen, PV.sk, scalBin, scalUn, intBin, opLoad, natOf, opConvert, opField, cellsP, oneP, Value.oneCell', opStore, toIV, scalT, scalA, scalC, boxesA, boxesC, zipB_none, zipB_mx, isZ, opZip, zeroP, opAppendZ, opMakeMap, opLookup, mboxB, opUpdate, ↓reduceIte, Nat.reduceSub, Nat.reduceEqDiff, Nat.reduceAdd, Nat.reduceMul, Nat.reduceLT, Nat.reduceLeDiff, Int.reduceToNat, Int.reduceLE, Int.reduceLT, Int.reduceNeg, reduceCtorEq, gos, Int.reduceAdd, Int.reduceSub, Int.reduceMul, Int.reduceEq, rowP_zero])
    exact ⟨rfl, rfl⟩
  · funext c
    rw [Heap.drop_at, rowH_zero]
    split
    · rename_i e
      rw [List.mem_singleton.1 e]
      simp [Heap.put_at, j2]
    · rfl
  · omega
  · trivial
  · intro j hj _
    by_cases cj : j < r + 1
    · have g1 : (T.us.map (lv C))[j]? = some (lv C (T.us.getD j [])) := by rw [List.getElem?_map, List.getD_eq_getElem?_getD, List.getElem?_eq_getElem (by omega)]; rfl
      have g2 : (T.cols.map ii)[j]? = some (ii (T.cols.getD j 0)) := by rw [List.getElem?_map, getD_some I.ql (by omega)]; rfl
      have g3 : (T.vs.map iu)[j]? = some (iu (T.vs.getD j 0)) := by rw [List.getElem?_map, getD_some I.vl (by omega)]; rfl
      obtain ⟨q0, q1⟩ := I.qb (T.cols.getD j 0) (by rw [List.getD_eq_getElem?_getD, List.getElem?_eq_getElem (by have := I.ql; omega)]; exact List.getElem_mem _)
      obtain ⟨q, hq⟩ : ∃ q : Nat, T.cols.getD j 0 = q := ⟨(T.cols.getD j 0).toNat, by omega⟩
      have qC : q < C := by omega
      have el := elR_len P T row j
      rw [hl] at el
      have ei := elR_in hp T hrow j
      have g4 : ((elR P T row j).map iu)[q]? = some (iu ((elR P T row j).getD q 0)) := by rw [List.getElem?_map, getD_some el qC]; rfl
      have m1 := Mul_in hp (getD_of ei (i := q) (by omega)) (getD_of I.vb (i := j) (by have := I.vl; omega))
      have ex : (elR P T row j).getD q 0 * T.vs.getD j 0 % P = elX P T row j := by unfold elX; rw [hq, Int.toNat_natCast]
      rw [ex] at m1
      rw [hq] at g2
      obtain ⟨u1, u2⟩ := I.ul (T.us.getD j []) (by rw [List.getD_eq_getElem?_getD, List.getElem?_eq_getElem (by omega)]; exact List.getElem_mem _)
      have hT' : (rowH (h.put ((1, 1) :: base) (.row false ((elR P T row j).map iu))) ((900, i) :: base) j ((tbl j (elX P T row)).map iu)) ((3, 2) :: bT) = some (.var [rowP ((16, 11) :: base) 1 (r + 1) (T.rows.map ii), rowP ((16, 19) :: base) 1 (r + 1) (T.cols.map ii), clmP ((10, 8) :: base) i, rowP ((16, 27) :: base) 1 (r + 1) (T.us.map (lv C)), u64 P, rowP ((16, 34) :: base) 1 (r + 1) (T.vs.map iu)]) := by simp [rowH_app, Heap.put_at]; exact hT
      have hX' : (rowH (h.put ((1, 1) :: base) (.row false ((elR P T row j).map iu))) ((900, i) :: base) j ((tbl j (elX P T row)).map iu)) ((1, 1) :: base) = some (.row false ((elR P T row j).map iu)) := by simp [rowH_app, Heap.put_at]
      have hN' : (rowH (h.put ((1, 1) :: base) (.row false ((elR P T row j).map iu))) ((900, i) :: base) j ((tbl j (elX P T row)).map iu)) ((900, i) :: base) = if j = 0 then none else some (.row false ((tbl j (elX P T row)).map iu)) := by simp [rowH_app, Heap.put_at, hNi]
      have hw := fun (b0 : Name) => cless_walk (base := b0) hp (elX_in hp T row j) ei u2 el u1 hC hT' hX'
      have nx := elR_succ P T row j
      have tx := tbl_succ j (elX P T row)
      have tl := tbl_len j (elX P T row)
      rw [← nx] at hw
      generalize T.us.getD j [] = U at g1 hw u1
      generalize T.vs.getD j 0 = V at g3 m1 ex
      generalize elX P T row j = x at m1 hw tx
      generalize (elR P T row j).getD q 0 = y at g4 m1
      generalize hR1 : elR P T row (j + 1) = R1 at hw ⊢
      have hne1 : ¬ j = 0 → (0 < j) := by omega
      repeat (first | ((first | refine X_call_fn2 rfl (by simp only [tys]) ?_ | refine X_dcall_fn2 rfl (by simp only [tys]) ?_); apply Exists.intro; apply And.intro; (focus (simp -dsimp only [simx, zzC, zzB, tys, ite_self, opnL, callB, callX, readsB, stepOp, nilCmp, ofVal, opBuiltin, opLen, PV.sk, scalBin, scalUn, intBin, opLoad, natOf, opConvert, opField, cellsP, oneP, Value.oneCell', opStore, toIV, scalT, scalA, scalC, boxesA, boxesC, zipB_none, zipB_mx, isZ, opZip, zeroP, opAppendZ, opMakeMap, opLookup, mboxB, opUpdate, ↓reduceIte, Nat.reduceSub, Nat.reduceEqDiff, Nat.reduceAdd, Nat.reduceMul, Nat.reduceLT, Nat.reduceLeDiff, Int.reduceToNat, Int.reduceLE, Int.reduceLT, Int.reduceNeg, reduceCtorEq, zzL, if_true, if_false] <;> rfl)); apply Exists.intro; apply And.intro; (focus (first | exact m1))) | refine ⟨(by show drawK _ _ = true; kernel_rfl : drawX _ _ _), ?_⟩ | exact (by show drawK _ _ = true; kernel_rfl : drawX _ _ _) | simp -dsimp (maxSteps := 20000000) (disch := omega) only [simx, zzC, zzB, tys, ite_self, opnL, callB, callX, readsB, stepOp, nilCmp, ofVal, opBuiltin, opLen, PV.sk, scalBin, scalUn, intBin, opLoad, natOf, opConvert, opField, cellsP, oneP, Value.oneCell', opStore, toIV, scalT, scalA, scalC, boxesA, boxesC, zipB_none, zipB_mx, isZ, opZip, zeroP, opAppendZ, opMakeMap, opLookup, mboxB, opUpdate, ↓reduceIte, Nat.reduceSub, Nat.reduceEqDiff, Nat.reduceAdd, Nat.reduceMul, Nat.reduceLT, Nat.reduceLeDiff, Int.reduceToNat, Int.reduceLE, Int.reduceLT, Int.reduceNeg, reduceCtorEq, gos, Int.reduceAdd, Int.reduceSub, Int.reduceMul, Int.reduceEq, hT, hR, hQ, hU, hV, rowP_succ, cj, g1, g2, g3, g4, qC, List.length_map, hr, I.ql, I.vl, I.rl, el])
      refine X_call_sh rfl (by simp only [tys]) rfl (hw _) ?_
      repeat (first | refine ⟨(by show drawK _ _ = true; kernel_rfl : drawX _ _ _), ?_⟩ | exact (by show drawK _ _ = true; kernel_rfl : drawX _ _ _) | simp -dsimp (maxSteps := 20000000) (disch := omega) only [simx, zzC, zzB, tys, ite_self, opnL, callB, callX, readsB, stepOp, nilCmp, ofVal, opBuiltin, opLen, PV.sk, scalBin, scalUn, intBin, opLoad, natOf, opConvert, opField, cellsP, oneP, Value.oneCell', opStore, toIV, scalT, scalA, scalC, boxesA, boxesC, zipB_none, zipB_mx, isZ, opZip, zeroP, opAppendZ, opMakeMap, opLookup, mboxB, opUpdate, ↓reduceIte, Nat.reduceSub, Nat.reduceEqDiff, Nat.reduceAdd, Nat.reduceMul, Nat.reduceLT, Nat.reduceLeDiff, Int.reduceToNat, Int.reduceLE, Int.reduceLT, Int.reduceNeg, reduceCtorEq, gos, Int.reduceAdd, Int.reduceSub, Int.reduceMul, Int.reduceEq])
      refine X_opc rfl ?_
      repeat (first | refine ⟨(by show drawK _ _ = true; kernel_rfl : drawX _ _ _), ?_⟩ | exact (by show drawK _ _ = true; kernel_rfl : drawX _ _ _) | simp -dsimp (maxSteps := 20000000) (disch := omega) only [simx, zzC, zzB, tys, ite_self, opnL, callB, callX, readsB, stepOp, nilCmp, ofVal, opBuiltin, opLen, PV.sk, scalBin, scalUn, intBin, opLoad, natOf, opConvert, opField, cellsP, oneP, Value.oneCell', opStore, toIV, scalT, scalA, scalC, boxesA, boxesC, zipB_none, zipB_mx, isZ, opZip, zeroP, opAppendZ, opMakeMap, opLookup, mboxB, opUpdate, ↓reduceIte, Nat.reduceSub, Nat.reduceEqDiff, Nat.reduceAdd, Nat.reduceMul, Nat.reduceLT, Nat.reduceLeDiff, Int.reduceToNat, Int.reduceLE, Int.reduceLT, Int.reduceNeg, reduceCtorEq, gos, Int.reduceAdd, Int.reduceSub, Int.reduceMul, Int.reduceEq, j2])
      refine X_opn ((900, i) :: base) rfl ?_
      repeat (first | refine ⟨(by show drawK _ _ = true; kernel_rfl : drawX _ _ _), ?_⟩ | exact (by show drawK _ _ = true; kernel_rfl : drawX _ _ _) | simp -dsimp (maxSteps := 20000000) (disch := omega) only [simx, zzC, zzB, tys, ite_self, opnL, callB, callX, readsB, stepOp, nilCmp, ofVal, opBuiltin, opLen, PV.sk, scalBin, scalUn, intBin, opLoad, natOf, opConvert, opField, cellsP, oneP, Value.oneCell', opStore, toIV, scalT, scalA, scalC, boxesA, boxesC, zipB_none, zipB_mx, isZ, opZip, zeroP, opAppendZ, opMakeMap, opLookup, mboxB, opUpdate, ↓reduceIte, Nat.reduceSub, Nat.reduceEqDiff, Nat.reduceAdd, Nat.reduceMul, Nat.reduceLT, Nat.reduceLeDiff, Int.reduceToNat, Int.reduceLE, Int.reduceLT, Int.reduceNeg, reduceCtorEq, gos, Int.reduceAdd, Int.reduceSub, Int.reduceMul, Int.reduceEq])
      refine X_append_one (s := (900, i) :: base) (n := j) (z := 1) (cs := (tbl j (elX P T row)).map iu) 22 [.int .u64 0] [iu x] (by simp only [tys]) (by simp only [tys]) rfl (by decide) (by simp [tl]) (by simp [rowH_app, Heap.put_at, hNi]) (by simp [Heap.put_at]; rfl) rfl (by simp only [tys]; omega) (by rw [mx_len]; omega) ?_
      repeat (first | refine ⟨(by show drawK _ _ = true; kernel_rfl : drawX _ _ _), ?_⟩ | exact (by show drawK _ _ = true; kernel_rfl : drawX _ _ _) | simp -dsimp (maxSteps := 20000000) (disch := omega) only [simx, zzC, zzB, tys, ite_self, opnL, callB, callX, readsB, stepOp, nilCmp, ofVal, opBuiltin, opLen, PV.sk, scalBin, scalUn, intBin, opLoad, natOf, opConvert, opField, cellsP, oneP, Value.oneCell', opStore, toIV, scalT, scalA, scalC, boxesA, boxesC, zipB_none, zipB_mx, isZ, opZip, zeroP, opAppendZ, opMakeMap, opLookup, mboxB, opUpdate, ↓reduceIte, Nat.reduceSub, Nat.reduceEqDiff, Nat.reduceAdd, Nat.reduceMul, Nat.reduceLT, Nat.reduceLeDiff, Int.reduceToNat, Int.reduceLE, Int.reduceLT, Int.reduceNeg, reduceCtorEq, gos, Int.reduceAdd, Int.reduceSub, Int.reduceMul, Int.reduceEq])
      refine ⟨cj, fgt_cons j2 (by simp -dsimp only [simx, zzC, zzB, tys, ite_self, opnL, notIn_cons, notIn_nil] <;> simp [refsP, mem_refs_rowP]) (noVar_row (noVar_row (noVar_row (noVar_rowH (noVar_row (nv _ (by simp))))))) fgt_nil, ?_, ?_⟩
      · rw [tx, List.map_append]; exact ⟨rfl, rfl⟩
      · rw [tx, List.map_append, rowH_succ]
        funext c
        simp (maxSteps := 20000000) only [Heap.drop_at, rowH_app, Heap.put_at, Heap.none_at, List.mem_cons, List.not_mem_nil, or_false]
        by_cases e0 : c = (3, 2) :: bT
        · subst e0; simp [j2, hR1]
        by_cases e1 : c = (1, 1) :: base
        · subst e1; simp [j2, hR1]
        by_cases e2 : c = (8, 2) :: base
        · subst e2; simp [j2, hR1]
        by_cases e3 : c = (900, i) :: base
        · subst e3; simp [j2, hR1]
        simp [e0, e1, e2, e3, j2, hR1]
    · have ej : j = r + 1 := by omega
      subst ej
      have tl := tbl_len (r + 1) (elX P T row)
      have ri := elR_in hp T hrow (r + 1)
      generalize elR P T row (r + 1) = RR at *
      generalize tbl (r + 1) (elX P T row) = XX at *
      rw [rowP_succ, rowH_succ, List.length_map, tl]
      repeat (first | refine ⟨(by show drawK _ _ = true; kernel_rfl : drawX _ _ _), ?_⟩ | exact (by show drawK _ _ = true; kernel_rfl : drawX _ _ _) | simp -dsimp (maxSteps := 20000000) (disch := omega) only [simx, zzC, zzB, tys, ite_self, opnL, callB, callX, readsB, stepOp, nilCmp, ofVal, opBuiltin, opLen, PV.sk, scalBin, scalUn, intBin, opLoad, natOf, opConvert, opField, cellsP, oneP, Value.oneCell', opStore, toIV, scalT, scalA, scalC, boxesA, boxesC, zipB_none, zipB_mx, isZ, opZip, zeroP, opAppendZ, opMakeMap, opLookup, mboxB, opUpdate, ↓reduceIte, Nat.reduceSub, Nat.reduceEqDiff, Nat.reduceAdd, Nat.reduceMul, Nat.reduceLT, Nat.reduceLeDiff, Int.reduceToNat, Int.reduceLE, Int.reduceLT, Int.reduceNeg, reduceCtorEq, gos, Int.reduceAdd, Int.reduceSub, Int.reduceMul, Int.reduceEq, hT])
      refine X_opa ((10, 7) :: base) rfl ?_
      repeat (first | refine ⟨(by show drawK _ _ = true; kernel_rfl : drawX _ _ _), ?_⟩ | exact (by show drawK _ _ = true; kernel_rfl : drawX _ _ _) | simp -dsimp (maxSteps := 20000000) (disch := omega) only [simx, zzC, zzB, tys, ite_self, opnL, callB, callX, readsB, stepOp, nilCmp, ofVal, opBuiltin, opLen, PV.sk, scalBin, scalUn, intBin, opLoad, natOf, opConvert, opField, cellsP, oneP, Value.oneCell', opStore, toIV, scalT, scalA, scalC, boxesA, boxesC, zipB_none, zipB_mx, isZ, opZip, zeroP, opAppendZ, opMakeMap, opLookup, mboxB, opUpdate, ↓reduceIte, Nat.reduceSub, Nat.reduceEqDiff, Nat.reduceAdd, Nat.reduceMul, Nat.reduceLT, Nat.reduceLeDiff, Int.reduceToNat, Int.reduceLE, Int.reduceLT, Int.reduceNeg, reduceCtorEq, gos, Int.reduceAdd, Int.reduceSub, Int.reduceMul, Int.reduceEq, stepAlt, opBuildSliceV, j3])
      refine X_opa ((10, 8) :: base) rfl ?_
      repeat (first | refine ⟨(by show drawK _ _ = true; kernel_rfl : drawX _ _ _), ?_⟩ | exact (by show drawK _ _ = true; kernel_rfl : drawX _ _ _) | simp -dsimp (maxSteps := 20000000) (disch := omega) only [simx, zzC, zzB, tys, ite_self, opnL, callB, callX, readsB, stepOp, nilCmp, ofVal, opBuiltin, opLen, PV.sk, scalBin, scalUn, intBin, opLoad, natOf, opConvert, opField, cellsP, oneP, Value.oneCell', opStore, toIV, scalT, scalA, scalC, boxesA, boxesC, zipB_none, zipB_mx, isZ, opZip, zeroP, opAppendZ, opMakeMap, opLookup, mboxB, opUpdate, ↓reduceIte, Nat.reduceSub, Nat.reduceEqDiff, Nat.reduceAdd, Nat.reduceMul, Nat.reduceLT, Nat.reduceLeDiff, Int.reduceToNat, Int.reduceLE, Int.reduceLT, Int.reduceNeg, reduceCtorEq, gos, Int.reduceAdd, Int.reduceSub, Int.reduceMul, Int.reduceEq, stepAlt])
      refine X_appendV 23 [.slice none 0 0] (by simp only [tys]) (by simp only [tys]) rfl hL (by simp [Heap.put_at]; exact hCol) (by simp [Heap.put_at]; rfl) (by simp only [tys]; omega) (by rw [mx_len]; omega) (fun _ => rfl) ?_
      have hp1 := clmP_succ ((10, 8) :: base) i
      have nt : (RR.map iu).take C = RR.map iu := List.take_of_length_le (by simp [rn])
      rcases nzA_spec RR 0 with ⟨z1, z2⟩ | ⟨n, z1, z2, z3, z4⟩
      · rw [z1] at hix
        have te := te1 (by rw [z1]; decide)
        obtain ⟨t1, t2, t3, t4⟩ := tk_no (p := P) (T := T) (row := row) (x := i) (by rw [rl, z1]; decide)
        unfold cupH at hHH
        rw [te, t1, t2, t3, t4, hr, tl] at hHH
        have z0 : (-1 : Int) < 0 := by decide
        repeat (first | ((first | refine X_call_fn2 rfl (by simp only [tys]) ?_ | refine X_dcall_fn2 rfl (by simp only [tys]) ?_); apply Exists.intro; apply And.intro; (focus (simp -dsimp only [simx, zzC, zzB, tys, ite_self, opnL, callB, callX, readsB, stepOp, nilCmp, ofVal, opBuiltin, opLen, PV.sk, scalBin, scalUn, intBin, opLoad, natOf, opConvert, opField, cellsP, oneP, Value.oneCell', opStore, toIV, scalT, scalA, scalC, boxesA, boxesC, zipB_none, zipB_mx, isZ, opZip, zeroP, opAppendZ, opMakeMap, opLookup, mboxB, opUpdate, ↓reduceIte, Nat.reduceSub, Nat.reduceEqDiff, Nat.reduceAdd, Nat.reduceMul, Nat.reduceLT, Nat.reduceLeDiff, Int.reduceToNat, Int.reduceLE, Int.reduceLT, Int.reduceNeg, reduceCtorEq, zzL, if_true, if_false, List.length_map, rn, nt] <;> rfl)); apply Exists.intro; apply And.intro; (focus (first | exact hix))) | refine X_opc rfl ?_ | refine X_dopc rfl ?_ | refine ⟨(by show drawK _ _ = true; kernel_rfl : drawX _ _ _), ?_⟩ | exact (by show drawK _ _ = true; kernel_rfl : drawX _ _ _) | simp -dsimp (maxSteps := 20000000) (disch := omega) only [simx, zzC, zzB, tys, ite_self, opnL, callB, callX, readsB, stepOp, nilCmp, ofVal, opBuiltin, opLen, PV.sk, scalBin, scalUn, intBin, opLoad, natOf, opConvert, opField, cellsP, oneP, Value.oneCell', opStore, toIV, scalT, scalA, scalC, boxesA, boxesC, zipB_none, zipB_mx, isZ, opZip, zeroP, opAppendZ, opMakeMap, opLookup, mboxB, opUpdate, ↓reduceIte, Nat.reduceSub, Nat.reduceEqDiff, Nat.reduceAdd, Nat.reduceMul, Nat.reduceLT, Nat.reduceLeDiff, Int.reduceToNat, Int.reduceLE, Int.reduceLT, Int.reduceNeg, reduceCtorEq, zzR, gos, Int.reduceAdd, Int.reduceSub, Int.reduceMul, Int.reduceEq, hT, hp1, z0, List.length_map, rn, nt])
        rw [← hHH]
        refine ⟨?_, fun b hb => ?_⟩
        · funext c
          simp (maxSteps := 20000000) only [Heap.drop_at, rowH_app, Heap.put_at, Heap.none_at, List.mem_cons, List.not_mem_nil, or_false]
          by_cases e0 : c = (3, 2) :: bT
          · subst e0; simp [j1, j2, j3, j4, j5, j6, j7, j8, rowP_zero, rowP_succ, hR, hQ, hU, hV, hNi, clmP_succ, tl]
          by_cases e1 : c = (10, 8) :: base
          · subst e1; simp [j1, j2, j3, j4, j5, j6, j7, j8, rowP_zero, rowP_succ, hR, hQ, hU, hV, hNi, clmP_succ, tl]
          by_cases e2 : c = (1, 1) :: base
          · subst e2; simp [j1, j2, j3, j4, j5, j6, j7, j8, rowP_zero, rowP_succ, hR, hQ, hU, hV, hNi, clmP_succ, tl]
          by_cases e3 : c = (8, 2) :: base
          · subst e3; simp [j1, j2, j3, j4, j5, j6, j7, j8, rowP_zero, rowP_succ, hR, hQ, hU, hV, hNi, clmP_succ, tl]
          by_cases e4 : c = (10, 7) :: base
          · subst e4; simp [j1, j2, j3, j4, j5, j6, j7, j8, rowP_zero, rowP_succ, hR, hQ, hU, hV, hNi, clmP_succ, tl]
          by_cases e5 : c = (15, 7) :: base
          · subst e5; simp [j1, j2, j3, j4, j5, j6, j7, j8, rowP_zero, rowP_succ, hR, hQ, hU, hV, hNi, clmP_succ, tl]
          by_cases e6 : c = (16, 10) :: base
          · subst e6; simp [j1, j2, j3, j4, j5, j6, j7, j8, rowP_zero, rowP_succ, hR, hQ, hU, hV, hNi, clmP_succ, tl]
          by_cases e7 : c = (16, 18) :: base
          · subst e7; simp [j1, j2, j3, j4, j5, j6, j7, j8, rowP_zero, rowP_succ, hR, hQ, hU, hV, hNi, clmP_succ, tl]
          by_cases e8 : c = (16, 26) :: base
          · subst e8; simp [j1, j2, j3, j4, j5, j6, j7, j8, rowP_zero, rowP_succ, hR, hQ, hU, hV, hNi, clmP_succ, tl]
          by_cases e9 : c = (16, 33) :: base
          · subst e9; simp [j1, j2, j3, j4, j5, j6, j7, j8, rowP_zero, rowP_succ, hR, hQ, hU, hV, hNi, clmP_succ, tl]
          by_cases e10 : c = (16, 11) :: base
          · subst e10; simp [j1, j2, j3, j4, j5, j6, j7, j8, rowP_zero, rowP_succ, hR, hQ, hU, hV, hNi, clmP_succ, tl]
          by_cases e11 : c = (16, 19) :: base
          · subst e11; simp [j1, j2, j3, j4, j5, j6, j7, j8, rowP_zero, rowP_succ, hR, hQ, hU, hV, hNi, clmP_succ, tl]
          by_cases e12 : c = (16, 27) :: base
          · subst e12; simp [j1, j2, j3, j4, j5, j6, j7, j8, rowP_zero, rowP_succ, hR, hQ, hU, hV, hNi, clmP_succ, tl]
          by_cases e13 : c = (16, 34) :: base
          · subst e13; simp [j1, j2, j3, j4, j5, j6, j7, j8, rowP_zero, rowP_succ, hR, hQ, hU, hV, hNi, clmP_succ, tl]
          by_cases e14 : c = (900, i) :: base
          · subst e14; simp [j1, j2, j3, j4, j5, j6, j7, j8, rowP_zero, rowP_succ, hR, hQ, hU, hV, hNi, clmP_succ, tl]
          simp [e0, e1, e2, e3, e4, e5, e6, e7, e8, e9, e10, e11, e12, e13, e14, j1, j2, j3, j4, j5, j6, j7, j8, rowP_zero, rowP_succ, hR, hQ, hU, hV, hNi, clmP_succ, tl]
        · have n0 := nv b hb
          have n1 := nvL b hb
          clear nv nvL
          simp only [List.mem_cons, List.not_mem_nil, or_false] at hb
          rcases hb with rfl | rfl | rfl | rfl | rfl | rfl | rfl | rfl
          all_goals (repeat (first | exact n0 | refine noVar_row ?_ | refine noVar_var ?_ (by simp [refsL, refsP, refsL_append, mem_refs_rowP, mem_refs_clmP, n1])))
      · have zn : (0 + n : Nat) = n := by omega
        rw [z1, zn] at hix
        have te := te2 (by rw [z1]; omega)
        obtain ⟨t1, t2, t3, t4⟩ := tk_yes (p := P) (T := T) (row := row) (x := i) (by rw [rl, z1]; omega)
        unfold cupH at hHH
        rw [te, t1, t2, t3, t4, rl, z1, zn, show (T.us ++ [RR]).length = r + 1 + 1 by simp [hr], show (XX ++ [(1 : Int)]).length = r + 1 + 1 by simp [tl], Int.toNat_natCast] at hHH
        have ln : (RR.map iu)[n]? = some (iu (RR.getD n 0)) := by rw [List.getElem?_map, getD_some rn (by omega)]; rfl
        have ii1 := Inv_in hP hp (getD_of ri (i := n) z2) z3
        generalize RR.getD n 0 = a at ln ii1 hHH
        have z0 : ¬ (n : Int) < 0 := by omega
        have nC : n < C := by omega
        have ilt : i < i + 1 := Nat.lt_succ_self i
        have ile : i + 1 ≤ i + 1 := Nat.le_refl _
        have lt : ∀ x : PV, (L ++ [x]).take i = L := fun x => List.take_left' hL
        have ld : ∀ x : PV, (L ++ [x]).drop (i + 1) = [] := fun x => List.drop_eq_nil_of_le (by simp [hL])
        repeat (first | ((first | refine X_call_fn2 rfl (by simp only [tys]) ?_ | refine X_dcall_fn2 rfl (by simp only [tys]) ?_); apply Exists.intro; apply And.intro; (focus (simp -dsimp only [simx, zzC, zzB, tys, ite_self, opnL, callB, callX, readsB, stepOp, nilCmp, ofVal, opBuiltin, opLen, PV.sk, scalBin, scalUn, intBin, opLoad, natOf, opConvert, opField, cellsP, oneP, Value.oneCell', opStore, toIV, scalT, scalA, scalC, boxesA, boxesC, zipB_none, zipB_mx, isZ, opZip, zeroP, opAppendZ, opMakeMap, opLookup, mboxB, opUpdate, ↓reduceIte, Nat.reduceSub, Nat.reduceEqDiff, Nat.reduceAdd, Nat.reduceMul, Nat.reduceLT, Nat.reduceLeDiff, Int.reduceToNat, Int.reduceLE, Int.reduceLT, Int.reduceNeg, reduceCtorEq, zzL, if_true, if_false, List.length_map, rn, nt] <;> rfl)); apply Exists.intro; apply And.intro; (focus (first | exact hix | exact ii1))) | refine ⟨(by show drawK _ _ = true; kernel_rfl : drawX _ _ _), ?_⟩ | exact (by show drawK _ _ = true; kernel_rfl : drawX _ _ _) | simp -dsimp (maxSteps := 20000000) (disch := omega) only [simx, zzC, zzB, tys, ite_self, opnL, callB, callX, readsB, stepOp, nilCmp, ofVal, opBuiltin, opLen, PV.sk, scalBin, scalUn, intBin, opLoad, natOf, opConvert, opField, cellsP, oneP, Value.oneCell', opStore, toIV, scalT, scalA, scalC, boxesA, boxesC, zipB_none, zipB_mx, isZ, opZip, zeroP, opAppendZ, opMakeMap, opLookup, mboxB, opUpdate, ↓reduceIte, Nat.reduceSub, Nat.reduceEqDiff, Nat.reduceAdd, Nat.reduceMul, Nat.reduceLT, Nat.reduceLeDiff, Int.reduceToNat, Int.reduceLE, Int.reduceLT, Int.reduceNeg, reduceCtorEq, gos, Int.reduceAdd, Int.reduceSub, Int.reduceMul, Int.reduceEq, hT, hp1, z0, List.length_map, rn, nt, ln, nC])
        refine X_dopc rfl ?_
        repeat (first | refine ⟨(by show drawK _ _ = true; kernel_rfl : drawX _ _ _), ?_⟩ | exact (by show drawK _ _ = true; kernel_rfl : drawX _ _ _) | simp -dsimp (maxSteps := 20000000) (disch := omega) only [simx, zzC, zzB, tys, ite_self, opnL, callB, callX, readsB, stepOp, nilCmp, ofVal, opBuiltin, opLen, PV.sk, scalBin, scalUn, intBin, opLoad, natOf, opConvert, opField, cellsP, oneP, Value.oneCell', opStore, toIV, scalT, scalA, scalC, boxesA, boxesC, zipB_none, zipB_mx, isZ, opZip, zeroP, opAppendZ, opMakeMap, opLookup, mboxB, opUpdate, ↓reduceIte, Nat.reduceSub, Nat.reduceEqDiff, Nat.reduceAdd, Nat.reduceMul, Nat.reduceLT, Nat.reduceLeDiff, Int.reduceToNat, Int.reduceLE, Int.reduceLT, Int.reduceNeg, reduceCtorEq, gos, Int.reduceAdd, Int.reduceSub, Int.reduceMul, Int.reduceEq, j4])
        refine X_dopn ((900, i) :: base) rfl ?_
        repeat (first | refine ⟨(by show drawK _ _ = true; kernel_rfl : drawX _ _ _), ?_⟩ | exact (by show drawK _ _ = true; kernel_rfl : drawX _ _ _) | simp -dsimp (maxSteps := 20000000) (disch := omega) only [simx, zzC, zzB, tys, ite_self, opnL, callB, callX, readsB, stepOp, nilCmp, ofVal, opBuiltin, opLen, PV.sk, scalBin, scalUn, intBin, opLoad, natOf, opConvert, opField, cellsP, oneP, Value.oneCell', opStore, toIV, scalT, scalA, scalC, boxesA, boxesC, zipB_none, zipB_mx, isZ, opZip, zeroP, opAppendZ, opMakeMap, opLookup, mboxB, opUpdate, ↓reduceIte, Nat.reduceSub, Nat.reduceEqDiff, Nat.reduceAdd, Nat.reduceMul, Nat.reduceLT, Nat.reduceLeDiff, Int.reduceToNat, Int.reduceLE, Int.reduceLT, Int.reduceNeg, reduceCtorEq, gos, Int.reduceAdd, Int.reduceSub, Int.reduceMul, Int.reduceEq])
        refine X_dappend_own (z := 1) (cs := XX.map iu) 22 [.int .u64 0] [iu 1] (by simp only [tys]) (by simp only [tys]) rfl (by decide) (by simp [Heap.put_at]) (by simp [tl]) (by simp [tl]) (by simp [Heap.put_at]; rfl) rfl (by simp only [tys]; omega) (by rw [mx_len]; omega) ?_
        repeat (first | refine ⟨(by show drawK _ _ = true; kernel_rfl : drawX _ _ _), ?_⟩ | exact (by show drawK _ _ = true; kernel_rfl : drawX _ _ _) | simp -dsimp (maxSteps := 20000000) (disch := omega) only [simx, zzC, zzB, tys, ite_self, opnL, callB, callX, readsB, stepOp, nilCmp, ofVal, opBuiltin, opLen, PV.sk, scalBin, scalUn, intBin, opLoad, natOf, opConvert, opField, cellsP, oneP, Value.oneCell', opStore, toIV, scalT, scalA, scalC, boxesA, boxesC, zipB_none, zipB_mx, isZ, opZip, zeroP, opAppendZ, opMakeMap, opLookup, mboxB, opUpdate, ↓reduceIte, Nat.reduceSub, Nat.reduceEqDiff, Nat.reduceAdd, Nat.reduceMul, Nat.reduceLT, Nat.reduceLeDiff, Int.reduceToNat, Int.reduceLE, Int.reduceLT, Int.reduceNeg, reduceCtorEq, gos, Int.reduceAdd, Int.reduceSub, Int.reduceMul, Int.reduceEq, List.length_append, hL, lt, ld, ilt, ile, rowP_succ, List.length_map, hr, I.ql, I.vl, I.rl])
        refine X_dopc rfl ?_
        repeat (first | refine ⟨(by show drawK _ _ = true; kernel_rfl : drawX _ _ _), ?_⟩ | exact (by show drawK _ _ = true; kernel_rfl : drawX _ _ _) | simp -dsimp (maxSteps := 20000000) (disch := omega) only [simx, zzC, zzB, tys, ite_self, opnL, callB, callX, readsB, stepOp, nilCmp, ofVal, opBuiltin, opLen, PV.sk, scalBin, scalUn, intBin, opLoad, natOf, opConvert, opField, cellsP, oneP, Value.oneCell', opStore, toIV, scalT, scalA, scalC, boxesA, boxesC, zipB_none, zipB_mx, isZ, opZip, zeroP, opAppendZ, opMakeMap, opLookup, mboxB, opUpdate, ↓reduceIte, Nat.reduceSub, Nat.reduceEqDiff, Nat.reduceAdd, Nat.reduceMul, Nat.reduceLT, Nat.reduceLeDiff, Int.reduceToNat, Int.reduceLE, Int.reduceLT, Int.reduceNeg, reduceCtorEq, gos, Int.reduceAdd, Int.reduceSub, Int.reduceMul, Int.reduceEq, j5, List.length_map, rn, nt])
        refine X_dopc rfl ?_
        repeat (first | refine ⟨(by show drawK _ _ = true; kernel_rfl : drawX _ _ _), ?_⟩ | exact (by show drawK _ _ = true; kernel_rfl : drawX _ _ _) | simp -dsimp (maxSteps := 20000000) (disch := omega) only [simx, zzC, zzB, tys, ite_self, opnL, callB, callX, readsB, stepOp, nilCmp, ofVal, opBuiltin, opLen, PV.sk, scalBin, scalUn, intBin, opLoad, natOf, opConvert, opField, cellsP, oneP, Value.oneCell', opStore, toIV, scalT, scalA, scalC, boxesA, boxesC, zipB_none, zipB_mx, isZ, opZip, zeroP, opAppendZ, opMakeMap, opLookup, mboxB, opUpdate, ↓reduceIte, Nat.reduceSub, Nat.reduceEqDiff, Nat.reduceAdd, Nat.reduceMul, Nat.reduceLT, Nat.reduceLeDiff, Int.reduceToNat, Int.reduceLE, Int.reduceLT, Int.reduceNeg, reduceCtorEq, gos, Int.reduceAdd, Int.reduceSub, Int.reduceMul, Int.reduceEq])
        refine X_dappend_own (z := 1) (cs := T.rows.map ii) 3 [.int .i64 0] [ii i] (by simp only [tys]) (by simp only [tys]) rfl (by decide) (by simp [Heap.put_at]; exact hR) (by simp [hr, I.ql, I.vl, I.rl]) (by simp [hr, I.ql, I.vl, I.rl]) (by simp [Heap.put_at]; rfl) rfl (by simp only [tys]; omega) (by rw [mx_len]; omega) ?_
        repeat (first | refine ⟨(by show drawK _ _ = true; kernel_rfl : drawX _ _ _), ?_⟩ | exact (by show drawK _ _ = true; kernel_rfl : drawX _ _ _) | simp -dsimp (maxSteps := 20000000) (disch := omega) only [simx, zzC, zzB, tys, ite_self, opnL, callB, callX, readsB, stepOp, nilCmp, ofVal, opBuiltin, opLen, PV.sk, scalBin, scalUn, intBin, opLoad, natOf, opConvert, opField, cellsP, oneP, Value.oneCell', opStore, toIV, scalT, scalA, scalC, boxesA, boxesC, zipB_none, zipB_mx, isZ, opZip, zeroP, opAppendZ, opMakeMap, opLookup, mboxB, opUpdate, ↓reduceIte, Nat.reduceSub, Nat.reduceEqDiff, Nat.reduceAdd, Nat.reduceMul, Nat.reduceLT, Nat.reduceLeDiff, Int.reduceToNat, Int.reduceLE, Int.reduceLT, Int.reduceNeg, reduceCtorEq, gos, Int.reduceAdd, Int.reduceSub, Int.reduceMul, Int.reduceEq, hT, rowP_succ, List.length_map, hr, I.ql, I.vl, I.rl])
        refine X_dopc rfl ?_
        repeat (first | refine ⟨(by show drawK _ _ = true; kernel_rfl : drawX _ _ _), ?_⟩ | exact (by show drawK _ _ = true; kernel_rfl : drawX _ _ _) | simp -dsimp (maxSteps := 20000000) (disch := omega) only [simx, zzC, zzB, tys, ite_self, opnL, callB, callX, readsB, stepOp, nilCmp, ofVal, opBuiltin, opLen, PV.sk, scalBin, scalUn, intBin, opLoad, natOf, opConvert, opField, cellsP, oneP, Value.oneCell', opStore, toIV, scalT, scalA, scalC, boxesA, boxesC, zipB_none, zipB_mx, isZ, opZip, zeroP, opAppendZ, opMakeMap, opLookup, mboxB, opUpdate, ↓reduceIte, Nat.reduceSub, Nat.reduceEqDiff, Nat.reduceAdd, Nat.reduceMul, Nat.reduceLT, Nat.reduceLeDiff, Int.reduceToNat, Int.reduceLE, Int.reduceLT, Int.reduceNeg, reduceCtorEq, gos, Int.reduceAdd, Int.reduceSub, Int.reduceMul, Int.reduceEq, j6, List.length_map, rn, nt])
        refine X_dopc rfl ?_
        repeat (first | refine ⟨(by show drawK _ _ = true; kernel_rfl : drawX _ _ _), ?_⟩ | exact (by show drawK _ _ = true; kernel_rfl : drawX _ _ _) | simp -dsimp (maxSteps := 20000000) (disch := omega) only [simx, zzC, zzB, tys, ite_self, opnL, callB, callX, readsB, stepOp, nilCmp, ofVal, opBuiltin, opLen, PV.sk, scalBin, scalUn, intBin, opLoad, natOf, opConvert, opField, cellsP, oneP, Value.oneCell', opStore, toIV, scalT, scalA, scalC, boxesA, boxesC, zipB_none, zipB_mx, isZ, opZip, zeroP, opAppendZ, opMakeMap, opLookup, mboxB, opUpdate, ↓reduceIte, Nat.reduceSub, Nat.reduceEqDiff, Nat.reduceAdd, Nat.reduceMul, Nat.reduceLT, Nat.reduceLeDiff, Int.reduceToNat, Int.reduceLE, Int.reduceLT, Int.reduceNeg, reduceCtorEq, gos, Int.reduceAdd, Int.reduceSub, Int.reduceMul, Int.reduceEq])
        refine X_dappend_own (z := 1) (cs := T.cols.map ii) 3 [.int .i64 0] [ii n] (by simp only [tys]) (by simp only [tys]) rfl (by decide) (by simp [Heap.put_at]; exact hQ) (by simp [hr, I.ql, I.vl, I.rl]) (by simp [hr, I.ql, I.vl, I.rl]) (by simp [Heap.put_at]; rfl) rfl (by simp only [tys]; omega) (by rw [mx_len]; omega) ?_
        repeat (first | refine ⟨(by show drawK _ _ = true; kernel_rfl : drawX _ _ _), ?_⟩ | exact (by show drawK _ _ = true; kernel_rfl : drawX _ _ _) | simp -dsimp (maxSteps := 20000000) (disch := omega) only [simx, zzC, zzB, tys, ite_self, opnL, callB, callX, readsB, stepOp, nilCmp, ofVal, opBuiltin, opLen, PV.sk, scalBin, scalUn, intBin, opLoad, natOf, opConvert, opField, cellsP, oneP, Value.oneCell', opStore, toIV, scalT, scalA, scalC, boxesA, boxesC, zipB_none, zipB_mx, isZ, opZip, zeroP, opAppendZ, opMakeMap, opLookup, mboxB, opUpdate, ↓reduceIte, Nat.reduceSub, Nat.reduceEqDiff, Nat.reduceAdd, Nat.reduceMul, Nat.reduceLT, Nat.reduceLeDiff, Int.reduceToNat, Int.reduceLE, Int.reduceLT, Int.reduceNeg, reduceCtorEq, gos, Int.reduceAdd, Int.reduceSub, Int.reduceMul, Int.reduceEq, hT, rowP_succ, List.length_map, hr, I.ql, I.vl, I.rl])
        refine X_dopc rfl ?_
        repeat (first | refine ⟨(by show drawK _ _ = true; kernel_rfl : drawX _ _ _), ?_⟩ | exact (by show drawK _ _ = true; kernel_rfl : drawX _ _ _) | simp -dsimp (maxSteps := 20000000) (disch := omega) only [simx, zzC, zzB, tys, ite_self, opnL, callB, callX, readsB, stepOp, nilCmp, ofVal, opBuiltin, opLen, PV.sk, scalBin, scalUn, intBin, opLoad, natOf, opConvert, opField, cellsP, oneP, Value.oneCell', opStore, toIV, scalT, scalA, scalC, boxesA, boxesC, zipB_none, zipB_mx, isZ, opZip, zeroP, opAppendZ, opMakeMap, opLookup, mboxB, opUpdate, ↓reduceIte, Nat.reduceSub, Nat.reduceEqDiff, Nat.reduceAdd, Nat.reduceMul, Nat.reduceLT, Nat.reduceLeDiff, Int.reduceToNat, Int.reduceLE, Int.reduceLT, Int.reduceNeg, reduceCtorEq, gos, Int.reduceAdd, Int.reduceSub, Int.reduceMul, Int.reduceEq, j7, List.length_map, rn, nt])
        refine X_dopc rfl ?_
        repeat (first | refine ⟨(by show drawK _ _ = true; kernel_rfl : drawX _ _ _), ?_⟩ | exact (by show drawK _ _ = true; kernel_rfl : drawX _ _ _) | simp -dsimp (maxSteps := 20000000) (disch := omega) only [simx, zzC, zzB, tys, ite_self, opnL, callB, callX, readsB, stepOp, nilCmp, ofVal, opBuiltin, opLen, PV.sk, scalBin, scalUn, intBin, opLoad, natOf, opConvert, opField, cellsP, oneP, Value.oneCell', opStore, toIV, scalT, scalA, scalC, boxesA, boxesC, zipB_none, zipB_mx, isZ, opZip, zeroP, opAppendZ, opMakeMap, opLookup, mboxB, opUpdate, ↓reduceIte, Nat.reduceSub, Nat.reduceEqDiff, Nat.reduceAdd, Nat.reduceMul, Nat.reduceLT, Nat.reduceLeDiff, Int.reduceToNat, Int.reduceLE, Int.reduceLT, Int.reduceNeg, reduceCtorEq, gos, Int.reduceAdd, Int.reduceSub, Int.reduceMul, Int.reduceEq])
        refine X_dappend_own (z := 1) (cs := T.us.map (lv C)) 23 [.slice none 0 0] [lv C RR] (by simp only [tys]) (by simp only [tys]) rfl (by decide) (by simp [Heap.put_at]; exact hU) (by simp [hr, I.ql, I.vl, I.rl]) (by simp [hr, I.ql, I.vl, I.rl]) (by simp [Heap.put_at]; rfl) rfl (by simp only [tys]; omega) (by rw [mx_len]; omega) ?_
        repeat (first | refine ⟨(by show drawK _ _ = true; kernel_rfl : drawX _ _ _), ?_⟩ | exact (by show drawK _ _ = true; kernel_rfl : drawX _ _ _) | simp -dsimp (maxSteps := 20000000) (disch := omega) only [simx, zzC, zzB, tys, ite_self, opnL, callB, callX, readsB, stepOp, nilCmp, ofVal, opBuiltin, opLen, PV.sk, scalBin, scalUn, intBin, opLoad, natOf, opConvert, opField, cellsP, oneP, Value.oneCell', opStore, toIV, scalT, scalA, scalC, boxesA, boxesC, zipB_none, zipB_mx, isZ, opZip, zeroP, opAppendZ, opMakeMap, opLookup, mboxB, opUpdate, ↓reduceIte, Nat.reduceSub, Nat.reduceEqDiff, Nat.reduceAdd, Nat.reduceMul, Nat.reduceLT, Nat.reduceLeDiff, Int.reduceToNat, Int.reduceLE, Int.reduceLT, Int.reduceNeg, reduceCtorEq, gos, Int.reduceAdd, Int.reduceSub, Int.reduceMul, Int.reduceEq, hT, rowP_succ, List.length_map, hr, I.ql, I.vl, I.rl])
        refine X_dopc rfl ?_
        repeat (first | refine ⟨(by show drawK _ _ = true; kernel_rfl : drawX _ _ _), ?_⟩ | exact (by show drawK _ _ = true; kernel_rfl : drawX _ _ _) | simp -dsimp (maxSteps := 20000000) (disch := omega) only [simx, zzC, zzB, tys, ite_self, opnL, callB, callX, readsB, stepOp, nilCmp, ofVal, opBuiltin, opLen, PV.sk, scalBin, scalUn, intBin, opLoad, natOf, opConvert, opField, cellsP, oneP, Value.oneCell', opStore, toIV, scalT, scalA, scalC, boxesA, boxesC, zipB_none, zipB_mx, isZ, opZip, zeroP, opAppendZ, opMakeMap, opLookup, mboxB, opUpdate, ↓reduceIte, Nat.reduceSub, Nat.reduceEqDiff, Nat.reduceAdd, Nat.reduceMul, Nat.reduceLT, Nat.reduceLeDiff, Int.reduceToNat, Int.reduceLE, Int.reduceLT, Int.reduceNeg, reduceCtorEq, gos, Int.reduceAdd, Int.reduceSub, Int.reduceMul, Int.reduceEq, j8, List.length_map, rn, nt])
        refine X_dopc rfl ?_
        repeat (first | refine ⟨(by show drawK _ _ = true; kernel_rfl : drawX _ _ _), ?_⟩ | exact (by show drawK _ _ = true; kernel_rfl : drawX _ _ _) | simp -dsimp (maxSteps := 20000000) (disch := omega) only [simx, zzC, zzB, tys, ite_self, opnL, callB, callX, readsB, stepOp, nilCmp, ofVal, opBuiltin, opLen, PV.sk, scalBin, scalUn, intBin, opLoad, natOf, opConvert, opField, cellsP, oneP, Value.oneCell', opStore, toIV, scalT, scalA, scalC, boxesA, boxesC, zipB_none, zipB_mx, isZ, opZip, zeroP, opAppendZ, opMakeMap, opLookup, mboxB, opUpdate, ↓reduceIte, Nat.reduceSub, Nat.reduceEqDiff, Nat.reduceAdd, Nat.reduceMul, Nat.reduceLT, Nat.reduceLeDiff, Int.reduceToNat, Int.reduceLE, Int.reduceLT, Int.reduceNeg, reduceCtorEq, gos, Int.reduceAdd, Int.reduceSub, Int.reduceMul, Int.reduceEq])
        refine X_dappend_own (z := 1) (cs := T.vs.map iu) 22 [.int .u64 0] [iu (finvC P a)] (by simp only [tys]) (by simp only [tys]) rfl (by decide) (by simp [Heap.put_at]; exact hV) (by simp [hr, I.ql, I.vl, I.rl]) (by simp [hr, I.ql, I.vl, I.rl]) (by simp [Heap.put_at]; rfl) rfl (by simp only [tys]; omega) (by rw [mx_len]; omega) ?_
        repeat (first | refine ⟨(by show drawK _ _ = true; kernel_rfl : drawX _ _ _), ?_⟩ | exact (by show drawK _ _ = true; kernel_rfl : drawX _ _ _) | simp -dsimp (maxSteps := 20000000) (disch := omega) only [simx, zzC, zzB, tys, ite_self, opnL, callB, callX, readsB, stepOp, nilCmp, ofVal, opBuiltin, opLen, PV.sk, scalBin, scalUn, intBin, opLoad, natOf, opConvert, opField, cellsP, oneP, Value.oneCell', opStore, toIV, scalT, scalA, scalC, boxesA, boxesC, zipB_none, zipB_mx, isZ, opZip, zeroP, opAppendZ, opMakeMap, opLookup, mboxB, opUpdate, ↓reduceIte, Nat.reduceSub, Nat.reduceEqDiff, Nat.reduceAdd, Nat.reduceMul, Nat.reduceLT, Nat.reduceLeDiff, Int.reduceToNat, Int.reduceLE, Int.reduceLT, Int.reduceNeg, reduceCtorEq, gos, Int.reduceAdd, Int.reduceSub, Int.reduceMul, Int.reduceEq, hT, rowP_succ, List.length_map, hr, I.ql, I.vl, I.rl])
        repeat (first | refine X_opc rfl ?_ | refine X_dopc rfl ?_ | refine ⟨(by show drawK _ _ = true; kernel_rfl : drawX _ _ _), ?_⟩ | exact (by show drawK _ _ = true; kernel_rfl : drawX _ _ _) | simp -dsimp (maxSteps := 20000000) (disch := omega) only [simx, zzC, zzB, tys, ite_self, opnL, callB, callX, readsB, stepOp, nilCmp, ofVal, opBuiltin, opLen, PV.sk, scalBin, scalUn, intBin, opLoad, natOf, opConvert, opField, cellsP, oneP, Value.oneCell', opStore, toIV, scalT, scalA, scalC, boxesA, boxesC, zipB_none, zipB_mx, isZ, opZip, zeroP, opAppendZ, opMakeMap, opLookup, mboxB, opUpdate, ↓reduceIte, Nat.reduceSub, Nat.reduceEqDiff, Nat.reduceAdd, Nat.reduceMul, Nat.reduceLT, Nat.reduceLeDiff, Int.reduceToNat, Int.reduceLE, Int.reduceLT, Int.reduceNeg, reduceCtorEq, zzR, gos, Int.reduceAdd, Int.reduceSub, Int.reduceMul, Int.reduceEq])
        rw [← hHH]
        refine ⟨?_, fun b hb => ?_⟩
        · funext c
          simp (maxSteps := 20000000) only [Heap.drop_at, rowH_app, Heap.put_at, Heap.none_at, List.mem_cons, List.not_mem_nil, or_false]
          by_cases e0 : c = (3, 2) :: bT
          · subst e0; simp [j1, j2, j3, j4, j5, j6, j7, j8, rowP_zero, rowP_succ, hR, hQ, hU, hV, hNi, clmP_succ, tl, hr, I.ql, I.vl, I.rl]
          by_cases e1 : c = (10, 8) :: base
          · subst e1; simp [j1, j2, j3, j4, j5, j6, j7, j8, rowP_zero, rowP_succ, hR, hQ, hU, hV, hNi, clmP_succ, tl, hr, I.ql, I.vl, I.rl]
          by_cases e2 : c = (1, 1) :: base
          · subst e2; simp [j1, j2, j3, j4, j5, j6, j7, j8, rowP_zero, rowP_succ, hR, hQ, hU, hV, hNi, clmP_succ, tl, hr, I.ql, I.vl, I.rl]
          by_cases e3 : c = (8, 2) :: base
          · subst e3; simp [j1, j2, j3, j4, j5, j6, j7, j8, rowP_zero, rowP_succ, hR, hQ, hU, hV, hNi, clmP_succ, tl, hr, I.ql, I.vl, I.rl]
          by_cases e4 : c = (10, 7) :: base
          · subst e4; simp [j1, j2, j3, j4, j5, j6, j7, j8, rowP_zero, rowP_succ, hR, hQ, hU, hV, hNi, clmP_succ, tl, hr, I.ql, I.vl, I.rl]
          by_cases e5 : c = (15, 7) :: base
          · subst e5; simp [j1, j2, j3, j4, j5, j6, j7, j8, rowP_zero, rowP_succ, hR, hQ, hU, hV, hNi, clmP_succ, tl, hr, I.ql, I.vl, I.rl]
          by_cases e6 : c = (16, 10) :: base
          · subst e6; simp [j1, j2, j3, j4, j5, j6, j7, j8, rowP_zero, rowP_succ, hR, hQ, hU, hV, hNi, clmP_succ, tl, hr, I.ql, I.vl, I.rl]
          by_cases e7 : c = (16, 18) :: base
          · subst e7; simp [j1, j2, j3, j4, j5, j6, j7, j8, rowP_zero, rowP_succ, hR, hQ, hU, hV, hNi, clmP_succ, tl, hr, I.ql, I.vl, I.rl]
          by_cases e8 : c = (16, 26) :: base
          · subst e8; simp [j1, j2, j3, j4, j5, j6, j7, j8, rowP_zero, rowP_succ, hR, hQ, hU, hV, hNi, clmP_succ, tl, hr, I.ql, I.vl, I.rl]
          by_cases e9 : c = (16, 33) :: base
          · subst e9; simp [j1, j2, j3, j4, j5, j6, j7, j8, rowP_zero, rowP_succ, hR, hQ, hU, hV, hNi, clmP_succ, tl, hr, I.ql, I.vl, I.rl]
          by_cases e10 : c = (16, 11) :: base
          · subst e10; simp [j1, j2, j3, j4, j5, j6, j7, j8, rowP_zero, rowP_succ, hR, hQ, hU, hV, hNi, clmP_succ, tl, hr, I.ql, I.vl, I.rl]
          by_cases e11 : c = (16, 19) :: base
          · subst e11; simp [j1, j2, j3, j4, j5, j6, j7, j8, rowP_zero, rowP_succ, hR, hQ, hU, hV, hNi, clmP_succ, tl, hr, I.ql, I.vl, I.rl]
          by_cases e12 : c = (16, 27) :: base
          · subst e12; simp [j1, j2, j3, j4, j5, j6, j7, j8, rowP_zero, rowP_succ, hR, hQ, hU, hV, hNi, clmP_succ, tl, hr, I.ql, I.vl, I.rl]
          by_cases e13 : c = (16, 34) :: base
          · subst e13; simp [j1, j2, j3, j4, j5, j6, j7, j8, rowP_zero, rowP_succ, hR, hQ, hU, hV, hNi, clmP_succ, tl, hr, I.ql, I.vl, I.rl]
          by_cases e14 : c = (900, i) :: base
          · subst e14; simp [j1, j2, j3, j4, j5, j6, j7, j8, rowP_zero, rowP_succ, hR, hQ, hU, hV, hNi, clmP_succ, tl, hr, I.ql, I.vl, I.rl]
          simp [e0, e1, e2, e3, e4, e5, e6, e7, e8, e9, e10, e11, e12, e13, e14, j1, j2, j3, j4, j5, j6, j7, j8, rowP_zero, rowP_succ, hR, hQ, hU, hV, hNi, clmP_succ, tl, hr, I.ql, I.vl, I.rl]
        · have n0 := nv b hb
          have n1 := nvL b hb
          clear nv nvL
          simp only [List.mem_cons, List.not_mem_nil, or_false] at hb
          rcases hb with rfl | rfl | rfl | rfl | rfl | rfl | rfl | rfl
          all_goals (repeat (first | exact n0 | refine noVar_row ?_ | refine noVar_var ?_ (by simp [refsL, refsP, refsL_append, mem_refs_rowP, mem_refs_clmP, n1])))
end Go.Proofs.Ytmalpmnmknpphaa.TM
namespace Go.Proofs.Ytmalpmnmknpphaa.TM
open Go
def lowerJ (h : Heap) (p : PV) : Option IV := match lowerC h p with
  | some (.i x) => some x
  | _ => none
def lowerCN (h : Heap) : PV → Option PV
  | .view b off z n top => match h b with
    | some (.var cs) => if cs.length = top ∧ off + n * z ≤ cs.length then (mapO (lowerJ h) ((cs.drop off).take (n * z))).map fun xs => .i (.l n xs) else none
    | _ => lowerC h (.view b off z n top)
  | p => lowerC h p
def lowerAN (h : Heap) : PV → Option PV
  | .agg cs => (mapO (lowerCN h) cs).map .agg
  | p => lowerCN h p
def lowerTN (h : Heap) : PV → Option PV
  | .tup cs => (mapO (lowerAN h) cs).map .tup
  | p => lowerAN h p
section
variable {P : Program} {β : Pl} {h1 : Heap} {w : World}
theorem lowerC_rep1 (H1 : HInv β h1 w) {R : Addr → Value → Prop} {β0 : Pl} {h0 : Heap} {S0 : Nat → Nat} {p q : PV} {v : Value} (hp : Rep β h1 w p v) (hl : lowerC h1 p = some q)
    (hR1 : ∀ a v, Rd β h1 w a v → R a v) (hR2 : ∀ b x, h1 b = some x → ∀ j v, w.cell? ⟨β b, j, none⟩ = some v → R ⟨β b, j, none⟩ v) : RepP β0 h0 R S0 q v :=
  lowerC_rep H1 hp hl (fun b _ fz cs hb => ⟨fz, hb⟩) hR1 fun b _ => hR2 b
theorem lowerCN_rep (H1 : HInv β h1 w) {R : Addr → Value → Prop} {β0 : Pl} {h0 : Heap} {S0 : Nat → Nat} {p q : PV} {v : Value} (hp : Rep β h1 w p v) (hl : lowerCN h1 p = some q)
    (hR1 : ∀ a v, Rd β h1 w a v → R a v) (hR2 : ∀ b x, h1 b = some x → ∀ j v, w.cell? ⟨β b, j, none⟩ = some v → R ⟨β b, j, none⟩ v) : RepP β0 h0 R S0 q v := by
  unfold lowerCN at hl
  split at hl
  · rename_i b off z n top
    split at hl
    · rename_i cs hb
      split at hl
      case isFalse => cases hl
      rename_i hc
      cases hm : mapO (lowerJ h1) ((cs.drop off).take (n * z)) with
      | none => simp [hm] at hl
      | some xs =>
        simp [hm] at hl
        subst hl
        obtain ⟨hlen, hg⟩ := mapO_get hm
        cases hp with
        | view _ _ _ _ _ x a cap hbx hrow ht hn ha hva =>
          rw [hb] at hbx; cases hbx
          rcases hva hc.1 with ⟨h0, hc0, _⟩ | ⟨h0, hs0, _⟩
          · subst h0
            have : xs = [] := List.eq_nil_of_length_eq_zero (by rw [hlen]; simp)
            subst this
            cases a with
            | none => rw [hc0]; exact .i _ _ .nil
            | some a => exact .i _ _ (.l _ _ a cap (fun _ => undef) hn (fun j hj => by simp at hj) (fun j hj => by simp at hj) (fun j y hj => by simp at hj))
          · subst h0
            obtain ⟨c, e, hcc, hr, hcell⟩ := box_cell H1 hb
            have hlen2 : ((cs.drop off).take (n * z)).length = n * z := by simp; omega
            refine .i _ _ (.l _ _ _ cap (fun j => c.getD (off + j) undef) hn (fun j hj => ?_) (fun j hj => ?_) (fun j y hj => ?_))
            · rw [add_lit]
              exact hR2 b _ hb _ _ (hcell _ (by have := hr.1; omega))
            · have hlt : off + j < cs.length := by omega
              exact (hr.2 (off + j) cs[off + j] (List.getElem?_eq_getElem hlt)).1
            · have hjl : j < xs.length := (List.getElem?_eq_some_iff.1 hj).1
              have hj2 : j < ((cs.drop off).take (n * z)).length := by omega
              obtain ⟨x, hx, hxy⟩ := hg j _ (List.getElem?_eq_getElem hj2)
              rw [hxy] at hj; cases hj
              unfold lowerJ at hx
              split at hx
              · rename_i x' hlc
                cases hx
                have h7 := (hr.2 _ _ (take_drop_get (List.getElem?_eq_getElem hj2)).2).2
                have h8 : RepP β h1 R (szW w) (.i _) (c.getD (off + j) undef) := lowerC_rep1 H1 h7 hlc hR1 hR2
                generalize c.getD (off + j) undef = u at h8
                cases h8 with | i _ _ h9 => exact h9
              · cases hx
    · exact lowerC_rep1 H1 hp hl hR1 hR2
  · exact lowerC_rep1 H1 hp hl hR1 hR2
theorem lowerAN_rep (H1 : HInv β h1 w) {R : Addr → Value → Prop} {β0 : Pl} {h0 : Heap} {S0 : Nat → Nat} {p q : PV} {v : Value} (hp : Rep β h1 w p v) (hl : lowerAN h1 p = some q)
    (hR1 : ∀ a v, Rd β h1 w a v → R a v) (hR2 : ∀ b x, h1 b = some x → ∀ j v, w.cell? ⟨β b, j, none⟩ = some v → R ⟨β b, j, none⟩ v) : RepP β0 h0 R S0 q v := by
  unfold lowerAN at hl
  split at hl
  · rename_i cs
    cases hm : mapO (lowerCN h1) cs with
    | none => simp [hm] at hl
    | some qs =>
      simp [hm] at hl
      subst hl
      obtain ⟨hlen, hg⟩ := mapO_get hm
      cases hp with
      | agg cs arr hla hs =>
        refine .agg _ _ (by omega) fun j x hj => ?_
        have hlt : j < cs.length := by rw [← hlen]; exact (List.getElem?_eq_some_iff.1 hj).1
        obtain ⟨y, hy, hqy⟩ := hg j _ (List.getElem?_eq_getElem hlt)
        rw [hqy] at hj; cases hj
        exact lowerCN_rep H1 (hs j _ (List.getElem?_eq_getElem hlt)) hy hR1 hR2
  · exact lowerCN_rep H1 hp hl hR1 hR2
theorem lowerTN_rep (H1 : HInv β h1 w) {R : Addr → Value → Prop} {β0 : Pl} {h0 : Heap} {S0 : Nat → Nat} {p q : PV} {v : Value} (hp : Rep β h1 w p v) (hl : lowerTN h1 p = some q)
    (hR1 : ∀ a v, Rd β h1 w a v → R a v) (hR2 : ∀ b x, h1 b = some x → ∀ j v, w.cell? ⟨β b, j, none⟩ = some v → R ⟨β b, j, none⟩ v) : RepP β0 h0 R S0 q v := by
  unfold lowerTN at hl
  split at hl
  · rename_i cs
    cases hm : mapO (lowerAN h1) cs with
    | none => simp [hm] at hl
    | some qs =>
      simp [hm] at hl
      subst hl
      obtain ⟨hlen, hg⟩ := mapO_get hm
      cases hp with
      | tup cs arr hla hs =>
        refine .tup _ _ (by omega) fun j x hj => ?_
        have hlt : j < cs.length := by rw [← hlen]; exact (List.getElem?_eq_some_iff.1 hj).1
        obtain ⟨y, hy, hqy⟩ := hg j _ (List.getElem?_eq_getElem hlt)
        rw [hqy] at hj; cases hj
        exact lowerAN_rep H1 (hs j _ (List.getElem?_eq_getElem hlt)) hy hR1 hR2
  · exact lowerAN_rep H1 hp hl hR1 hR2
end
theorem CallsP.of_low {P : Program} (hm : P.follows .mixedOrders = true) {g : FuncId} {args : List PV} {v : PV} (hv : lowerT Heap.none v = some v) (h : ∀ base, ∃ u hu, CallR P base g args Heap.none u hu ∧ lowerTN hu u = some v) : CallsP P g args v := by
  intro base
  obtain ⟨u, hu, h1, h2⟩ := h base
  refine ⟨v, Heap.none, CallR.of_sound ?_, hv⟩
  intro β w rargs H Hr
  refine (CallR_sound hm _ _ _ _ _ _ h1 β w rargs H Hr).mono ?_
  rintro e w' ⟨rv, β1, rfl, H1, hrep, E1⟩
  refine ⟨rv, β, rfl, HInv.none fun blk hb => Nat.lt_of_lt_of_le (H.flt blk hb) E1.size, ?_, ⟨E1.os, E1.tape, E1.output, E1.size, rfl, fun blk hl hs => ⟨shut_none _ _, (E1.stab blk hl (shut_none _ _)).2⟩, fun b x hb => (by cases hb), E1.sz⟩⟩
  refine lowerTN_rep H1 hrep h2 (fun a v hrd => ⟨⟨by have := hrd.1.1; rw [E1.F] at this; exact this, shut_none _ _⟩, hrd.2⟩) fun b x hb j v hcell => ⟨⟨by have := H1.nf b x hb; rw [E1.F] at this; exact this, shut_none _ _⟩, hcell⟩
end Go.Proofs.Ytmalpmnmknpphaa.TM
namespace Go.Proofs.Ytmalpmnmknpphaa.TM
open Go Go.RowKit
def rowsX (b : Name) (f : Nat → List Int) (n : Nat) : Name → Option Box
  | (900, k) :: c => if c = b ∧ k < n ∧ (f k).length ≠ 0 then some (.row false ((f k).map iu)) else none
  | _ => none
def rowsH (b : Name) (f : Nat → List Int) (n : Nat) (h : Heap) : Heap := fun c => match rowsX b f n c with
  | some x => some x
  | none => h c
def rowN (b : Name) (f : Nat → List Int) (k : Nat) : PV := rowP ((900, k) :: b) 1 (f k).length ((f k).map iu)
def crowsL (b : Name) (f : Nat → List Int) (n : Nat) : List PV := (List.range n).map (rowN b f)
theorem crowsL_len (b : Name) (f : Nat → List Int) (n : Nat) : (crowsL b f n).length = n := by simp [crowsL]
theorem rowsL_succ (b : Name) (f : Nat → List Int) (n : Nat) : crowsL b f (n + 1) = crowsL b f n ++ [rowN b f n] := by simp [crowsL, List.range_succ]
theorem rowsL_congr {b : Name} {f g : Nat → List Int} {n : Nat} (h : ∀ k, k < n → f k = g k) : crowsL b f n = crowsL b g n := List.map_congr_left fun k hk => by unfold rowN; rw [h k (List.mem_range.1 hk)]
theorem rowsL_get {b : Name} {f : Nat → List Int} {n k : Nat} (h : k < n) : (crowsL b f n)[k]? = some (rowN b f k) := by
  unfold crowsL; rw [List.getElem?_map, List.getElem?_range h]; rfl
theorem rowsL_put {b : Name} {f g : Nat → List Int} {n k : Nat} (h : k < n) (hg : ∀ m, m ≠ k → g m = f m) : (crowsL b f n).take k ++ [rowN b g k] ++ (crowsL b f n).drop (k + 1) = crowsL b g n := by
  apply List.ext_getElem?
  intro m
  have tl : ((crowsL b f n).take k).length = k := by rw [List.length_take, crowsL_len]; omega
  by_cases h1 : m < k
  · rw [List.append_assoc, List.getElem?_append_left (by omega), List.getElem?_take, if_pos h1, rowsL_get (by omega), rowsL_get (by omega)]
    unfold rowN; rw [hg m (by omega)]
  · rw [List.append_assoc, List.getElem?_append_right (by omega), tl]
    by_cases h2 : m = k
    · subst h2; rw [Nat.sub_self, rowsL_get h]; rfl
    · rw [List.getElem?_append_right (by simp; omega), List.getElem?_drop, List.length_singleton, show k + 1 + (m - k - 1) = m by omega]
      by_cases h3 : m < n
      · rw [rowsL_get h3, rowsL_get h3]; unfold rowN; rw [hg m h2]
      · rw [List.getElem?_eq_none (by rw [crowsL_len]; omega), List.getElem?_eq_none (by rw [crowsL_len]; omega)]
theorem mem_rowsL {b c : Name} {f : Nat → List Int} {n : Nat} (h : c ∈ refsL (crowsL b f n)) : ∃ k, c = (900, k) :: b := by
  obtain ⟨p, hp, hc⟩ := of_refsL h
  obtain ⟨k, _, rfl⟩ := List.mem_map.1 hp
  unfold rowN at hc
  exact ⟨k, (mem_refs_rowP.1 hc).2⟩
theorem rowsX_var {b c : Name} {f : Nat → List Int} {n : Nat} {cs : List PV} : rowsX b f n c ≠ some (.var cs) := by
  unfold rowsX
  split
  · split <;> simp
  · simp
theorem noVar_rowsH {b c : Name} {f : Nat → List Int} {n : Nat} {h : Heap} (h1 : noVar c h) : noVar c (rowsH b f n h) := fun d ds hd => by
  unfold rowsH at hd
  split at hd
  · rename_i x hx; cases hd; exact absurd hx rowsX_var
  · exact h1 d ds hd
theorem rowsX_at {b : Name} {f : Nat → List Int} {n k : Nat} (hk : k < n) (hl : (f k).length ≠ 0) : rowsX b f n ((900, k) :: b) = some (.row false ((f k).map iu)) := if_pos ⟨rfl, hk, hl⟩
theorem rowsX_out {b : Name} {f : Nat → List Int} {n k : Nat} (hk : n ≤ k) : rowsX b f n ((900, k) :: b) = none := if_neg (by omega)
theorem rowsX_nil {b : Name} {f : Nat → List Int} {n k : Nat} (hl : (f k).length = 0) : rowsX b f n ((900, k) :: b) = none := if_neg (by omega)
theorem rowsX_ne {b c : Name} {f g : Nat → List Int} {n m i : Nat} (hc : c ≠ (900, i) :: b) (h : ∀ k, k ≠ i → f k = g k) (hn : ∀ k, k ≠ i → (k < n ↔ k < m)) : rowsX b f n c = rowsX b g m c := by
  unfold rowsX
  split
  · rename_i k d
    by_cases e : d = b
    · subst e
      have hk : k ≠ i := fun e => hc (by rw [e])
      rw [h k hk]
      simp only [hn k hk]
    · rw [if_neg (by simp [e]), if_neg (by simp [e])]
  · rfl
theorem rowsX_congr {b c : Name} {f g : Nat → List Int} {n : Nat} (h : ∀ k, k < n → f k = g k) : rowsX b f n c = rowsX b g n c := by
  unfold rowsX
  split
  · rename_i k d
    by_cases e : k < n
    · rw [h k e]
    · rw [if_neg (by simp [e]), if_neg (by simp [e])]
  · rfl
def csF (T : Tk) (k : Nat) : List Int := T.cs.getD k []
def mtB (R C : Nat) (l : List Int) : Box := .var [i64 R, i64 C, lu l]
def tkH (base : Name) (P R C i : Nat) (l : List Int) (T : Tk) (f : Nat → List Int) : Heap :=
  rowH (rowH (rowH (rowH (rowsH ((7, 14) :: base) f i (fun c => if c = (3, 2) :: base then some (.var [rowP ((16, 11) :: (7, 14) :: base) 1 T.us.length (T.rows.map ii), rowP ((16, 19) :: (7, 14) :: base) 1 T.us.length (T.cols.map ii), clmP ((10, 8) :: (7, 14) :: base) i, rowP ((16, 27) :: (7, 14) :: base) 1 T.us.length (T.us.map (lv C)), u64 P, rowP ((16, 34) :: (7, 14) :: base) 1 T.us.length (T.vs.map iu)])
    else if c = (0, 0) :: base then some (mtB R C l) else if c = (0, 1) :: base then some (.var [nilP, nilP, nilP, nilP]) else if c = (10, 8) :: (7, 14) :: base then clmB i (crowsL ((7, 14) :: base) f i) else none))
    ((16, 11) :: (7, 14) :: base) T.us.length (T.rows.map ii)) ((16, 19) :: (7, 14) :: base) T.us.length (T.cols.map ii)) ((16, 27) :: (7, 14) :: base) T.us.length (T.us.map (lv C))) ((16, 34) :: (7, 14) :: base) T.us.length (T.vs.map iu)
abbrev junkR (base : Name) : List Name := [(1, 1) :: base, (8, 2) :: base, (10, 7) :: base, (15, 7) :: base, (16, 10) :: base, (16, 18) :: base, (16, 26) :: base, (16, 33) :: base]
theorem base_ne : ∀ (base : Name) (x : Nat × Nat), base ≠ x :: base
  | [], x, h => by cases h
  | y :: b, x, h => by injection h with h1 h2; exact base_ne b y h2
theorem cup_next {base : Name} {P R C i : Nat} {l : List Int} {T T' : Tk} (hcl : T'.cs.length = i + 1) (hc : ∀ k, k < i → csF T' k = csF T k) (hu : T'.us.length = T.us.length ∨ T'.us.length = T.us.length + 1) :
    cupH (tkH base P R C i l T (csF T)) ((7, 14) :: base) base P C i (crowsL ((7, 14) :: base) (csF T) i) T T' T'.us.length = tkH base P R C (i + 1) l T' (csF T') := by
  have hL : crowsL ((7, 14) :: base) (csF T') (i + 1) = crowsL ((7, 14) :: base) (csF T) i ++ [rowP ((900, i) :: (7, 14) :: base) 1 (T'.cs.getD i []).length ((T'.cs.getD i []).map iu)] := by
    rw [rowsL_succ, rowsL_congr hc]; rfl
  have ne1 : ∀ x : Nat × Nat, base ≠ x :: base := base_ne base
  have ne2 : ∀ x : Nat × Nat, x :: base ≠ base := fun x h => base_ne base x h.symm
  obtain ⟨x, hx⟩ : ∃ x, T'.cs.getD i [] = x := ⟨_, rfl⟩
  have hx' : csF T' i = x := hx
  unfold cupH tkH
  rw [hL, hx]
  funext c
  simp (maxSteps := 20000000) only [rowH_app, Heap.put_at, rowsH]
  by_cases e1 : c = (3, 2) :: base
  · subst e1
    simp [rowsX]
  by_cases e2 : c = (10, 8) :: (7, 14) :: base
  · subst e2
    simp [rowsX, clmB]
  by_cases e3 : c = (16, 11) :: (7, 14) :: base
  · subst e3
    rcases hu with hu | hu <;> by_cases z : T.us = [] <;> simp [rowsX, hu, z]
  by_cases e4 : c = (16, 19) :: (7, 14) :: base
  · subst e4
    rcases hu with hu | hu <;> by_cases z : T.us = [] <;> simp [rowsX, hu, z]
  by_cases e5 : c = (16, 27) :: (7, 14) :: base
  · subst e5
    rcases hu with hu | hu <;> by_cases z : T.us = [] <;> simp [rowsX, hu, z]
  by_cases e6 : c = (16, 34) :: (7, 14) :: base
  · subst e6
    rcases hu with hu | hu <;> by_cases z : T.us = [] <;> simp [rowsX, hu, z]
  by_cases e7 : c = (900, i) :: (7, 14) :: base
  · subst e7
    by_cases h0 : x.length = 0
    · rw [rowsX_out (Nat.le_refl _), rowsX_nil (by rw [hx']; exact h0)]
      have h0' : x = [] := List.eq_nil_of_length_eq_zero h0
      simp [h0']
    · rw [rowsX_out (Nat.le_refl _), rowsX_at (by omega) (by rw [hx']; exact h0), hx']
      have h0' : x ≠ [] := fun e => h0 (by rw [e]; rfl)
      simp [h0']
  simp [e1, e2, e3, e4, e5, e6, e7]
  have hX : rowsX ((7, 14) :: base) (csF T) i c = rowsX ((7, 14) :: base) (csF T') (i + 1) c := by
    rw [rowsX_congr (g := csF T') (fun k hk => (hc k hk).symm)]
    exact rowsX_ne e7 (fun _ _ => rfl) (by omega)
  rw [hX]
end Go.Proofs.Ytmalpmnmknpphaa.TM
namespace Go.Proofs.Ytmalpmnmknpphaa.TM
open Go Go.RowKit
theorem TkI.next {P C i : Nat} {T : Tk} {row : List Int} (hP : Prm P) (hp : Md P) (I : TkI P C i T) (hrow : ∀ a ∈ row, In P a) (hl : row.length = C) : TkI P C (i + 1) (tkRow P T i row) := by
  have r1 : (rstT P T row).length = C := by unfold rstT; rw [elR_len, hl]
  have r2 : ∀ a ∈ rstT P T row, In P a := elR_in hp T hrow _
  have x1 : (xsT P T row).length = T.us.length := tbl_len ..
  have x2 : ∀ a ∈ xsT P T row, In P a := fun a ha => by obtain ⟨k, _, rfl⟩ := tbl_mem ha; exact elX_in hp T row k
  have o1 : In P 1 := ⟨by decide, by have := hp.1; omega⟩
  unfold tkRow
  split
  · refine ⟨I.rl, I.ql, I.vl, by simp [I.cl], by have := I.ri; simp only; omega, fun a ha => by have := I.rb a ha; omega, I.qb, I.ul, I.vb, fun c hc => ?_⟩
    rcases List.mem_append.1 hc with hc | hc
    · exact I.cb c hc
    · rw [List.mem_singleton.1 hc]; exact ⟨by rw [x1]; exact Nat.le_refl _, x2⟩
  · rename_i hn
    rcases nzA_spec (rstT P T row) 0 with ⟨z1, _⟩ | ⟨n, z1, z2, z3, _⟩
    · rw [z1] at hn; exact absurd (by decide) hn
    · rw [z1]
      refine ⟨by simp [I.rl], by simp [I.ql], by simp [I.vl], by simp [I.cl], by have := I.ri; simp only [List.length_append, List.length_singleton]; omega, fun a ha => ?_, fun a ha => ?_, fun u hu => ?_, fun a ha => ?_, fun c hc => ?_⟩
      · rcases List.mem_append.1 ha with ha | ha
        · have := I.rb a ha; omega
        · rw [List.mem_singleton.1 ha]; omega
      · rcases List.mem_append.1 ha with ha | ha
        · exact I.qb a ha
        · rw [List.mem_singleton.1 ha]; omega
      · rcases List.mem_append.1 hu with hu | hu
        · exact I.ul u hu
        · rw [List.mem_singleton.1 hu]; exact ⟨r1, r2⟩
      · rcases List.mem_append.1 ha with ha | ha
        · exact I.vb a ha
        · rw [List.mem_singleton.1 ha, show (((0 + n : Nat) : Int)).toNat = n by omega]
          exact (finvC_in (by exact hp.1) hp.2 (getD_of r2 z2) (prm_gcd hP (getD_of r2 z2) z3)).1
      · rcases List.mem_append.1 hc with hc | hc
        · have := I.cb c hc
          exact ⟨by simp only [List.length_append, List.length_singleton]; omega, this.2⟩
        · rw [List.mem_singleton.1 hc]
          refine ⟨by simp [x1], fun a ha => ?_⟩
          rcases List.mem_append.1 ha with ha | ha
          · exact x2 a ha
          · rw [List.mem_singleton.1 ha]; exact o1
theorem tkN_I {P R C : Nat} {l : List Int} (hP : Prm P) (M : Mt P R C l) (hin : ∀ a ∈ l, In P a) : ∀ i, i ≤ R → TkI P C i (tkN P C l i)
  | 0, _ => TkI.zero _ _
  | i + 1, h => (tkN_I hP M hin i (by omega)).next hP M.hp (fun a ha => hin a (rowM_mem ha)) (rowM_len M.len (by omega))
theorem tkRow_cs {P : Int} {C i : Nat} {T : Tk} {row : List Int} (I : TkI P C i T) : (∀ k, k < i → csF (tkRow P T i row) k = csF T k) ∧ ((tkRow P T i row).us.length = T.us.length ∨ (tkRow P T i row).us.length = T.us.length + 1) := by
  have h : ∀ (x : List Int) (k : Nat), k < i → (T.cs ++ [x]).getD k [] = T.cs.getD k [] := fun x k hk => by
    rw [List.getD_eq_getElem?_getD, List.getElem?_append_left (by rw [I.cl]; exact hk), List.getD_eq_getElem?_getD]
  unfold tkRow csF
  split
  · exact ⟨fun k hk => h _ k hk, .inl rfl⟩
  · exact ⟨fun k hk => h _ k hk, .inr (by simp)⟩
theorem nv_tk {base : Name} {P R C i : Nat} {l : List Int} {T : Tk} {f : Nat → List Int} {b : Name} (hb9 : ∀ k, b ≠ (900, k) :: (7, 14) :: base)
    (n1 : b ≠ (16, 11) :: (7, 14) :: base) (n2 : b ≠ (16, 19) :: (7, 14) :: base) (n3 : b ≠ (16, 27) :: (7, 14) :: base) (n4 : b ≠ (16, 34) :: (7, 14) :: base) (n5 : b ≠ (10, 8) :: (7, 14) :: base) : noVar b (tkH base P R C i l T f) := by
  unfold tkH
  refine noVar_rowH (noVar_rowH (noVar_rowH (noVar_rowH (noVar_rowsH ?_))))
  intro c cs hc
  simp only [mtB] at hc
  split at hc
  · cases hc
    simp only [refsL, refsP, List.mem_append, mem_refs_rowP, mem_refs_clmP, List.not_mem_nil, or_false, not_or]
    simp [n1, n2, n3, n4, n5]
  · split at hc
    · cases hc
      simp [refsL, refsP]
    · split at hc
      · cases hc; simp [refsL, refsP, nilP]
      · split at hc
        · unfold clmB at hc
          split at hc
          · cases hc
          · cases hc
            intro h
            obtain ⟨k, hk⟩ := mem_rowsL h
            exact hb9 k hk
        · cases hc
theorem nv_junk (base : Name) (P R C i : Nat) (l : List Int) (T : Tk) (f : Nat → List Int) (b : Name) (hb : b ∈ junkR ((7, 14) :: base)) : noVar b (tkH base P R C i l T f) := by
  refine nv_tk (fun k e => ?_) ?_ ?_ ?_ ?_ ?_
  · subst e; simp at hb
  all_goals (intro e; subst e; simp at hb)
theorem row_call {base : Name} {P R C i : Nat} {l : List Int} {T : Tk} {row : List Int} (hP : Prm P) (hp : Md P) (I : TkI P C i T) (hrow : ∀ a ∈ row, In P a) (hl : row.length = C) (h0 : 0 < C) (hC : C ≤ 64) (hi : i < 64) :
    ∃ h', CallR Try.prog ((7, 14) :: base) 98 [.ref ((3, 2) :: base) 0 6, i64 i, .i (.l C (row.map iu))] (tkH base P R C i l T (csF T)) (bl true) h' ∧ (h'.drop (junkR ((7, 14) :: base)) = tkH base P R C (i + 1) l (tkRow P T i row) (csF (tkRow P T i row)) ∧ ∀ b ∈ junkR ((7, 14) :: base), noVar b h') := by
  obtain ⟨c1, c2⟩ := tkRow_cs (row := row) I
  rw [← cup_next (by rw [(I.next hP hp hrow hl).cl]) c1 c2]
  have ne1 : ∀ x : Nat × Nat, base ≠ x :: base := base_ne base
  have ne2 : ∀ x : Nat × Nat, x :: base ≠ base := fun x h => base_ne base x h.symm
  have x9 : rowsX ((7, 14) :: base) (csF T) i ((900, i) :: (7, 14) :: base) = none := rowsX_out (Nat.le_refl _)
  have nv := nv_junk base P R C i l T (csF T)
  rcases hr : T.us.length with _ | r
  · refine rowA0_walk hP hp I hrow hl h0 hC hi (crowsL_len ..) hr ?_ ?_ ?_ ?_ ?_ ?_ ?_ ?_ ?_ ?_ ?_ ?_ ?_ ?_ ?_ nv
    all_goals (unfold tkH; rw [hr]; simp [rowH_app, rowsH, x9, rowsX, ne1, ne2])
  · refine rowA1_walk hP hp I hrow hl h0 hC hi (crowsL_len ..) hr ?_ ?_ ?_ ?_ ?_ ?_ ?_ ?_ ?_ ?_ ?_ ?_ ?_ ?_ ?_ nv
    all_goals (unfold tkH; rw [hr]; simp [rowH_app, rowsH, x9, rowsX, ne1, ne2])
end Go.Proofs.Ytmalpmnmknpphaa.TM
namespace Go.Proofs.Ytmalpmnmknpphaa.TM
open Go Go.RowKit
theorem getD_app {α : Type} (l : List α) (x d : α) (k : Nat) : (l ++ [x]).getD k d = if k < l.length then l.getD k d else if k = l.length then x else d := by
  rw [List.getD_eq_getElem?_getD, List.getD_eq_getElem?_getD]
  by_cases h : k < l.length
  · rw [if_pos h, List.getElem?_append_left h]
  · rw [if_neg h, List.getElem?_append_right (by omega)]
    by_cases e : k = l.length
    · subst e; rw [if_pos rfl]; simp
    · rw [if_neg e, List.getElem?_eq_none (by simp; omega)]; rfl
def rwF (T : Tk) (k : Nat) : Nat := (T.rows.getD k 0).toNat
def cwF (T : Tk) (k : Nat) : Nat := (T.cols.getD k 0).toNat
def cF (T : Tk) : Mx := fun i k => (csF T i).getD k 0
def uF (T : Tk) : Mx := fun k j => (T.us.getD k []).getD j 0
def vF (T : Tk) (k : Nat) : Int := T.vs.getD k 0
structure TkC (P C i : Nat) (A : Mx) (T : Tk) : Prop where
  I : TkI P C i T
  H : Cp P i C T.us.length A (rwF T) (cwF T) (cF T) (uF T)
  inv : ∀ k, k < T.us.length → uF T k (cwF T k) * vF T k % P = 1
theorem rest_spec {P C i : Nat} {A : Mx} {T : Tk} (K : TkC P C i A T) {row : List Int} (hl : row.length = C) : ∀ k, k ≤ T.us.length →
    (∀ j, j < k → (elR P T row k).getD (cwF T j) 0 % P = 0) ∧ ∀ q, q < C → row.getD q 0 % P = ((elR P T row k).getD q 0 + sumN k (fun m => elX P T row m * uF T m q)) % P
  | 0, _ => ⟨fun j h => by omega, fun q _ => by simp [elR, sumN]⟩
  | k + 1, hk => by
    obtain ⟨h1, h2⟩ := rest_spec K hl k (by omega)
    have len := elR_len P T row k
    rw [hl] at len
    have get : ∀ q, q < C → (elR P T row (k + 1)).getD q 0 % P = ((elR P T row k).getD q 0 - elX P T row k * uF T k q) % P := fun q hq => by
      rw [elR_succ, lessV_get _ _ _ _ (by omega), Int.emod_emod_of_dvd _ (Int.dvd_refl _)]
      exact em_sub rfl (Int.emod_emod_of_dvd _ (Int.dvd_refl _))
    refine ⟨fun j hj => ?_, fun q hq => ?_⟩
    · rw [get _ (K.H.clt j (by omega))]
      by_cases e : j = k
      · subst e
        have hx : elX P T row j % P = ((elR P T row j).getD (cwF T j) 0 * vF T j) % P := by unfold elX vF cwF; exact Int.emod_emod_of_dvd _ (Int.dvd_refl _)
        have hi := K.inv j (by omega)
        generalize (elR P T row j).getD (cwF T j) 0 = y at hx ⊢
        rw [em_sub rfl (em_mul hx rfl)]
        have hm : (2 : Int) ≤ P := K.I.ri |> fun _ => by
          rcases Nat.lt_or_ge P 2 with h | h
          · have : P = 0 ∨ P = 1 := by omega
            rcases this with rfl | rfl
            · exact absurd (K.H.upiv j (by omega)) (by
                intro hne
                have hz := K.I.ul (T.us.getD j []) (by rw [List.getD_eq_getElem?_getD, List.getElem?_eq_getElem (show j < T.us.length by omega)]; exact List.getElem_mem _)
                have hin := getD_of hz.2 (i := cwF T j) (by rw [hz.1]; exact K.H.clt j (by omega))
                unfold In at hin; omega)
            · exact absurd hi (by rw [show ((1 : Nat) : Int) = 1 from rfl, Int.emod_one]; decide)
          · omega
        have : (y - y * vF T j * uF T j (cwF T j)) % P = (y - y * 1) % P := em_sub rfl (by
          rw [Int.mul_assoc]
          exact em_mul rfl (by rw [Int.mul_comm, hi]; exact (Int.emod_eq_of_lt (by decide) (by omega)).symm))
        rw [this, Int.mul_one, Int.sub_self]; rfl
      · have h3 := K.H.uz j k (by omega) (by omega)
        rw [Int.sub_emod, h1 j (by omega), em_z' h3]; rfl
    · rw [h2 q hq, sumN]
      have h4 := em_add (get q hq) (rfl : (sumN k (fun m => elX P T row m * uF T m q) + elX P T row k * uF T k q) % P = _)
      rw [h4]; congr 1; omega
theorem cup_step {P C i : Nat} {A : Mx} {T : Tk} (hP : Prm P) (hp : Md P) (K : TkC P C i A T) {row : List Int} (hrow : ∀ a ∈ row, In P a) (hl : row.length = C) (hA : ∀ j, j < C → A i j % P = row.getD j 0 % P) : TkC P C (i + 1) A (tkRow P T i row) := by
  have I := K.I
  have H := K.H
  have J := I.next hP hp hrow hl
  obtain ⟨c1, _⟩ := tkRow_cs (P := P) (row := row) I
  obtain ⟨te1, te2⟩ := tk_end (p := P) I row (i : Int) rfl
  obtain ⟨s1, s2⟩ := rest_spec K hl T.us.length (Nat.le_refl _)
  have rl : (rstT P T row).length = C := by unfold rstT; rw [elR_len, hl]
  have rin : ∀ a ∈ rstT P T row, In P a := elR_in hp T hrow _
  change ∀ j, j < T.us.length → (rstT P T row).getD (cwF T j) 0 % P = 0 at s1
  change ∀ q, q < C → row.getD q 0 % P = ((rstT P T row).getD q 0 + _) % P at s2
  have xg : ∀ k, k < T.us.length → (xsT P T row).getD k 0 = elX P T row k := fun k hk => tbl_getD _ hk
  have xl : (xsT P T row).length = T.us.length := tbl_len ..
  have cold : ∀ i', i' < i → ∀ k, cF (tkRow P T i row) i' k = cF T i' k := fun i' h k => by unfold cF; rw [c1 i' h]
  rcases nzA_spec (rstT P T row) 0 with ⟨z1, z2⟩ | ⟨n, z1, z2, z3, z4⟩
  · have neg : nzA (rstT P T row) 0 < 0 := by rw [z1]; decide
    obtain ⟨t1, t2, t3, t4⟩ := tk_no (p := P) (T := T) (row := row) (x := i) neg
    have te := te1 neg
    have e1 : rwF (tkRow P T i row) = rwF T := by unfold rwF; rw [t1]
    have e2 : cwF (tkRow P T i row) = cwF T := by unfold cwF; rw [t2]
    have e3 : uF (tkRow P T i row) = uF T := by unfold uF; rw [t3]
    have e4 : vF (tkRow P T i row) = vF T := by unfold vF; rw [t4]
    refine ⟨J, ?_, ?_⟩
    · rw [t3, e1, e2, e3]
      refine ⟨fun k hk => by have := H.rlt k hk; omega, H.rinc, H.clt, H.upiv, H.uz, H.uh, fun k hk => ?_, fun k hk i' hi' => ?_, fun i' hi' j hj => ?_⟩
      · rw [cold _ (H.rlt k hk)]; exact H.c1 k hk
      · rw [cold _ (Nat.lt_trans hi' (H.rlt k hk))]; exact H.cz k hk i' hi'
      · by_cases e : i' = i
        · subst e
          rw [hA j hj, s2 j hj]
          have z : (rstT P T row).getD j 0 = 0 := by rw [List.getD_eq_getElem?_getD, List.getElem?_eq_getElem (by omega)]; exact z2 _ (List.getElem_mem _)
          rw [z, Int.zero_add]
          refine sumN_mod fun k hk => ?_
          unfold cF csF
          rw [te, xg k hk]
        · rw [H.made i' (by omega) j hj]
          exact sumN_mod fun k hk => by rw [cold i' (by omega)]
    · rw [t3, e2, e3, e4]; exact K.inv
  · have neg : ¬ nzA (rstT P T row) 0 < 0 := by rw [z1]; omega
    obtain ⟨t1, t2, t3, t4⟩ := tk_yes (p := P) (T := T) (row := row) (x := i) neg
    have te := te2 neg
    have zn : (((0 + n : Nat) : Int)).toNat = n := by omega
    have zi : ((0 + n : Nat) : Int) = (n : Int) := by omega
    rw [z1] at t2 t4
    rw [zn] at t4
    rw [zi] at t2
    have r1 : ∀ k, rwF (tkRow P T i row) k = if k < T.us.length then rwF T k else if k = T.us.length then i else 0 := fun k => by
      unfold rwF; rw [t1, getD_app, I.rl]; (repeat' split) <;> simp
    have r2 : ∀ k, cwF (tkRow P T i row) k = if k < T.us.length then cwF T k else if k = T.us.length then n else 0 := fun k => by
      unfold cwF; rw [t2, getD_app, I.ql]; (repeat' split) <;> simp
    have r3 : ∀ k j, uF (tkRow P T i row) k j = if k < T.us.length then uF T k j else if k = T.us.length then (rstT P T row).getD j 0 else 0 := fun k j => by
      unfold uF; rw [t3, getD_app]; (repeat' split) <;> simp
    have r4 : ∀ k, vF (tkRow P T i row) k = if k < T.us.length then vF T k else if k = T.us.length then finvC P ((rstT P T row).getD n 0) else 0 := fun k => by
      unfold vF; rw [t4, getD_app, I.vl]
    have rn : In P ((rstT P T row).getD n 0) := getD_of rin z2
    have rnz : (rstT P T row).getD n 0 % P ≠ 0 := by rw [Int.emod_eq_of_lt rn.1 rn.2]; exact z3
    have us1 : (tkRow P T i row).us.length = T.us.length + 1 := by rw [t3]; simp
    have cnew : ∀ k, cF (tkRow P T i row) i k = if k < T.us.length then elX P T row k else if k = T.us.length then 1 else 0 := fun k => by
      unfold cF csF
      rw [te, getD_app, xl]
      split
      · rename_i h; rw [xg k h]
      · rfl
    have cnr : ∀ i', i' < i → cF T i' T.us.length = 0 := fun i' h => by
      unfold cF csF
      have : ((T.cs.getD i' [])).length ≤ T.us.length := by
        rw [List.getD_eq_getElem?_getD, List.getElem?_eq_getElem (by rw [I.cl]; exact h)]
        exact (I.cb _ (List.getElem_mem _)).1
      rw [List.getD_eq_getElem?_getD, List.getElem?_eq_none this]; rfl
    refine ⟨J, ?_, ?_⟩
    · rw [us1]
      refine ⟨fun k hk => ?_, fun j k hjk hk => ?_, fun k hk => ?_, fun k hk => ?_, fun j k hjk hk => ?_, fun k hk j hj => ?_, fun k hk => ?_, fun k hk i' hi' => ?_, fun i' hi' j hj => ?_⟩
      · rw [r1]
        by_cases h : k < T.us.length
        · rw [if_pos h]; have := H.rlt k h; omega
        · rw [if_neg h, if_pos (by omega)]; omega
      · rw [r1, r1, if_pos (show j < T.us.length by omega)]
        by_cases h : k < T.us.length
        · rw [if_pos h]; exact H.rinc j k hjk h
        · rw [if_neg h, if_pos (by omega)]; exact H.rlt j (by omega)
      · rw [r2]
        by_cases h : k < T.us.length
        · rw [if_pos h]; exact H.clt k h
        · rw [if_neg h, if_pos (by omega)]; omega
      · rw [r3, r2]
        by_cases h : k < T.us.length
        · rw [if_pos h, if_pos h]; exact H.upiv k h
        · rw [if_neg h, if_pos (by omega), if_neg h, if_pos (by omega)]; exact rnz
      · rw [r3, r2, if_pos (show j < T.us.length by omega)]
        by_cases h : k < T.us.length
        · rw [if_pos h]; exact H.uz j k hjk h
        · rw [if_neg h, if_pos (by omega)]; exact s1 j (by omega)
      · rw [r2] at hj
        rw [r3]
        by_cases h : k < T.us.length
        · rw [if_pos h] at hj ⊢; exact H.uh k h j hj
        · rw [if_neg h, if_pos (by omega)] at hj ⊢; rw [z4 j hj]; rfl
      · rw [r1]
        by_cases h : k < T.us.length
        · rw [if_pos h, cold _ (H.rlt k h)]; exact H.c1 k h
        · rw [if_neg h, if_pos (by omega), cnew, if_neg h, if_pos (by omega)]
          exact Int.emod_eq_of_lt (by decide) (by have := hp.1; omega)
      · rw [r1] at hi'
        by_cases h : k < T.us.length
        · rw [if_pos h] at hi'
          rw [cold _ (Nat.lt_trans hi' (H.rlt k h))]; exact H.cz k h i' hi'
        · rw [if_neg h, if_pos (by omega)] at hi'
          have ek : k = T.us.length := by omega
          subst ek
          rw [cold i' hi', cnr i' hi']; rfl
      · rw [sumN]
        by_cases e : i' = i
        · subst e
          rw [hA j hj, s2 j hj, r3, if_neg (by omega), if_pos rfl, cnew, if_neg (by omega), if_pos rfl, Int.one_mul, Int.add_comm]
          refine em_add (sumN_mod fun k hk => ?_) rfl
          rw [cnew, if_pos hk, r3, if_pos hk]
        · rw [H.made i' (by omega) j hj, cold i' (by omega), cnr i' (by omega), Int.zero_mul, Int.add_zero]
          refine sumN_mod fun k hk => ?_
          rw [cold i' (by omega), r3, if_pos hk]
    · intro k hk
      rw [us1] at hk
      rw [r3, r2, r4]
      by_cases h : k < T.us.length
      · rw [if_pos h, if_pos h, if_pos h]; exact K.inv k h
      · rw [if_neg h, if_pos (by omega), if_neg h, if_pos (by omega), if_neg h, if_pos (by omega)]
        exact (finvC_in hp.1 hp.2 rn (prm_gcd hP rn z3)).2
theorem tkN_C {P R C : Nat} {l : List Int} (hP : Prm P) (hp : Md P) (hl : l.length = R * C) (hin : ∀ a ∈ l, In P a) : ∀ i, i ≤ R → TkC P C i (cl C l) (tkN P C l i)
  | 0, _ => ⟨TkI.zero _ _, ⟨fun k h => absurd h (Nat.not_lt_zero k), fun j k _ h => absurd h (Nat.not_lt_zero k), fun k h => absurd h (Nat.not_lt_zero k), fun k h => absurd h (Nat.not_lt_zero k), fun j k _ h => absurd h (Nat.not_lt_zero k), fun k h => absurd h (Nat.not_lt_zero k), fun k h => absurd h (Nat.not_lt_zero k), fun k h => absurd h (Nat.not_lt_zero k), fun i h => absurd h (Nat.not_lt_zero i)⟩, fun k h => absurd h (Nat.not_lt_zero k)⟩
  | i + 1, h => cup_step hP hp (tkN_C hP hp hl hin i (by omega)) (fun a ha => hin a (rowM_mem ha)) (rowM_len hl (by omega)) fun j hj => by rw [rowM_cl hl (by omega) hj]
end Go.Proofs.Ytmalpmnmknpphaa.TM
namespace Go.Proofs.Ytmalpmnmknpphaa.TM
open Go Go.RowKit
def cntN : Nat → (Nat → Bool) → Nat
  | 0, _ => 0
  | n + 1, f => cntN n f + (if f n = true then 1 else 0)
theorem cnt_congr {n : Nat} {f g : Nat → Bool} (h : ∀ i, i < n → f i = g i) : cntN n f = cntN n g := by
  induction n with
  | zero => rfl
  | succ n ih => rw [cntN, cntN, ih fun i hi => h i (by omega), h n (by omega)]
theorem cnt_all {n : Nat} {f : Nat → Bool} (h : ∀ i, i < n → f i = true) : cntN n f = n := by
  induction n with
  | zero => rfl
  | succ n ih => rw [cntN, ih fun i hi => h i (by omega), if_pos (h n (by omega))]
theorem cnt_add (m n : Nat) (f : Nat → Bool) : cntN (m + n) f = cntN m f + cntN n (fun i => f (m + i)) := by
  induction n with
  | zero => rfl
  | succ n ih => rw [← Nat.add_assoc, cntN, ih, cntN]; omega
theorem cnt_mul (N : Nat) (f : Nat → Bool) : ∀ a, cntN (a * N) (fun q => f (q % N)) = a * cntN N f
  | 0 => by simp [cntN]
  | a + 1 => by
    rw [Nat.succ_mul, cnt_add, cnt_mul N f a, Nat.succ_mul]
    congr 1
    exact cnt_congr fun i hi => by rw [Nat.mul_add_mod_self_right, Nat.mod_eq_of_lt hi]
theorem cnt_drop {m a : Nat} {f : Nat → Bool} (ha : a < m) (hf : f a = true) : cntN m f = cntN m (fun j => f j && j != a) + 1 := by
  induction m with
  | zero => omega
  | succ m ih =>
    rw [cntN, cntN]
    by_cases e : a = m
    · subst e
      rw [if_pos hf, if_neg (by simp)]
      have : cntN a f = cntN a (fun j => f j && j != a) := cnt_congr fun i hi => by
        have : (i != a) = true := by simp; omega
        rw [this, Bool.and_true]
      omega
    · rw [ih (by omega)]
      have : (m != a) = true := by simp; omega
      rw [this, Bool.and_true]; omega
theorem cnt_inj : ∀ (n : Nat) (f : Nat → Bool) (m : Nat) (g : Nat → Bool) (φ : Nat → Nat), (∀ i, i < n → f i = true → φ i < m ∧ g (φ i) = true) →
    (∀ i j, i < n → j < n → f i = true → f j = true → φ i = φ j → i = j) → cntN n f ≤ cntN m g
  | 0, _, _, _, _, _, _ => Nat.zero_le _
  | n + 1, f, m, g, φ, h1, h2 => by
    rw [cntN]
    by_cases c : f n = true
    · rw [if_pos c]
      obtain ⟨a1, a2⟩ := h1 n (by omega) c
      rw [cnt_drop a1 a2]
      refine Nat.succ_le_succ (cnt_inj n f m _ φ (fun i hi hf => ?_) (fun i j hi hj => h2 i j (by omega) (by omega)))
      obtain ⟨b1, b2⟩ := h1 i (by omega) hf
      refine ⟨b1, ?_⟩
      have : (φ i != φ n) = true := by
        simp only [bne_iff_ne]
        intro e
        have := h2 i n (by omega) (by omega) hf c e
        omega
      rw [b2, this]; rfl
    · rw [if_neg c]
      exact cnt_inj n f m g φ (fun i hi => h1 i (by omega)) (fun i j hi hj => h2 i j (by omega) (by omega))
def vec (P n k : Nat) : Int := ((n / P ^ k % P : Nat) : Int)
def num (P : Nat) : Nat → (Nat → Int) → Nat
  | 0, _ => 0
  | c + 1, x => (x 0 % P).toNat + P * num P c (fun k => x (k + 1))
theorem vec_in {P : Nat} (h : 0 < P) (n k : Nat) : In P (vec P n k) := ⟨Int.natCast_nonneg _, by unfold vec; have := Nat.mod_lt (n / P ^ k) h; omega⟩
theorem num_lt {P : Nat} (h : 0 < P) : ∀ (c : Nat) (x : Nat → Int), num P c x < P ^ c
  | 0, _ => by simp [num]
  | c + 1, x => by
    have ih := num_lt h c (fun k => x (k + 1))
    have h1 := Int.emod_nonneg (x 0) (show (P : Int) ≠ 0 by omega)
    have h2 := Int.emod_lt_of_pos (x 0) (show (0 : Int) < P by omega)
    rw [num, Nat.pow_succ]
    have h3 : P * num P c (fun k => x (k + 1)) + P ≤ P * P ^ c := by rw [← Nat.mul_succ]; exact Nat.mul_le_mul_left P ih
    rw [Nat.mul_comm (P ^ c)]
    omega
theorem num_congr {P : Nat} : ∀ (c : Nat) {x y : Nat → Int}, (∀ k, k < c → x k % P = y k % P) → num P c x = num P c y
  | 0, _, _, _ => rfl
  | c + 1, x, y, h => by rw [num, num, h 0 (by omega), num_congr c fun k hk => h (k + 1) (by omega)]
theorem vec_num {P : Nat} (h : 0 < P) : ∀ (c : Nat) (x : Nat → Int) (k : Nat), k < c → vec P (num P c x) k = x k % P
  | 0, _, _, hk => by omega
  | c + 1, x, k, hk => by
    have h1 := Int.emod_nonneg (x 0) (show (P : Int) ≠ 0 by omega)
    have h2 := Int.emod_lt_of_pos (x 0) (show (0 : Int) < P by omega)
    have h3 : (x 0 % P).toNat < P := by omega
    rw [num]
    cases k with
    | zero =>
      unfold vec
      rw [Nat.pow_zero, Nat.div_one, Nat.add_mul_mod_self_left, Nat.mod_eq_of_lt h3]; omega
    | succ k =>
      have ih := vec_num h c (fun k => x (k + 1)) k (by omega)
      rw [← ih]
      unfold vec
      rw [Nat.pow_succ, Nat.mul_comm (P ^ k) P, ← Nat.div_div_eq_div_mul, Nat.add_mul_div_left _ _ h, Nat.div_eq_of_lt h3, Nat.zero_add]
theorem num_vec {P : Nat} (h : 0 < P) : ∀ (c n : Nat), n < P ^ c → num P c (vec P n) = n
  | 0, n, hn => by simp at hn; subst hn; rfl
  | c + 1, n, hn => by
    rw [num]
    have e : (fun k => vec P n (k + 1)) = vec P (n / P) := by
      funext k; unfold vec; rw [Nat.pow_succ, Nat.mul_comm, ← Nat.div_div_eq_div_mul]
    have h0 : (vec P n 0 % P).toNat = n % P := by
      unfold vec; rw [Nat.pow_zero, Nat.div_one]; 
      have := Nat.mod_lt n h
      rw [Int.emod_eq_of_lt (by omega) (by omega)]; omega
    rw [e, h0, num_vec h c (n / P) (by rw [Nat.pow_succ, Nat.mul_comm] at hn; exact (Nat.div_lt_iff_lt_mul h).2 (by rw [Nat.mul_comm]; exact hn)), Nat.mod_add_div]
theorem vec_inj {P c m n : Nat} (h : 0 < P) (hm : m < P ^ c) (hn : n < P ^ c) (he : ∀ k, k < c → vec P m k % P = vec P n k % P) : m = n := by
  rw [← num_vec h c m hm, ← num_vec h c n hn, num_congr c he]
theorem num_inj {P c : Nat} {x y : Nat → Int} (h : 0 < P) (he : num P c x = num P c y) : ∀ k, k < c → x k % P = y k % P := fun k hk => by
  rw [← vec_num h c x k hk, ← vec_num h c y k hk, he]
section
variable {P R C r : Nat} {A : Mx} {rw cw : Nat → Nat} {c u : Mx}
theorem div_pair {a b N : Nat} (hb : b < N) : (a * N + b) / N = a ∧ (a * N + b) % N = b := by
  have hN : 0 < N := by omega
  refine ⟨?_, ?_⟩
  · rw [Nat.add_comm, Nat.add_mul_div_right _ _ hN, Nat.div_eq_of_lt hb, Nat.zero_add]
  · rw [Nat.add_comm, Nat.add_mul_mod_self_right, Nat.mod_eq_of_lt hb]
theorem Cp.kcnt (hP : Prm P) (H : Cp P R C r A rw cw c u) {f : Nat → Bool} (hf : ∀ n, n < P ^ C → (f n = true ↔ ∀ i, i < R → apX C A (vec P n) i % P = 0)) : P ^ r * cntN (P ^ C) f = P ^ C := by
  have p0 : 0 < P := by have := hP.1; omega
  have N0 : 0 < P ^ C := Nat.pow_pos p0
  have hs : ∀ z : Nat → Int, ∃ x : Nat → Int, ∀ k, k < r → apX C u x k % P = z k % P := fun z => by
    obtain ⟨x, _, h⟩ := H.usolve hP z (fun _ => 0); exact ⟨x, h⟩
  let s : Nat → Nat → Int := fun y => Classical.choose (hs (vec P y))
  have ss : ∀ y k, k < r → apX C u (s y) k % P = vec P y k % P := fun y => Classical.choose_spec (hs (vec P y))
  have hk : ∀ n, n < P ^ C → (f n = true ↔ ∀ k, k < r → apX C u (vec P n) k % P = 0) := fun n hn => (hf n hn).trans H.ker
  refine Nat.le_antisymm ?_ ?_
  · rw [← cnt_mul]
    refine Nat.le_trans ?_ (Nat.le_of_eq (cnt_all (n := P ^ C) (f := fun _ => true) fun _ _ => rfl))
    refine cnt_inj _ _ _ _ (fun q => num P C (fun j => vec P (q % P ^ C) j + s (q / P ^ C) j)) (fun q _ _ => ⟨num_lt p0 _ _, rfl⟩) (fun q q' hq hq' fq fq' he => ?_)
    have e1 := num_inj p0 he
    have hy : q / P ^ C < P ^ r := (Nat.div_lt_iff_lt_mul N0).2 hq
    have hy' : q' / P ^ C < P ^ r := (Nat.div_lt_iff_lt_mul N0).2 hq'
    have k1 := (hk _ (Nat.mod_lt q N0)).1 fq
    have k2 := (hk _ (Nat.mod_lt q' N0)).1 fq'
    have ey : q / P ^ C = q' / P ^ C := by
      refine vec_inj p0 hy hy' fun k hk => ?_
      have e2 := apX_mod (A := u) e1 k
      rw [apX_add, apX_add, Int.add_emod, k1 k hk, ss _ k hk, Int.add_emod (apX C u (vec P (q' % P ^ C)) k), k2 k hk, ss _ k hk] at e2
      simpa using e2
    have en : q % P ^ C = q' % P ^ C := by
      refine vec_inj p0 (Nat.mod_lt _ N0) (Nat.mod_lt _ N0) fun k hk => ?_
      have e3 := e1 k hk
      simp only [ey] at e3
      have := em_sub e3 (rfl : s (q' / P ^ C) k % P = s (q' / P ^ C) k % P)
      simpa using this
    rw [← Nat.div_add_mod q (P ^ C), ← Nat.div_add_mod q' (P ^ C), ey, en]
  · rw [← cnt_mul]
    have : P ^ C = cntN (P ^ C) (fun _ => true) := (cnt_all fun _ _ => rfl).symm
    refine Nat.le_trans (Nat.le_of_eq this) ?_
    have ny : ∀ n, num P r (apX C u (vec P n)) < P ^ r := fun n => num_lt p0 _ _
    have nx : ∀ x, num P C x < P ^ C := fun x => num_lt p0 _ _
    refine cnt_inj _ _ _ _ (fun n => num P r (apX C u (vec P n)) * P ^ C + num P C (fun j => vec P n j - s (num P r (apX C u (vec P n))) j)) (fun n hn _ => ⟨?_, ?_⟩) (fun n n' hn hn' _ _ he => ?_)
    · have h1 := ny n
      have h2 := nx (fun j => vec P n j - s (num P r (apX C u (vec P n))) j)
      have h3 : num P r (apX C u (vec P n)) * P ^ C + P ^ C ≤ P ^ r * P ^ C := by rw [← Nat.succ_mul]; exact Nat.mul_le_mul_right _ h1
      omega
    · rw [(div_pair (nx _)).2, hk _ (nx _)]
      intro k hk
      have e1 : ∀ j, j < C → vec P (num P C (fun j => vec P n j - s (num P r (apX C u (vec P n))) j)) j % P = (vec P n j - s (num P r (apX C u (vec P n))) j) % P := fun j hj => by
        rw [vec_num p0 _ _ _ hj, Int.emod_emod_of_dvd _ (Int.dvd_refl _)]
      rw [apX_mod e1, apX_sub, Int.sub_emod, ss _ k hk, vec_num p0 _ _ _ hk, Int.emod_emod_of_dvd _ (Int.dvd_refl _), Int.sub_self]; rfl
    · have ey : num P r (apX C u (vec P n)) = num P r (apX C u (vec P n')) := by rw [← (div_pair (a := num P r (apX C u (vec P n))) (nx _)).1, he, (div_pair (nx _)).1]
      have en := (div_pair (a := num P r (apX C u (vec P n))) (nx (fun j => vec P n j - s (num P r (apX C u (vec P n))) j))).2
      rw [he, (div_pair (nx _)).2, ey] at en
      refine vec_inj p0 hn hn' fun k hk => ?_
      have e3 := num_inj p0 en.symm k hk
      have := em_add e3 (rfl : s (num P r (apX C u (vec P n'))) k % P = s (num P r (apX C u (vec P n'))) k % P)
      simpa using this
end
end Go.Proofs.Ytmalpmnmknpphaa.TM
namespace Go.Proofs.Ytmalpmnmknpphaa.TM
open Go Go.RowKit
def updr (A : Mx) (k : Nat) (u : Nat → Int) : Mx := fun i j => if i = k then u j else A i j
theorem updr_id (A : Mx) (k : Nat) : updr A k (A k) = A := by funext i j; unfold updr; split <;> simp_all
structure Alt (p : Int) (n : Nat) (F : Mx → Int) : Prop where
  cg : ∀ A B : Mx, (∀ i j, i < n → j < n → A i j % p = B i j % p) → F A % p = F B % p
  lin : ∀ (A : Mx) (i : Nat) (u v : Nat → Int) (c : Int), i < n → F (updr A i (fun j => u j + c * v j)) = F (updr A i u) + c * F (updr A i v)
  adj : ∀ (A : Mx) (i : Nat), i + 1 < n → A i = A (i + 1) → F A = 0
theorem Alt.add {p : Int} {n : Nat} {F : Mx → Int} (H : Alt p n F) (A : Mx) {i : Nat} (u v : Nat → Int) (hi : i < n) : F (updr A i (fun j => u j + v j)) = F (updr A i u) + F (updr A i v) := by
  have := H.lin A i u v 1 hi
  simpa using this
theorem Alt.scale {p : Int} {n : Nat} {F : Mx → Int} (H : Alt p n F) (A : Mx) {i : Nat} (v : Nat → Int) (c : Int) (hi : i < n) : F (updr A i (fun j => c * v j)) = c * F (updr A i v) := by
  have h1 := H.lin A i (fun _ => 0) v c hi
  have h2 := H.lin A i (fun _ => 0) (fun _ => 0) 1 hi
  simp at h1 h2
  omega
theorem Alt.zero {p : Int} {n : Nat} {F : Mx → Int} (H : Alt p n F) (A : Mx) {i : Nat} (hi : i < n) (h0 : ∀ j, A i j = 0) : F A = 0 := by
  have h := H.scale A (A i) 0 hi
  rw [Int.zero_mul] at h
  rw [← updr_id A i, ← h]
  congr 2
  funext j
  rw [h0, Int.mul_zero]
def mulX (m : Nat) (A B : Mx) : Mx := fun i j => sumN m (fun k => A i k * B k j)
end Go.Proofs.Ytmalpmnmknpphaa.TM
namespace Go.Proofs.Ytmalpmnmknpphaa.TM
open Go Go.RowKit
def nx (l : List Int) (a : Int) : Int := l.getD a.toNat 0
end Go.Proofs.Ytmalpmnmknpphaa.TM
namespace Go.Proofs.Ytmalpmnmknpphaa.TM
open Go Go.RowKit
theorem em_refl {p a : Int} : a % p % p = a % p := Int.emod_emod_of_dvd _ (Int.dvd_refl _)
section
variable {P n r : Nat} {A : Mx} {rw cw : Nat → Nat} {c u : Mx} {F : Mx → Int}
end
end Go.Proofs.Ytmalpmnmknpphaa.TM
namespace Go.Proofs.Ytmalpmnmknpphaa.TM
open Go Go.RowKit
def Rk (P R C r : Nat) (A : Mx) : Prop := ∃ rw cw c u, Cp P R C r A rw cw c u
section
variable {P R C D S r s t : Nat} {A B : Mx}
theorem pow_le {P a b : Nat} (hP : Prm P) (h : P ^ a ≤ P ^ b) : a ≤ b := (Nat.pow_le_pow_iff_right hP.1).1 h
noncomputable def kB (P R C : Nat) (A : Mx) : Nat → Bool := fun n => by classical exact decide (∀ i, i < R → apX C A (vec P n) i % P = 0)
theorem kB_iff (n : Nat) : kB P R C A n = true ↔ ∀ i, i < R → apX C A (vec P n) i % P = 0 := by unfold kB; simp
theorem Rk.kc (hP : Prm P) (H : Rk P R C r A) : P ^ r * cntN (P ^ C) (kB P R C A) = P ^ C := by
  obtain ⟨_, _, _, _, H⟩ := H
  exact H.kcnt hP fun n _ => kB_iff n
theorem Rk.le_cols (hP : Prm P) (H : Rk P R C r A) : r ≤ C := by
  have h := H.kc hP
  have p0 : 0 < P := by have := hP.1; omega
  refine pow_le hP ?_
  have : 0 < cntN (P ^ C) (kB P R C A) := by
    rcases Nat.eq_zero_or_pos (cntN (P ^ C) (kB P R C A)) with e | e
    · rw [e, Nat.mul_zero] at h; have := Nat.pow_pos (n := C) p0; omega
    · exact e
  rw [← h]; exact Nat.le_mul_of_pos_right _ this
theorem apX_mul (K C : Nat) (A B : Mx) (x : Nat → Int) (i : Nat) : apX C (mulX K A B) x i = apX K A (apX C B x) i := by
  unfold apX mulX
  rw [sumN_congr fun k _ => (sumN_mul C (A i k) (fun j => B k j * x j)).symm, sumN_swap]
  refine sumN_congr fun j _ => ?_
  rw [← sumN_mulr]
  exact sumN_congr fun k _ => by rw [Int.mul_assoc]
end
section
variable {P n r : Nat} {A B : Mx} {rw cw : Nat → Nat} {c u : Mx}
end
end Go.Proofs.Ytmalpmnmknpphaa.TM
namespace Go.Proofs.Ytmalpmnmknpphaa.TM
open Go Go.RowKit
attribute [local irreducible] K W WOps Effs Xg Xo Xr Xdg Xdo Xdr Xif CallsP CallR
theorem noVar_drop {b : Name} {h : Heap} {bs : List Name} (h1 : noVar b h) : noVar b (h.drop bs) := fun c cs hc => h1 c cs (drop_some hc)
def padF (r : Nat) (x : List Int) : List Int := x ++ List.replicate (r - x.length) 0
abbrev llP (L : List (List Int)) : PV := .i (.l L.length (L.map fun u => .l u.length (u.map iu)))
abbrev CupT := List Int × List Int × List (List Int) × List (List Int)
abbrev cupQ (c : CupT) : PV := .agg [li c.1, li c.2.1, llP c.2.2.1, llP c.2.2.2]
def tkCup (p : Int) (C R : Nat) (l : List Int) : CupT := ((tkN p C l R).rows, (tkN p C l R).cols, (tkN p C l R).cs.map (padF (tkN p C l R).us.length), (tkN p C l R).us)
def takeR (p r c : Int) (l : List Int) : CupT × Int := if MatB p r c l then (tkCup p c.toNat r.toNat l, 0) else (([], [], [], []), 1)
def fP (T : Tk) (i d k : Nat) : List Int := if k < i then padF T.us.length (csF T k) else if k = i then csF T k ++ List.replicate d 0 else csF T k
theorem mat_walk_no {P : Int} {r c : Int} {l : List Int} (hl : l.length ≤ maxLen) (h : MatB P r c l = false) : CallsP Try.prog 47 [u64 P, matP r c l] (.tup [cupQ ([], [], [], []), i64 1]) := by
  have q1 := mright_walk P r c l hl
  rw [h] at q1
  refine X_startP (n := 87) (m := 2) (rs := [.cell 4 55, .tmp 5]) Try.func47 rfl rfl rfl rfl (by decide) fun base => ?_
  repeat (first | ((first | refine X_call_fn2 rfl (by simp only [tys]) ?_ | refine X_dcall_fn2 rfl (by simp only [tys]) ?_); apply Exists.intro; apply And.intro; (focus (simp -dsimp only [simx, zzC, zzB, tys, ite_self, opnL, callB, callX, readsB, stepOp, nilCmp, ofVal, opBuiltin, opLen, PV.sk, scalBin, scalUn, intBin, opLoad, natOf, opConvert, opField, cellsP, oneP, Value.oneCell', opStore, toIV, scalT, scalA, scalC, boxesA, boxesC, zipB_none, zipB_mx, isZ, opZip, zeroP, opAppendZ, opMakeMap, opLookup, mboxB, opUpdate, ↓reduceIte, Nat.reduceSub, Nat.reduceEqDiff, Nat.reduceAdd, Nat.reduceMul, Nat.reduceLT, Nat.reduceLeDiff, Int.reduceToNat, Int.reduceLE, Int.reduceLT, Int.reduceNeg, reduceCtorEq, zzL, if_true, if_false] <;> rfl)); apply Exists.intro; apply And.intro; (focus (first | exact q1))) | refine X_opc rfl ?_ | refine X_dopc rfl ?_ | refine ⟨(by show drawK _ _ = true; kernel_rfl : drawX _ _ _), ?_⟩ | exact (by show drawK _ _ = true; kernel_rfl : drawX _ _ _) | simp -dsimp (maxSteps := 20000000) (disch := omega) only [simx, zzC, zzB, tys, ite_self, opnL, callB, callX, readsB, stepOp, nilCmp, ofVal, opBuiltin, opLen, PV.sk, scalBin, scalUn, intBin, opLoad, natOf, opConvert, opField, cellsP, oneP, Value.oneCell', opStore, toIV, scalT, scalA, scalC, boxesA, boxesC, zipB_none, zipB_mx, isZ, opZip, zeroP, opAppendZ, opMakeMap, opLookup, mboxB, opUpdate, ↓reduceIte, Nat.reduceSub, Nat.reduceEqDiff, Nat.reduceAdd, Nat.reduceMul, Nat.reduceLT, Nat.reduceLeDiff, Int.reduceToNat, Int.reduceLE, Int.reduceLT, Int.reduceNeg, reduceCtorEq, zzR, gos, Int.reduceAdd, Int.reduceSub, Int.reduceMul, Int.reduceEq])
  rfl
theorem rowsX_zero (b : Name) (f : Nat → List Int) (c : Name) : rowsX b f 0 c = none := by
  unfold rowsX
  split
  · exact if_neg (by omega)
  · rfl
theorem tkH_T (base : Name) (P R C i : Nat) (l : List Int) (T : Tk) (f : Nat → List Int) : tkH base P R C i l T f ((3, 2) :: base) = some (.var [rowP ((16, 11) :: (7, 14) :: base) 1 T.us.length (T.rows.map ii), rowP ((16, 19) :: (7, 14) :: base) 1 T.us.length (T.cols.map ii), clmP ((10, 8) :: (7, 14) :: base) i, rowP ((16, 27) :: (7, 14) :: base) 1 T.us.length (T.us.map (lv C)), u64 P, rowP ((16, 34) :: (7, 14) :: base) 1 T.us.length (T.vs.map iu)]) := by
  have ne1 : ∀ x : Nat × Nat, base ≠ x :: base := base_ne base
  have ne2 : ∀ x : Nat × Nat, x :: base ≠ base := fun x h => base_ne base x h.symm
  simp [tkH, rowH_app, rowsH, rowsX, ne1, ne2]
theorem tkH_0 (base : Name) (P R C i : Nat) (l : List Int) (T : Tk) (f : Nat → List Int) : tkH base P R C i l T f ((0, 0) :: base) = some (.var [i64 R, i64 C, lu l]) := by
  have ne1 : ∀ x : Nat × Nat, base ≠ x :: base := base_ne base
  have ne2 : ∀ x : Nat × Nat, x :: base ≠ base := fun x h => base_ne base x h.symm
  simp [tkH, rowH_app, rowsH, rowsX, ne1, ne2, mtB]
theorem tkH_1 (base : Name) (P R C i : Nat) (l : List Int) (T : Tk) (f : Nat → List Int) : tkH base P R C i l T f ((0, 1) :: base) = some (.var [nilP, nilP, nilP, nilP]) := by
  have ne1 : ∀ x : Nat × Nat, base ≠ x :: base := base_ne base
  have ne2 : ∀ x : Nat × Nat, x :: base ≠ base := fun x h => base_ne base x h.symm
  simp [tkH, rowH_app, rowsH, rowsX, ne1, ne2, mtB]
theorem tkH_C (base : Name) (P R C i : Nat) (l : List Int) (T : Tk) (f : Nat → List Int) : tkH base P R C i l T f ((10, 8) :: (7, 14) :: base) = clmB i (crowsL ((7, 14) :: base) f i) := by
  have ne1 : ∀ x : Nat × Nat, base ≠ x :: base := base_ne base
  have ne2 : ∀ x : Nat × Nat, x :: base ≠ base := fun x h => base_ne base x h.symm
  simp [tkH, rowH_app, rowsH, rowsX, ne1, ne2, mtB]
theorem tkH_upd {base : Name} {P R C i : Nat} {l : List Int} {T : Tk} {f g : Nat → List Int} (hi : i < R) (hg : ∀ m, m ≠ i → g m = f m) (hx : (g i).length ≠ 0) :
    ((tkH base P R C R l T f).put ((900, i) :: (7, 14) :: base) (.row false ((g i).map iu))).put ((10, 8) :: (7, 14) :: base) (.var (crowsL ((7, 14) :: base) g R)) = tkH base P R C R l T g := by
  have ne1 : ∀ x : Nat × Nat, base ≠ x :: base := base_ne base
  have ne2 : ∀ x : Nat × Nat, x :: base ≠ base := fun x h => base_ne base x h.symm
  funext c
  unfold tkH
  simp only [Heap.put_at, rowH_app, rowsH]
  by_cases e1 : c = (10, 8) :: (7, 14) :: base
  · subst e1
    simp [rowsX, clmB, ne1, ne2]; omega
  by_cases e2 : c = (900, i) :: (7, 14) :: base
  · subst e2
    rw [rowsX_at hi hx]
    simp
  simp only [e1, e2, if_false]
  rw [rowsX_ne (i := i) (g := g) (m := R) e2 (fun k hk => (hg k hk).symm) (fun _ _ => Iff.rfl)]
theorem low_row {h : Heap} {s : Name} {n : Nat} {cs : List IV} (hn : cs.length = n) (hs : n ≠ 0 → h s = some (.row false cs)) : lowerCN h (rowP s 1 n cs) = some (.i (.l n cs)) := by
  rw [← lower_row (h := h) (s := s) (z := 1) (n := n) (cs := cs) (by omega) hs]
  unfold rowP
  split
  · rfl
  · rename_i h0
    show (match h s with | some (.var cs) => _ | _ => _) = _
    rw [hs h0]
theorem mapO_list {α β γ : Type} {g : β → α} {f : α → Option γ} {k : β → γ} : ∀ {l : List β}, (∀ x ∈ l, f (g x) = some (k x)) → mapO f (l.map g) = some (l.map k)
  | [], _ => rfl
  | x :: l, h => by
    rw [List.map_cons, mapO, h x (by simp), mapO_list (l := l) fun y hy => h y (by simp [hy])]
    rfl
theorem low_col {h : Heap} {s b : Name} {n : Nat} {f : Nat → List Int} (h0 : 0 < n) (hs : h s = some (.var (crowsL b f n))) (hr : ∀ k, k < n → (f k).length ≠ 0 → h ((900, k) :: b) = some (.row false ((f k).map iu))) :
    lowerCN h (.view s 0 1 n n) = some (.i (.l n ((List.range n).map fun k => .l (f k).length ((f k).map iu)))) := by
  have hm : mapO (lowerJ h) (crowsL b f n) = some ((List.range n).map fun k => IV.l (f k).length ((f k).map iu)) := by
    unfold crowsL
    refine mapO_list fun k hk => ?_
    have hk := List.mem_range.1 hk
    unfold lowerJ rowN
    rw [lower_row (by simp) (fun h1 => hr k hk h1)]
  show (match h s with | some (.var cs) => _ | _ => _) = _
  rw [hs]
  simp only [crowsL_len, Nat.mul_one, Nat.zero_add, Nat.le_refl, and_self, if_true, List.drop_zero]
  rw [List.take_of_length_le (by rw [crowsL_len]; exact Nat.le_refl _), hm]
  rfl
theorem low_cup {h : Heap} {nR nQ nC nU b : Name} {n R C : Nat} {rows cols : List Int} {us : List (List Int)} {f : Nat → List Int} (hr : rows.length = n) (hq : cols.length = n) (hu : us.length = n)
    (h1 : n ≠ 0 → h nR = some (.row false (rows.map ii))) (h2 : n ≠ 0 → h nQ = some (.row false (cols.map ii))) (h3 : n ≠ 0 → h nU = some (.row false (us.map (lv C)))) (h0 : 0 < R) (hs : h nC = some (.var (crowsL b f R)))
    (hf : ∀ k, k < R → (f k).length ≠ 0 → h ((900, k) :: b) = some (.row false ((f k).map iu))) (hul : ∀ u ∈ us, u.length = C) :
    lowerTN h (.tup [.agg [rowP nR 1 n (rows.map ii), rowP nQ 1 n (cols.map ii), .view nC 0 1 R R, rowP nU 1 n (us.map (lv C))], i64 0]) = some (.tup [cupQ (rows, cols, (List.range R).map f, us), i64 0]) := by
  have e1 := low_row (h := h) (s := nR) (n := n) (cs := rows.map ii) (by simp [hr]) h1
  have e2 := low_row (h := h) (s := nQ) (n := n) (cs := cols.map ii) (by simp [hq]) h2
  have e3 := low_row (h := h) (s := nU) (n := n) (cs := us.map (lv C)) (by simp [hu]) h3
  have e4 := low_col h0 hs hf
  have e5 : us.map (lv C) = us.map fun u => IV.l u.length (u.map iu) := List.map_congr_left fun u hm => by rw [hul u hm]
  simp only [lowerTN, lowerAN, mapO, e1, e2, e3, e4, Option.map_some]
  simp [lowerAN, lowerCN, lowerC, cupQ, llP, hr, hq, hu, e5, List.map_map, Function.comp_def]
theorem fP_cs {p : Int} {T : Tk} {C R : Nat} (I : TkI p C R T) : (List.range R).map (fP T R 0) = T.cs.map (padF T.us.length) := by
  apply List.ext_getElem?
  intro k
  rw [List.getElem?_map, List.getElem?_map]
  by_cases h : k < R
  · rw [List.getElem?_range h, List.getElem?_eq_getElem (by rw [I.cl]; exact h)]
    show some (fP T R 0 k) = some _
    unfold fP csF
    rw [if_pos h, List.getD_eq_getElem?_getD, List.getElem?_eq_getElem (by rw [I.cl]; exact h)]; rfl
  · rw [List.getElem?_eq_none (by simp; omega), List.getElem?_eq_none (by rw [I.cl]; omega)]; rfl
theorem fP_zero (T : Tk) : fP T 0 0 = csF T := by
  funext k; unfold fP
  by_cases h : k = 0
  · subst h; simp
  · rw [if_neg (by omega), if_neg h]
theorem fP_full {T : Tk} {i : Nat} : fP T i (T.us.length - (csF T i).length) = fP T (i + 1) 0 := by
  funext k; unfold fP
  by_cases h : k < i
  · rw [if_pos h, if_pos (by omega)]
  · by_cases e : k = i
    · subst e; rw [if_neg (by omega), if_pos rfl, if_pos (by omega)]; rfl
    · by_cases d : k = i + 1
      · subst d; rw [if_neg (by omega), if_neg (by omega), if_neg (by omega), if_pos rfl]; simp
      · rw [if_neg h, if_neg e, if_neg (by omega), if_neg d]
theorem fP_at {T : Tk} {i d : Nat} : fP T i d i = csF T i ++ List.replicate d 0 := by unfold fP; rw [if_neg (by omega), if_pos rfl]
theorem fP_ne {T : Tk} {i d k : Nat} (h : k ≠ i) : fP T i (d + 1) k = fP T i d k := by unfold fP; rw [if_neg h, if_neg h]
structure TkHp (h : Heap) (base : Name) (R C : Nat) (T : Tk) : Prop where
  r : T.us.length ≠ 0 → h ((16, 11) :: (7, 14) :: base) = some (.row false (T.rows.map ii))
  q : T.us.length ≠ 0 → h ((16, 19) :: (7, 14) :: base) = some (.row false (T.cols.map ii))
  u : T.us.length ≠ 0 → h ((16, 27) :: (7, 14) :: base) = some (.row false (T.us.map (lv C)))
  c : h ((10, 8) :: (7, 14) :: base) = some (.var (crowsL ((7, 14) :: base) (fP T R 0) R))
  f : ∀ k, k < R → (fP T R 0 k).length ≠ 0 → h ((900, k) :: (7, 14) :: base) = some (.row false ((fP T R 0 k).map iu))
set_option maxHeartbeats 4000000 in
theorem take_run {P R C : Nat} {l : List Int} (hP : Prm P) (M : Mt P R C l) (hin : ∀ a ∈ l, In P a) (base : Name) {T : Tk} (hT : tkN P C l R = T) : ∃ hu, CallR Try.prog base 47 [u64 P, matP R C l] Heap.none (.tup [.agg [rowP ((16, 11) :: (7, 14) :: base) 1 T.us.length (T.rows.map ii), rowP ((16, 19) :: (7, 14) :: base) 1 T.us.length (T.cols.map ii), clmP ((10, 8) :: (7, 14) :: base) R, rowP ((16, 27) :: (7, 14) :: base) 1 T.us.length (T.us.map (lv C))], i64 0]) hu ∧ TkHp hu base R C T := by
  have q1 := mright_walk P R C l (by have := M.len; have := rc_bd M.r2 M.c2; rw [mx_len]; omega)
  rw [mat_mk M] at q1
  have I := tkN_I hP M hin R (Nat.le_refl R)
  rw [hT] at I
  have r1 := M.r1
  have r2 := M.r2
  have c1 := M.c1
  have c2 := M.c2
  have ne1 : ∀ x : Nat × Nat, base ≠ x :: base := base_ne base
  have ne2 : ∀ x : Nat × Nat, x :: base ≠ base := fun x h => base_ne base x h.symm
  refine X_startE (n := 87) (m := 2) (rs := [.cell 4 55, .tmp 5]) Try.func47 rfl rfl rfl rfl (by decide) ?_
  repeat (first | ((first | refine X_call_fn2 rfl (by simp only [tys]) ?_ | refine X_dcall_fn2 rfl (by simp only [tys]) ?_); apply Exists.intro; apply And.intro; (focus (simp -dsimp only [simx, zzC, zzB, tys, ite_self, opnL, callB, callX, readsB, stepOp, nilCmp, ofVal, opBuiltin, opLen, PV.sk, scalBin, scalUn, intBin, opLoad, natOf, opConvert, opField, cellsP, oneP, Value.oneCell', opStore, toIV, scalT, scalA, scalC, boxesA, boxesC, zipB_none, zipB_mx, isZ, opZip, zeroP, opAppendZ, opMakeMap, opLookup, mboxB, opUpdate, ↓reduceIte, Nat.reduceSub, Nat.reduceEqDiff, Nat.reduceAdd, Nat.reduceMul, Nat.reduceLT, Nat.reduceLeDiff, Int.reduceToNat, Int.reduceLE, Int.reduceLT, Int.reduceNeg, reduceCtorEq, zzL, if_true, if_false] <;> rfl)); apply Exists.intro; apply And.intro; (focus (first | exact q1))) | refine X_opc rfl ?_ | refine X_dopc rfl ?_ | refine ⟨(by show drawK _ _ = true; kernel_rfl : drawX _ _ _), ?_⟩ | exact (by show drawK _ _ = true; kernel_rfl : drawX _ _ _) | simp -dsimp (maxSteps := 20000000) (disch := omega) only [simx, zzC, zzB, tys, ite_self, opnL, callB, callX, readsB, stepOp, nilCmp, ofVal, opBuiltin, opLen, PV.sk, scalBin, scalUn, intBin, opLoad, natOf, opConvert, opField, cellsP, oneP, Value.oneCell', opStore, toIV, scalT, scalA, scalC, boxesA, boxesC, zipB_none, zipB_mx, isZ, opZip, zeroP, opAppendZ, opMakeMap, opLookup, mboxB, opUpdate, ↓reduceIte, Nat.reduceSub, Nat.reduceEqDiff, Nat.reduceAdd, Nat.reduceMul, Nat.reduceLT, Nat.reduceLeDiff, Int.reduceToNat, Int.reduceLE, Int.reduceLT, Int.reduceNeg, reduceCtorEq, gos, Int.reduceAdd, Int.reduceSub, Int.reduceMul, Int.reduceEq])
  refine X_loopH [3, 4, 6, 18, 19] [(1, 1) :: (7, 14) :: base, (8, 2) :: (7, 14) :: base, (10, 7) :: (7, 14) :: base, (15, 7) :: (7, 14) :: base, (16, 10) :: (7, 14) :: base, (16, 18) :: (7, 14) :: base, (16, 26) :: (7, 14) :: base, (16, 33) :: (7, 14) :: base] (0) (R) (fun j => True) (fun j => [(18, i64 R), (19, i64 j)]) (fun j => tkH base P R C j l (tkN P C l j) (csF (tkN P C l j))) ?_ ?_ ?_ ?_ ?_ (by decide) ?_
  · intro b hb
    simp only [List.mem_cons, List.not_mem_nil, or_false] at hb
    rcases hb with rfl | rfl | rfl | rfl | rfl | rfl | rfl | rfl
    all_goals (refine ⟨rfl, ?_, noVar_drop (noVar_var (noVar_var (noVar_var (noVar_none _) (by simp [refsL, refsP])) (by simp [refsL, refsP])) (by simp [refsL, refsP]))⟩; show NotIn _ _ _; simp -dsimp only [zzB, tys, ite_self, opnL, callB, callX, readsB, stepOp, nilCmp, ofVal, opBuiltin, opLen, PV.sk, scalBin, scalUn, intBin, opLoad, natOf, opConvert, opField, cellsP, oneP, Value.oneCell', opStore, toIV, scalT, scalA, scalC, boxesA, boxesC, zipB_none, zipB_mx, isZ, opZip, zeroP, opAppendZ, opMakeMap, opLookup, mboxB, opUpdate, ↓reduceIte, Nat.reduceSub, Nat.reduceEqDiff, Nat.reduceAdd, Nat.reduceMul, Nat.reduceLT, Nat.reduceLeDiff, Int.reduceToNat, Int.reduceLE, Int.reduceLT, Int.reduceNeg, reduceCtorEq, gos, Int.reduceAdd, Int.reduceSub, Int.reduceMul, Int.reduceEq, simx, notIn_cons, notIn_nil]; simp [refsP, ne1, ne2])
  · ((simp -dsimp (disch := omega) only [simx, zzB, tys, ite_self, opnL, callB, callX, readsB, stepOp, nilCmp, ofVal, opBuiltin, opLen, PV.sk, scalBin, scalUn, intBin, opLoad, natOf, opConvert, opField, cellsP, oneP, Value.oneCell', opStore, toIV, scalT, scalA, scalC, boxesA, boxesC, zipB_none, zipB_mx, isZ, opZip, zeroP, opAppendZ, opMakeMap, opLookup, mboxB, opUpdate, ↓reduceIte, Nat.reduceSub, Nat.reduceEqDiff, Nat.reduceAdd, Nat.reduceMul, Nat.reduceLT, Nat.reduceLeDiff, Int.reduceToNat, Int.reduceLE, Int.reduceLT, Int.reduceNeg, reduceCtorEq, gos, Int.reduceAdd, Int.reduceSub, Int.reduceMul, Int.reduceEq]) <;> first | rfl | simp)
  · funext c
    have hz : ∀ c, rowsX ((7, 14) :: base) (csF (tkN P C l 0)) 0 c = none := rowsX_zero _ _
    have hl0 : crowsL ((7, 14) :: base) (csF (tkN P C l 0)) 0 = [] := rfl
    rw [Heap.drop_at]
    unfold tkH
    rw [hl0]
    simp only [tkN, rowH_app, rowsH, List.length_nil, if_true, List.map_nil, rowP_zero, clmP_zero, clmB, mtB]
    simp only [show csF ⟨[], [], [], [], []⟩ = csF (tkN P C l 0) from rfl, hz]
    simp only [Heap.put_at, Heap.none_at]
    by_cases e0 : c = (3, 2) :: base
    · subst e0; simp [ne1, ne2]
    by_cases e1 : c = (0, 1) :: base
    · subst e1; simp [ne1, ne2]
    by_cases e2 : c = (0, 0) :: base
    · subst e2; simp [ne1, ne2]
    simp [e0, e1, e2]
  · omega
  · trivial
  · intro j hj _
    by_cases cj : j < R
    · have b1 := ic_bd (c := C) cj
      have b2 := rc_bd r2 c2
      have rl := rowM_len M.len cj
      have ml := M.len
      have m1 : (j + 1) * C = j * C + C := Nat.succ_mul j C
      have f1 : IntKind.i64.wrap ((j : Int) * (C : Int)) = ((j * C : Nat) : Int) := by rw [← Int.natCast_mul]; exact iw_of (by omega) (by omega)
      have f2 : IntKind.i64.wrap (((j : Int) + 1) * (C : Int)) = ((j * C + C : Nat) : Int) := by
        rw [show ((j : Int) + 1) * (C : Int) = ((j * C + C : Nat) : Int) by rw [← m1]; push_cast; rfl]; exact iw_of (by omega) (by omega)
      have f3 : j * C + C - j * C = C := by omega
      have f4 : ((l.map iu).drop (j * C)).take C = (rowM C l j).map iu := by unfold rowM; rw [List.map_take, List.map_drop]
      have f5 : j * C ≤ j * C + C := by omega
      have f6 : j * C + C ≤ l.length := by omega
      have t0 := tkH_T base P R C j l (tkN P C l j) (csF (tkN P C l j))
      have t1 := tkH_0 base P R C j l (tkN P C l j) (csF (tkN P C l j))
      obtain ⟨h', k1, k2, k3⟩ := row_call (base := base) (R := R) (l := l) hP M.hp (tkN_I hP M hin j (by omega)) (fun a ha => hin a (rowM_mem ha)) rl (by omega) c2 (by omega)
      have tn : tkRow P (tkN P C l j) j (rowM C l j) = tkN P C l (j + 1) := rfl
      rw [tn] at k2
      generalize hh0 : tkH base P R C j l (tkN P C l j) (csF (tkN P C l j)) = h0 at t0 t1 k1
      clear M hin I hT
      repeat (first | refine X_opc rfl ?_ | refine X_dopc rfl ?_ | refine ⟨(by show drawK _ _ = true; kernel_rfl : drawX _ _ _), ?_⟩ | exact (by show drawK _ _ = true; kernel_rfl : drawX _ _ _) | simp -dsimp (maxSteps := 20000000) (disch := omega) only [simx, zzC, zzB, tys, ite_self, opnL, callB, callX, readsB, stepOp, nilCmp, ofVal, opBuiltin, opLen, PV.sk, scalBin, scalUn, intBin, opLoad, natOf, opConvert, opField, cellsP, oneP, Value.oneCell', opStore, toIV, scalT, scalA, scalC, boxesA, boxesC, zipB_none, zipB_mx, isZ, opZip, zeroP, opAppendZ, opMakeMap, opLookup, mboxB, opUpdate, ↓reduceIte, Nat.reduceSub, Nat.reduceEqDiff, Nat.reduceAdd, Nat.reduceMul, Nat.reduceLT, Nat.reduceLeDiff, Int.reduceToNat, Int.reduceLE, Int.reduceLT, Int.reduceNeg, reduceCtorEq, gos, Int.reduceAdd, Int.reduceSub, Int.reduceMul, Int.reduceEq, cj, t0, t1, f1, f2, f3, f4, f5, f6, List.length_map])
      refine X_call_sh rfl (by simp only [tys]) rfl k1 ?_
      repeat (first | refine X_opc rfl ?_ | refine X_dopc rfl ?_ | refine ⟨(by show drawK _ _ = true; kernel_rfl : drawX _ _ _), ?_⟩ | exact (by show drawK _ _ = true; kernel_rfl : drawX _ _ _) | simp -dsimp (maxSteps := 20000000) (disch := omega) only [simx, zzC, zzB, tys, ite_self, opnL, callB, callX, readsB, stepOp, nilCmp, ofVal, opBuiltin, opLen, PV.sk, scalBin, scalUn, intBin, opLoad, natOf, opConvert, opField, cellsP, oneP, Value.oneCell', opStore, toIV, scalT, scalA, scalC, boxesA, boxesC, zipB_none, zipB_mx, isZ, opZip, zeroP, opAppendZ, opMakeMap, opLookup, mboxB, opUpdate, ↓reduceIte, Nat.reduceSub, Nat.reduceEqDiff, Nat.reduceAdd, Nat.reduceMul, Nat.reduceLT, Nat.reduceLeDiff, Int.reduceToNat, Int.reduceLE, Int.reduceLT, Int.reduceNeg, reduceCtorEq, gos, Int.reduceAdd, Int.reduceSub, Int.reduceMul, Int.reduceEq])
      refine ⟨cj, ?_, rfl, k2⟩
      intro b hb
      have nvb := k3 b hb
      clear k1 k2 k3 hh0 t0 t1
      simp only [List.mem_cons, List.not_mem_nil, or_false] at hb
      rcases hb with rfl | rfl | rfl | rfl | rfl | rfl | rfl | rfl
      all_goals (refine ⟨rfl, ?_, noVar_drop nvb⟩; show NotIn _ _ _; simp -dsimp only [zzB, tys, ite_self, opnL, callB, callX, readsB, stepOp, nilCmp, ofVal, opBuiltin, opLen, PV.sk, scalBin, scalUn, intBin, opLoad, natOf, opConvert, opField, cellsP, oneP, Value.oneCell', opStore, toIV, scalT, scalA, scalC, boxesA, boxesC, zipB_none, zipB_mx, isZ, opZip, zeroP, opAppendZ, opMakeMap, opLookup, mboxB, opUpdate, ↓reduceIte, Nat.reduceSub, Nat.reduceEqDiff, Nat.reduceAdd, Nat.reduceMul, Nat.reduceLT, Nat.reduceLeDiff, Int.reduceToNat, Int.reduceLE, Int.reduceLT, Int.reduceNeg, reduceCtorEq, gos, Int.reduceAdd, Int.reduceSub, Int.reduceMul, Int.reduceEq, simx, notIn_cons, notIn_nil]; simp [refsP, ne1, ne2])
    · have ej : R = j := by omega
      subst ej
      rw [hT, ← fP_zero T]
      have t0 := fun i d => tkH_T base P R C R l T (fP T i d)
      have tC := fun i d => tkH_C base P R C R l T (fP T i d)
      have cp : clmP ((10, 8) :: (7, 14) :: base) R = .view ((10, 8) :: (7, 14) :: base) 0 1 R R := if_neg (by omega)
      have cb : ∀ L, clmB R L = some (.var L) := fun L => if_neg (by omega)
      simp only [cp] at t0
      simp only [cb] at tC
      repeat (first | refine X_opc rfl ?_ | refine X_dopc rfl ?_ | refine ⟨(by show drawK _ _ = true; kernel_rfl : drawX _ _ _), ?_⟩ | exact (by show drawK _ _ = true; kernel_rfl : drawX _ _ _) | simp -dsimp (maxSteps := 20000000) (disch := omega) only [simx, zzC, zzB, tys, ite_self, opnL, callB, callX, readsB, stepOp, nilCmp, ofVal, opBuiltin, opLen, PV.sk, scalBin, scalUn, intBin, opLoad, natOf, opConvert, opField, cellsP, oneP, Value.oneCell', opStore, toIV, scalT, scalA, scalC, boxesA, boxesC, zipB_none, zipB_mx, isZ, opZip, zeroP, opAppendZ, opMakeMap, opLookup, mboxB, opUpdate, ↓reduceIte, Nat.reduceSub, Nat.reduceEqDiff, Nat.reduceAdd, Nat.reduceMul, Nat.reduceLT, Nat.reduceLeDiff, Int.reduceToNat, Int.reduceLE, Int.reduceLT, Int.reduceNeg, reduceCtorEq, gos, Int.reduceAdd, Int.reduceSub, Int.reduceMul, Int.reduceEq, t0])
      refine X_loopH [4, 6, 45, 46] [(14, 14) :: base] (0) (R) (fun j => True) (fun j => [(45, i64 R), (46, i64 j)]) (fun j => tkH base P R C R l T (fP T j 0)) ?_ ?_ ?_ ?_ ?_ (by decide) ?_
      · refine fgt_cons rfl (by simp -dsimp only [zzB, tys, ite_self, opnL, callB, callX, readsB, stepOp, nilCmp, ofVal, opBuiltin, opLen, PV.sk, scalBin, scalUn, intBin, opLoad, natOf, opConvert, opField, cellsP, oneP, Value.oneCell', opStore, toIV, scalT, scalA, scalC, boxesA, boxesC, zipB_none, zipB_mx, isZ, opZip, zeroP, opAppendZ, opMakeMap, opLookup, mboxB, opUpdate, ↓reduceIte, Nat.reduceSub, Nat.reduceEqDiff, Nat.reduceAdd, Nat.reduceMul, Nat.reduceLT, Nat.reduceLeDiff, Int.reduceToNat, Int.reduceLE, Int.reduceLT, Int.reduceNeg, reduceCtorEq, gos, Int.reduceAdd, Int.reduceSub, Int.reduceMul, Int.reduceEq, simx, notIn_cons, notIn_nil] <;> simp [refsP]) (nv_tk ?_ ?_ ?_ ?_ ?_ ?_) fgt_nil <;> simp [ne1, ne2]
      · repeat (first | refine X_opc rfl ?_ | refine X_dopc rfl ?_ | refine ⟨(by show drawK _ _ = true; kernel_rfl : drawX _ _ _), ?_⟩ | exact (by show drawK _ _ = true; kernel_rfl : drawX _ _ _) | simp -dsimp (maxSteps := 20000000) (disch := omega) only [simx, zzC, zzB, tys, ite_self, opnL, callB, callX, readsB, stepOp, nilCmp, ofVal, opBuiltin, opLen, PV.sk, scalBin, scalUn, intBin, opLoad, natOf, opConvert, opField, cellsP, oneP, Value.oneCell', opStore, toIV, scalT, scalA, scalC, boxesA, boxesC, zipB_none, zipB_mx, isZ, opZip, zeroP, opAppendZ, opMakeMap, opLookup, mboxB, opUpdate, ↓reduceIte, Nat.reduceSub, Nat.reduceEqDiff, Nat.reduceAdd, Nat.reduceMul, Nat.reduceLT, Nat.reduceLeDiff, Int.reduceToNat, Int.reduceLE, Int.reduceLT, Int.reduceNeg, reduceCtorEq, gos, Int.reduceAdd, Int.reduceSub, Int.reduceMul, Int.reduceEq])
        exact ⟨rfl, rfl⟩
      · funext c
        rw [Heap.drop_at]
        split
        · rename_i e
          rw [List.mem_singleton.1 e]
          simp [tkH, rowH_app, rowsH, rowsX, ne1, ne2]
        · rfl
      · omega
      · trivial
      · intro i hi _
        by_cases ci : i < R
        · repeat (first | refine X_opc rfl ?_ | refine X_dopc rfl ?_ | refine ⟨(by show drawK _ _ = true; kernel_rfl : drawX _ _ _), ?_⟩ | exact (by show drawK _ _ = true; kernel_rfl : drawX _ _ _) | simp -dsimp (maxSteps := 20000000) (disch := omega) only [simx, zzC, zzB, tys, ite_self, opnL, callB, callX, readsB, stepOp, nilCmp, ofVal, opBuiltin, opLen, PV.sk, scalBin, scalUn, intBin, opLoad, natOf, opConvert, opField, cellsP, oneP, Value.oneCell', opStore, toIV, scalT, scalA, scalC, boxesA, boxesC, zipB_none, zipB_mx, isZ, opZip, zeroP, opAppendZ, opMakeMap, opLookup, mboxB, opUpdate, ↓reduceIte, Nat.reduceSub, Nat.reduceEqDiff, Nat.reduceAdd, Nat.reduceMul, Nat.reduceLT, Nat.reduceLeDiff, Int.reduceToNat, Int.reduceLE, Int.reduceLT, Int.reduceNeg, reduceCtorEq, gos, Int.reduceAdd, Int.reduceSub, Int.reduceMul, Int.reduceEq, ci])
          refine X_loopH [4, 6, 8, 45, 46] [(14, 14) :: base] (0) (T.us.length - (csF T i).length) (fun j => True) (fun j => [(8, i64 i)]) (fun j => tkH base P R C R l T (fP T i j)) ?_ ?_ ?_ ?_ ?_ (by decide) ?_
          · refine fgt_cons rfl (by simp -dsimp only [zzB, tys, ite_self, opnL, callB, callX, readsB, stepOp, nilCmp, ofVal, opBuiltin, opLen, PV.sk, scalBin, scalUn, intBin, opLoad, natOf, opConvert, opField, cellsP, oneP, Value.oneCell', opStore, toIV, scalT, scalA, scalC, boxesA, boxesC, zipB_none, zipB_mx, isZ, opZip, zeroP, opAppendZ, opMakeMap, opLookup, mboxB, opUpdate, ↓reduceIte, Nat.reduceSub, Nat.reduceEqDiff, Nat.reduceAdd, Nat.reduceMul, Nat.reduceLT, Nat.reduceLeDiff, Int.reduceToNat, Int.reduceLE, Int.reduceLT, Int.reduceNeg, reduceCtorEq, gos, Int.reduceAdd, Int.reduceSub, Int.reduceMul, Int.reduceEq, simx, notIn_cons, notIn_nil] <;> simp [refsP]) (nv_tk ?_ ?_ ?_ ?_ ?_ ?_) fgt_nil <;> simp [ne1, ne2]
          · ((simp -dsimp (disch := omega) only [simx, zzB, tys, ite_self, opnL, callB, callX, readsB, stepOp, nilCmp, ofVal, opBuiltin, opLen, PV.sk, scalBin, scalUn, intBin, opLoad, natOf, opConvert, opField, cellsP, oneP, Value.oneCell', opStore, toIV, scalT, scalA, scalC, boxesA, boxesC, zipB_none, zipB_mx, isZ, opZip, zeroP, opAppendZ, opMakeMap, opLookup, mboxB, opUpdate, ↓reduceIte, Nat.reduceSub, Nat.reduceEqDiff, Nat.reduceAdd, Nat.reduceMul, Nat.reduceLT, Nat.reduceLeDiff, Int.reduceToNat, Int.reduceLE, Int.reduceLT, Int.reduceNeg, reduceCtorEq, gos, Int.reduceAdd, Int.reduceSub, Int.reduceMul, Int.reduceEq]) <;> first | rfl | simp)
          · funext c
            rw [Heap.drop_at]
            split
            · rename_i e
              rw [List.mem_singleton.1 e]
              simp [tkH, rowH_app, rowsH, rowsX, ne1, ne2]
            · rfl
          · omega
          · trivial
          · intro j hj _
            by_cases cj : j < T.us.length - (csF T i).length
            · have ru : rowP ((16, 27) :: (7, 14) :: base) 1 T.us.length (T.us.map (lv C)) = .view ((16, 27) :: (7, 14) :: base) 0 1 T.us.length T.us.length := by unfold rowP; rw [if_neg (by omega), List.length_map]
              have t1 := t0 i j
              have tc := tC i j
              have g1 := rowsL_get (b := (7, 14) :: base) (f := fP T i j) ci
              have rI := I.ri
              have xl : (fP T i j i).length = (csF T i).length + j := by rw [fP_at]; simp
              have xn : fP T i (j + 1) i = fP T i j i ++ [0] := by rw [fP_at, fP_at, List.replicate_succ', List.append_assoc]
              have rp := rowsL_put (b := (7, 14) :: base) (f := fP T i j) (g := fP T i (j + 1)) ci (fun m hm => fP_ne hm)
              have hu := tkH_upd (base := base) (P := P) (C := C) (l := l) (T := T) (f := fP T i j) (g := fP T i (j + 1)) ci (fun m hm => fP_ne hm) (by rw [xn]; simp)
              unfold rowN at g1 rp
              rw [xn] at rp hu
              have hX : (fP T i j i).length ≠ 0 → tkH base P R C R l T (fP T i j) ((900, i) :: (7, 14) :: base) = some (.row false ((fP T i j i).map iu)) := fun h => by
                unfold tkH
                simp only [rowH_app, rowsH, rowsX_at ci h]
                simp
              have hX0 : (fP T i j i).length = 0 → tkH base P R C R l T (fP T i j) ((900, i) :: (7, 14) :: base) = none := fun h => by
                unfold tkH
                simp only [rowH_app, rowsH, rowsX_nil h]
                simp [ne1, ne2]
              have h14 : tkH base P R C R l T (fP T i j) ((14, 14) :: base) = none := by
                unfold tkH
                simp [rowH_app, rowsH, rowsX, ne1, ne2]
              have cl : ((fP T i j i).length : Int) < (T.us.length : Int) := by omega
              have ile : i + 1 ≤ R := ci
              have ll := crowsL_len ((7, 14) :: base) (fP T i j) R
              have nvh : noVar ((14, 14) :: base) (tkH base P R C R l T (fP T i j)) := nv_tk (by simp [ne1, ne2]) (by simp [ne1, ne2]) (by simp [ne1, ne2]) (by simp [ne1, ne2]) (by simp [ne1, ne2]) (by simp [ne1, ne2])
              have nvl : (14, 14) :: base ∉ refsL (crowsL ((7, 14) :: base) (fP T i (j + 1)) R) := fun h => by
                obtain ⟨k, hk⟩ := mem_rowsL h
                simp at hk
              generalize hh : tkH base P R C R l T (fP T i j) = h0 at t1 tc hu hX hX0 h14 nvh
              generalize fP T i j i = X at g1 rp hu hX hX0 xl cl
              generalize crowsL ((7, 14) :: base) (fP T i j) R = RL at g1 rp tc ll
              generalize T.us.length = r at *
              rcases hn : X.length with _ | m
              · rw [hn] at g1 cl
                have Xe : X = [] := List.eq_nil_of_length_eq_zero hn
                subst Xe
                have hX0 := hX0 rfl
                rw [rowP_zero] at g1
                simp only [List.nil_append, List.length_singleton, List.map_cons, List.map_nil] at rp hu
                rw [show rowP ((900, i) :: (7, 14) :: base) 1 1 [iu 0] = .view ((900, i) :: (7, 14) :: base) 0 1 1 1 from rfl] at rp
                repeat (first | refine ⟨(by show drawK _ _ = true; kernel_rfl : drawX _ _ _), ?_⟩ | exact (by show drawK _ _ = true; kernel_rfl : drawX _ _ _) | simp -dsimp (maxSteps := 20000000) (disch := omega) only [simx, zzC, zzB, tys, ite_self, opnL, callB, callX, readsB, stepOp, nilCmp, ofVal, opBuiltin, opLen, PV.sk, scalBin, scalUn, intBin, opLoad, natOf, opConvert, opField, cellsP, oneP, Value.oneCell', opStore, toIV, scalT, scalA, scalC, boxesA, boxesC, zipB_none, zipB_mx, isZ, opZip, zeroP, opAppendZ, opMakeMap, opLookup, mboxB, opUpdate, ↓reduceIte, Nat.reduceSub, Nat.reduceEqDiff, Nat.reduceAdd, Nat.reduceMul, Nat.reduceLT, Nat.reduceLeDiff, Int.reduceToNat, Int.reduceLE, Int.reduceLT, Int.reduceNeg, reduceCtorEq, gos, Int.reduceAdd, Int.reduceSub, Int.reduceMul, Int.reduceEq, t1, tc, g1, ci, ru, cl, ll, SK.len])
                refine X_dopc rfl ?_
                repeat (first | refine ⟨(by show drawK _ _ = true; kernel_rfl : drawX _ _ _), ?_⟩ | exact (by show drawK _ _ = true; kernel_rfl : drawX _ _ _) | simp -dsimp (maxSteps := 20000000) (disch := omega) only [simx, zzC, zzB, tys, ite_self, opnL, callB, callX, readsB, stepOp, nilCmp, ofVal, opBuiltin, opLen, PV.sk, scalBin, scalUn, intBin, opLoad, natOf, opConvert, opField, cellsP, oneP, Value.oneCell', opStore, toIV, scalT, scalA, scalC, boxesA, boxesC, zipB_none, zipB_mx, isZ, opZip, zeroP, opAppendZ, opMakeMap, opLookup, mboxB, opUpdate, ↓reduceIte, Nat.reduceSub, Nat.reduceEqDiff, Nat.reduceAdd, Nat.reduceMul, Nat.reduceLT, Nat.reduceLeDiff, Int.reduceToNat, Int.reduceLE, Int.reduceLT, Int.reduceNeg, reduceCtorEq, gos, Int.reduceAdd, Int.reduceSub, Int.reduceMul, Int.reduceEq, h14])
                refine X_dopn ((900, i) :: (7, 14) :: base) rfl ?_
                repeat (first | refine ⟨(by show drawK _ _ = true; kernel_rfl : drawX _ _ _), ?_⟩ | exact (by show drawK _ _ = true; kernel_rfl : drawX _ _ _) | simp -dsimp (maxSteps := 20000000) (disch := omega) only [simx, zzC, zzB, tys, ite_self, opnL, callB, callX, readsB, stepOp, nilCmp, ofVal, opBuiltin, opLen, PV.sk, scalBin, scalUn, intBin, opLoad, natOf, opConvert, opField, cellsP, oneP, Value.oneCell', opStore, toIV, scalT, scalA, scalC, boxesA, boxesC, zipB_none, zipB_mx, isZ, opZip, zeroP, opAppendZ, opMakeMap, opLookup, mboxB, opUpdate, ↓reduceIte, Nat.reduceSub, Nat.reduceEqDiff, Nat.reduceAdd, Nat.reduceMul, Nat.reduceLT, Nat.reduceLeDiff, Int.reduceToNat, Int.reduceLE, Int.reduceLT, Int.reduceNeg, reduceCtorEq, gos, Int.reduceAdd, Int.reduceSub, Int.reduceMul, Int.reduceEq])
                refine X_dappend_one (s := (900, i) :: (7, 14) :: base) (n := 0) (z := 1) (cs := []) 22 [.int .u64 0] [iu 0] (by simp only [tys]) (by simp only [tys]) rfl (by decide) rfl (by simp [Heap.put_at]; exact hX0) (by simp [Heap.put_at]; rfl) rfl (by simp only [tys]; omega) (by rw [mx_len]; omega) ?_
                rw [rowP_succ]
                repeat (first | refine ⟨(by show drawK _ _ = true; kernel_rfl : drawX _ _ _), ?_⟩ | exact (by show drawK _ _ = true; kernel_rfl : drawX _ _ _) | simp -dsimp (maxSteps := 20000000) (disch := omega) only [simx, zzC, zzB, tys, ite_self, opnL, callB, callX, readsB, stepOp, nilCmp, ofVal, opBuiltin, opLen, PV.sk, scalBin, scalUn, intBin, opLoad, natOf, opConvert, opField, cellsP, oneP, Value.oneCell', opStore, toIV, scalT, scalA, scalC, boxesA, boxesC, zipB_none, zipB_mx, isZ, opZip, zeroP, opAppendZ, opMakeMap, opLookup, mboxB, opUpdate, ↓reduceIte, Nat.reduceSub, Nat.reduceEqDiff, Nat.reduceAdd, Nat.reduceMul, Nat.reduceLT, Nat.reduceLeDiff, Int.reduceToNat, Int.reduceLE, Int.reduceLT, Int.reduceNeg, reduceCtorEq, gos, Int.reduceAdd, Int.reduceSub, Int.reduceMul, Int.reduceEq, t1, tc, ci, ile, ll, rp, List.nil_append])
                refine ⟨cj, fgt_cons rfl (by simp -dsimp only [zzB, tys, ite_self, opnL, callB, callX, readsB, stepOp, nilCmp, ofVal, opBuiltin, opLen, PV.sk, scalBin, scalUn, intBin, opLoad, natOf, opConvert, opField, cellsP, oneP, Value.oneCell', opStore, toIV, scalT, scalA, scalC, boxesA, boxesC, zipB_none, zipB_mx, isZ, opZip, zeroP, opAppendZ, opMakeMap, opLookup, mboxB, opUpdate, ↓reduceIte, Nat.reduceSub, Nat.reduceEqDiff, Nat.reduceAdd, Nat.reduceMul, Nat.reduceLT, Nat.reduceLeDiff, Int.reduceToNat, Int.reduceLE, Int.reduceLT, Int.reduceNeg, reduceCtorEq, gos, Int.reduceAdd, Int.reduceSub, Int.reduceMul, Int.reduceEq, simx, notIn_cons, notIn_nil] <;> simp [refsP]) (noVar_var (noVar_row (noVar_row nvh)) nvl) fgt_nil, ?_⟩
                rw [← hu]
                funext c
                simp (maxSteps := 20000000) only [Heap.drop_at, rowH_app, Heap.put_at, Heap.none_at, List.mem_cons, List.not_mem_nil, or_false]
                by_cases e0 : c = (14, 14) :: base
                · subst e0; simp [h14]
                by_cases e1 : c = (900, i) :: (7, 14) :: base
                · subst e1; simp [h14]
                by_cases e2 : c = (10, 8) :: (7, 14) :: base
                · subst e2; simp [h14]
                simp [e0, e1, e2, h14]
              · rw [hn] at g1 cl
                have hX := hX (by omega)
                rw [rowP_succ, List.length_map, hn] at g1
                rw [List.length_append, hn, List.length_singleton, rowP_succ, List.length_map, List.length_append, hn, List.length_singleton] at rp
                repeat (first | refine ⟨(by show drawK _ _ = true; kernel_rfl : drawX _ _ _), ?_⟩ | exact (by show drawK _ _ = true; kernel_rfl : drawX _ _ _) | simp -dsimp (maxSteps := 20000000) (disch := omega) only [simx, zzC, zzB, tys, ite_self, opnL, callB, callX, readsB, stepOp, nilCmp, ofVal, opBuiltin, opLen, PV.sk, scalBin, scalUn, intBin, opLoad, natOf, opConvert, opField, cellsP, oneP, Value.oneCell', opStore, toIV, scalT, scalA, scalC, boxesA, boxesC, zipB_none, zipB_mx, isZ, opZip, zeroP, opAppendZ, opMakeMap, opLookup, mboxB, opUpdate, ↓reduceIte, Nat.reduceSub, Nat.reduceEqDiff, Nat.reduceAdd, Nat.reduceMul, Nat.reduceLT, Nat.reduceLeDiff, Int.reduceToNat, Int.reduceLE, Int.reduceLT, Int.reduceNeg, reduceCtorEq, gos, Int.reduceAdd, Int.reduceSub, Int.reduceMul, Int.reduceEq, t1, tc, g1, ci, ru, cl, ll, SK.len])
                refine X_dopc rfl ?_
                repeat (first | refine ⟨(by show drawK _ _ = true; kernel_rfl : drawX _ _ _), ?_⟩ | exact (by show drawK _ _ = true; kernel_rfl : drawX _ _ _) | simp -dsimp (maxSteps := 20000000) (disch := omega) only [simx, zzC, zzB, tys, ite_self, opnL, callB, callX, readsB, stepOp, nilCmp, ofVal, opBuiltin, opLen, PV.sk, scalBin, scalUn, intBin, opLoad, natOf, opConvert, opField, cellsP, oneP, Value.oneCell', opStore, toIV, scalT, scalA, scalC, boxesA, boxesC, zipB_none, zipB_mx, isZ, opZip, zeroP, opAppendZ, opMakeMap, opLookup, mboxB, opUpdate, ↓reduceIte, Nat.reduceSub, Nat.reduceEqDiff, Nat.reduceAdd, Nat.reduceMul, Nat.reduceLT, Nat.reduceLeDiff, Int.reduceToNat, Int.reduceLE, Int.reduceLT, Int.reduceNeg, reduceCtorEq, gos, Int.reduceAdd, Int.reduceSub, Int.reduceMul, Int.reduceEq, h14])
                refine X_dopc rfl ?_
                repeat (first | refine ⟨(by show drawK _ _ = true; kernel_rfl : drawX _ _ _), ?_⟩ | exact (by show drawK _ _ = true; kernel_rfl : drawX _ _ _) | simp -dsimp (maxSteps := 20000000) (disch := omega) only [simx, zzC, zzB, tys, ite_self, opnL, callB, callX, readsB, stepOp, nilCmp, ofVal, opBuiltin, opLen, PV.sk, scalBin, scalUn, intBin, opLoad, natOf, opConvert, opField, cellsP, oneP, Value.oneCell', opStore, toIV, scalT, scalA, scalC, boxesA, boxesC, zipB_none, zipB_mx, isZ, opZip, zeroP, opAppendZ, opMakeMap, opLookup, mboxB, opUpdate, ↓reduceIte, Nat.reduceSub, Nat.reduceEqDiff, Nat.reduceAdd, Nat.reduceMul, Nat.reduceLT, Nat.reduceLeDiff, Int.reduceToNat, Int.reduceLE, Int.reduceLT, Int.reduceNeg, reduceCtorEq, gos, Int.reduceAdd, Int.reduceSub, Int.reduceMul, Int.reduceEq])
                refine X_dappend_own (z := 1) (cs := X.map iu) 22 [.int .u64 0] [iu 0] (by simp only [tys]) (by simp only [tys]) rfl (by decide) (by simp [Heap.put_at]; exact hX) (by simp [hn]) (by simp [hn]) (by simp [Heap.put_at]; rfl) rfl (by simp only [tys]; omega) (by rw [mx_len]; omega) ?_
                have la : (X.map iu ++ [iu 0]).length = m + 1 + 1 := by simp [hn]
                have lm : X.map iu ++ [iu 0] = (X ++ [0]).map iu := by simp
                rw [la, lm]
                repeat (first | refine ⟨(by show drawK _ _ = true; kernel_rfl : drawX _ _ _), ?_⟩ | exact (by show drawK _ _ = true; kernel_rfl : drawX _ _ _) | simp -dsimp (maxSteps := 20000000) (disch := omega) only [simx, zzC, zzB, tys, ite_self, opnL, callB, callX, readsB, stepOp, nilCmp, ofVal, opBuiltin, opLen, PV.sk, scalBin, scalUn, intBin, opLoad, natOf, opConvert, opField, cellsP, oneP, Value.oneCell', opStore, toIV, scalT, scalA, scalC, boxesA, boxesC, zipB_none, zipB_mx, isZ, opZip, zeroP, opAppendZ, opMakeMap, opLookup, mboxB, opUpdate, ↓reduceIte, Nat.reduceSub, Nat.reduceEqDiff, Nat.reduceAdd, Nat.reduceMul, Nat.reduceLT, Nat.reduceLeDiff, Int.reduceToNat, Int.reduceLE, Int.reduceLT, Int.reduceNeg, reduceCtorEq, gos, Int.reduceAdd, Int.reduceSub, Int.reduceMul, Int.reduceEq, t1, tc, ci, ile, ll, rp])
                refine ⟨cj, fgt_cons rfl (by simp -dsimp only [zzB, tys, ite_self, opnL, callB, callX, readsB, stepOp, nilCmp, ofVal, opBuiltin, opLen, PV.sk, scalBin, scalUn, intBin, opLoad, natOf, opConvert, opField, cellsP, oneP, Value.oneCell', opStore, toIV, scalT, scalA, scalC, boxesA, boxesC, zipB_none, zipB_mx, isZ, opZip, zeroP, opAppendZ, opMakeMap, opLookup, mboxB, opUpdate, ↓reduceIte, Nat.reduceSub, Nat.reduceEqDiff, Nat.reduceAdd, Nat.reduceMul, Nat.reduceLT, Nat.reduceLeDiff, Int.reduceToNat, Int.reduceLE, Int.reduceLT, Int.reduceNeg, reduceCtorEq, gos, Int.reduceAdd, Int.reduceSub, Int.reduceMul, Int.reduceEq, simx, notIn_cons, notIn_nil] <;> simp [refsP]) (noVar_var (noVar_row (noVar_row nvh)) nvl) fgt_nil, ?_⟩
                rw [← hu]
                funext c
                simp (maxSteps := 20000000) only [Heap.drop_at, rowH_app, Heap.put_at, Heap.none_at, List.mem_cons, List.not_mem_nil, or_false]
                by_cases e0 : c = (14, 14) :: base
                · subst e0; simp [h14]
                by_cases e1 : c = (900, i) :: (7, 14) :: base
                · subst e1; simp [h14]
                by_cases e2 : c = (10, 8) :: (7, 14) :: base
                · subst e2; simp [h14]
                simp [e0, e1, e2, h14]
            · have ej : j = T.us.length - (csF T i).length := by omega
              have ic := (I.cb (csF T i) (by unfold csF; rw [List.getD_eq_getElem?_getD, List.getElem?_eq_getElem (by rw [I.cl]; exact ci)]; exact List.getElem_mem _)).1
              have xl : (fP T i j i).length = T.us.length := by rw [fP_at]; simp; omega
              have t1 := t0 i j
              have tc := tC i j
              have g1 := rowsL_get (b := (7, 14) :: base) (f := fP T i j) ci
              unfold rowN at g1
              rw [xl] at g1
              have hend : tkH base P R C R l T (fP T i j) = tkH base P R C R l T (fP T (i + 1) 0) := by rw [ej, fP_full]
              have h14 : tkH base P R C R l T (fP T i j) ((14, 14) :: base) = none := by
                unfold tkH
                simp [rowH_app, rowsH, rowsX, ne1, ne2]
              have nvh : noVar ((14, 14) :: base) (tkH base P R C R l T (fP T i j)) := nv_tk (by simp [ne1, ne2]) (by simp [ne1, ne2]) (by simp [ne1, ne2]) (by simp [ne1, ne2]) (by simp [ne1, ne2]) (by simp [ne1, ne2])
              have ll := crowsL_len ((7, 14) :: base) (fP T i j) R
              generalize tkH base P R C R l T (fP T i j) = h0 at t1 tc h14 nvh hend ⊢
              rcases hr : T.us.length with _ | r
              · rw [hr] at t1 g1
                have nlt : ¬ (((0 : Nat) : Int) < ((0 : Nat) : Int)) := by omega
                repeat (first | refine X_opc rfl ?_ | refine X_dopc rfl ?_ | refine ⟨(by show drawK _ _ = true; kernel_rfl : drawX _ _ _), ?_⟩ | exact (by show drawK _ _ = true; kernel_rfl : drawX _ _ _) | simp -dsimp (maxSteps := 20000000) (disch := omega) only [simx, zzC, zzB, tys, ite_self, opnL, callB, callX, readsB, stepOp, nilCmp, ofVal, opBuiltin, opLen, PV.sk, scalBin, scalUn, intBin, opLoad, natOf, opConvert, opField, cellsP, oneP, Value.oneCell', opStore, toIV, scalT, scalA, scalC, boxesA, boxesC, zipB_none, zipB_mx, isZ, opZip, zeroP, opAppendZ, opMakeMap, opLookup, mboxB, opUpdate, ↓reduceIte, Nat.reduceSub, Nat.reduceEqDiff, Nat.reduceAdd, Nat.reduceMul, Nat.reduceLT, Nat.reduceLeDiff, Int.reduceToNat, Int.reduceLE, Int.reduceLT, Int.reduceNeg, reduceCtorEq, gos, Int.reduceAdd, Int.reduceSub, Int.reduceMul, Int.reduceEq, t1, tc, g1, ci, ll, rowP_zero, SK.len, nlt])
                refine ⟨ci, fgt_cons rfl (by simp -dsimp only [zzB, tys, ite_self, opnL, callB, callX, readsB, stepOp, nilCmp, ofVal, opBuiltin, opLen, PV.sk, scalBin, scalUn, intBin, opLoad, natOf, opConvert, opField, cellsP, oneP, Value.oneCell', opStore, toIV, scalT, scalA, scalC, boxesA, boxesC, zipB_none, zipB_mx, isZ, opZip, zeroP, opAppendZ, opMakeMap, opLookup, mboxB, opUpdate, ↓reduceIte, Nat.reduceSub, Nat.reduceEqDiff, Nat.reduceAdd, Nat.reduceMul, Nat.reduceLT, Nat.reduceLeDiff, Int.reduceToNat, Int.reduceLE, Int.reduceLT, Int.reduceNeg, reduceCtorEq, gos, Int.reduceAdd, Int.reduceSub, Int.reduceMul, Int.reduceEq, simx, notIn_cons, notIn_nil] <;> simp [refsP]) nvh fgt_nil, rfl, ?_⟩
                rw [← hend]
                funext c
                rw [Heap.drop_at]
                split
                · rename_i e
                  rw [List.mem_singleton.1 e, h14]
                · rfl
              · rw [hr] at t1 g1
                have nlt : ¬ (((r + 1 : Nat) : Int) < ((r + 1 : Nat) : Int)) := by omega
                repeat (first | refine X_opc rfl ?_ | refine X_dopc rfl ?_ | refine ⟨(by show drawK _ _ = true; kernel_rfl : drawX _ _ _), ?_⟩ | exact (by show drawK _ _ = true; kernel_rfl : drawX _ _ _) | simp -dsimp (maxSteps := 20000000) (disch := omega) only [simx, zzC, zzB, tys, ite_self, opnL, callB, callX, readsB, stepOp, nilCmp, ofVal, opBuiltin, opLen, PV.sk, scalBin, scalUn, intBin, opLoad, natOf, opConvert, opField, cellsP, oneP, Value.oneCell', opStore, toIV, scalT, scalA, scalC, boxesA, boxesC, zipB_none, zipB_mx, isZ, opZip, zeroP, opAppendZ, opMakeMap, opLookup, mboxB, opUpdate, ↓reduceIte, Nat.reduceSub, Nat.reduceEqDiff, Nat.reduceAdd, Nat.reduceMul, Nat.reduceLT, Nat.reduceLeDiff, Int.reduceToNat, Int.reduceLE, Int.reduceLT, Int.reduceNeg, reduceCtorEq, gos, Int.reduceAdd, Int.reduceSub, Int.reduceMul, Int.reduceEq, t1, tc, g1, ci, ll, rowP_succ, SK.len, nlt])
                refine ⟨ci, fgt_cons rfl (by simp -dsimp only [zzB, tys, ite_self, opnL, callB, callX, readsB, stepOp, nilCmp, ofVal, opBuiltin, opLen, PV.sk, scalBin, scalUn, intBin, opLoad, natOf, opConvert, opField, cellsP, oneP, Value.oneCell', opStore, toIV, scalT, scalA, scalC, boxesA, boxesC, zipB_none, zipB_mx, isZ, opZip, zeroP, opAppendZ, opMakeMap, opLookup, mboxB, opUpdate, ↓reduceIte, Nat.reduceSub, Nat.reduceEqDiff, Nat.reduceAdd, Nat.reduceMul, Nat.reduceLT, Nat.reduceLeDiff, Int.reduceToNat, Int.reduceLE, Int.reduceLT, Int.reduceNeg, reduceCtorEq, gos, Int.reduceAdd, Int.reduceSub, Int.reduceMul, Int.reduceEq, simx, notIn_cons, notIn_nil] <;> simp [refsP]) nvh fgt_nil, rfl, ?_⟩
                rw [← hend]
                funext c
                rw [Heap.drop_at]
                split
                · rename_i e
                  rw [List.mem_singleton.1 e, h14]
                · rfl
        · have ej : R = i := by omega
          subst ej
          have t1 := t0 R 0
          have t2 := tkH_1 base P R C R l T (fP T R 0)
          have fin : ∀ (x : Box), TkHp ((tkH base P R C R l T (fP T R 0)).put ((0, 1) :: base) x) base R C T := by
            intro x
            refine ⟨fun h => ?_, fun h => ?_, fun h => ?_, ?_, fun k hk h => ?_⟩
            · simp [tkH, Heap.put_at, rowH_app, rowsH, rowsX, ne1, ne2]; intro h2; exact absurd (by rw [h2]; rfl) h
            · simp [tkH, Heap.put_at, rowH_app, rowsH, rowsX, ne1, ne2]; intro h2; exact absurd (by rw [h2]; rfl) h
            · simp [tkH, Heap.put_at, rowH_app, rowsH, rowsX, ne1, ne2]; intro h2; exact absurd (by rw [h2]; rfl) h
            · simp only [Heap.put_at]; rw [if_neg (by simp)]; exact tC R 0
            · simp only [Heap.put_at]; rw [if_neg (by simp)]
              unfold tkH
              simp only [rowH_app, rowsH, rowsX_at hk h]
              simp
          rcases hr : T.us.length with _ | r
          · rw [hr] at t1
            repeat (first | refine X_opc rfl ?_ | refine X_dopc rfl ?_ | refine ⟨(by show drawK _ _ = true; kernel_rfl : drawX _ _ _), ?_⟩ | exact (by show drawK _ _ = true; kernel_rfl : drawX _ _ _) | simp -dsimp (maxSteps := 20000000) (disch := omega) only [simx, zzC, zzB, tys, ite_self, opnL, callB, callX, readsB, stepOp, nilCmp, ofVal, opBuiltin, opLen, PV.sk, scalBin, scalUn, intBin, opLoad, natOf, opConvert, opField, cellsP, oneP, Value.oneCell', opStore, toIV, scalT, scalA, scalC, boxesA, boxesC, zipB_none, zipB_mx, isZ, opZip, zeroP, opAppendZ, opMakeMap, opLookup, mboxB, opUpdate, ↓reduceIte, Nat.reduceSub, Nat.reduceEqDiff, Nat.reduceAdd, Nat.reduceMul, Nat.reduceLT, Nat.reduceLeDiff, Int.reduceToNat, Int.reduceLE, Int.reduceLT, Int.reduceNeg, reduceCtorEq, zzR, gos, Int.reduceAdd, Int.reduceSub, Int.reduceMul, Int.reduceEq, t1, t2, rowP_zero])
            rw [cp]
            exact ⟨rfl, fin _⟩
          · rw [hr] at t1
            repeat (first | refine X_opc rfl ?_ | refine X_dopc rfl ?_ | refine ⟨(by show drawK _ _ = true; kernel_rfl : drawX _ _ _), ?_⟩ | exact (by show drawK _ _ = true; kernel_rfl : drawX _ _ _) | simp -dsimp (maxSteps := 20000000) (disch := omega) only [simx, zzC, zzB, tys, ite_self, opnL, callB, callX, readsB, stepOp, nilCmp, ofVal, opBuiltin, opLen, PV.sk, scalBin, scalUn, intBin, opLoad, natOf, opConvert, opField, cellsP, oneP, Value.oneCell', opStore, toIV, scalT, scalA, scalC, boxesA, boxesC, zipB_none, zipB_mx, isZ, opZip, zeroP, opAppendZ, opMakeMap, opLookup, mboxB, opUpdate, ↓reduceIte, Nat.reduceSub, Nat.reduceEqDiff, Nat.reduceAdd, Nat.reduceMul, Nat.reduceLT, Nat.reduceLeDiff, Int.reduceToNat, Int.reduceLE, Int.reduceLT, Int.reduceNeg, reduceCtorEq, zzR, gos, Int.reduceAdd, Int.reduceSub, Int.reduceMul, Int.reduceEq, t1, t2, rowP_succ])
            rw [cp]
            exact ⟨rfl, fin _⟩
theorem take_yes {P R C : Nat} {l : List Int} (hP : Prm P) (M : Mt P R C l) (hin : ∀ a ∈ l, In P a) : CallsP Try.prog 47 [u64 P, matP R C l] (.tup [cupQ (tkCup P C R l), i64 0]) := by
  refine CallsP.of_low mixed rfl fun base => ?_
  have I := tkN_I hP M hin R (Nat.le_refl R)
  have r1 := M.r1
  generalize hT : tkN P C l R = T at I
  obtain ⟨hu, h1, H⟩ := take_run hP M hin base hT
  refine ⟨_, hu, h1, ?_⟩
  have e : tkCup P C R l = (T.rows, T.cols, (List.range R).map (fP T R 0), T.us) := by unfold tkCup; rw [hT, fP_cs I]
  have cp : clmP ((10, 8) :: (7, 14) :: base) R = .view ((10, 8) :: (7, 14) :: base) 0 1 R R := if_neg (by omega)
  rw [e, cp]
  exact low_cup (b := (7, 14) :: base) I.rl I.ql rfl H.r H.q H.u (by omega) H.c H.f (fun u hu => (I.ul u hu).1)
end Go.Proofs.Ytmalpmnmknpphaa.TM
namespace Go.Proofs.Ytmalpmnmknpphaa.TM
open Go Go.RowKit
attribute [local irreducible] K W WOps Effs Xg Xo Xr Xdg Xdo Xdr Xif CallsP CallR
theorem take_walk {P : Nat} (hP : Prm P) (r c : Int) (l : List Int) (hl : l.length ≤ maxLen) (wl : W64s l) : CallsP Try.prog 47 [u64 P, matP r c l] (.tup [cupQ (takeR P r c l).1, i64 (takeR P r c l).2]) := by
  unfold takeR
  cases h : MatB P r c l with
  | false => exact mat_walk_no hl h
  | true =>
    obtain ⟨R, C, rfl, rfl, M⟩ := mat_of h
    have := take_yes hP M (fun a ha => in_of M.has wl ha)
    simpa using this
theorem takeR_mk {P : Int} {R C : Nat} {l : List Int} (M : Mt P R C l) : takeR P R C l = (tkCup P C R l, 0) := by
  unfold takeR; rw [if_pos (mat_mk M)]; rfl
def rankR (p r c : Int) (l : List Int) : Int := (takeR p r c l).1.1.length
theorem rank_walk {P : Nat} (hP : Prm P) (r c : Int) (l : List Int) (hl : l.length ≤ maxLen) (wl : W64s l) : CallsP Try.prog 24 [u64 P, matP r c l] (.tup [i64 (rankR P r c l), i64 (takeR P r c l).2]) := by
  have q1 := take_walk hP r c l hl wl
  unfold rankR
  generalize takeR P r c l = t at q1
  obtain ⟨⟨a, b, cc, d⟩, e⟩ := t
  refine X_startP (n := 18) (m := 2) (rs := [.tmp 4, .tmp 5]) Try.func24 rfl rfl rfl rfl (by decide) fun base => ?_
  repeat (first | ((first | refine X_call_fn2 rfl (by simp only [tys]) ?_ | refine X_dcall_fn2 rfl (by simp only [tys]) ?_); apply Exists.intro; apply And.intro; (focus (simp -dsimp only [simx, zzC, zzB, tys, ite_self, opnL, callB, callX, readsB, stepOp, nilCmp, ofVal, opBuiltin, opLen, PV.sk, scalBin, scalUn, intBin, opLoad, natOf, opConvert, opField, cellsP, oneP, Value.oneCell', opStore, toIV, scalT, scalA, scalC, boxesA, boxesC, zipB_none, zipB_mx, isZ, opZip, zeroP, opAppendZ, opMakeMap, opLookup, mboxB, opUpdate, ↓reduceIte, Nat.reduceSub, Nat.reduceEqDiff, Nat.reduceAdd, Nat.reduceMul, Nat.reduceLT, Nat.reduceLeDiff, Int.reduceToNat, Int.reduceLE, Int.reduceLT, Int.reduceNeg, reduceCtorEq, zzL, if_true, if_false] <;> rfl)); apply Exists.intro; apply And.intro; (focus (first | exact q1))) | refine X_opc rfl ?_ | refine X_dopc rfl ?_ | refine ⟨(by show drawK _ _ = true; kernel_rfl : drawX _ _ _), ?_⟩ | exact (by show drawK _ _ = true; kernel_rfl : drawX _ _ _) | simp -dsimp (maxSteps := 20000000) (disch := omega) only [simx, zzC, zzB, tys, ite_self, opnL, callB, callX, readsB, stepOp, nilCmp, ofVal, opBuiltin, opLen, PV.sk, scalBin, scalUn, intBin, opLoad, natOf, opConvert, opField, cellsP, oneP, Value.oneCell', opStore, toIV, scalT, scalA, scalC, boxesA, boxesC, zipB_none, zipB_mx, isZ, opZip, zeroP, opAppendZ, opMakeMap, opLookup, mboxB, opUpdate, ↓reduceIte, Nat.reduceSub, Nat.reduceEqDiff, Nat.reduceAdd, Nat.reduceMul, Nat.reduceLT, Nat.reduceLeDiff, Int.reduceToNat, Int.reduceLE, Int.reduceLT, Int.reduceNeg, reduceCtorEq, zzR, gos, Int.reduceAdd, Int.reduceSub, Int.reduceMul, Int.reduceEq, SK.len])
end Go.Proofs.Ytmalpmnmknpphaa.TM
namespace Go.Proofs.Ytmalpmnmknpphaa.TM
open Go Go.RowKit
attribute [local irreducible] K W WOps Effs Xg Xo Xr Xdg Xdo Xdr Xif CallsP CallR
theorem row_walk {r c i : Nat} {l : List Int} (hl : l.length = r * c) (hr : r ≤ 64) (hc : c ≤ 64) (hi : i < r) : CallsP Try.prog 104 [matP r c l, i64 i] (lu (rowM c l i)) := by
  have b1 := ic_bd (c := c) hi
  have b2 := rc_bd hr hc
  have rl := rowM_len hl hi
  have m0 : i * c ≤ 4096 := by omega
  have m1 : (i + 1) * c = i * c + c := Nat.succ_mul i c
  have e1 : IntKind.i64.wrap ((i : Int) * (c : Int)) = ((i * c : Nat) : Int) := by rw [← Int.natCast_mul]; exact iw_of (by omega) (by omega)
  have e2 : IntKind.i64.wrap (((i : Int) + 1) * (c : Int)) = ((i * c + c : Nat) : Int) := by
    rw [show ((i : Int) + 1) * (c : Int) = ((i * c + c : Nat) : Int) by rw [← m1]; push_cast; rfl]; exact iw_of (by omega) (by omega)
  have e3 : i * c + c - i * c = c := by omega
  have e4 : ((l.map iu).drop (i * c)).take c = (rowM c l i).map iu := by unfold rowM; rw [List.map_take, List.map_drop]
  have e5 : i * c ≤ i * c + c := by omega
  have e6 : i * c + c ≤ l.length := by omega
  refine X_startP (n := 17) (m := 2) (rs := [.tmp 4]) Try.func104 rfl rfl rfl rfl (by decide) fun base => ?_
  repeat (first | refine X_opc rfl ?_ | refine X_dopc rfl ?_ | refine ⟨(by show drawK _ _ = true; kernel_rfl : drawX _ _ _), ?_⟩ | exact (by show drawK _ _ = true; kernel_rfl : drawX _ _ _) | simp -dsimp (maxSteps := 20000000) (disch := omega) only [simx, zzC, zzB, tys, ite_self, opnL, callB, callX, readsB, stepOp, nilCmp, ofVal, opBuiltin, opLen, PV.sk, scalBin, scalUn, intBin, opLoad, natOf, opConvert, opField, cellsP, oneP, Value.oneCell', opStore, toIV, scalT, scalA, scalC, boxesA, boxesC, zipB_none, zipB_mx, isZ, opZip, zeroP, opAppendZ, opMakeMap, opLookup, mboxB, opUpdate, ↓reduceIte, Nat.reduceSub, Nat.reduceEqDiff, Nat.reduceAdd, Nat.reduceMul, Nat.reduceLT, Nat.reduceLeDiff, Int.reduceToNat, Int.reduceLE, Int.reduceLT, Int.reduceNeg, reduceCtorEq, zzR, gos, Int.reduceAdd, Int.reduceSub, Int.reduceMul, Int.reduceEq, e1, e2, e3, e4, e5, e6, List.length_map, lu, rl])
def timesR (p r c : Int) (l x : List Int) : List Int × Int := if MatB p r c l && (HasB p x && decide ((x.length : Int) = c)) then (timesM p r.toNat c.toNat l x, 0) else ([], 1)
set_option maxHeartbeats 4000000 in
theorem times_walk (p r c : Int) (l x : List Int) (hl : l.length ≤ maxLen) (hx : x.length ≤ maxLen) (wl : W64s l) (wx : W64s x) : CallsP Try.prog 57 [u64 p, matP r c l, lu x] (.tup [lu (timesR p r c l x).1, i64 (timesR p r c l x).2]) := by
  have q1 := mright_walk p r c l hl
  have q2 := has_walk p x hx
  unfold timesR
  cases h1 : MatB p r c l with
  | false =>
    rw [h1] at q1
    refine X_startP (n := 49) (m := 3) (rs := [.tmp 6, .tmp 7]) Try.func57 rfl rfl rfl rfl (by decide) fun base => ?_
    repeat (first | ((first | refine X_call_fn2 rfl (by simp only [tys]) ?_ | refine X_dcall_fn2 rfl (by simp only [tys]) ?_); apply Exists.intro; apply And.intro; (focus (simp -dsimp only [simx, zzC, zzB, tys, ite_self, opnL, callB, callX, readsB, stepOp, nilCmp, ofVal, opBuiltin, opLen, PV.sk, scalBin, scalUn, intBin, opLoad, natOf, opConvert, opField, cellsP, oneP, Value.oneCell', opStore, toIV, scalT, scalA, scalC, boxesA, boxesC, zipB_none, zipB_mx, isZ, opZip, zeroP, opAppendZ, opMakeMap, opLookup, mboxB, opUpdate, ↓reduceIte, Nat.reduceSub, Nat.reduceEqDiff, Nat.reduceAdd, Nat.reduceMul, Nat.reduceLT, Nat.reduceLeDiff, Int.reduceToNat, Int.reduceLE, Int.reduceLT, Int.reduceNeg, reduceCtorEq, zzL, if_true, if_false] <;> rfl)); apply Exists.intro; apply And.intro; (focus (first | exact q1))) | refine X_opc rfl ?_ | refine X_dopc rfl ?_ | refine ⟨(by show drawK _ _ = true; kernel_rfl : drawX _ _ _), ?_⟩ | exact (by show drawK _ _ = true; kernel_rfl : drawX _ _ _) | simp -dsimp (maxSteps := 20000000) (disch := omega) only [simx, zzC, zzB, tys, ite_self, opnL, callB, callX, readsB, stepOp, nilCmp, ofVal, opBuiltin, opLen, PV.sk, scalBin, scalUn, intBin, opLoad, natOf, opConvert, opField, cellsP, oneP, Value.oneCell', opStore, toIV, scalT, scalA, scalC, boxesA, boxesC, zipB_none, zipB_mx, isZ, opZip, zeroP, opAppendZ, opMakeMap, opLookup, mboxB, opUpdate, ↓reduceIte, Nat.reduceSub, Nat.reduceEqDiff, Nat.reduceAdd, Nat.reduceMul, Nat.reduceLT, Nat.reduceLeDiff, Int.reduceToNat, Int.reduceLE, Int.reduceLT, Int.reduceNeg, reduceCtorEq, zzR, gos, Int.reduceAdd, Int.reduceSub, Int.reduceMul, Int.reduceEq])
    rfl
  | true =>
    rw [h1] at q1
    cases h2 : HasB p x with
    | false =>
      rw [h2] at q2
      refine X_startP (n := 49) (m := 3) (rs := [.tmp 6, .tmp 7]) Try.func57 rfl rfl rfl rfl (by decide) fun base => ?_
      repeat (first | ((first | refine X_call_fn2 rfl (by simp only [tys]) ?_ | refine X_dcall_fn2 rfl (by simp only [tys]) ?_); apply Exists.intro; apply And.intro; (focus (simp -dsimp only [simx, zzC, zzB, tys, ite_self, opnL, callB, callX, readsB, stepOp, nilCmp, ofVal, opBuiltin, opLen, PV.sk, scalBin, scalUn, intBin, opLoad, natOf, opConvert, opField, cellsP, oneP, Value.oneCell', opStore, toIV, scalT, scalA, scalC, boxesA, boxesC, zipB_none, zipB_mx, isZ, opZip, zeroP, opAppendZ, opMakeMap, opLookup, mboxB, opUpdate, ↓reduceIte, Nat.reduceSub, Nat.reduceEqDiff, Nat.reduceAdd, Nat.reduceMul, Nat.reduceLT, Nat.reduceLeDiff, Int.reduceToNat, Int.reduceLE, Int.reduceLT, Int.reduceNeg, reduceCtorEq, zzL, if_true, if_false] <;> rfl)); apply Exists.intro; apply And.intro; (focus (first | exact q1 | exact q2))) | refine X_opc rfl ?_ | refine X_dopc rfl ?_ | refine ⟨(by show drawK _ _ = true; kernel_rfl : drawX _ _ _), ?_⟩ | exact (by show drawK _ _ = true; kernel_rfl : drawX _ _ _) | simp -dsimp (maxSteps := 20000000) (disch := omega) only [simx, zzC, zzB, tys, ite_self, opnL, callB, callX, readsB, stepOp, nilCmp, ofVal, opBuiltin, opLen, PV.sk, scalBin, scalUn, intBin, opLoad, natOf, opConvert, opField, cellsP, oneP, Value.oneCell', opStore, toIV, scalT, scalA, scalC, boxesA, boxesC, zipB_none, zipB_mx, isZ, opZip, zeroP, opAppendZ, opMakeMap, opLookup, mboxB, opUpdate, ↓reduceIte, Nat.reduceSub, Nat.reduceEqDiff, Nat.reduceAdd, Nat.reduceMul, Nat.reduceLT, Nat.reduceLeDiff, Int.reduceToNat, Int.reduceLE, Int.reduceLT, Int.reduceNeg, reduceCtorEq, zzR, gos, Int.reduceAdd, Int.reduceSub, Int.reduceMul, Int.reduceEq])
      rfl
    | true =>
      rw [h2] at q2
      by_cases h3 : (x.length : Int) = c
      · rw [decide_eq_true h3]
        obtain ⟨R, C, rfl, rfl, M⟩ := mat_of h1
        have h3' : x.length = C := by omega
        simp only [Bool.and_self, if_true, Int.toNat_natCast]
        have r1 := M.r1
        have r2 := M.r2
        have p1 := M.hp.1
        unfold timesM
        refine X_startP (n := 49) (m := 3) (rs := [.tmp 6, .tmp 7]) Try.func57 rfl rfl rfl rfl (by decide) fun base => ?_
        repeat (first | ((first | refine X_call_fn2 rfl (by simp only [tys]) ?_ | refine X_dcall_fn2 rfl (by simp only [tys]) ?_); apply Exists.intro; apply And.intro; (focus (simp -dsimp only [simx, zzC, zzB, tys, ite_self, opnL, callB, callX, readsB, stepOp, nilCmp, ofVal, opBuiltin, opLen, PV.sk, scalBin, scalUn, intBin, opLoad, natOf, opConvert, opField, cellsP, oneP, Value.oneCell', opStore, toIV, scalT, scalA, scalC, boxesA, boxesC, zipB_none, zipB_mx, isZ, opZip, zeroP, opAppendZ, opMakeMap, opLookup, mboxB, opUpdate, ↓reduceIte, Nat.reduceSub, Nat.reduceEqDiff, Nat.reduceAdd, Nat.reduceMul, Nat.reduceLT, Nat.reduceLeDiff, Int.reduceToNat, Int.reduceLE, Int.reduceLT, Int.reduceNeg, reduceCtorEq, zzL, if_true, if_false] <;> rfl)); apply Exists.intro; apply And.intro; (focus (first | exact q1 | exact q2))) | refine X_opc rfl ?_ | refine X_dopc rfl ?_ | refine ⟨(by show drawK _ _ = true; kernel_rfl : drawX _ _ _), ?_⟩ | exact (by show drawK _ _ = true; kernel_rfl : drawX _ _ _) | simp -dsimp (maxSteps := 20000000) (disch := omega) only [simx, zzC, zzB, tys, ite_self, opnL, callB, callX, readsB, stepOp, nilCmp, ofVal, opBuiltin, opLen, PV.sk, scalBin, scalUn, intBin, opLoad, natOf, opConvert, opField, cellsP, oneP, Value.oneCell', opStore, toIV, scalT, scalA, scalC, boxesA, boxesC, zipB_none, zipB_mx, isZ, opZip, zeroP, opAppendZ, opMakeMap, opLookup, mboxB, opUpdate, ↓reduceIte, Nat.reduceSub, Nat.reduceEqDiff, Nat.reduceAdd, Nat.reduceMul, Nat.reduceLT, Nat.reduceLeDiff, Int.reduceToNat, Int.reduceLE, Int.reduceLT, Int.reduceNeg, reduceCtorEq, gos, Int.reduceAdd, Int.reduceSub, Int.reduceMul, Int.reduceEq])
        refine X_loopH [0, 2, 4, 8, 30, 31] [(8, 2) :: base] (0) (R) (fun j => True) (fun j => [(8, rowP ((8, 3) :: base) 1 j (((List.range j).map (fun i => dotI (rowM C l i) x % p)).map iu)), (31, i64 j)]) (fun j => rowH (Heap.none.put ((0, 0) :: base) (.var [i64 R, i64 C, lu l])) ((8, 3) :: base) j (((List.range j).map (fun i => dotI (rowM C l i) x % p)).map iu)) ?_ ?_ ?_ ?_ ?_ (by decide) ?_
        · exact (fgt_cons (by simp only [Heap.none_at]) (by (simp -dsimp only [zzB, tys, ite_self, opnL, callB, callX, readsB, stepOp, nilCmp, ofVal, opBuiltin, opLen, PV.sk, scalBin, scalUn, intBin, opLoad, natOf, opConvert, opField, cellsP, oneP, Value.oneCell', opStore, toIV, scalT, scalA, scalC, boxesA, boxesC, zipB_none, zipB_mx, isZ, opZip, zeroP, opAppendZ, opMakeMap, opLookup, mboxB, opUpdate, ↓reduceIte, Nat.reduceSub, Nat.reduceEqDiff, Nat.reduceAdd, Nat.reduceMul, Nat.reduceLT, Nat.reduceLeDiff, Int.reduceToNat, Int.reduceLE, Int.reduceLT, Int.reduceNeg, reduceCtorEq, notIn_cons, notIn_nil]) <;> simp [refsL, refsP, mem_refs_rowP]) (by repeat (first | exact noVar_none _ | refine noVar_row ?_ | refine noVar_map ?_ | refine noVar_rowH ?_ | refine noVar_var ?_ (by simp [refsL, refsP, mem_refs_rowP]))) (fgt_nil))
        · ((simp -dsimp (disch := omega) only [simx, zzB, tys, ite_self, opnL, callB, callX, readsB, stepOp, nilCmp, ofVal, opBuiltin, opLen, PV.sk, scalBin, scalUn, intBin, opLoad, natOf, opConvert, opField, cellsP, oneP, Value.oneCell', opStore, toIV, scalT, scalA, scalC, boxesA, boxesC, zipB_none, zipB_mx, isZ, opZip, zeroP, opAppendZ, opMakeMap, opLookup, mboxB, opUpdate, ↓reduceIte, Nat.reduceSub, Nat.reduceEqDiff, Nat.reduceAdd, Nat.reduceMul, Nat.reduceLT, Nat.reduceLeDiff, Int.reduceToNat, Int.reduceLE, Int.reduceLT, Int.reduceNeg, reduceCtorEq, gos, Int.reduceAdd, Int.reduceSub, Int.reduceMul, Int.reduceEq]) <;> first | rfl | simp [rowP])
        · funext c
          simp (maxSteps := 20000000) only [Heap.drop_at, rowH_app, Heap.put_at, Heap.none_at, List.mem_cons, List.not_mem_nil, or_false]
          by_cases e0 : c = (0, 0) :: base
          · subst e0; simp []
          by_cases e1 : c = (8, 2) :: base
          · subst e1; simp []
          simp [e0, e1]
        · omega
        · trivial
        · intro j hj _
          by_cases cj : j < R
          · have d1 := row_walk M.len M.r2 M.c2 cj
            have rl := rowM_len M.len cj
            have d2 := dot_walk p (rowM C l j) x (by rw [rl, mx_len]; have := M.c2; omega) hx (fun a ha => wl a (rowM_mem ha)) wx
            rw [show dotR p (rowM C l j) x = (dotI (rowM C l j) x % p, 0) by
              unfold dotR
              rw [show HasB p (rowM C l j) = true from (has_iff _ _).2 ⟨fun a ha => M.has a (rowM_mem ha), M.hp.1, M.hp.2⟩, h2, decide_eq_true (show (rowM C l j).length = x.length by omega)]; rfl] at d2
            have tk := timesM_take (p := p) (c := C) (l := l) (x := x) cj
            repeat (first | ((first | refine X_call_fn2 rfl (by simp only [tys]) ?_ | refine X_dcall_fn2 rfl (by simp only [tys]) ?_); apply Exists.intro; apply And.intro; (focus (simp -dsimp only [simx, zzC, zzB, tys, ite_self, opnL, callB, callX, readsB, stepOp, nilCmp, ofVal, opBuiltin, opLen, PV.sk, scalBin, scalUn, intBin, opLoad, natOf, opConvert, opField, cellsP, oneP, Value.oneCell', opStore, toIV, scalT, scalA, scalC, boxesA, boxesC, zipB_none, zipB_mx, isZ, opZip, zeroP, opAppendZ, opMakeMap, opLookup, mboxB, opUpdate, ↓reduceIte, Nat.reduceSub, Nat.reduceEqDiff, Nat.reduceAdd, Nat.reduceMul, Nat.reduceLT, Nat.reduceLeDiff, Int.reduceToNat, Int.reduceLE, Int.reduceLT, Int.reduceNeg, reduceCtorEq, zzL, if_true, if_false] <;> rfl)); apply Exists.intro; apply And.intro; (focus (first | exact d1 | exact d2))) | refine X_opc rfl ?_ | refine X_dopc rfl ?_ | refine ⟨(by show drawK _ _ = true; kernel_rfl : drawX _ _ _), ?_⟩ | exact (by show drawK _ _ = true; kernel_rfl : drawX _ _ _) | simp -dsimp (maxSteps := 20000000) (disch := omega) only [simx, zzC, zzB, tys, ite_self, opnL, callB, callX, readsB, stepOp, nilCmp, ofVal, opBuiltin, opLen, PV.sk, scalBin, scalUn, intBin, opLoad, natOf, opConvert, opField, cellsP, oneP, Value.oneCell', opStore, toIV, scalT, scalA, scalC, boxesA, boxesC, zipB_none, zipB_mx, isZ, opZip, zeroP, opAppendZ, opMakeMap, opLookup, mboxB, opUpdate, ↓reduceIte, Nat.reduceSub, Nat.reduceEqDiff, Nat.reduceAdd, Nat.reduceMul, Nat.reduceLT, Nat.reduceLeDiff, Int.reduceToNat, Int.reduceLE, Int.reduceLT, Int.reduceNeg, reduceCtorEq, gos, Int.reduceAdd, Int.reduceSub, Int.reduceMul, Int.reduceEq, cj])
            refine X_append_one 22 [.int .u64 0] [iu (dotI (rowM C l j) x % p)] (by simp only [tys]) (by simp only [tys]) rfl (by decide) (by simp) (by simp [Heap.put_at, Heap.none_at, rowH_app]) (by simp [Heap.put_at]; rfl) rfl (by simp only [tys]; omega) (by rw [mx_len]; omega) ?_
            repeat (first | refine X_opc rfl ?_ | refine X_dopc rfl ?_ | refine ⟨(by show drawK _ _ = true; kernel_rfl : drawX _ _ _), ?_⟩ | exact (by show drawK _ _ = true; kernel_rfl : drawX _ _ _) | simp -dsimp (maxSteps := 20000000) (disch := omega) only [simx, zzC, zzB, tys, ite_self, opnL, callB, callX, readsB, stepOp, nilCmp, ofVal, opBuiltin, opLen, PV.sk, scalBin, scalUn, intBin, opLoad, natOf, opConvert, opField, cellsP, oneP, Value.oneCell', opStore, toIV, scalT, scalA, scalC, boxesA, boxesC, zipB_none, zipB_mx, isZ, opZip, zeroP, opAppendZ, opMakeMap, opLookup, mboxB, opUpdate, ↓reduceIte, Nat.reduceSub, Nat.reduceEqDiff, Nat.reduceAdd, Nat.reduceMul, Nat.reduceLT, Nat.reduceLeDiff, Int.reduceToNat, Int.reduceLE, Int.reduceLT, Int.reduceNeg, reduceCtorEq, gos, Int.reduceAdd, Int.reduceSub, Int.reduceMul, Int.reduceEq, cj])
            refine ⟨cj, (fgt_cons (by simp only [Heap.none_at]) (by (simp -dsimp only [zzB, tys, ite_self, opnL, callB, callX, readsB, stepOp, nilCmp, ofVal, opBuiltin, opLen, PV.sk, scalBin, scalUn, intBin, opLoad, natOf, opConvert, opField, cellsP, oneP, Value.oneCell', opStore, toIV, scalT, scalA, scalC, boxesA, boxesC, zipB_none, zipB_mx, isZ, opZip, zeroP, opAppendZ, opMakeMap, opLookup, mboxB, opUpdate, ↓reduceIte, Nat.reduceSub, Nat.reduceEqDiff, Nat.reduceAdd, Nat.reduceMul, Nat.reduceLT, Nat.reduceLeDiff, Int.reduceToNat, Int.reduceLE, Int.reduceLT, Int.reduceNeg, reduceCtorEq, notIn_cons, notIn_nil]) <;> simp [refsL, refsP, mem_refs_rowP]) (by repeat (first | exact noVar_none _ | refine noVar_row ?_ | refine noVar_map ?_ | refine noVar_rowH ?_ | refine noVar_var ?_ (by simp [refsL, refsP, mem_refs_rowP]))) (fgt_nil)), ⟨?_, rfl⟩, ?_⟩
            · rw [tk]; simp
            · funext c
              simp (maxSteps := 20000000) only [Heap.drop_at, rowH_app, Heap.put_at, Heap.none_at, List.mem_cons, List.not_mem_nil, or_false]
              by_cases e0 : c = (0, 0) :: base
              · subst e0; simp [tk]
              by_cases e1 : c = (8, 2) :: base
              · subst e1; simp [tk]
              by_cases e2 : c = (8, 3) :: base
              · subst e2; simp [tk]
              simp [e0, e1, e2, tk]
          · have hj : j = R := by omega
            subst hj
            obtain ⟨s, rfl⟩ : ∃ s, j = s + 1 := ⟨j - 1, by omega⟩
            have e2 : (((List.range (s + 1)).map (fun i => dotI (rowM C l i) x % p)).map iu).take (s + 1) = ((List.range (s + 1)).map (fun i => dotI (rowM C l i) x % p)).map iu := List.take_of_length_le (by simp)
            repeat (first | refine X_opc rfl ?_ | refine X_dopc rfl ?_ | refine ⟨(by show drawK _ _ = true; kernel_rfl : drawX _ _ _), ?_⟩ | exact (by show drawK _ _ = true; kernel_rfl : drawX _ _ _) | simp -dsimp (maxSteps := 20000000) (disch := omega) only [simx, zzC, zzB, tys, ite_self, opnL, callB, callX, readsB, stepOp, nilCmp, ofVal, opBuiltin, opLen, PV.sk, scalBin, scalUn, intBin, opLoad, natOf, opConvert, opField, cellsP, oneP, Value.oneCell', opStore, toIV, scalT, scalA, scalC, boxesA, boxesC, zipB_none, zipB_mx, isZ, opZip, zeroP, opAppendZ, opMakeMap, opLookup, mboxB, opUpdate, ↓reduceIte, Nat.reduceSub, Nat.reduceEqDiff, Nat.reduceAdd, Nat.reduceMul, Nat.reduceLT, Nat.reduceLeDiff, Int.reduceToNat, Int.reduceLE, Int.reduceLT, Int.reduceNeg, reduceCtorEq, zzR, gos, Int.reduceAdd, Int.reduceSub, Int.reduceMul, Int.reduceEq, rowP_succ, rowH_succ, List.length_map, List.length_range, e2, lu])
      · rw [decide_eq_false h3]
        simp only [Bool.and_false, Bool.false_eq_true, if_false]
        refine X_startP (n := 49) (m := 3) (rs := [.tmp 6, .tmp 7]) Try.func57 rfl rfl rfl rfl (by decide) fun base => ?_
        repeat (first | ((first | refine X_call_fn2 rfl (by simp only [tys]) ?_ | refine X_dcall_fn2 rfl (by simp only [tys]) ?_); apply Exists.intro; apply And.intro; (focus (simp -dsimp only [simx, zzC, zzB, tys, ite_self, opnL, callB, callX, readsB, stepOp, nilCmp, ofVal, opBuiltin, opLen, PV.sk, scalBin, scalUn, intBin, opLoad, natOf, opConvert, opField, cellsP, oneP, Value.oneCell', opStore, toIV, scalT, scalA, scalC, boxesA, boxesC, zipB_none, zipB_mx, isZ, opZip, zeroP, opAppendZ, opMakeMap, opLookup, mboxB, opUpdate, ↓reduceIte, Nat.reduceSub, Nat.reduceEqDiff, Nat.reduceAdd, Nat.reduceMul, Nat.reduceLT, Nat.reduceLeDiff, Int.reduceToNat, Int.reduceLE, Int.reduceLT, Int.reduceNeg, reduceCtorEq, zzL, if_true, if_false] <;> rfl)); apply Exists.intro; apply And.intro; (focus (first | exact q1 | exact q2))) | refine X_opc rfl ?_ | refine X_dopc rfl ?_ | refine ⟨(by show drawK _ _ = true; kernel_rfl : drawX _ _ _), ?_⟩ | exact (by show drawK _ _ = true; kernel_rfl : drawX _ _ _) | simp -dsimp (maxSteps := 20000000) (disch := omega) only [simx, zzC, zzB, tys, ite_self, opnL, callB, callX, readsB, stepOp, nilCmp, ofVal, opBuiltin, opLen, PV.sk, scalBin, scalUn, intBin, opLoad, natOf, opConvert, opField, cellsP, oneP, Value.oneCell', opStore, toIV, scalT, scalA, scalC, boxesA, boxesC, zipB_none, zipB_mx, isZ, opZip, zeroP, opAppendZ, opMakeMap, opLookup, mboxB, opUpdate, ↓reduceIte, Nat.reduceSub, Nat.reduceEqDiff, Nat.reduceAdd, Nat.reduceMul, Nat.reduceLT, Nat.reduceLeDiff, Int.reduceToNat, Int.reduceLE, Int.reduceLT, Int.reduceNeg, reduceCtorEq, zzR, gos, Int.reduceAdd, Int.reduceSub, Int.reduceMul, Int.reduceEq])
        rfl
end Go.Proofs.Ytmalpmnmknpphaa.TM
namespace Go.Proofs.Ytmalpmnmknpphaa.TM
open Go Go.RowKit
attribute [local irreducible] K W WOps Effs Xg Xo Xr Xdg Xdo Xdr Xif CallsP CallR
def turnR (p r c : Int) (l : List Int) : (Int × Int × List Int) × Int := if MatB p r c l then ((c, r, turnM r.toNat c.toNat l), 0) else ((0, 0, []), 1)
abbrev mat2 (q : (Int × Int × List Int) × Int) : PV := .tup [matP q.1.1 q.1.2.1 q.1.2.2, i64 q.2]
set_option maxHeartbeats 2000000 in
theorem turn_walk (p r c : Int) (l : List Int) (hl : l.length ≤ maxLen) : CallsP Try.prog 20 [u64 p, matP r c l] (mat2 (turnR p r c l)) := by
  have q1 := mright_walk p r c l hl
  unfold turnR
  cases h1 : MatB p r c l with
  | false =>
    rw [h1] at q1
    refine X_startP (n := 49) (m := 2) (rs := [.cell 4 25, .tmp 5]) Try.func20 rfl rfl rfl rfl (by decide) fun base => ?_
    repeat (first | ((first | refine X_call_fn2 rfl (by simp only [tys]) ?_ | refine X_dcall_fn2 rfl (by simp only [tys]) ?_); apply Exists.intro; apply And.intro; (focus (simp -dsimp only [simx, zzC, zzB, tys, ite_self, opnL, callB, callX, readsB, stepOp, nilCmp, ofVal, opBuiltin, opLen, PV.sk, scalBin, scalUn, intBin, opLoad, natOf, opConvert, opField, cellsP, oneP, Value.oneCell', opStore, toIV, scalT, scalA, scalC, boxesA, boxesC, zipB_none, zipB_mx, isZ, opZip, zeroP, opAppendZ, opMakeMap, opLookup, mboxB, opUpdate, ↓reduceIte, Nat.reduceSub, Nat.reduceEqDiff, Nat.reduceAdd, Nat.reduceMul, Nat.reduceLT, Nat.reduceLeDiff, Int.reduceToNat, Int.reduceLE, Int.reduceLT, Int.reduceNeg, reduceCtorEq, zzL, if_true, if_false] <;> rfl)); apply Exists.intro; apply And.intro; (focus (first | exact q1))) | refine X_opc rfl ?_ | refine X_dopc rfl ?_ | refine ⟨(by show drawK _ _ = true; kernel_rfl : drawX _ _ _), ?_⟩ | exact (by show drawK _ _ = true; kernel_rfl : drawX _ _ _) | simp -dsimp (maxSteps := 20000000) (disch := omega) only [simx, zzC, zzB, tys, ite_self, opnL, callB, callX, readsB, stepOp, nilCmp, ofVal, opBuiltin, opLen, PV.sk, scalBin, scalUn, intBin, opLoad, natOf, opConvert, opField, cellsP, oneP, Value.oneCell', opStore, toIV, scalT, scalA, scalC, boxesA, boxesC, zipB_none, zipB_mx, isZ, opZip, zeroP, opAppendZ, opMakeMap, opLookup, mboxB, opUpdate, ↓reduceIte, Nat.reduceSub, Nat.reduceEqDiff, Nat.reduceAdd, Nat.reduceMul, Nat.reduceLT, Nat.reduceLeDiff, Int.reduceToNat, Int.reduceLE, Int.reduceLT, Int.reduceNeg, reduceCtorEq, zzR, gos, Int.reduceAdd, Int.reduceSub, Int.reduceMul, Int.reduceEq])
    rfl
  | true =>
    rw [h1] at q1
    obtain ⟨R, C, rfl, rfl, M⟩ := mat_of h1
    simp only [if_true, Int.toNat_natCast]
    have r1 := M.r1
    have r2 := M.r2
    have c1 := M.c1
    have c2 := M.c2
    have bd := rc_bd r2 c2
    have len := M.len
    have f1 : l.length * 8 ≤ 140737488355328 := by omega
    have f2 : l.length ≤ 140737488355328 := by omega
    have zf : List.map IV.v (zeroRow [Value.int .u64 0] l.length) = (turnJ R C l 0).map iu := by
      rw [turnJ_zero, len, Nat.mul_comm C R, List.map_replicate]
      induction R * C with
      | zero => rfl
      | succ n ih => rw [zeroRow_succ, List.map_append, ih]; rfl
    clear h1 hl
    refine X_startP (n := 49) (m := 2) (rs := [.cell 4 25, .tmp 5]) Try.func20 rfl rfl rfl rfl (by decide) fun base => ?_
    repeat (first | ((first | refine X_call_fn2 rfl (by simp only [tys]) ?_ | refine X_dcall_fn2 rfl (by simp only [tys]) ?_); apply Exists.intro; apply And.intro; (focus (simp -dsimp only [simx, zzC, zzB, tys, ite_self, opnL, callB, callX, readsB, stepOp, nilCmp, ofVal, opBuiltin, opLen, PV.sk, scalBin, scalUn, intBin, opLoad, natOf, opConvert, opField, cellsP, oneP, Value.oneCell', opStore, toIV, scalT, scalA, scalC, boxesA, boxesC, zipB_none, zipB_mx, isZ, opZip, zeroP, opAppendZ, opMakeMap, opLookup, mboxB, opUpdate, ↓reduceIte, Nat.reduceSub, Nat.reduceEqDiff, Nat.reduceAdd, Nat.reduceMul, Nat.reduceLT, Nat.reduceLeDiff, Int.reduceToNat, Int.reduceLE, Int.reduceLT, Int.reduceNeg, reduceCtorEq, zzL, if_true, if_false] <;> rfl)); apply Exists.intro; apply And.intro; (focus (first | exact q1))) | refine X_opc rfl ?_ | refine X_dopc rfl ?_ | refine ⟨(by show drawK _ _ = true; kernel_rfl : drawX _ _ _), ?_⟩ | exact (by show drawK _ _ = true; kernel_rfl : drawX _ _ _) | simp -dsimp (maxSteps := 20000000) (disch := omega) only [simx, zzC, zzB, tys, ite_self, opnL, callB, callX, readsB, stepOp, nilCmp, ofVal, opBuiltin, opLen, PV.sk, scalBin, scalUn, intBin, opLoad, natOf, opConvert, opField, cellsP, oneP, Value.oneCell', opStore, toIV, scalT, scalA, scalC, boxesA, boxesC, zipB_none, zipB_mx, isZ, opZip, zeroP, opAppendZ, opMakeMap, opLookup, mboxB, opUpdate, ↓reduceIte, Nat.reduceSub, Nat.reduceEqDiff, Nat.reduceAdd, Nat.reduceMul, Nat.reduceLT, Nat.reduceLeDiff, Int.reduceToNat, Int.reduceLE, Int.reduceLT, Int.reduceNeg, reduceCtorEq, gos, Int.reduceAdd, Int.reduceSub, Int.reduceMul, Int.reduceEq, zf, f1, f2])
    refine X_loopH [3, 4, 6, 24, 25, 26] [] (0) (l.length) (fun j => True) (fun j => [(26, i64 j)]) (fun j => (((Heap.none.put ((0, 0) :: base) (.var [i64 R, i64 C, lu l])).put ((0, 1) :: base) (.var [i64 0, i64 0, nilP])).put ((3, 7) :: base) (.row false ((turnJ R C l j).map iu))).put ((3, 9) :: base) (.var [i64 C, i64 R, .view ((3, 7) :: base) 0 1 l.length l.length])) ?_ ?_ ?_ ?_ ?_ (by decide) ?_
    · exact (fgt_nil)
    · ((simp -dsimp (disch := omega) only [simx, zzB, tys, ite_self, opnL, callB, callX, readsB, stepOp, nilCmp, ofVal, opBuiltin, opLen, PV.sk, scalBin, scalUn, intBin, opLoad, natOf, opConvert, opField, cellsP, oneP, Value.oneCell', opStore, toIV, scalT, scalA, scalC, boxesA, boxesC, zipB_none, zipB_mx, isZ, opZip, zeroP, opAppendZ, opMakeMap, opLookup, mboxB, opUpdate, ↓reduceIte, Nat.reduceSub, Nat.reduceEqDiff, Nat.reduceAdd, Nat.reduceMul, Nat.reduceLT, Nat.reduceLeDiff, Int.reduceToNat, Int.reduceLE, Int.reduceLT, Int.reduceNeg, reduceCtorEq, gos, Int.reduceAdd, Int.reduceSub, Int.reduceMul, Int.reduceEq]) <;> first | rfl | simp)
    · funext c
      simp (maxSteps := 20000000) only [Heap.drop_at, rowH_app, Heap.put_at, Heap.none_at, List.mem_cons, List.not_mem_nil, or_false]
      by_cases e0 : c = (0, 0) :: base
      · subst e0; simp [zf]
      by_cases e1 : c = (0, 1) :: base
      · subst e1; simp [zf]
      by_cases e2 : c = (3, 7) :: base
      · subst e2; simp [zf]
      by_cases e3 : c = (3, 9) :: base
      · subst e3; simp [zf]
      simp [e0, e1, e2, e3, zf]
    · omega
    · trivial
    · intro j hj _
      by_cases cj : j < l.length
      · have g1 : l[j]? = some l[j] := List.getElem?_eq_getElem cj
        obtain ⟨d1, d2⟩ := turn_dst (r := R) (c := C) (j := j) (by omega) (by omega)
        have nx := turnJ_next (r := R) (c := C) (j := j) (l := l) (by omega) (by omega) len (by omega)
        have m1 : j % C < C := Nat.mod_lt _ (by omega)
        have m2 := ic_bd (c := R) m1
        have m3 : C * R ≤ 4096 := rc_bd c2 r2
        have tl : (turnJ R C l j).length = l.length := by rw [turnJ_len, len, Nat.mul_comm]
        have e1 : (j : Int) % (C : Int) = ((j % C : Nat) : Int) := rfl
        have e2 : IntKind.i64.wrap (((j % C : Nat) : Int) * (R : Int)) = ((j % C * R : Nat) : Int) := by rw [← Int.natCast_mul]; exact iw_of (by omega) (by omega)
        have e3 : (j : Int) / (C : Int) = ((j / C : Nat) : Int) := rfl
        have e4 : IntKind.i64.wrap (((j % C * R : Nat) : Int) + ((j / C : Nat) : Int)) = ((j % C * R + j / C : Nat) : Int) := by
          rw [← Int.natCast_add]
          generalize j % C * R + j / C = z at d1
          exact iw_of (by omega) (by omega)
        have e5 : IntKind.i64.wrap ((j / C : Nat) : Int) = ((j / C : Nat) : Int) := by
          have := Nat.div_le_self j C
          generalize j / C = z at this
          exact iw_of (by omega) (by omega)
        have nx2 : ((turnJ R C l j).map iu).take (j % C * R + j / C) ++ [iu l[j]] ++ ((turnJ R C l j).map iu).drop (j % C * R + j / C + 1) = (turnJ R C l (j + 1)).map iu := by
          rw [← nx]; simp
        have d3 : j % C * R + j / C < l.length := by rw [len, Nat.mul_comm R C]; exact d1
        have d4 : j % C * R + j / C + 1 ≤ l.length := d3
        have cne : (C : Int) ≠ 0 := by omega
        have hj0 : (0 : Int) ≤ j := by omega
        clear nx d1 d2 m1 m2 m3 bd zf
        repeat (first | refine X_opc rfl ?_ | refine X_dopc rfl ?_ | refine ⟨(by show drawK _ _ = true; kernel_rfl : drawX _ _ _), ?_⟩ | exact (by show drawK _ _ = true; kernel_rfl : drawX _ _ _) | simp -dsimp (maxSteps := 20000000) (disch := omega) only [simx, zzC, zzB, tys, ite_self, opnL, callB, callX, readsB, stepOp, nilCmp, ofVal, opBuiltin, opLen, PV.sk, scalBin, scalUn, intBin, opLoad, natOf, opConvert, opField, cellsP, oneP, Value.oneCell', opStore, toIV, scalT, scalA, scalC, boxesA, boxesC, zipB_none, zipB_mx, isZ, opZip, zeroP, opAppendZ, opMakeMap, opLookup, mboxB, opUpdate, ↓reduceIte, Nat.reduceSub, Nat.reduceEqDiff, Nat.reduceAdd, Nat.reduceMul, Nat.reduceLT, Nat.reduceLeDiff, Int.reduceToNat, Int.reduceLE, Int.reduceLT, Int.reduceNeg, reduceCtorEq, gos, Int.reduceAdd, Int.reduceSub, Int.reduceMul, Int.reduceEq, cj, g1, tmod_nn hj0, tdiv_nn hj0, e1, e2, e3, e4, e5, nx2, d3, d4, cne, List.length_map, tl])
        refine ⟨cj, (fgt_nil), rfl, ?_⟩
        funext c
        simp (maxSteps := 20000000) only [Heap.drop_at, rowH_app, Heap.put_at, Heap.none_at, List.mem_cons, List.not_mem_nil, or_false]
        by_cases e0 : c = (0, 0) :: base
        · subst e0; simp []
        by_cases e1 : c = (0, 1) :: base
        · subst e1; simp []
        by_cases e2 : c = (3, 7) :: base
        · subst e2; simp []
        by_cases e3 : c = (3, 9) :: base
        · subst e3; simp []
        simp [e0, e1, e2, e3]
      · have hj : j = l.length := by omega
        subst hj
        have tl : (turnJ R C l l.length).length = l.length := by rw [turnJ_len, len, Nat.mul_comm]
        have e2 : ((turnJ R C l l.length).map iu).take l.length = (turnJ R C l l.length).map iu := List.take_of_length_le (by rw [List.length_map, tl]; exact Nat.le_refl _)
        have e3 : turnJ R C l l.length = turnM R C l := by rw [len]; exact turnJ_all (by omega)
        have e4 := turnM_len R C l
        repeat (first | refine X_opc rfl ?_ | refine X_dopc rfl ?_ | refine ⟨(by show drawK _ _ = true; kernel_rfl : drawX _ _ _), ?_⟩ | exact (by show drawK _ _ = true; kernel_rfl : drawX _ _ _) | simp -dsimp (maxSteps := 20000000) (disch := omega) only [simx, zzC, zzB, tys, ite_self, opnL, callB, callX, readsB, stepOp, nilCmp, ofVal, opBuiltin, opLen, PV.sk, scalBin, scalUn, intBin, opLoad, natOf, opConvert, opField, cellsP, oneP, Value.oneCell', opStore, toIV, scalT, scalA, scalC, boxesA, boxesC, zipB_none, zipB_mx, isZ, opZip, zeroP, opAppendZ, opMakeMap, opLookup, mboxB, opUpdate, ↓reduceIte, Nat.reduceSub, Nat.reduceEqDiff, Nat.reduceAdd, Nat.reduceMul, Nat.reduceLT, Nat.reduceLeDiff, Int.reduceToNat, Int.reduceLE, Int.reduceLT, Int.reduceNeg, reduceCtorEq, zzR, gos, Int.reduceAdd, Int.reduceSub, Int.reduceMul, Int.reduceEq, e2, tl, List.length_map])
        rw [e3, show l.length = (turnM R C l).length by rw [e4, len, Nat.mul_comm]]
def mlR (p : Int) (x : List Int) (r c : Int) (l : List Int) : List Int × Int := if MatB p r c l && (HasB p x && decide ((x.length : Int) = r)) then (timesM p c.toNat r.toNat (turnM r.toNat c.toNat l) x, 0) else ([], 1)
theorem left_walk (p r c : Int) (l x : List Int) (hl : l.length ≤ maxLen) (hx : x.length ≤ maxLen) (wl : W64s l) (wx : W64s x) : CallsP Try.prog 62 [u64 p, lu x, matP r c l] (.tup [lu (mlR p x r c l).1, i64 (mlR p x r c l).2]) := by
  have q1 := turn_walk p r c l hl
  unfold turnR at q1
  unfold mlR
  cases h1 : MatB p r c l with
  | false =>
    rw [h1] at q1
    refine X_startP (n := 25) (m := 3) (rs := [.tmp 6, .tmp 7]) Try.func62 rfl rfl rfl rfl (by decide) fun base => ?_
    repeat (first | ((first | refine X_call_fn2 rfl (by simp only [tys]) ?_ | refine X_dcall_fn2 rfl (by simp only [tys]) ?_); apply Exists.intro; apply And.intro; (focus (simp -dsimp only [simx, zzC, zzB, tys, ite_self, opnL, callB, callX, readsB, stepOp, nilCmp, ofVal, opBuiltin, opLen, PV.sk, scalBin, scalUn, intBin, opLoad, natOf, opConvert, opField, cellsP, oneP, Value.oneCell', opStore, toIV, scalT, scalA, scalC, boxesA, boxesC, zipB_none, zipB_mx, isZ, opZip, zeroP, opAppendZ, opMakeMap, opLookup, mboxB, opUpdate, ↓reduceIte, Nat.reduceSub, Nat.reduceEqDiff, Nat.reduceAdd, Nat.reduceMul, Nat.reduceLT, Nat.reduceLeDiff, Int.reduceToNat, Int.reduceLE, Int.reduceLT, Int.reduceNeg, reduceCtorEq, zzL, if_true, if_false] <;> rfl)); apply Exists.intro; apply And.intro; (focus (first | exact q1))) | refine X_opc rfl ?_ | refine X_dopc rfl ?_ | refine ⟨(by show drawK _ _ = true; kernel_rfl : drawX _ _ _), ?_⟩ | exact (by show drawK _ _ = true; kernel_rfl : drawX _ _ _) | simp -dsimp (maxSteps := 20000000) (disch := omega) only [simx, zzC, zzB, tys, ite_self, opnL, callB, callX, readsB, stepOp, nilCmp, ofVal, opBuiltin, opLen, PV.sk, scalBin, scalUn, intBin, opLoad, natOf, opConvert, opField, cellsP, oneP, Value.oneCell', opStore, toIV, scalT, scalA, scalC, boxesA, boxesC, zipB_none, zipB_mx, isZ, opZip, zeroP, opAppendZ, opMakeMap, opLookup, mboxB, opUpdate, ↓reduceIte, Nat.reduceSub, Nat.reduceEqDiff, Nat.reduceAdd, Nat.reduceMul, Nat.reduceLT, Nat.reduceLeDiff, Int.reduceToNat, Int.reduceLE, Int.reduceLT, Int.reduceNeg, reduceCtorEq, zzR, gos, Int.reduceAdd, Int.reduceSub, Int.reduceMul, Int.reduceEq])
    rfl
  | true =>
    rw [h1] at q1
    obtain ⟨R, C, rfl, rfl, M⟩ := mat_of h1
    simp only [if_true, Int.toNat_natCast] at q1
    have M2 := turn_mt M
    have q2 := times_walk p C R (turnM R C l) x (by rw [turnM_len, mx_len]; have := rc_bd M.c2 M.r2; omega) hx (fun a ha => wl a (turnM_mem (by have := M.r1; omega) M.len ha)) wx
    unfold timesR at q2
    rw [mat_mk M2] at q2
    simp only [Int.toNat_natCast] at q2 ⊢
    clear h1 M M2 hl hx wl wx
    obtain ⟨y, e, hy⟩ : ∃ y e, (if (true && (HasB p x && decide ((x.length : Int) = R))) = true then (timesM p C R (turnM R C l) x, (0 : Int)) else ([], 1)) = (y, e) := ⟨_, _, rfl⟩
    rw [hy] at q2 ⊢
    refine X_startP (n := 25) (m := 3) (rs := [.tmp 6, .tmp 7]) Try.func62 rfl rfl rfl rfl (by decide) fun base => ?_
    repeat (first | ((first | refine X_call_fn2 rfl (by simp only [tys]) ?_ | refine X_dcall_fn2 rfl (by simp only [tys]) ?_); apply Exists.intro; apply And.intro; (focus (simp -dsimp only [simx, zzC, zzB, tys, ite_self, opnL, callB, callX, readsB, stepOp, nilCmp, ofVal, opBuiltin, opLen, PV.sk, scalBin, scalUn, intBin, opLoad, natOf, opConvert, opField, cellsP, oneP, Value.oneCell', opStore, toIV, scalT, scalA, scalC, boxesA, boxesC, zipB_none, zipB_mx, isZ, opZip, zeroP, opAppendZ, opMakeMap, opLookup, mboxB, opUpdate, ↓reduceIte, Nat.reduceSub, Nat.reduceEqDiff, Nat.reduceAdd, Nat.reduceMul, Nat.reduceLT, Nat.reduceLeDiff, Int.reduceToNat, Int.reduceLE, Int.reduceLT, Int.reduceNeg, reduceCtorEq, zzL, if_true, if_false] <;> rfl)); apply Exists.intro; apply And.intro; (focus (first | exact q1 | exact q2))) | refine X_opc rfl ?_ | refine X_dopc rfl ?_ | refine ⟨(by show drawK _ _ = true; kernel_rfl : drawX _ _ _), ?_⟩ | exact (by show drawK _ _ = true; kernel_rfl : drawX _ _ _) | simp -dsimp (maxSteps := 20000000) (disch := omega) only [simx, zzC, zzB, tys, ite_self, opnL, callB, callX, readsB, stepOp, nilCmp, ofVal, opBuiltin, opLen, PV.sk, scalBin, scalUn, intBin, opLoad, natOf, opConvert, opField, cellsP, oneP, Value.oneCell', opStore, toIV, scalT, scalA, scalC, boxesA, boxesC, zipB_none, zipB_mx, isZ, opZip, zeroP, opAppendZ, opMakeMap, opLookup, mboxB, opUpdate, ↓reduceIte, Nat.reduceSub, Nat.reduceEqDiff, Nat.reduceAdd, Nat.reduceMul, Nat.reduceLT, Nat.reduceLeDiff, Int.reduceToNat, Int.reduceLE, Int.reduceLT, Int.reduceNeg, reduceCtorEq, zzR, gos, Int.reduceAdd, Int.reduceSub, Int.reduceMul, Int.reduceEq])
end Go.Proofs.Ytmalpmnmknpphaa.TM
namespace Go.Proofs.Ytmalpmnmknpphaa.TM
open Go Go.RowKit
attribute [local irreducible] K W WOps Effs Xg Xo Xr Xdg Xdo Xdr Xif CallsP CallR
theorem is_walk (p : Nat) (hp : p < 1048576) : ∃ b, CallsP Try.prog 12 [u64 p] (bl b) ∧ (b = true → Prm p) := by
  by_cases h2 : p < 2
  · refine ⟨false, ?_, fun h => by cases h⟩
    refine X_startP (n := 17) (m := 1) (rs := [.tmp 2]) Try.func12 rfl rfl rfl rfl (by decide) fun base => ?_
    repeat (first | refine X_opc rfl ?_ | refine X_dopc rfl ?_ | refine ⟨(by show drawK _ _ = true; kernel_rfl : drawX _ _ _), ?_⟩ | exact (by show drawK _ _ = true; kernel_rfl : drawX _ _ _) | simp -dsimp (maxSteps := 20000000) (disch := omega) only [simx, zzC, zzB, tys, ite_self, opnL, callB, callX, readsB, stepOp, nilCmp, ofVal, opBuiltin, opLen, PV.sk, scalBin, scalUn, intBin, opLoad, natOf, opConvert, opField, cellsP, oneP, Value.oneCell', opStore, toIV, scalT, scalA, scalC, boxesA, boxesC, zipB_none, zipB_mx, isZ, opZip, zeroP, opAppendZ, opMakeMap, opLookup, mboxB, opUpdate, ↓reduceIte, Nat.reduceSub, Nat.reduceEqDiff, Nat.reduceAdd, Nat.reduceMul, Nat.reduceLT, Nat.reduceLeDiff, Int.reduceToNat, Int.reduceLE, Int.reduceLT, Int.reduceNeg, reduceCtorEq, zzR, gos, Int.reduceAdd, Int.reduceSub, Int.reduceMul, Int.reduceEq])
  obtain ⟨d0, ⟨d2, dd⟩, dl⟩ := least (fun d => 2 ≤ d ∧ (p < d * d ∨ p % d = 0)) p ⟨by omega, .inr (Nat.mod_self p)⟩
  have lo : ∀ d, 2 ≤ d → d < d0 → d * d ≤ p ∧ p % d ≠ 0 := fun d h1 h3 => by
    have := dl d h3
    constructor
    · rcases Nat.lt_or_ge p (d * d) with h | h
      · exact absurd ⟨h1, .inl h⟩ this
      · exact h
    · intro h; exact this ⟨h1, .inr h⟩
  have dm : d0 ≤ 1024 := by
    rcases Nat.lt_or_ge 1024 d0 with h | h
    · have := (lo 1024 (by omega) h).1; omega
    · exact h
  have sq : ∀ j : Nat, j ≤ 1024 → j * j ≤ 1024 * 1024 := fun j h => Nat.mul_le_mul h h
  refine ⟨decide (p < d0 * d0), ?_, fun h => prm_of (by omega) fun d h1 h3 => ?_⟩
  · refine X_startP (n := 17) (m := 1) (rs := [.tmp 2]) Try.func12 rfl rfl rfl rfl (by decide) fun base => ?_
    repeat (first | refine X_opc rfl ?_ | refine X_dopc rfl ?_ | refine ⟨(by show drawK _ _ = true; kernel_rfl : drawX _ _ _), ?_⟩ | exact (by show drawK _ _ = true; kernel_rfl : drawX _ _ _) | simp -dsimp (maxSteps := 20000000) (disch := omega) only [simx, zzC, zzB, tys, ite_self, opnL, callB, callX, readsB, stepOp, nilCmp, ofVal, opBuiltin, opLen, PV.sk, scalBin, scalUn, intBin, opLoad, natOf, opConvert, opField, cellsP, oneP, Value.oneCell', opStore, toIV, scalT, scalA, scalC, boxesA, boxesC, zipB_none, zipB_mx, isZ, opZip, zeroP, opAppendZ, opMakeMap, opLookup, mboxB, opUpdate, ↓reduceIte, Nat.reduceSub, Nat.reduceEqDiff, Nat.reduceAdd, Nat.reduceMul, Nat.reduceLT, Nat.reduceLeDiff, Int.reduceToNat, Int.reduceLE, Int.reduceLT, Int.reduceNeg, reduceCtorEq, gos, Int.reduceAdd, Int.reduceSub, Int.reduceMul, Int.reduceEq])
    refine X_loopH [0, 3] [] (0) (d0 - 2) (fun j => True) (fun j => [(3, u64 ((2 + j : Nat) : Int))]) (fun j => Heap.none) ?_ ?_ ?_ ?_ ?_ (by decide) ?_
    · exact (fgt_nil)
    · ((simp -dsimp (disch := omega) only [simx, zzB, tys, ite_self, opnL, callB, callX, readsB, stepOp, nilCmp, ofVal, opBuiltin, opLen, PV.sk, scalBin, scalUn, intBin, opLoad, natOf, opConvert, opField, cellsP, oneP, Value.oneCell', opStore, toIV, scalT, scalA, scalC, boxesA, boxesC, zipB_none, zipB_mx, isZ, opZip, zeroP, opAppendZ, opMakeMap, opLookup, mboxB, opUpdate, ↓reduceIte, Nat.reduceSub, Nat.reduceEqDiff, Nat.reduceAdd, Nat.reduceMul, Nat.reduceLT, Nat.reduceLeDiff, Int.reduceToNat, Int.reduceLE, Int.reduceLT, Int.reduceNeg, reduceCtorEq, gos, Int.reduceAdd, Int.reduceSub, Int.reduceMul, Int.reduceEq]) <;> first | rfl | simp)
    · exact drop_nil _
    · omega
    · trivial
    · intro j hj _
      have s1 := sq (2 + j) (by omega)
      have e1 : IntKind.u64.wrap (((2 + j : Nat) : Int) * ((2 + j : Nat) : Int)) = (((2 + j) * (2 + j) : Nat) : Int) := by rw [← Int.natCast_mul]; exact uw_of (by omega) (by omega)
      by_cases cj : j < d0 - 2
      · obtain ⟨l1, l2⟩ := lo (2 + j) (by omega) (by omega)
        have e2 : (((2 + j) * (2 + j) : Nat) : Int) ≤ (p : Int) := by omega
        have e3 : ¬ (p : Int) % ((2 + j : Nat) : Int) = 0 := by rw [← Int.natCast_emod]; omega
        have e4 : IntKind.u64.wrap (((2 + j : Nat) : Int) + 1) = ((2 + (j + 1) : Nat) : Int) := by
          rw [show ((2 + j : Nat) : Int) + 1 = ((2 + (j + 1) : Nat) : Int) by omega]
          exact uw_of (by omega) (by omega)
        have e5 : ¬ ((2 + j : Nat) : Int) = 0 := by omega
        generalize (((2 + j) * (2 + j) : Nat) : Int) = sq2 at *
        clear lo dl dd sq
        repeat (first | refine X_opc rfl ?_ | refine X_dopc rfl ?_ | refine ⟨(by show drawK _ _ = true; kernel_rfl : drawX _ _ _), ?_⟩ | exact (by show drawK _ _ = true; kernel_rfl : drawX _ _ _) | simp -dsimp (maxSteps := 20000000) (disch := omega) only [simx, zzC, zzB, tys, ite_self, opnL, callB, callX, readsB, stepOp, nilCmp, ofVal, opBuiltin, opLen, PV.sk, scalBin, scalUn, intBin, opLoad, natOf, opConvert, opField, cellsP, oneP, Value.oneCell', opStore, toIV, scalT, scalA, scalC, boxesA, boxesC, zipB_none, zipB_mx, isZ, opZip, zeroP, opAppendZ, opMakeMap, opLookup, mboxB, opUpdate, ↓reduceIte, Nat.reduceSub, Nat.reduceEqDiff, Nat.reduceAdd, Nat.reduceMul, Nat.reduceLT, Nat.reduceLeDiff, Int.reduceToNat, Int.reduceLE, Int.reduceLT, Int.reduceNeg, reduceCtorEq, gos, Int.reduceAdd, Int.reduceSub, Int.reduceMul, Int.reduceEq, e1, e2, e3, e4, e5])
        exact ⟨cj, (fgt_nil), by first | exact drop_nil _ | exact ⟨rfl, drop_nil _⟩⟩
      · have hj' : 2 + j = d0 := by omega
        rw [hj'] at e1 s1 ⊢
        by_cases c : p < d0 * d0
        · rw [decide_eq_true c]
          have e2 : ¬ ((d0 * d0 : Nat) : Int) ≤ (p : Int) := by omega
          generalize ((d0 * d0 : Nat) : Int) = sq2 at *
          clear lo dl dd sq
          repeat (first | refine X_opc rfl ?_ | refine X_dopc rfl ?_ | refine ⟨(by show drawK _ _ = true; kernel_rfl : drawX _ _ _), ?_⟩ | exact (by show drawK _ _ = true; kernel_rfl : drawX _ _ _) | simp -dsimp (maxSteps := 20000000) (disch := omega) only [simx, zzC, zzB, tys, ite_self, opnL, callB, callX, readsB, stepOp, nilCmp, ofVal, opBuiltin, opLen, PV.sk, scalBin, scalUn, intBin, opLoad, natOf, opConvert, opField, cellsP, oneP, Value.oneCell', opStore, toIV, scalT, scalA, scalC, boxesA, boxesC, zipB_none, zipB_mx, isZ, opZip, zeroP, opAppendZ, opMakeMap, opLookup, mboxB, opUpdate, ↓reduceIte, Nat.reduceSub, Nat.reduceEqDiff, Nat.reduceAdd, Nat.reduceMul, Nat.reduceLT, Nat.reduceLeDiff, Int.reduceToNat, Int.reduceLE, Int.reduceLT, Int.reduceNeg, reduceCtorEq, zzR, gos, Int.reduceAdd, Int.reduceSub, Int.reduceMul, Int.reduceEq, e1, e2])
        · rw [decide_eq_false c]
          have e2 : ((d0 * d0 : Nat) : Int) ≤ (p : Int) := by omega
          have e3 : (p : Int) % (d0 : Int) = 0 := by
            rcases dd with h | h
            · exact absurd h c
            · rw [← Int.natCast_emod]; omega
          have e5 : ¬ (d0 : Int) = 0 := by omega
          generalize ((d0 * d0 : Nat) : Int) = sq2 at *
          clear lo dl dd sq
          repeat (first | refine X_opc rfl ?_ | refine X_dopc rfl ?_ | refine ⟨(by show drawK _ _ = true; kernel_rfl : drawX _ _ _), ?_⟩ | exact (by show drawK _ _ = true; kernel_rfl : drawX _ _ _) | simp -dsimp (maxSteps := 20000000) (disch := omega) only [simx, zzC, zzB, tys, ite_self, opnL, callB, callX, readsB, stepOp, nilCmp, ofVal, opBuiltin, opLen, PV.sk, scalBin, scalUn, intBin, opLoad, natOf, opConvert, opField, cellsP, oneP, Value.oneCell', opStore, toIV, scalT, scalA, scalC, boxesA, boxesC, zipB_none, zipB_mx, isZ, opZip, zeroP, opAppendZ, opMakeMap, opLookup, mboxB, opUpdate, ↓reduceIte, Nat.reduceSub, Nat.reduceEqDiff, Nat.reduceAdd, Nat.reduceMul, Nat.reduceLT, Nat.reduceLeDiff, Int.reduceToNat, Int.reduceLE, Int.reduceLT, Int.reduceNeg, reduceCtorEq, zzR, gos, Int.reduceAdd, Int.reduceSub, Int.reduceMul, Int.reduceEq, e1, e2, e3, e5])
  · rw [decide_eq_true_eq] at h
    exact (lo d h1 (sq_lt (Nat.lt_of_le_of_lt h3 h))).2
def zerB (l : List Int) : Bool := l.all (fun a => a == 0)
theorem equal_walk (a b : List Int) (hl : a.length ≤ maxLen) : CallsP Try.prog 58 [lu a, lu b] (bl (decide (a = b))) := by
  rw [mx_len] at hl
  by_cases c0 : (a.length : Int) = b.length
  case neg =>
    rw [decide_eq_false (by rintro rfl; exact c0 rfl)]
    refine X_startP (n := 26) (m := 2) (rs := [.tmp 4]) Try.func58 rfl rfl rfl rfl (by decide) fun base => ?_
    repeat (first | refine X_opc rfl ?_ | refine X_dopc rfl ?_ | refine ⟨(by show drawK _ _ = true; kernel_rfl : drawX _ _ _), ?_⟩ | exact (by show drawK _ _ = true; kernel_rfl : drawX _ _ _) | simp -dsimp (maxSteps := 20000000) (disch := omega) only [simx, zzC, zzB, tys, ite_self, opnL, callB, callX, readsB, stepOp, nilCmp, ofVal, opBuiltin, opLen, PV.sk, scalBin, scalUn, intBin, opLoad, natOf, opConvert, opField, cellsP, oneP, Value.oneCell', opStore, toIV, scalT, scalA, scalC, boxesA, boxesC, zipB_none, zipB_mx, isZ, opZip, zeroP, opAppendZ, opMakeMap, opLookup, mboxB, opUpdate, ↓reduceIte, Nat.reduceSub, Nat.reduceEqDiff, Nat.reduceAdd, Nat.reduceMul, Nat.reduceLT, Nat.reduceLeDiff, Int.reduceToNat, Int.reduceLE, Int.reduceLT, Int.reduceNeg, reduceCtorEq, zzR, gos, Int.reduceAdd, Int.reduceSub, Int.reduceMul, Int.reduceEq])
  refine X_startP (n := 26) (m := 2) (rs := [.tmp 4]) Try.func58 rfl rfl rfl rfl (by decide) fun base => ?_
  repeat (first | refine X_opc rfl ?_ | refine X_dopc rfl ?_ | refine ⟨(by show drawK _ _ = true; kernel_rfl : drawX _ _ _), ?_⟩ | exact (by show drawK _ _ = true; kernel_rfl : drawX _ _ _) | simp -dsimp (maxSteps := 20000000) (disch := omega) only [simx, zzC, zzB, tys, ite_self, opnL, callB, callX, readsB, stepOp, nilCmp, ofVal, opBuiltin, opLen, PV.sk, scalBin, scalUn, intBin, opLoad, natOf, opConvert, opField, cellsP, oneP, Value.oneCell', opStore, toIV, scalT, scalA, scalC, boxesA, boxesC, zipB_none, zipB_mx, isZ, opZip, zeroP, opAppendZ, opMakeMap, opLookup, mboxB, opUpdate, ↓reduceIte, Nat.reduceSub, Nat.reduceEqDiff, Nat.reduceAdd, Nat.reduceMul, Nat.reduceLT, Nat.reduceLeDiff, Int.reduceToNat, Int.reduceLE, Int.reduceLT, Int.reduceNeg, reduceCtorEq, gos, Int.reduceAdd, Int.reduceSub, Int.reduceMul, Int.reduceEq])
  refine X_loopH [0, 1, 12, 13] [] (0) (a.length) (fun j => a.take j = b.take j) (fun j => [(13, i64 j)]) (fun j => Heap.none) ?_ ?_ ?_ ?_ ?_ (by decide) ?_
  · exact (fgt_nil)
  · ((simp -dsimp (disch := omega) only [simx, zzB, tys, ite_self, opnL, callB, callX, readsB, stepOp, nilCmp, ofVal, opBuiltin, opLen, PV.sk, scalBin, scalUn, intBin, opLoad, natOf, opConvert, opField, cellsP, oneP, Value.oneCell', opStore, toIV, scalT, scalA, scalC, boxesA, boxesC, zipB_none, zipB_mx, isZ, opZip, zeroP, opAppendZ, opMakeMap, opLookup, mboxB, opUpdate, ↓reduceIte, Nat.reduceSub, Nat.reduceEqDiff, Nat.reduceAdd, Nat.reduceMul, Nat.reduceLT, Nat.reduceLeDiff, Int.reduceToNat, Int.reduceLE, Int.reduceLT, Int.reduceNeg, reduceCtorEq, gos, Int.reduceAdd, Int.reduceSub, Int.reduceMul, Int.reduceEq]) <;> first | rfl | simp)
  · exact drop_nil _
  · omega
  · rfl
  · intro j hj hf
    by_cases c : j < a.length
    · have c' : j < b.length := by omega
      have g1 : a[j]? = some a[j] := List.getElem?_eq_getElem c
      have g2 : b[j]? = some b[j] := List.getElem?_eq_getElem c'
      by_cases e : a[j] = b[j]
      · have nx := take_next c c' hf e
        rw [e] at g1
        generalize b[j] = y at g1 g2
        repeat (first | refine X_opc rfl ?_ | refine X_dopc rfl ?_ | refine ⟨(by show drawK _ _ = true; kernel_rfl : drawX _ _ _), ?_⟩ | exact (by show drawK _ _ = true; kernel_rfl : drawX _ _ _) | simp -dsimp (maxSteps := 20000000) (disch := omega) only [simx, zzC, zzB, tys, ite_self, opnL, callB, callX, readsB, stepOp, nilCmp, ofVal, opBuiltin, opLen, PV.sk, scalBin, scalUn, intBin, opLoad, natOf, opConvert, opField, cellsP, oneP, Value.oneCell', opStore, toIV, scalT, scalA, scalC, boxesA, boxesC, zipB_none, zipB_mx, isZ, opZip, zeroP, opAppendZ, opMakeMap, opLookup, mboxB, opUpdate, ↓reduceIte, Nat.reduceSub, Nat.reduceEqDiff, Nat.reduceAdd, Nat.reduceMul, Nat.reduceLT, Nat.reduceLeDiff, Int.reduceToNat, Int.reduceLE, Int.reduceLT, Int.reduceNeg, reduceCtorEq, gos, Int.reduceAdd, Int.reduceSub, Int.reduceMul, Int.reduceEq, c, c', g1, g2])
        exact ⟨c, (fgt_nil), nx, rfl, drop_nil _⟩
      · rw [decide_eq_false (by rintro rfl; exact e rfl)]
        generalize a[j] = x at g1 e
        generalize b[j] = y at g2 e
        repeat (first | refine X_opc rfl ?_ | refine X_dopc rfl ?_ | refine ⟨(by show drawK _ _ = true; kernel_rfl : drawX _ _ _), ?_⟩ | exact (by show drawK _ _ = true; kernel_rfl : drawX _ _ _) | simp -dsimp (maxSteps := 20000000) (disch := omega) only [simx, zzC, zzB, tys, ite_self, opnL, callB, callX, readsB, stepOp, nilCmp, ofVal, opBuiltin, opLen, PV.sk, scalBin, scalUn, intBin, opLoad, natOf, opConvert, opField, cellsP, oneP, Value.oneCell', opStore, toIV, scalT, scalA, scalC, boxesA, boxesC, zipB_none, zipB_mx, isZ, opZip, zeroP, opAppendZ, opMakeMap, opLookup, mboxB, opUpdate, ↓reduceIte, Nat.reduceSub, Nat.reduceEqDiff, Nat.reduceAdd, Nat.reduceMul, Nat.reduceLT, Nat.reduceLeDiff, Int.reduceToNat, Int.reduceLE, Int.reduceLT, Int.reduceNeg, reduceCtorEq, zzR, gos, Int.reduceAdd, Int.reduceSub, Int.reduceMul, Int.reduceEq, c, c', g1, g2])
    · have hj : j = a.length := by omega
      subst hj
      rw [List.take_length, List.take_of_length_le (by omega)] at hf
      rw [decide_eq_true hf]
      repeat (first | refine X_opc rfl ?_ | refine X_dopc rfl ?_ | refine ⟨(by show drawK _ _ = true; kernel_rfl : drawX _ _ _), ?_⟩ | exact (by show drawK _ _ = true; kernel_rfl : drawX _ _ _) | simp -dsimp (maxSteps := 20000000) (disch := omega) only [simx, zzC, zzB, tys, ite_self, opnL, callB, callX, readsB, stepOp, nilCmp, ofVal, opBuiltin, opLen, PV.sk, scalBin, scalUn, intBin, opLoad, natOf, opConvert, opField, cellsP, oneP, Value.oneCell', opStore, toIV, scalT, scalA, scalC, boxesA, boxesC, zipB_none, zipB_mx, isZ, opZip, zeroP, opAppendZ, opMakeMap, opLookup, mboxB, opUpdate, ↓reduceIte, Nat.reduceSub, Nat.reduceEqDiff, Nat.reduceAdd, Nat.reduceMul, Nat.reduceLT, Nat.reduceLeDiff, Int.reduceToNat, Int.reduceLE, Int.reduceLT, Int.reduceNeg, reduceCtorEq, zzR, gos, Int.reduceAdd, Int.reduceSub, Int.reduceMul, Int.reduceEq])
end Go.Proofs.Ytmalpmnmknpphaa.TM
namespace Go.Proofs.Ytmalpmnmknpphaa.TM
open Go Go.RowKit
attribute [local irreducible] K W WOps Effs Xg Xo Xr Xdg Xdo Xdr Xif CallsP CallR
theorem timesM_len (p : Int) (r c : Nat) (l x : List Int) : (timesM p r c l x).length = r := by simp [timesM]
def mulRow (p : Int) (ac : Nat) (al : List Int) (bc : Nat) (bl : List Int) (i : Nat) : List Int := timesM p bc ac (turnM ac bc bl) (rowM ac al i)
def mulM (p : Int) (ar ac : Nat) (al : List Int) (bc : Nat) (bl : List Int) : List Int := (List.range ar).flatMap (mulRow p ac al bc bl)
theorem mulM_next (p : Int) (j ac : Nat) (al : List Int) (bc : Nat) (bl : List Int) : mulM p (j + 1) ac al bc bl = mulM p j ac al bc bl ++ mulRow p ac al bc bl j := by
  unfold mulM; rw [List.range_succ, List.flatMap_append]; simp
theorem mulM_len (p : Int) (ac : Nat) (al : List Int) (bc : Nat) (bl : List Int) : ∀ j : Nat, (mulM p j ac al bc bl).length = j * bc
  | 0 => by simp [mulM]
  | j + 1 => by rw [mulM_next, List.length_append, mulM_len p ac al bc bl j, mulRow, timesM_len, Nat.succ_mul]
end Go.Proofs.Ytmalpmnmknpphaa.TM
namespace Go.Proofs.Ytmalpmnmknpphaa.TM
open Go Go.RowKit
attribute [local irreducible] K W WOps Effs Xg Xo Xr Xdg Xdo Xdr Xif CallsP CallR
def zeroV (n : Nat) : List Int := tbl n (fun _ => 0)
theorem zeroV_len (n : Nat) : (zeroV n).length = n := tbl_len ..
end Go.Proofs.Ytmalpmnmknpphaa.TM
namespace Go.Proofs.Ytmalpmnmknpphaa.TM
open Go Go.RowKit
def risF : Int → List Int → Int → Bool
  | _, [], _ => true
  | last, c :: l, most => if c ≤ last ∨ most ≤ c then false else risF c l most
end Go.Proofs.Ytmalpmnmknpphaa.TM
namespace Go.Proofs.Ytmalpmnmknpphaa.TM
open Go Go.RowKit
def pickRow (C : Nat) (l cols : List Int) (i : Int) : List Int := cols.map fun c => cl C l i.toNat c.toNat
def pickM (C : Nat) (l rows cols : List Int) : List Int := rows.flatMap (pickRow C l cols)
end Go.Proofs.Ytmalpmnmknpphaa.TM
