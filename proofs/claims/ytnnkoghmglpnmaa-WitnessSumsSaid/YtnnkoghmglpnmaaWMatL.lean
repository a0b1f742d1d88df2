/- Layer 5: rows and columns picked, walked. -/
import Derived.Test.YtnnkoghmglpnmaaWMatK
import Derived.Test.YtnnkoghmglpnmaaWSumN
import Derived.Test.YtnnkoghmglpnmaaWMatC
namespace Go.Proofs.Ytnnkoghmglpnmaa.TM
open Go Go.RowKit
set_option linter.unusedVariables false
set_option linter.defProp false
set_option linter.unusedSimpArgs false
attribute [local irreducible] K W WOps Effs Xg Xo Xr Xdg Xdo Xdr Xif CallsP CallR

theorem outF_no (most : Int) : ∀ (l : List Int) (k : Nat), ¬ 0 ≤ outF most l k ↔ ∀ a ∈ l, 0 ≤ a ∧ a < most
  | [], k => by simp [outF]
  | a :: l, k => by
    rw [outF]
    by_cases h : a < 0 ∨ most ≤ a
    · rw [if_pos h]
      constructor
      · intro g; omega
      · intro g; have := g a (by simp); omega
    · rw [if_neg h, outF_no most l (k + 1)]
      constructor
      · intro g x hx
        rcases List.mem_cons.1 hx with rfl | hx
        · omega
        · exact g x hx
      · intro g x hx; exact g x (List.mem_cons_of_mem _ hx)
theorem within_iff (l : List Int) (most : Int) : withinB l most = true ↔ (1 ≤ l.length ∧ l.length ≤ 64) ∧ ∀ a ∈ l, 0 ≤ a ∧ a < most := by
  unfold withinB
  rw [Bool.and_eq_true, Bool.not_eq_true', decide_eq_false_iff_not, outF_no, side_iff]
  constructor
  · rintro ⟨h1, h2⟩; exact ⟨by omega, h2⟩
  · rintro ⟨h1, h2⟩; exact ⟨by omega, h2⟩
/-- A row's picked cells. -/
def pickRow (C : Nat) (l cols : List Int) (i : Int) : List Int := cols.map fun c => cl C l i.toNat c.toNat
def pickM (C : Nat) (l rows cols : List Int) : List Int := rows.flatMap (pickRow C l cols)
theorem pickM_len (C : Nat) (l cols : List Int) : ∀ rows : List Int, (pickM C l rows cols).length = rows.length * cols.length
  | [] => by simp [pickM]
  | i :: rows => by
    have := pickM_len C l cols rows
    unfold pickM at this ⊢
    rw [List.flatMap_cons, List.length_append, this, List.length_cons, Nat.succ_mul]
    simp [pickRow]; omega
theorem pickM_next (C : Nat) (l cols : List Int) {rows : List Int} {j : Nat} (h : j < rows.length) : pickM C l (rows.take (j + 1)) cols = pickM C l (rows.take j) cols ++ pickRow C l cols rows[j] := by
  unfold pickM
  rw [List.take_succ_eq_append_getElem h, List.flatMap_append]; simp
def pickR (p r c : Int) (l rows cols : List Int) : (Int × Int × List Int) × Int :=
  if MatB p r c l && (withinB rows r && withinB cols c) then ((rows.length, cols.length, pickM c.toNat l rows cols), 0) else ((0, 0, []), 1)
set_option maxHeartbeats 4000000 in
set_option maxRecDepth 100000 in
theorem pick_walk (p r c : Int) (l rows cols : List Int) (hl : l.length ≤ maxLen) (hr : rows.length ≤ maxLen) (hc : cols.length ≤ maxLen) :
    CallsP Try.prog 23 [u64 p, matP r c l, li rows, li cols] (mat2 (pickR p r c l rows cols)) := by
  have q1 := mright_walk p r c l hl
  have q2 := within_walk (most := r) hr
  have q3 := within_walk (most := c) hc
  unfold pickR
  cases h1 : MatB p r c l with
  | false =>
    rw [h1] at q1
    refine X_startP (n := 65) (m := 4) (rs := [.cell 8 25, .tmp 9]) Try.func23 rfl rfl rfl rfl (by decide) fun base => ?_
    repeat (first | ((first | refine X_call_fn2 rfl (by simp only [tys]) ?_ | refine X_dcall_fn2 rfl (by simp only [tys]) ?_); apply Exists.intro; apply And.intro; (focus (simp -dsimp only [simx, zzC, zzB, tys, ite_self, opnL, callB, stepOp, ofVal, opBuiltin, opLen, PV.sk, scalBin, scalUn, intBin, opLoad, natOf, opConvert, opField, cellsP, oneP, Value.oneCell', opStore, toIV, scalT, scalA, scalC, boxesA, boxesC, ↓reduceIte, Nat.reduceSub, Nat.reduceEqDiff, Nat.reduceAdd, Nat.reduceMul, Nat.reduceLT, Nat.reduceLeDiff, Int.reduceToNat, Int.reduceLE, Int.reduceLT, Int.reduceNeg, reduceCtorEq, zzL, if_true, if_false] <;> rfl)); apply Exists.intro; apply And.intro; (focus (first | exact q1))) | refine ⟨(by show drawK _ _ = true; kernel_rfl : drawX _ _ _), ?_⟩ | exact (by show drawK _ _ = true; kernel_rfl : drawX _ _ _) | simp -dsimp (maxSteps := 20000000) (disch := omega) only [simx, zzC, zzB, tys, ite_self, opnL, callB, stepOp, ofVal, opBuiltin, opLen, PV.sk, scalBin, scalUn, intBin, opLoad, natOf, opConvert, opField, cellsP, oneP, Value.oneCell', opStore, toIV, scalT, scalA, scalC, boxesA, boxesC, ↓reduceIte, Nat.reduceSub, Nat.reduceEqDiff, Nat.reduceAdd, Nat.reduceMul, Nat.reduceLT, Nat.reduceLeDiff, Int.reduceToNat, Int.reduceLE, Int.reduceLT, Int.reduceNeg, reduceCtorEq, zzR, gos, Int.reduceAdd, Int.reduceSub, Int.reduceMul, Int.reduceEq])
    rfl
  | true =>
    rw [h1] at q1
    cases h2 : withinB rows r with
    | false =>
      rw [h2] at q2
      refine X_startP (n := 65) (m := 4) (rs := [.cell 8 25, .tmp 9]) Try.func23 rfl rfl rfl rfl (by decide) fun base => ?_
      repeat (first | ((first | refine X_call_fn2 rfl (by simp only [tys]) ?_ | refine X_dcall_fn2 rfl (by simp only [tys]) ?_); apply Exists.intro; apply And.intro; (focus (simp -dsimp only [simx, zzC, zzB, tys, ite_self, opnL, callB, stepOp, ofVal, opBuiltin, opLen, PV.sk, scalBin, scalUn, intBin, opLoad, natOf, opConvert, opField, cellsP, oneP, Value.oneCell', opStore, toIV, scalT, scalA, scalC, boxesA, boxesC, ↓reduceIte, Nat.reduceSub, Nat.reduceEqDiff, Nat.reduceAdd, Nat.reduceMul, Nat.reduceLT, Nat.reduceLeDiff, Int.reduceToNat, Int.reduceLE, Int.reduceLT, Int.reduceNeg, reduceCtorEq, zzL, if_true, if_false] <;> rfl)); apply Exists.intro; apply And.intro; (focus (first | exact q1 | exact q2))) | refine ⟨(by show drawK _ _ = true; kernel_rfl : drawX _ _ _), ?_⟩ | exact (by show drawK _ _ = true; kernel_rfl : drawX _ _ _) | simp -dsimp (maxSteps := 20000000) (disch := omega) only [simx, zzC, zzB, tys, ite_self, opnL, callB, stepOp, ofVal, opBuiltin, opLen, PV.sk, scalBin, scalUn, intBin, opLoad, natOf, opConvert, opField, cellsP, oneP, Value.oneCell', opStore, toIV, scalT, scalA, scalC, boxesA, boxesC, ↓reduceIte, Nat.reduceSub, Nat.reduceEqDiff, Nat.reduceAdd, Nat.reduceMul, Nat.reduceLT, Nat.reduceLeDiff, Int.reduceToNat, Int.reduceLE, Int.reduceLT, Int.reduceNeg, reduceCtorEq, zzR, gos, Int.reduceAdd, Int.reduceSub, Int.reduceMul, Int.reduceEq])
      rfl
    | true =>
      rw [h2] at q2
      cases h3 : withinB cols c with
      | false =>
        rw [h3] at q3
        refine X_startP (n := 65) (m := 4) (rs := [.cell 8 25, .tmp 9]) Try.func23 rfl rfl rfl rfl (by decide) fun base => ?_
        repeat (first | ((first | refine X_call_fn2 rfl (by simp only [tys]) ?_ | refine X_dcall_fn2 rfl (by simp only [tys]) ?_); apply Exists.intro; apply And.intro; (focus (simp -dsimp only [simx, zzC, zzB, tys, ite_self, opnL, callB, stepOp, ofVal, opBuiltin, opLen, PV.sk, scalBin, scalUn, intBin, opLoad, natOf, opConvert, opField, cellsP, oneP, Value.oneCell', opStore, toIV, scalT, scalA, scalC, boxesA, boxesC, ↓reduceIte, Nat.reduceSub, Nat.reduceEqDiff, Nat.reduceAdd, Nat.reduceMul, Nat.reduceLT, Nat.reduceLeDiff, Int.reduceToNat, Int.reduceLE, Int.reduceLT, Int.reduceNeg, reduceCtorEq, zzL, if_true, if_false] <;> rfl)); apply Exists.intro; apply And.intro; (focus (first | exact q1 | exact q2 | exact q3))) | refine ⟨(by show drawK _ _ = true; kernel_rfl : drawX _ _ _), ?_⟩ | exact (by show drawK _ _ = true; kernel_rfl : drawX _ _ _) | simp -dsimp (maxSteps := 20000000) (disch := omega) only [simx, zzC, zzB, tys, ite_self, opnL, callB, stepOp, ofVal, opBuiltin, opLen, PV.sk, scalBin, scalUn, intBin, opLoad, natOf, opConvert, opField, cellsP, oneP, Value.oneCell', opStore, toIV, scalT, scalA, scalC, boxesA, boxesC, ↓reduceIte, Nat.reduceSub, Nat.reduceEqDiff, Nat.reduceAdd, Nat.reduceMul, Nat.reduceLT, Nat.reduceLeDiff, Int.reduceToNat, Int.reduceLE, Int.reduceLT, Int.reduceNeg, reduceCtorEq, zzR, gos, Int.reduceAdd, Int.reduceSub, Int.reduceMul, Int.reduceEq])
        rfl
      | true =>
        rw [h3] at q3
        obtain ⟨R, C, rfl, rfl, M⟩ := mat_of h1
        obtain ⟨⟨a1, a2⟩, a3⟩ := (within_iff _ _).1 h2
        obtain ⟨⟨b1, b2⟩, b3⟩ := (within_iff _ _).1 h3
        simp only [Bool.and_self, if_true, Int.toNat_natCast]
        have rl := M.r2
        have cl2 := M.c2
        refine X_startP (n := 65) (m := 4) (rs := [.cell 8 25, .tmp 9]) Try.func23 rfl rfl rfl rfl (by decide) fun base => ?_
        repeat (first | ((first | refine X_call_fn2 rfl (by simp only [tys]) ?_ | refine X_dcall_fn2 rfl (by simp only [tys]) ?_); apply Exists.intro; apply And.intro; (focus (simp -dsimp only [simx, zzC, zzB, tys, ite_self, opnL, callB, stepOp, ofVal, opBuiltin, opLen, PV.sk, scalBin, scalUn, intBin, opLoad, natOf, opConvert, opField, cellsP, oneP, Value.oneCell', opStore, toIV, scalT, scalA, scalC, boxesA, boxesC, ↓reduceIte, Nat.reduceSub, Nat.reduceEqDiff, Nat.reduceAdd, Nat.reduceMul, Nat.reduceLT, Nat.reduceLeDiff, Int.reduceToNat, Int.reduceLE, Int.reduceLT, Int.reduceNeg, reduceCtorEq, zzL, if_true, if_false] <;> rfl)); apply Exists.intro; apply And.intro; (focus (first | exact q1 | exact q2 | exact q3))) | refine ⟨(by show drawK _ _ = true; kernel_rfl : drawX _ _ _), ?_⟩ | exact (by show drawK _ _ = true; kernel_rfl : drawX _ _ _) | simp -dsimp (maxSteps := 20000000) (disch := omega) only [simx, zzC, zzB, tys, ite_self, opnL, callB, stepOp, ofVal, opBuiltin, opLen, PV.sk, scalBin, scalUn, intBin, opLoad, natOf, opConvert, opField, cellsP, oneP, Value.oneCell', opStore, toIV, scalT, scalA, scalC, boxesA, boxesC, ↓reduceIte, Nat.reduceSub, Nat.reduceEqDiff, Nat.reduceAdd, Nat.reduceMul, Nat.reduceLT, Nat.reduceLeDiff, Int.reduceToNat, Int.reduceLE, Int.reduceLT, Int.reduceNeg, reduceCtorEq, gos, Int.reduceAdd, Int.reduceSub, Int.reduceMul, Int.reduceEq])
        clear q1 q2 q3 h1 h2 h3
        refine X_loopH [3, 5, 8, 10, 39, 40, 41] [] (0) (rows.length) (fun j => True) (fun j => [(41, i64 j)]) (fun j => rowH (((Heap.none.put ((0, 0) :: base) (.var [i64 R, i64 C, lu l])).put ((0, 1) :: base) (.var [i64 0, i64 0, nilP])).put ((3, 5) :: base) (.var [i64 rows.length, i64 cols.length, rowP ((10, 9) :: base) 1 (pickM C l (rows.take j) cols).length ((pickM C l (rows.take j) cols).map iu)])) ((10, 9) :: base) (pickM C l (rows.take j) cols).length ((pickM C l (rows.take j) cols).map iu)) ?_ ?_ ?_ ?_ ?_ (by decide) ?_
        · exact (fgt_nil)
        · ((simp -dsimp (disch := omega) only [simx, zzB, tys, ite_self, opnL, callB, stepOp, ofVal, opBuiltin, opLen, PV.sk, scalBin, scalUn, intBin, opLoad, natOf, opConvert, opField, cellsP, oneP, Value.oneCell', opStore, toIV, scalT, scalA, scalC, boxesA, boxesC, ↓reduceIte, Nat.reduceSub, Nat.reduceEqDiff, Nat.reduceAdd, Nat.reduceMul, Nat.reduceLT, Nat.reduceLeDiff, Int.reduceToNat, Int.reduceLE, Int.reduceLT, Int.reduceNeg, reduceCtorEq, gos, Int.reduceAdd, Int.reduceSub, Int.reduceMul, Int.reduceEq]) <;> first | rfl | simp)
        · funext c
          simp (maxSteps := 20000000) only [Heap.drop_at, rowH_app, Heap.put_at, Heap.none_at, List.mem_cons, List.not_mem_nil, or_false]
          by_cases e0 : c = (0, 0) :: base
          · subst e0; simp [pickM, rowP]
          by_cases e1 : c = (0, 1) :: base
          · subst e1; simp [pickM, rowP]
          by_cases e2 : c = (3, 5) :: base
          · subst e2; simp [pickM, rowP]
          simp [e0, e1, e2, pickM, rowP]
        · omega
        · trivial
        · intro j hj _
          by_cases cj : j < rows.length
          · have g1 : rows[j]? = some rows[j] := List.getElem?_eq_getElem cj
            have nxt := pickM_next C l cols cj
            obtain ⟨i0, i1⟩ := a3 _ (List.getElem_mem cj)
            generalize rows[j] = i at g1 i0 i1 nxt
            obtain ⟨I, rfl⟩ := Int.eq_ofNat_of_zero_le i0
            have hI : I < R := by omega
            have d := row_walk M.len M.r2 M.c2 hI
            have rlen := rowM_len M.len hI
            have pl := pickM_len C l cols (rows.take j)
            rw [List.length_take, Nat.min_eq_left (by omega)] at pl
            have pb : (pickM C l (rows.take j) cols).length + cols.length ≤ 4096 := by
              rw [pl, ← Nat.succ_mul]; exact Nat.mul_le_mul (show j + 1 ≤ 64 by omega) b2
            repeat (first | refine ⟨(by show drawK _ _ = true; kernel_rfl : drawX _ _ _), ?_⟩ | exact (by show drawK _ _ = true; kernel_rfl : drawX _ _ _) | simp -dsimp (maxSteps := 20000000) (disch := omega) only [simx, zzC, zzB, tys, ite_self, opnL, callB, stepOp, ofVal, opBuiltin, opLen, PV.sk, scalBin, scalUn, intBin, opLoad, natOf, opConvert, opField, cellsP, oneP, Value.oneCell', opStore, toIV, scalT, scalA, scalC, boxesA, boxesC, ↓reduceIte, Nat.reduceSub, Nat.reduceEqDiff, Nat.reduceAdd, Nat.reduceMul, Nat.reduceLT, Nat.reduceLeDiff, Int.reduceToNat, Int.reduceLE, Int.reduceLT, Int.reduceNeg, reduceCtorEq, gos, Int.reduceAdd, Int.reduceSub, Int.reduceMul, Int.reduceEq, cj, g1])
            refine X_loopH [3, 5, 8, 10, 12, 39, 40, 41, 45, 46, 47] [(10, 8) :: base] (0) (cols.length) (fun j_ => True) (fun j_ => [(47, i64 j_)]) (fun j_ => rowH (((Heap.none.put ((0, 0) :: base) (.var [i64 R, i64 C, lu l])).put ((0, 1) :: base) (.var [i64 0, i64 0, nilP])).put ((3, 5) :: base) (.var [i64 rows.length, i64 cols.length, rowP ((10, 9) :: base) 1 (pickM C l (rows.take j) cols ++ pickRow C l (cols.take j_) I).length ((pickM C l (rows.take j) cols ++ pickRow C l (cols.take j_) I).map iu)])) ((10, 9) :: base) (pickM C l (rows.take j) cols ++ pickRow C l (cols.take j_) I).length ((pickM C l (rows.take j) cols ++ pickRow C l (cols.take j_) I).map iu)) ?_ ?_ ?_ ?_ ?_ (by decide) ?_
            · exact (fgt_cons (by simp only [Heap.none_at]) (by (simp -dsimp only [zzB, tys, ite_self, opnL, callB, stepOp, ofVal, opBuiltin, opLen, PV.sk, scalBin, scalUn, intBin, opLoad, natOf, opConvert, opField, cellsP, oneP, Value.oneCell', opStore, toIV, scalT, scalA, scalC, boxesA, boxesC, ↓reduceIte, Nat.reduceSub, Nat.reduceEqDiff, Nat.reduceAdd, Nat.reduceMul, Nat.reduceLT, Nat.reduceLeDiff, Int.reduceToNat, Int.reduceLE, Int.reduceLT, Int.reduceNeg, reduceCtorEq, notIn_cons, notIn_nil]) <;> simp [refsL, refsP, mem_refs_rowP]) (by repeat (first | exact noVar_none _ | refine noVar_row ?_ | refine noVar_rowH ?_ | refine noVar_var ?_ (by simp [refsL, refsP, mem_refs_rowP]))) (fgt_nil))
            · ((simp -dsimp (disch := omega) only [simx, zzB, tys, ite_self, opnL, callB, stepOp, ofVal, opBuiltin, opLen, PV.sk, scalBin, scalUn, intBin, opLoad, natOf, opConvert, opField, cellsP, oneP, Value.oneCell', opStore, toIV, scalT, scalA, scalC, boxesA, boxesC, ↓reduceIte, Nat.reduceSub, Nat.reduceEqDiff, Nat.reduceAdd, Nat.reduceMul, Nat.reduceLT, Nat.reduceLeDiff, Int.reduceToNat, Int.reduceLE, Int.reduceLT, Int.reduceNeg, reduceCtorEq, gos, Int.reduceAdd, Int.reduceSub, Int.reduceMul, Int.reduceEq]) <;> first | rfl | simp)
            · funext c
              simp (maxSteps := 20000000) only [Heap.drop_at, rowH_app, Heap.put_at, Heap.none_at, List.mem_cons, List.not_mem_nil, or_false]
              by_cases e0 : c = (0, 0) :: base
              · subst e0; simp [pickRow]
              by_cases e1 : c = (0, 1) :: base
              · subst e1; simp [pickRow]
              by_cases e2 : c = (3, 5) :: base
              · subst e2; simp [pickRow]
              by_cases e3 : c = (10, 8) :: base
              · subst e3; simp [pickRow]
              by_cases e4 : c = (10, 9) :: base
              · subst e4; simp [pickRow]
              simp [e0, e1, e2, e3, e4, pickRow]
            · omega
            · trivial
            · intro m hm _
              by_cases cm : m < cols.length
              · have g2 : cols[m]? = some cols[m] := List.getElem?_eq_getElem cm
                obtain ⟨c0, c1⟩ := b3 _ (List.getElem_mem cm)
                have nx2 : pickRow C l (cols.take (m + 1)) I = pickRow C l (cols.take m) I ++ [cl C l I cols[m].toNat] := by
                  unfold pickRow; rw [List.take_succ_eq_append_getElem cm, List.map_append]; rfl
                have hle : (pickM C l (rows.take j) cols ++ pickRow C l (cols.take m) I).length ≤ 4096 := by
                  rw [List.length_append]; simp only [pickRow, List.length_map, List.length_take]; omega
                generalize cols[m] = k at g2 c0 c1 nx2
                obtain ⟨K, rfl⟩ := Int.eq_ofNat_of_zero_le c0
                have hK : K < C := by omega
                have g3 : (rowM C l I)[K]? = some (cl C l I K) := by
                  have := rowM_cl M.len hI hK
                  rw [List.getD_eq_getElem?_getD, List.getElem?_eq_getElem (by omega)] at this
                  rw [List.getElem?_eq_getElem (by omega)]
                  exact congrArg some this
                rw [Int.toNat_natCast] at nx2
                have nx3 : pickM C l (rows.take j) cols ++ pickRow C l (cols.take (m + 1)) I = (pickM C l (rows.take j) cols ++ pickRow C l (cols.take m) I) ++ [cl C l I K] := by rw [nx2, List.append_assoc]
                generalize cl C l I K = x at g3 nx3
                generalize pickM C l (rows.take j) cols ++ pickRow C l (cols.take m) I = acc at nx3 hle ⊢
                clear nx2 nxt pl pb
                cases acc with
                | nil =>
                  repeat (first | ((first | refine X_call_fn2 rfl (by simp only [tys]) ?_ | refine X_dcall_fn2 rfl (by simp only [tys]) ?_); apply Exists.intro; apply And.intro; (focus (simp -dsimp only [simx, zzC, zzB, tys, ite_self, opnL, callB, stepOp, ofVal, opBuiltin, opLen, PV.sk, scalBin, scalUn, intBin, opLoad, natOf, opConvert, opField, cellsP, oneP, Value.oneCell', opStore, toIV, scalT, scalA, scalC, boxesA, boxesC, ↓reduceIte, Nat.reduceSub, Nat.reduceEqDiff, Nat.reduceAdd, Nat.reduceMul, Nat.reduceLT, Nat.reduceLeDiff, Int.reduceToNat, Int.reduceLE, Int.reduceLT, Int.reduceNeg, reduceCtorEq, zzL, if_true, if_false] <;> rfl)); apply Exists.intro; apply And.intro; (focus (first | exact d))) | refine ⟨(by show drawK _ _ = true; kernel_rfl : drawX _ _ _), ?_⟩ | exact (by show drawK _ _ = true; kernel_rfl : drawX _ _ _) | simp -dsimp (maxSteps := 20000000) (disch := omega) only [simx, zzC, zzB, tys, ite_self, opnL, callB, stepOp, ofVal, opBuiltin, opLen, PV.sk, scalBin, scalUn, intBin, opLoad, natOf, opConvert, opField, cellsP, oneP, Value.oneCell', opStore, toIV, scalT, scalA, scalC, boxesA, boxesC, ↓reduceIte, Nat.reduceSub, Nat.reduceEqDiff, Nat.reduceAdd, Nat.reduceMul, Nat.reduceLT, Nat.reduceLeDiff, Int.reduceToNat, Int.reduceLE, Int.reduceLT, Int.reduceNeg, reduceCtorEq, gos, Int.reduceAdd, Int.reduceSub, Int.reduceMul, Int.reduceEq, cm, hK, g2, g3, rlen, keysL_row0, keysL_rowS])
                  refine X_dappend_one 22 [.int .u64 0] [iu x] (by simp only [tys]) (by simp only [tys]) rfl (by decide) (by simp) (by simp [Heap.put_at, Heap.none_at, rowH_app]) (by simp [Heap.put_at]; rfl) rfl (by simp only [tys]; simp at hle; omega) (by rw [mx_len]; simp at hle; omega) ?_
                  repeat (first | refine ⟨(by show drawK _ _ = true; kernel_rfl : drawX _ _ _), ?_⟩ | exact (by show drawK _ _ = true; kernel_rfl : drawX _ _ _) | simp -dsimp (maxSteps := 20000000) (disch := omega) only [simx, zzC, zzB, tys, ite_self, opnL, callB, stepOp, ofVal, opBuiltin, opLen, PV.sk, scalBin, scalUn, intBin, opLoad, natOf, opConvert, opField, cellsP, oneP, Value.oneCell', opStore, toIV, scalT, scalA, scalC, boxesA, boxesC, ↓reduceIte, Nat.reduceSub, Nat.reduceEqDiff, Nat.reduceAdd, Nat.reduceMul, Nat.reduceLT, Nat.reduceLeDiff, Int.reduceToNat, Int.reduceLE, Int.reduceLT, Int.reduceNeg, reduceCtorEq, gos, Int.reduceAdd, Int.reduceSub, Int.reduceMul, Int.reduceEq, keysL_row0, keysL_rowS, rowP_succ])
                  refine ⟨cm, (fgt_cons (by simp only [Heap.none_at]) (by (simp -dsimp only [zzB, tys, ite_self, opnL, callB, stepOp, ofVal, opBuiltin, opLen, PV.sk, scalBin, scalUn, intBin, opLoad, natOf, opConvert, opField, cellsP, oneP, Value.oneCell', opStore, toIV, scalT, scalA, scalC, boxesA, boxesC, ↓reduceIte, Nat.reduceSub, Nat.reduceEqDiff, Nat.reduceAdd, Nat.reduceMul, Nat.reduceLT, Nat.reduceLeDiff, Int.reduceToNat, Int.reduceLE, Int.reduceLT, Int.reduceNeg, reduceCtorEq, notIn_cons, notIn_nil]) <;> simp [refsL, refsP, mem_refs_rowP]) (by repeat (first | exact noVar_none _ | refine noVar_row ?_ | refine noVar_rowH ?_ | refine noVar_var ?_ (by simp [refsL, refsP, mem_refs_rowP]))) (fgt_nil)), rfl, ?_⟩
                  rw [nx3]
                  funext c
                  simp (maxSteps := 20000000) only [Heap.drop_at, rowH_app, Heap.put_at, Heap.none_at, List.mem_cons, List.not_mem_nil, or_false]
                  by_cases e0 : c = (0, 0) :: base
                  · subst e0; simp [rowP]
                  by_cases e1 : c = (0, 1) :: base
                  · subst e1; simp [rowP]
                  by_cases e2 : c = (3, 5) :: base
                  · subst e2; simp [rowP]
                  by_cases e3 : c = (10, 8) :: base
                  · subst e3; simp [rowP]
                  by_cases e4 : c = (10, 9) :: base
                  · subst e4; simp [rowP]
                  simp [e0, e1, e2, e3, e4, rowP]
                | cons a acc =>
                  repeat (first | ((first | refine X_call_fn2 rfl (by simp only [tys]) ?_ | refine X_dcall_fn2 rfl (by simp only [tys]) ?_); apply Exists.intro; apply And.intro; (focus (simp -dsimp only [simx, zzC, zzB, tys, ite_self, opnL, callB, stepOp, ofVal, opBuiltin, opLen, PV.sk, scalBin, scalUn, intBin, opLoad, natOf, opConvert, opField, cellsP, oneP, Value.oneCell', opStore, toIV, scalT, scalA, scalC, boxesA, boxesC, ↓reduceIte, Nat.reduceSub, Nat.reduceEqDiff, Nat.reduceAdd, Nat.reduceMul, Nat.reduceLT, Nat.reduceLeDiff, Int.reduceToNat, Int.reduceLE, Int.reduceLT, Int.reduceNeg, reduceCtorEq, zzL, if_true, if_false] <;> rfl)); apply Exists.intro; apply And.intro; (focus (first | exact d))) | refine ⟨(by show drawK _ _ = true; kernel_rfl : drawX _ _ _), ?_⟩ | exact (by show drawK _ _ = true; kernel_rfl : drawX _ _ _) | simp -dsimp (maxSteps := 20000000) (disch := omega) only [simx, zzC, zzB, tys, ite_self, opnL, callB, stepOp, ofVal, opBuiltin, opLen, PV.sk, scalBin, scalUn, intBin, opLoad, natOf, opConvert, opField, cellsP, oneP, Value.oneCell', opStore, toIV, scalT, scalA, scalC, boxesA, boxesC, ↓reduceIte, Nat.reduceSub, Nat.reduceEqDiff, Nat.reduceAdd, Nat.reduceMul, Nat.reduceLT, Nat.reduceLeDiff, Int.reduceToNat, Int.reduceLE, Int.reduceLT, Int.reduceNeg, reduceCtorEq, gos, Int.reduceAdd, Int.reduceSub, Int.reduceMul, Int.reduceEq, cm, hK, g2, g3, rlen, keysL_row0, keysL_rowS])
                  refine X_dappend_one 22 [.int .u64 0] [iu x] (by simp only [tys]) (by simp only [tys]) rfl (by decide) (by simp) (by simp [Heap.put_at, Heap.none_at, rowH_app]) (by simp [Heap.put_at]; rfl) rfl (by simp only [tys]; simp at hle; omega) (by rw [mx_len]; simp at hle; omega) ?_
                  repeat (first | refine ⟨(by show drawK _ _ = true; kernel_rfl : drawX _ _ _), ?_⟩ | exact (by show drawK _ _ = true; kernel_rfl : drawX _ _ _) | simp -dsimp (maxSteps := 20000000) (disch := omega) only [simx, zzC, zzB, tys, ite_self, opnL, callB, stepOp, ofVal, opBuiltin, opLen, PV.sk, scalBin, scalUn, intBin, opLoad, natOf, opConvert, opField, cellsP, oneP, Value.oneCell', opStore, toIV, scalT, scalA, scalC, boxesA, boxesC, ↓reduceIte, Nat.reduceSub, Nat.reduceEqDiff, Nat.reduceAdd, Nat.reduceMul, Nat.reduceLT, Nat.reduceLeDiff, Int.reduceToNat, Int.reduceLE, Int.reduceLT, Int.reduceNeg, reduceCtorEq, gos, Int.reduceAdd, Int.reduceSub, Int.reduceMul, Int.reduceEq, keysL_row0, keysL_rowS, rowP_succ])
                  refine ⟨cm, (fgt_cons (by simp only [Heap.none_at]) (by (simp -dsimp only [zzB, tys, ite_self, opnL, callB, stepOp, ofVal, opBuiltin, opLen, PV.sk, scalBin, scalUn, intBin, opLoad, natOf, opConvert, opField, cellsP, oneP, Value.oneCell', opStore, toIV, scalT, scalA, scalC, boxesA, boxesC, ↓reduceIte, Nat.reduceSub, Nat.reduceEqDiff, Nat.reduceAdd, Nat.reduceMul, Nat.reduceLT, Nat.reduceLeDiff, Int.reduceToNat, Int.reduceLE, Int.reduceLT, Int.reduceNeg, reduceCtorEq, notIn_cons, notIn_nil]) <;> simp [refsL, refsP, mem_refs_rowP]) (by repeat (first | exact noVar_none _ | refine noVar_row ?_ | refine noVar_rowH ?_ | refine noVar_var ?_ (by simp [refsL, refsP, mem_refs_rowP]))) (fgt_nil)), rfl, ?_⟩
                  rw [nx3]
                  funext c
                  simp (maxSteps := 20000000) only [Heap.drop_at, rowH_app, Heap.put_at, Heap.none_at, List.mem_cons, List.not_mem_nil, or_false]
                  by_cases e0 : c = (0, 0) :: base
                  · subst e0; simp [rowP]
                  by_cases e1 : c = (0, 1) :: base
                  · subst e1; simp [rowP]
                  by_cases e2 : c = (3, 5) :: base
                  · subst e2; simp [rowP]
                  by_cases e3 : c = (10, 8) :: base
                  · subst e3; simp [rowP]
                  by_cases e4 : c = (10, 9) :: base
                  · subst e4; simp [rowP]
                  simp [e0, e1, e2, e3, e4, rowP]
              · have hm' : m = cols.length := by omega
                subst hm'
                rw [List.take_length, ← nxt]
                repeat (first | refine ⟨(by show drawK _ _ = true; kernel_rfl : drawX _ _ _), ?_⟩ | exact (by show drawK _ _ = true; kernel_rfl : drawX _ _ _) | simp -dsimp (maxSteps := 20000000) (disch := omega) only [simx, zzC, zzB, tys, ite_self, opnL, callB, stepOp, ofVal, opBuiltin, opLen, PV.sk, scalBin, scalUn, intBin, opLoad, natOf, opConvert, opField, cellsP, oneP, Value.oneCell', opStore, toIV, scalT, scalA, scalC, boxesA, boxesC, ↓reduceIte, Nat.reduceSub, Nat.reduceEqDiff, Nat.reduceAdd, Nat.reduceMul, Nat.reduceLT, Nat.reduceLeDiff, Int.reduceToNat, Int.reduceLE, Int.reduceLT, Int.reduceNeg, reduceCtorEq, gos, Int.reduceAdd, Int.reduceSub, Int.reduceMul, Int.reduceEq])
                refine ⟨cj, (fgt_nil), rfl, ?_⟩
                exact drop_nil _
          · have hj' : j = rows.length := by omega
            subst hj'
            rw [List.take_length]
            have pl := pickM_len C l cols rows
            obtain ⟨a, acc, e⟩ : ∃ a acc, pickM C l rows cols = a :: acc := by
              cases h : pickM C l rows cols with
              | nil =>
                rw [h] at pl
                have := Nat.mul_pos a1 b1
                simp at pl; omega
              | cons a acc => exact ⟨a, acc, rfl⟩
            rw [e]
            have e1 : (acc.map iu).take acc.length = acc.map iu := List.take_of_length_le (by simp)
            repeat (first | refine ⟨(by show drawK _ _ = true; kernel_rfl : drawX _ _ _), ?_⟩ | exact (by show drawK _ _ = true; kernel_rfl : drawX _ _ _) | simp -dsimp (maxSteps := 20000000) (disch := omega) only [simx, zzC, zzB, tys, ite_self, opnL, callB, stepOp, ofVal, opBuiltin, opLen, PV.sk, scalBin, scalUn, intBin, opLoad, natOf, opConvert, opField, cellsP, oneP, Value.oneCell', opStore, toIV, scalT, scalA, scalC, boxesA, boxesC, ↓reduceIte, Nat.reduceSub, Nat.reduceEqDiff, Nat.reduceAdd, Nat.reduceMul, Nat.reduceLT, Nat.reduceLeDiff, Int.reduceToNat, Int.reduceLE, Int.reduceLT, Int.reduceNeg, reduceCtorEq, zzR, gos, Int.reduceAdd, Int.reduceSub, Int.reduceMul, Int.reduceEq, rowP_succ, List.length_map, e1, mat2, lu])
            rfl
end Go.Proofs.Ytnnkoghmglpnmaa.TM
