/- Layer 5, MatrixPicks: rows and columns that are picked are those, or ErrArg is told. -/
import Derived.Test.YtnnkoghmglpnmaaWMatL
import Derived.Test.YtnnkoghmglpnmaaWMatH
import Derived.Test.YtnnkoghmglpnmaaWMatAw
namespace Go.Proofs.Ytnnkoghmglpnmaa.TM
open Go Go.RowKit
set_option linter.unusedVariables false
set_option linter.defProp false
set_option linter.unusedSimpArgs false
attribute [local irreducible] K W WOps Effs Xg Xo Xr Xdg Xdo Xdr Xif CallsP CallR

theorem pick_cl (C : Nat) (l cols : List Int) {m : Nat} (hm : m < cols.length) : ∀ (rows : List Int) (j : Nat), j < rows.length → (pickM C l rows cols).getD (j * cols.length + m) 0 = cl C l (rows.getD j 0).toNat (cols.getD m 0).toNat
  | [], j, h => by simp at h
  | i :: rows, 0, _ => by
    unfold pickM
    rw [List.flatMap_cons, List.getD_eq_getElem?_getD, List.getElem?_append_left (by simp [pickRow]; omega)]
    simp [pickRow, List.getElem?_eq_getElem hm]
  | i :: rows, j + 1, h => by
    have ih := pick_cl C l cols hm rows j (by simpa using h)
    unfold pickM at ih ⊢
    rw [List.flatMap_cons, List.getD_eq_getElem?_getD, List.getElem?_append_right (by simp [pickRow, Nat.succ_mul]; omega)]
    rw [List.getD_eq_getElem?_getD] at ih
    rw [show (j + 1) * cols.length + m - (pickRow C l cols i).length = j * cols.length + m by simp [pickRow, Nat.succ_mul]; omega, ih]
    simp
def inB (r a : Int) : Bool := decide (0 ≤ a) && decide (a < r)
theorem all_step {l : List Int} {f : Int → Bool} {j : Nat} (h : j < l.length) : (l.take (j + 1)).all f = ((l.take j).all f && f l[j]) := by
  rw [List.take_succ_eq_append_getElem h, List.all_append]; simp
theorem all_bad {l : List Int} {f : Int → Bool} {j : Nat} (h : (l.take j).all f = false) : l.all f = false := by
  rw [List.all_eq_false] at h ⊢
  obtain ⟨a, ha, hf⟩ := h
  exact ⟨a, List.mem_of_mem_take ha, hf⟩
theorem within_all (l : List Int) (r : Int) : withinB l r = (decide (1 ≤ (l.length : Int)) && (decide ((l.length : Int) ≤ 64) && l.all (inB r))) := by
  apply Bool.eq_iff_iff.2
  rw [within_iff]
  simp only [Bool.and_eq_true, decide_eq_true_eq, List.all_eq_true, inB]
  constructor
  · rintro ⟨⟨a, b⟩, c⟩; exact ⟨by omega, by omega, c⟩
  · rintro ⟨a, b, c⟩; exact ⟨⟨by omega, by omega⟩, c⟩
set_option maxHeartbeats 8000000 in
set_option maxRecDepth 100000 in
theorem matrixPicks_true (p : Int) (a1 : Int × Int × List Int) (rows : List Int) (cols : List Int) (w0 : (Lit.int .u64 p).wf = true) (w1 : ((Lit.int .i64 a1.1).wf = true ∧ (Lit.int .i64 a1.2.1).wf = true ∧ (a1.2.2.length ≤ maxLen ∧ ∀ e23_ ∈ a1.2.2, (Lit.int .u64 e23_).wf = true))) (w2 : (rows.length ≤ maxLen ∧ ∀ e26_ ∈ rows, (Lit.int .i64 e26_).wf = true)) (w3 : (cols.length ≤ maxLen ∧ ∀ e26_ ∈ cols, (Lit.int .i64 e26_).wf = true)) :
    CallsP Try.prog 4 [u64 p, matP a1.1 a1.2.1 a1.2.2, li rows, li cols] (bl true) := by
  obtain ⟨r, c, l⟩ := a1
  obtain ⟨_, _, hl, _⟩ := w1
  simp only at hl
  have hr := w2.1
  have hc := w3.1
  clear w0 w2 w3
  simp only
  have aw := awake05_walk
  have q1 := short_walk r c l
  have q2 := pick_walk p r c l rows cols hl hr hc
  have q3 := rmright_walk p r c l hl
  by_cases c1 : (l.length : Int) ≤ 150
  case neg =>
    rw [decide_eq_false c1] at q1
    refine X_startP (n := 172) (m := 4) (rs := [.tmp 8]) Try.func4 rfl rfl rfl rfl (by decide) fun base => ?_
    repeat (first | ((first | refine X_call_fn2 rfl (by simp only [tys]) ?_ | refine X_dcall_fn2 rfl (by simp only [tys]) ?_); apply Exists.intro; apply And.intro; (focus (simp -dsimp only [simx, zzB, tys, ite_self, opnL, callB, stepOp, ofVal, opBuiltin, opLen, PV.sk, scalBin, scalUn, intBin, opLoad, natOf, opConvert, opField, cellsP, oneP, Value.oneCell', opStore, toIV, scalT, scalA, scalC, boxesA, boxesC, ↓reduceIte, Nat.reduceSub, Nat.reduceEqDiff, Nat.reduceAdd, Nat.reduceMul, Nat.reduceLT, Nat.reduceLeDiff, Int.reduceToNat, Int.reduceLE, Int.reduceLT, Int.reduceNeg, reduceCtorEq, zzL, if_true, if_false] <;> rfl)); apply Exists.intro; apply And.intro; (focus (first | exact aw | exact q1))) | refine ⟨(by show drawK _ _ = true; kernel_rfl : drawX _ _ _), ?_⟩ | exact (by show drawK _ _ = true; kernel_rfl : drawX _ _ _) | simp -dsimp (maxSteps := 20000000) (disch := omega) only [simx, zzB, tys, ite_self, opnL, callB, stepOp, ofVal, opBuiltin, opLen, PV.sk, scalBin, scalUn, intBin, opLoad, natOf, opConvert, opField, cellsP, oneP, Value.oneCell', opStore, toIV, scalT, scalA, scalC, boxesA, boxesC, ↓reduceIte, Nat.reduceSub, Nat.reduceEqDiff, Nat.reduceAdd, Nat.reduceMul, Nat.reduceLT, Nat.reduceLeDiff, Int.reduceToNat, Int.reduceLE, Int.reduceLT, Int.reduceNeg, reduceCtorEq, zzR, gos, Int.reduceAdd, Int.reduceSub, Int.reduceMul, Int.reduceEq])
  rw [decide_eq_true c1] at q1
  by_cases c2 : (rows.length : Int) ≤ 70
  case neg =>
    refine X_startP (n := 172) (m := 4) (rs := [.tmp 8]) Try.func4 rfl rfl rfl rfl (by decide) fun base => ?_
    repeat (first | ((first | refine X_call_fn2 rfl (by simp only [tys]) ?_ | refine X_dcall_fn2 rfl (by simp only [tys]) ?_); apply Exists.intro; apply And.intro; (focus (simp -dsimp only [simx, zzB, tys, ite_self, opnL, callB, stepOp, ofVal, opBuiltin, opLen, PV.sk, scalBin, scalUn, intBin, opLoad, natOf, opConvert, opField, cellsP, oneP, Value.oneCell', opStore, toIV, scalT, scalA, scalC, boxesA, boxesC, ↓reduceIte, Nat.reduceSub, Nat.reduceEqDiff, Nat.reduceAdd, Nat.reduceMul, Nat.reduceLT, Nat.reduceLeDiff, Int.reduceToNat, Int.reduceLE, Int.reduceLT, Int.reduceNeg, reduceCtorEq, zzL, if_true, if_false] <;> rfl)); apply Exists.intro; apply And.intro; (focus (first | exact aw | exact q1))) | refine ⟨(by show drawK _ _ = true; kernel_rfl : drawX _ _ _), ?_⟩ | exact (by show drawK _ _ = true; kernel_rfl : drawX _ _ _) | simp -dsimp (maxSteps := 20000000) (disch := omega) only [simx, zzB, tys, ite_self, opnL, callB, stepOp, ofVal, opBuiltin, opLen, PV.sk, scalBin, scalUn, intBin, opLoad, natOf, opConvert, opField, cellsP, oneP, Value.oneCell', opStore, toIV, scalT, scalA, scalC, boxesA, boxesC, ↓reduceIte, Nat.reduceSub, Nat.reduceEqDiff, Nat.reduceAdd, Nat.reduceMul, Nat.reduceLT, Nat.reduceLeDiff, Int.reduceToNat, Int.reduceLE, Int.reduceLT, Int.reduceNeg, reduceCtorEq, zzR, gos, Int.reduceAdd, Int.reduceSub, Int.reduceMul, Int.reduceEq])
  by_cases c3 : (cols.length : Int) ≤ 70
  case neg =>
    refine X_startP (n := 172) (m := 4) (rs := [.tmp 8]) Try.func4 rfl rfl rfl rfl (by decide) fun base => ?_
    repeat (first | ((first | refine X_call_fn2 rfl (by simp only [tys]) ?_ | refine X_dcall_fn2 rfl (by simp only [tys]) ?_); apply Exists.intro; apply And.intro; (focus (simp -dsimp only [simx, zzB, tys, ite_self, opnL, callB, stepOp, ofVal, opBuiltin, opLen, PV.sk, scalBin, scalUn, intBin, opLoad, natOf, opConvert, opField, cellsP, oneP, Value.oneCell', opStore, toIV, scalT, scalA, scalC, boxesA, boxesC, ↓reduceIte, Nat.reduceSub, Nat.reduceEqDiff, Nat.reduceAdd, Nat.reduceMul, Nat.reduceLT, Nat.reduceLeDiff, Int.reduceToNat, Int.reduceLE, Int.reduceLT, Int.reduceNeg, reduceCtorEq, zzL, if_true, if_false] <;> rfl)); apply Exists.intro; apply And.intro; (focus (first | exact aw | exact q1))) | refine ⟨(by show drawK _ _ = true; kernel_rfl : drawX _ _ _), ?_⟩ | exact (by show drawK _ _ = true; kernel_rfl : drawX _ _ _) | simp -dsimp (maxSteps := 20000000) (disch := omega) only [simx, zzB, tys, ite_self, opnL, callB, stepOp, ofVal, opBuiltin, opLen, PV.sk, scalBin, scalUn, intBin, opLoad, natOf, opConvert, opField, cellsP, oneP, Value.oneCell', opStore, toIV, scalT, scalA, scalC, boxesA, boxesC, ↓reduceIte, Nat.reduceSub, Nat.reduceEqDiff, Nat.reduceAdd, Nat.reduceMul, Nat.reduceLT, Nat.reduceLeDiff, Int.reduceToNat, Int.reduceLE, Int.reduceLT, Int.reduceNeg, reduceCtorEq, zzR, gos, Int.reduceAdd, Int.reduceSub, Int.reduceMul, Int.reduceEq])
  unfold pickR at q2
  cases hg : MatB p r c l && (withinB rows r && withinB cols c) with
  | true =>
    rw [hg] at q2
    simp only [Bool.and_eq_true] at hg
    obtain ⟨h1, h2, h3⟩ := hg
    rw [h1] at q3
    obtain ⟨R, C, rfl, rfl, M⟩ := mat_of h1
    obtain ⟨⟨b1, b2⟩, b3⟩ := (within_iff _ _).1 h2
    obtain ⟨⟨d1, d2⟩, d3⟩ := (within_iff _ _).1 h3
    have rl := M.r2
    have cl2 := M.c2
    simp only [if_true, Int.toNat_natCast] at q2
    clear h1 h2 h3
    have pl := pickM_len C l cols rows
    have pc := fun m hm j hj => pick_cl C l cols (m := m) hm rows j hj
    generalize pickM C l rows cols = pm at q2 pl pc
    have rc := rc_bd b2 d2
    have e1 : IntKind.i64.wrap ((rows.length : Int) * (cols.length : Int)) = ((rows.length * cols.length : Nat) : Int) := by rw [← Int.natCast_mul]; exact iw_of (by omega) (by omega)
    refine X_startP (n := 172) (m := 4) (rs := [.tmp 8]) Try.func4 rfl rfl rfl rfl (by decide) fun base => ?_
    repeat (first | ((first | refine X_call_fn2 rfl (by simp only [tys]) ?_ | refine X_dcall_fn2 rfl (by simp only [tys]) ?_); apply Exists.intro; apply And.intro; (focus (simp -dsimp only [simx, zzB, tys, ite_self, opnL, callB, stepOp, ofVal, opBuiltin, opLen, PV.sk, scalBin, scalUn, intBin, opLoad, natOf, opConvert, opField, cellsP, oneP, Value.oneCell', opStore, toIV, scalT, scalA, scalC, boxesA, boxesC, ↓reduceIte, Nat.reduceSub, Nat.reduceEqDiff, Nat.reduceAdd, Nat.reduceMul, Nat.reduceLT, Nat.reduceLeDiff, Int.reduceToNat, Int.reduceLE, Int.reduceLT, Int.reduceNeg, reduceCtorEq, zzL, if_true, if_false] <;> rfl)); apply Exists.intro; apply And.intro; (focus (first | exact aw | exact q1 | exact q2 | exact q3))) | refine ⟨(by show drawK _ _ = true; kernel_rfl : drawX _ _ _), ?_⟩ | exact (by show drawK _ _ = true; kernel_rfl : drawX _ _ _) | simp -dsimp (maxSteps := 20000000) (disch := omega) only [simx, zzB, tys, ite_self, opnL, callB, stepOp, ofVal, opBuiltin, opLen, PV.sk, scalBin, scalUn, intBin, opLoad, natOf, opConvert, opField, cellsP, oneP, Value.oneCell', opStore, toIV, scalT, scalA, scalC, boxesA, boxesC, ↓reduceIte, Nat.reduceSub, Nat.reduceEqDiff, Nat.reduceAdd, Nat.reduceMul, Nat.reduceLT, Nat.reduceLeDiff, Int.reduceToNat, Int.reduceLE, Int.reduceLT, Int.reduceNeg, reduceCtorEq, gos, Int.reduceAdd, Int.reduceSub, Int.reduceMul, Int.reduceEq])
    refine X_loopH [2, 3, 5, 9, 10, 11, 12] [] (0) (rows.length) (fun j => True) (fun j => [(11, bl true), (12, i64 j)]) (fun j => (Heap.none.put ((0, 0) :: base) (.var [i64 R, i64 C, lu l])).put ((5, 8) :: base) (.var [i64 rows.length, i64 cols.length, lu pm])) ?_ ?_ ?_ ?_ ?_ (by decide) ?_
    · exact (fgt_nil)
    · ((simp -dsimp (disch := omega) only [simx, zzB, tys, ite_self, opnL, callB, stepOp, ofVal, opBuiltin, opLen, PV.sk, scalBin, scalUn, intBin, opLoad, natOf, opConvert, opField, cellsP, oneP, Value.oneCell', opStore, toIV, scalT, scalA, scalC, boxesA, boxesC, ↓reduceIte, Nat.reduceSub, Nat.reduceEqDiff, Nat.reduceAdd, Nat.reduceMul, Nat.reduceLT, Nat.reduceLeDiff, Int.reduceToNat, Int.reduceLE, Int.reduceLT, Int.reduceNeg, reduceCtorEq, gos, Int.reduceAdd, Int.reduceSub, Int.reduceMul, Int.reduceEq]) <;> first | rfl | simp)
    · funext c
      simp (maxSteps := 20000000) only [Heap.drop_at, rowH_app, Heap.put_at, Heap.none_at, List.mem_cons, List.not_mem_nil, or_false]
      by_cases e0 : c = (0, 0) :: base
      · subst e0; simp []
      by_cases e1 : c = (5, 8) :: base
      · subst e1; simp []
      simp [e0, e1]
    · omega
    · trivial
    · intro j hj _
      by_cases cj : j < rows.length
      · have g1 : rows[j]? = some rows[j] := List.getElem?_eq_getElem cj
        obtain ⟨i0, i1⟩ := b3 _ (List.getElem_mem cj)
        repeat (first | refine ⟨(by show drawK _ _ = true; kernel_rfl : drawX _ _ _), ?_⟩ | exact (by show drawK _ _ = true; kernel_rfl : drawX _ _ _) | simp -dsimp (maxSteps := 20000000) (disch := omega) only [simx, zzB, tys, ite_self, opnL, callB, stepOp, ofVal, opBuiltin, opLen, PV.sk, scalBin, scalUn, intBin, opLoad, natOf, opConvert, opField, cellsP, oneP, Value.oneCell', opStore, toIV, scalT, scalA, scalC, boxesA, boxesC, ↓reduceIte, Nat.reduceSub, Nat.reduceEqDiff, Nat.reduceAdd, Nat.reduceMul, Nat.reduceLT, Nat.reduceLeDiff, Int.reduceToNat, Int.reduceLE, Int.reduceLT, Int.reduceNeg, reduceCtorEq, gos, Int.reduceAdd, Int.reduceSub, Int.reduceMul, Int.reduceEq, cj, g1])
        exact ⟨cj, (fgt_nil), rfl, drop_nil _⟩
      · have hj' : j = rows.length := by omega
        subst hj'
        repeat (first | refine ⟨(by show drawK _ _ = true; kernel_rfl : drawX _ _ _), ?_⟩ | exact (by show drawK _ _ = true; kernel_rfl : drawX _ _ _) | simp -dsimp (maxSteps := 20000000) (disch := omega) only [simx, zzB, tys, ite_self, opnL, callB, stepOp, ofVal, opBuiltin, opLen, PV.sk, scalBin, scalUn, intBin, opLoad, natOf, opConvert, opField, cellsP, oneP, Value.oneCell', opStore, toIV, scalT, scalA, scalC, boxesA, boxesC, ↓reduceIte, Nat.reduceSub, Nat.reduceEqDiff, Nat.reduceAdd, Nat.reduceMul, Nat.reduceLT, Nat.reduceLeDiff, Int.reduceToNat, Int.reduceLE, Int.reduceLT, Int.reduceNeg, reduceCtorEq, gos, Int.reduceAdd, Int.reduceSub, Int.reduceMul, Int.reduceEq])
        refine X_loopH [2, 3, 5, 9, 10, 11, 13] [] (0) (cols.length) (fun j => True) (fun j => [(11, bl true), (13, i64 j)]) (fun j => (Heap.none.put ((0, 0) :: base) (.var [i64 R, i64 C, lu l])).put ((5, 8) :: base) (.var [i64 rows.length, i64 cols.length, lu pm])) ?_ ?_ ?_ ?_ ?_ (by decide) ?_
        · exact (fgt_nil)
        · ((simp -dsimp (disch := omega) only [simx, zzB, tys, ite_self, opnL, callB, stepOp, ofVal, opBuiltin, opLen, PV.sk, scalBin, scalUn, intBin, opLoad, natOf, opConvert, opField, cellsP, oneP, Value.oneCell', opStore, toIV, scalT, scalA, scalC, boxesA, boxesC, ↓reduceIte, Nat.reduceSub, Nat.reduceEqDiff, Nat.reduceAdd, Nat.reduceMul, Nat.reduceLT, Nat.reduceLeDiff, Int.reduceToNat, Int.reduceLE, Int.reduceLT, Int.reduceNeg, reduceCtorEq, gos, Int.reduceAdd, Int.reduceSub, Int.reduceMul, Int.reduceEq]) <;> first | rfl | simp)
        · exact drop_nil _
        · omega
        · trivial
        · intro j hj _
          by_cases cj : j < cols.length
          · have g1 : cols[j]? = some cols[j] := List.getElem?_eq_getElem cj
            obtain ⟨i0, i1⟩ := d3 _ (List.getElem_mem cj)
            repeat (first | refine ⟨(by show drawK _ _ = true; kernel_rfl : drawX _ _ _), ?_⟩ | exact (by show drawK _ _ = true; kernel_rfl : drawX _ _ _) | simp -dsimp (maxSteps := 20000000) (disch := omega) only [simx, zzB, tys, ite_self, opnL, callB, stepOp, ofVal, opBuiltin, opLen, PV.sk, scalBin, scalUn, intBin, opLoad, natOf, opConvert, opField, cellsP, oneP, Value.oneCell', opStore, toIV, scalT, scalA, scalC, boxesA, boxesC, ↓reduceIte, Nat.reduceSub, Nat.reduceEqDiff, Nat.reduceAdd, Nat.reduceMul, Nat.reduceLT, Nat.reduceLeDiff, Int.reduceToNat, Int.reduceLE, Int.reduceLT, Int.reduceNeg, reduceCtorEq, gos, Int.reduceAdd, Int.reduceSub, Int.reduceMul, Int.reduceEq, cj, g1])
            exact ⟨cj, (fgt_nil), rfl, drop_nil _⟩
          · have hj' : j = cols.length := by omega
            subst hj'
            repeat (first | refine ⟨(by show drawK _ _ = true; kernel_rfl : drawX _ _ _), ?_⟩ | exact (by show drawK _ _ = true; kernel_rfl : drawX _ _ _) | simp -dsimp (maxSteps := 20000000) (disch := omega) only [simx, zzB, tys, ite_self, opnL, callB, stepOp, ofVal, opBuiltin, opLen, PV.sk, scalBin, scalUn, intBin, opLoad, natOf, opConvert, opField, cellsP, oneP, Value.oneCell', opStore, toIV, scalT, scalA, scalC, boxesA, boxesC, ↓reduceIte, Nat.reduceSub, Nat.reduceEqDiff, Nat.reduceAdd, Nat.reduceMul, Nat.reduceLT, Nat.reduceLeDiff, Int.reduceToNat, Int.reduceLE, Int.reduceLT, Int.reduceNeg, reduceCtorEq, gos, Int.reduceAdd, Int.reduceSub, Int.reduceMul, Int.reduceEq, e1, pl])
            refine X_loopH [2, 3, 5, 9, 14] [] (0) (rows.length) (fun j => True) (fun j => [(14, i64 j)]) (fun j => (Heap.none.put ((0, 0) :: base) (.var [i64 R, i64 C, lu l])).put ((5, 8) :: base) (.var [i64 rows.length, i64 cols.length, lu pm])) ?_ ?_ ?_ ?_ ?_ (by decide) ?_
            · exact (fgt_nil)
            · ((simp -dsimp (disch := omega) only [simx, zzB, tys, ite_self, opnL, callB, stepOp, ofVal, opBuiltin, opLen, PV.sk, scalBin, scalUn, intBin, opLoad, natOf, opConvert, opField, cellsP, oneP, Value.oneCell', opStore, toIV, scalT, scalA, scalC, boxesA, boxesC, ↓reduceIte, Nat.reduceSub, Nat.reduceEqDiff, Nat.reduceAdd, Nat.reduceMul, Nat.reduceLT, Nat.reduceLeDiff, Int.reduceToNat, Int.reduceLE, Int.reduceLT, Int.reduceNeg, reduceCtorEq, gos, Int.reduceAdd, Int.reduceSub, Int.reduceMul, Int.reduceEq]) <;> first | rfl | simp)
            · exact drop_nil _
            · omega
            · trivial
            · intro j hj _
              by_cases cj : j < rows.length
              · have g1 : rows[j]? = some rows[j] := List.getElem?_eq_getElem cj
                have g1' : rows.getD j 0 = rows[j] := by rw [List.getD_eq_getElem?_getD, g1]; rfl
                obtain ⟨i0, i1⟩ := b3 _ (List.getElem_mem cj)
                repeat (first | refine ⟨(by show drawK _ _ = true; kernel_rfl : drawX _ _ _), ?_⟩ | exact (by show drawK _ _ = true; kernel_rfl : drawX _ _ _) | simp -dsimp (maxSteps := 20000000) (disch := omega) only [simx, zzB, tys, ite_self, opnL, callB, stepOp, ofVal, opBuiltin, opLen, PV.sk, scalBin, scalUn, intBin, opLoad, natOf, opConvert, opField, cellsP, oneP, Value.oneCell', opStore, toIV, scalT, scalA, scalC, boxesA, boxesC, ↓reduceIte, Nat.reduceSub, Nat.reduceEqDiff, Nat.reduceAdd, Nat.reduceMul, Nat.reduceLT, Nat.reduceLeDiff, Int.reduceToNat, Int.reduceLE, Int.reduceLT, Int.reduceNeg, reduceCtorEq, gos, Int.reduceAdd, Int.reduceSub, Int.reduceMul, Int.reduceEq, cj])
                refine X_loopH [2, 3, 5, 9, 14, 15] [] (0) (cols.length) (fun j_ => True) (fun j_ => [(15, i64 j_)]) (fun j_ => (Heap.none.put ((0, 0) :: base) (.var [i64 R, i64 C, lu l])).put ((5, 8) :: base) (.var [i64 rows.length, i64 cols.length, lu pm])) ?_ ?_ ?_ ?_ ?_ (by decide) ?_
                · exact (fgt_nil)
                · ((simp -dsimp (disch := omega) only [simx, zzB, tys, ite_self, opnL, callB, stepOp, ofVal, opBuiltin, opLen, PV.sk, scalBin, scalUn, intBin, opLoad, natOf, opConvert, opField, cellsP, oneP, Value.oneCell', opStore, toIV, scalT, scalA, scalC, boxesA, boxesC, ↓reduceIte, Nat.reduceSub, Nat.reduceEqDiff, Nat.reduceAdd, Nat.reduceMul, Nat.reduceLT, Nat.reduceLeDiff, Int.reduceToNat, Int.reduceLE, Int.reduceLT, Int.reduceNeg, reduceCtorEq, gos, Int.reduceAdd, Int.reduceSub, Int.reduceMul, Int.reduceEq]) <;> first | rfl | simp)
                · exact drop_nil _
                · omega
                · trivial
                · intro m hm _
                  by_cases cm : m < cols.length
                  · have g2 : cols[m]? = some cols[m] := List.getElem?_eq_getElem cm
                    have g2' : cols.getD m 0 = cols[m] := by rw [List.getD_eq_getElem?_getD, g2]; rfl
                    obtain ⟨k0, k1⟩ := d3 _ (List.getElem_mem cm)
                    have hp := pc m cm j cj
                    rw [g1', g2'] at hp
                    generalize rows[j] = i at g1 g1' i0 i1 hp
                    generalize cols[m] = k at g2 g2' k0 k1 hp
                    obtain ⟨I, rfl⟩ := Int.eq_ofNat_of_zero_le i0
                    obtain ⟨K, rfl⟩ := Int.eq_ofNat_of_zero_le k0
                    have s1 := at_walk pl b2 d2 cj cm
                    have s2 := at_walk M.len M.r2 M.c2 (i := I) (k := K) (by omega) (by omega)
                    rw [hp] at s1
                    unfold cl at s1
                    simp only [Int.toNat_natCast] at s1
                    generalize l.getD (I * C + K) 0 = x at s1 s2
                    repeat (first | ((first | refine X_call_fn2 rfl (by simp only [tys]) ?_ | refine X_dcall_fn2 rfl (by simp only [tys]) ?_); apply Exists.intro; apply And.intro; (focus (simp -dsimp only [simx, zzB, tys, ite_self, opnL, callB, stepOp, ofVal, opBuiltin, opLen, PV.sk, scalBin, scalUn, intBin, opLoad, natOf, opConvert, opField, cellsP, oneP, Value.oneCell', opStore, toIV, scalT, scalA, scalC, boxesA, boxesC, ↓reduceIte, Nat.reduceSub, Nat.reduceEqDiff, Nat.reduceAdd, Nat.reduceMul, Nat.reduceLT, Nat.reduceLeDiff, Int.reduceToNat, Int.reduceLE, Int.reduceLT, Int.reduceNeg, reduceCtorEq, zzL, if_true, if_false] <;> rfl)); apply Exists.intro; apply And.intro; (focus (first | exact s1 | exact s2))) | refine ⟨(by show drawK _ _ = true; kernel_rfl : drawX _ _ _), ?_⟩ | exact (by show drawK _ _ = true; kernel_rfl : drawX _ _ _) | simp -dsimp (maxSteps := 20000000) (disch := omega) only [simx, zzB, tys, ite_self, opnL, callB, stepOp, ofVal, opBuiltin, opLen, PV.sk, scalBin, scalUn, intBin, opLoad, natOf, opConvert, opField, cellsP, oneP, Value.oneCell', opStore, toIV, scalT, scalA, scalC, boxesA, boxesC, ↓reduceIte, Nat.reduceSub, Nat.reduceEqDiff, Nat.reduceAdd, Nat.reduceMul, Nat.reduceLT, Nat.reduceLeDiff, Int.reduceToNat, Int.reduceLE, Int.reduceLT, Int.reduceNeg, reduceCtorEq, gos, Int.reduceAdd, Int.reduceSub, Int.reduceMul, Int.reduceEq, cm, cj, g1, g2])
                    exact ⟨cm, (fgt_nil), rfl, drop_nil _⟩
                  · have hm' : m = cols.length := by omega
                    subst hm'
                    repeat (first | refine ⟨(by show drawK _ _ = true; kernel_rfl : drawX _ _ _), ?_⟩ | exact (by show drawK _ _ = true; kernel_rfl : drawX _ _ _) | simp -dsimp (maxSteps := 20000000) (disch := omega) only [simx, zzB, tys, ite_self, opnL, callB, stepOp, ofVal, opBuiltin, opLen, PV.sk, scalBin, scalUn, intBin, opLoad, natOf, opConvert, opField, cellsP, oneP, Value.oneCell', opStore, toIV, scalT, scalA, scalC, boxesA, boxesC, ↓reduceIte, Nat.reduceSub, Nat.reduceEqDiff, Nat.reduceAdd, Nat.reduceMul, Nat.reduceLT, Nat.reduceLeDiff, Int.reduceToNat, Int.reduceLE, Int.reduceLT, Int.reduceNeg, reduceCtorEq, gos, Int.reduceAdd, Int.reduceSub, Int.reduceMul, Int.reduceEq])
                    exact ⟨cj, (fgt_nil), rfl, drop_nil _⟩
              · have hj' : j = rows.length := by omega
                subst hj'
                repeat (first | refine ⟨(by show drawK _ _ = true; kernel_rfl : drawX _ _ _), ?_⟩ | exact (by show drawK _ _ = true; kernel_rfl : drawX _ _ _) | simp -dsimp (maxSteps := 20000000) (disch := omega) only [simx, zzB, tys, ite_self, opnL, callB, stepOp, ofVal, opBuiltin, opLen, PV.sk, scalBin, scalUn, intBin, opLoad, natOf, opConvert, opField, cellsP, oneP, Value.oneCell', opStore, toIV, scalT, scalA, scalC, boxesA, boxesC, ↓reduceIte, Nat.reduceSub, Nat.reduceEqDiff, Nat.reduceAdd, Nat.reduceMul, Nat.reduceLT, Nat.reduceLeDiff, Int.reduceToNat, Int.reduceLE, Int.reduceLT, Int.reduceNeg, reduceCtorEq, zzR, gos, Int.reduceAdd, Int.reduceSub, Int.reduceMul, Int.reduceEq])
  | false =>
    rw [hg] at q2
    simp only [Bool.false_eq_true, if_false] at q2
    rw [within_all, within_all] at hg
    obtain ⟨m0, hm0⟩ : ∃ m0, (MatB p r c l && (decide (1 ≤ (rows.length : Int)) && (decide ((rows.length : Int) ≤ 64) && (decide (1 ≤ (cols.length : Int)) && decide ((cols.length : Int) ≤ 64))))) = m0 := ⟨_, rfl⟩
    have hg2 : (m0 && rows.all (inB r) && cols.all (inB c)) = false := by
      rw [← hm0, ← hg]
      cases MatB p r c l <;> cases decide (1 ≤ (rows.length : Int)) <;> cases decide ((rows.length : Int) ≤ 64) <;> cases decide (1 ≤ (cols.length : Int)) <;> cases decide ((cols.length : Int) ≤ 64) <;> simp
    have sp : (MatB p r c l = true ∧ 1 ≤ (rows.length : Int) ∧ (rows.length : Int) ≤ 64 ∧ 1 ≤ (cols.length : Int) ∧ (cols.length : Int) ≤ 64 ∧ m0 = true) ∨ (MatB p r c l = false ∧ m0 = false) ∨ (MatB p r c l = true ∧ ¬ 1 ≤ (rows.length : Int) ∧ m0 = false) ∨ (MatB p r c l = true ∧ 1 ≤ (rows.length : Int) ∧ ¬ (rows.length : Int) ≤ 64 ∧ m0 = false) ∨
        (MatB p r c l = true ∧ 1 ≤ (rows.length : Int) ∧ (rows.length : Int) ≤ 64 ∧ ¬ 1 ≤ (cols.length : Int) ∧ m0 = false) ∨ (MatB p r c l = true ∧ 1 ≤ (rows.length : Int) ∧ (rows.length : Int) ≤ 64 ∧ 1 ≤ (cols.length : Int) ∧ ¬ (cols.length : Int) ≤ 64 ∧ m0 = false) := by
      rw [← hm0]
      cases MatB p r c l with
      | false => exact .inr (.inl ⟨rfl, rfl⟩)
      | true =>
        by_cases x1 : 1 ≤ (rows.length : Int)
        case neg => exact .inr (.inr (.inl ⟨rfl, x1, by simp [x1]⟩))
        by_cases x2 : (rows.length : Int) ≤ 64
        case neg => exact .inr (.inr (.inr (.inl ⟨rfl, x1, x2, by simp [x2]⟩)))
        by_cases x3 : 1 ≤ (cols.length : Int)
        case neg => exact .inr (.inr (.inr (.inr (.inl ⟨rfl, x1, x2, x3, by simp [x3]⟩))))
        by_cases x4 : (cols.length : Int) ≤ 64
        case neg => exact .inr (.inr (.inr (.inr (.inr ⟨rfl, x1, x2, x3, x4, by simp [x4]⟩))))
        exact .inl ⟨rfl, x1, x2, x3, x4, by simp [x1, x2, x3, x4]⟩
    generalize hM : MatB p r c l = mr at q3 sp
    clear hg hM hm0
    rcases sp with ⟨rfl, x1, x2, x3, x4, e0⟩ | ⟨rfl, e0⟩ | ⟨rfl, x1, e0⟩ | ⟨rfl, x1, x2, e0⟩ | ⟨rfl, x1, x2, x3, e0⟩ | ⟨rfl, x1, x2, x3, x4, e0⟩
    all_goals (
      refine X_startP (n := 172) (m := 4) (rs := [.tmp 8]) Try.func4 rfl rfl rfl rfl (by decide) fun base => ?_
      repeat (first | ((first | refine X_call_fn2 rfl (by simp only [tys]) ?_ | refine X_dcall_fn2 rfl (by simp only [tys]) ?_); apply Exists.intro; apply And.intro; (focus (simp -dsimp only [simx, zzB, tys, ite_self, opnL, callB, stepOp, ofVal, opBuiltin, opLen, PV.sk, scalBin, scalUn, intBin, opLoad, natOf, opConvert, opField, cellsP, oneP, Value.oneCell', opStore, toIV, scalT, scalA, scalC, boxesA, boxesC, ↓reduceIte, Nat.reduceSub, Nat.reduceEqDiff, Nat.reduceAdd, Nat.reduceMul, Nat.reduceLT, Nat.reduceLeDiff, Int.reduceToNat, Int.reduceLE, Int.reduceLT, Int.reduceNeg, reduceCtorEq, zzL, if_true, if_false] <;> rfl)); apply Exists.intro; apply And.intro; (focus (first | exact aw | exact q1 | exact q2 | exact q3))) | refine ⟨(by show drawK _ _ = true; kernel_rfl : drawX _ _ _), ?_⟩ | exact (by show drawK _ _ = true; kernel_rfl : drawX _ _ _) | simp -dsimp (maxSteps := 20000000) (disch := omega) only [simx, zzB, tys, ite_self, opnL, callB, stepOp, ofVal, opBuiltin, opLen, PV.sk, scalBin, scalUn, intBin, opLoad, natOf, opConvert, opField, cellsP, oneP, Value.oneCell', opStore, toIV, scalT, scalA, scalC, boxesA, boxesC, ↓reduceIte, Nat.reduceSub, Nat.reduceEqDiff, Nat.reduceAdd, Nat.reduceMul, Nat.reduceLT, Nat.reduceLeDiff, Int.reduceToNat, Int.reduceLE, Int.reduceLT, Int.reduceNeg, reduceCtorEq, gos, Int.reduceAdd, Int.reduceSub, Int.reduceMul, Int.reduceEq])
      refine X_loopH [2, 3, 5, 9, 10, 11, 12] [] (0) (rows.length) (fun j => True) (fun j => [(11, bl (m0 && (rows.take j).all (inB r))), (12, i64 j)]) (fun j => (Heap.none.put ((0, 0) :: base) (.var [i64 r, i64 c, lu l])).put ((5, 8) :: base) (.var [i64 0, i64 0, lu []])) ?_ ?_ ?_ ?_ ?_ (by decide) ?_
      · exact (fgt_nil)
      · ((simp -dsimp (disch := omega) only [simx, zzB, tys, ite_self, opnL, callB, stepOp, ofVal, opBuiltin, opLen, PV.sk, scalBin, scalUn, intBin, opLoad, natOf, opConvert, opField, cellsP, oneP, Value.oneCell', opStore, toIV, scalT, scalA, scalC, boxesA, boxesC, ↓reduceIte, Nat.reduceSub, Nat.reduceEqDiff, Nat.reduceAdd, Nat.reduceMul, Nat.reduceLT, Nat.reduceLeDiff, Int.reduceToNat, Int.reduceLE, Int.reduceLT, Int.reduceNeg, reduceCtorEq, gos, Int.reduceAdd, Int.reduceSub, Int.reduceMul, Int.reduceEq]) <;> first | rfl | simp [e0])
      · funext c
        simp (maxSteps := 20000000) only [Heap.drop_at, rowH_app, Heap.put_at, Heap.none_at, List.mem_cons, List.not_mem_nil, or_false]
        by_cases e0 : c = (0, 0) :: base
        · subst e0; simp []
        by_cases e1 : c = (5, 8) :: base
        · subst e1; simp []
        simp [e0, e1]
      · omega
      · trivial
      · intro j hj _
        try clear x1
        try clear x2
        try clear x3
        try clear x4
        by_cases cx : j < rows.length ∧ (m0 && (rows.take j).all (inB r)) = true
        · obtain ⟨cj, cb⟩ := cx
          have st := all_step (f := inB r) cj
          rw [Bool.and_eq_true] at cb
          rw [cb.1, cb.2]
          rw [cb.2] at st
          have g1 : rows[j]? = some rows[j] := List.getElem?_eq_getElem cj
          generalize rows[j] = a at g1 st
          unfold inB at st
          by_cases y1 : 0 ≤ a
          · by_cases y2 : a < r
            · rw [decide_eq_true y1, decide_eq_true y2] at st
              repeat (first | refine ⟨(by show drawK _ _ = true; kernel_rfl : drawX _ _ _), ?_⟩ | exact (by show drawK _ _ = true; kernel_rfl : drawX _ _ _) | simp -dsimp (maxSteps := 20000000) (disch := omega) only [simx, zzB, tys, ite_self, opnL, callB, stepOp, ofVal, opBuiltin, opLen, PV.sk, scalBin, scalUn, intBin, opLoad, natOf, opConvert, opField, cellsP, oneP, Value.oneCell', opStore, toIV, scalT, scalA, scalC, boxesA, boxesC, ↓reduceIte, Nat.reduceSub, Nat.reduceEqDiff, Nat.reduceAdd, Nat.reduceMul, Nat.reduceLT, Nat.reduceLeDiff, Int.reduceToNat, Int.reduceLE, Int.reduceLT, Int.reduceNeg, reduceCtorEq, gos, Int.reduceAdd, Int.reduceSub, Int.reduceMul, Int.reduceEq, cj, g1])
              exact ⟨cj, (fgt_nil), ⟨by unfold inB; rw [st]; rfl, rfl⟩, drop_nil _⟩
            · rw [decide_eq_true y1, decide_eq_false y2] at st
              repeat (first | refine ⟨(by show drawK _ _ = true; kernel_rfl : drawX _ _ _), ?_⟩ | exact (by show drawK _ _ = true; kernel_rfl : drawX _ _ _) | simp -dsimp (maxSteps := 20000000) (disch := omega) only [simx, zzB, tys, ite_self, opnL, callB, stepOp, ofVal, opBuiltin, opLen, PV.sk, scalBin, scalUn, intBin, opLoad, natOf, opConvert, opField, cellsP, oneP, Value.oneCell', opStore, toIV, scalT, scalA, scalC, boxesA, boxesC, ↓reduceIte, Nat.reduceSub, Nat.reduceEqDiff, Nat.reduceAdd, Nat.reduceMul, Nat.reduceLT, Nat.reduceLeDiff, Int.reduceToNat, Int.reduceLE, Int.reduceLT, Int.reduceNeg, reduceCtorEq, gos, Int.reduceAdd, Int.reduceSub, Int.reduceMul, Int.reduceEq, cj, g1])
              exact ⟨cj, (fgt_nil), ⟨by unfold inB; rw [st]; rfl, rfl⟩, drop_nil _⟩
          · rw [decide_eq_false y1] at st
            repeat (first | refine ⟨(by show drawK _ _ = true; kernel_rfl : drawX _ _ _), ?_⟩ | exact (by show drawK _ _ = true; kernel_rfl : drawX _ _ _) | simp -dsimp (maxSteps := 20000000) (disch := omega) only [simx, zzB, tys, ite_self, opnL, callB, stepOp, ofVal, opBuiltin, opLen, PV.sk, scalBin, scalUn, intBin, opLoad, natOf, opConvert, opField, cellsP, oneP, Value.oneCell', opStore, toIV, scalT, scalA, scalC, boxesA, boxesC, ↓reduceIte, Nat.reduceSub, Nat.reduceEqDiff, Nat.reduceAdd, Nat.reduceMul, Nat.reduceLT, Nat.reduceLeDiff, Int.reduceToNat, Int.reduceLE, Int.reduceLT, Int.reduceNeg, reduceCtorEq, gos, Int.reduceAdd, Int.reduceSub, Int.reduceMul, Int.reduceEq, cj, g1])
            exact ⟨cj, (fgt_nil), ⟨by unfold inB; rw [st]; rfl, rfl⟩, drop_nil _⟩
        · obtain ⟨m1, hm1⟩ : ∃ m1, (m0 && rows.all (inB r)) = m1 := ⟨_, rfl⟩
          have cz : (j < rows.length ∧ (m0 && (rows.take j).all (inB r)) = false ∧ m1 = false) ∨ (j = rows.length ∧ (m0 && (rows.take j).all (inB r)) = m1) := by
            by_cases cj : j < rows.length
            · cases hb : (m0 && (rows.take j).all (inB r)) with
              | true => exact absurd ⟨cj, hb⟩ cx
              | false =>
                refine .inl ⟨cj, rfl, ?_⟩
                rw [← hm1]
                rw [Bool.and_eq_false_iff] at hb ⊢
                exact hb.imp id all_bad
            · have hj' : j = rows.length := by omega
              exact .inr ⟨hj', by rw [hj', List.take_length, hm1]⟩
          rw [hm1] at hg2
          clear hm1 cx e0
          rcases cz with ⟨cj, hb, e1⟩ | ⟨cj, hb⟩
          all_goals (
            rw [hb]
            repeat (first | refine ⟨(by show drawK _ _ = true; kernel_rfl : drawX _ _ _), ?_⟩ | exact (by show drawK _ _ = true; kernel_rfl : drawX _ _ _) | simp -dsimp (maxSteps := 20000000) (disch := omega) only [simx, zzB, tys, ite_self, opnL, callB, stepOp, ofVal, opBuiltin, opLen, PV.sk, scalBin, scalUn, intBin, opLoad, natOf, opConvert, opField, cellsP, oneP, Value.oneCell', opStore, toIV, scalT, scalA, scalC, boxesA, boxesC, ↓reduceIte, Nat.reduceSub, Nat.reduceEqDiff, Nat.reduceAdd, Nat.reduceMul, Nat.reduceLT, Nat.reduceLeDiff, Int.reduceToNat, Int.reduceLE, Int.reduceLT, Int.reduceNeg, reduceCtorEq, gos, Int.reduceAdd, Int.reduceSub, Int.reduceMul, Int.reduceEq, cj])
            refine X_loopH [2, 3, 5, 9, 10, 11, 13] [] (0) (cols.length) (fun j_ => True) (fun j_ => [(11, bl (m1 && (cols.take j_).all (inB c))), (13, i64 j_)]) (fun j_ => (Heap.none.put ((0, 0) :: base) (.var [i64 r, i64 c, lu l])).put ((5, 8) :: base) (.var [i64 0, i64 0, lu []])) ?_ ?_ ?_ ?_ ?_ (by decide) ?_
            · exact (fgt_nil)
            · first | ((simp -dsimp (disch := omega) only [simx, zzB, tys, ite_self, opnL, callB, stepOp, ofVal, opBuiltin, opLen, PV.sk, scalBin, scalUn, intBin, opLoad, natOf, opConvert, opField, cellsP, oneP, Value.oneCell', opStore, toIV, scalT, scalA, scalC, boxesA, boxesC, ↓reduceIte, Nat.reduceSub, Nat.reduceEqDiff, Nat.reduceAdd, Nat.reduceMul, Nat.reduceLT, Nat.reduceLeDiff, Int.reduceToNat, Int.reduceLE, Int.reduceLT, Int.reduceNeg, reduceCtorEq, gos, Int.reduceAdd, Int.reduceSub, Int.reduceMul, Int.reduceEq]) <;> first | rfl | simp [e1]) | ((simp -dsimp (disch := omega) only [simx, zzB, tys, ite_self, opnL, callB, stepOp, ofVal, opBuiltin, opLen, PV.sk, scalBin, scalUn, intBin, opLoad, natOf, opConvert, opField, cellsP, oneP, Value.oneCell', opStore, toIV, scalT, scalA, scalC, boxesA, boxesC, ↓reduceIte, Nat.reduceSub, Nat.reduceEqDiff, Nat.reduceAdd, Nat.reduceMul, Nat.reduceLT, Nat.reduceLeDiff, Int.reduceToNat, Int.reduceLE, Int.reduceLT, Int.reduceNeg, reduceCtorEq, gos, Int.reduceAdd, Int.reduceSub, Int.reduceMul, Int.reduceEq]) <;> first | rfl | simp)
            · exact drop_nil _
            · omega
            · trivial
            · intro m hm _
              clear cj hb hj
              try clear e1
              by_cases cx : m < cols.length ∧ (m1 && (cols.take m).all (inB c)) = true
              · obtain ⟨cj, cb⟩ := cx
                have st := all_step (f := inB c) cj
                rw [Bool.and_eq_true] at cb
                rw [cb.1, cb.2]
                rw [cb.2] at st
                have g1 : cols[m]? = some cols[m] := List.getElem?_eq_getElem cj
                generalize cols[m] = a at g1 st
                unfold inB at st
                by_cases y1 : 0 ≤ a
                · by_cases y2 : a < c
                  · rw [decide_eq_true y1, decide_eq_true y2] at st
                    repeat (first | refine ⟨(by show drawK _ _ = true; kernel_rfl : drawX _ _ _), ?_⟩ | exact (by show drawK _ _ = true; kernel_rfl : drawX _ _ _) | simp -dsimp (maxSteps := 20000000) (disch := omega) only [simx, zzB, tys, ite_self, opnL, callB, stepOp, ofVal, opBuiltin, opLen, PV.sk, scalBin, scalUn, intBin, opLoad, natOf, opConvert, opField, cellsP, oneP, Value.oneCell', opStore, toIV, scalT, scalA, scalC, boxesA, boxesC, ↓reduceIte, Nat.reduceSub, Nat.reduceEqDiff, Nat.reduceAdd, Nat.reduceMul, Nat.reduceLT, Nat.reduceLeDiff, Int.reduceToNat, Int.reduceLE, Int.reduceLT, Int.reduceNeg, reduceCtorEq, gos, Int.reduceAdd, Int.reduceSub, Int.reduceMul, Int.reduceEq, cj, g1])
                    exact ⟨cj, (fgt_nil), ⟨by unfold inB; rw [st]; rfl, rfl⟩, drop_nil _⟩
                  · rw [decide_eq_true y1, decide_eq_false y2] at st
                    repeat (first | refine ⟨(by show drawK _ _ = true; kernel_rfl : drawX _ _ _), ?_⟩ | exact (by show drawK _ _ = true; kernel_rfl : drawX _ _ _) | simp -dsimp (maxSteps := 20000000) (disch := omega) only [simx, zzB, tys, ite_self, opnL, callB, stepOp, ofVal, opBuiltin, opLen, PV.sk, scalBin, scalUn, intBin, opLoad, natOf, opConvert, opField, cellsP, oneP, Value.oneCell', opStore, toIV, scalT, scalA, scalC, boxesA, boxesC, ↓reduceIte, Nat.reduceSub, Nat.reduceEqDiff, Nat.reduceAdd, Nat.reduceMul, Nat.reduceLT, Nat.reduceLeDiff, Int.reduceToNat, Int.reduceLE, Int.reduceLT, Int.reduceNeg, reduceCtorEq, gos, Int.reduceAdd, Int.reduceSub, Int.reduceMul, Int.reduceEq, cj, g1])
                    exact ⟨cj, (fgt_nil), ⟨by unfold inB; rw [st]; rfl, rfl⟩, drop_nil _⟩
                · rw [decide_eq_false y1] at st
                  repeat (first | refine ⟨(by show drawK _ _ = true; kernel_rfl : drawX _ _ _), ?_⟩ | exact (by show drawK _ _ = true; kernel_rfl : drawX _ _ _) | simp -dsimp (maxSteps := 20000000) (disch := omega) only [simx, zzB, tys, ite_self, opnL, callB, stepOp, ofVal, opBuiltin, opLen, PV.sk, scalBin, scalUn, intBin, opLoad, natOf, opConvert, opField, cellsP, oneP, Value.oneCell', opStore, toIV, scalT, scalA, scalC, boxesA, boxesC, ↓reduceIte, Nat.reduceSub, Nat.reduceEqDiff, Nat.reduceAdd, Nat.reduceMul, Nat.reduceLT, Nat.reduceLeDiff, Int.reduceToNat, Int.reduceLE, Int.reduceLT, Int.reduceNeg, reduceCtorEq, gos, Int.reduceAdd, Int.reduceSub, Int.reduceMul, Int.reduceEq, cj, g1])
                  exact ⟨cj, (fgt_nil), ⟨by unfold inB; rw [st]; rfl, rfl⟩, drop_nil _⟩
              · have cz : (m < cols.length ∧ (m1 && (cols.take m).all (inB c)) = false) ∨ (m = cols.length ∧ (m1 && (cols.take m).all (inB c)) = false) := by
                  by_cases cj : m < cols.length
                  · cases hb : (m1 && (cols.take m).all (inB c)) with
                    | true => exact absurd ⟨cj, hb⟩ cx
                    | false => exact .inl ⟨cj, rfl⟩
                  · have hj' : m = cols.length := by omega
                    exact .inr ⟨hj', by rw [hj', List.take_length, hg2]⟩
                rcases cz with ⟨cj, hb⟩ | ⟨cj, hb⟩
                all_goals (
                  rw [hb]
                  repeat (first | refine ⟨(by show drawK _ _ = true; kernel_rfl : drawX _ _ _), ?_⟩ | exact (by show drawK _ _ = true; kernel_rfl : drawX _ _ _) | simp -dsimp (maxSteps := 20000000) (disch := omega) only [simx, zzB, tys, ite_self, opnL, callB, stepOp, ofVal, opBuiltin, opLen, PV.sk, scalBin, scalUn, intBin, opLoad, natOf, opConvert, opField, cellsP, oneP, Value.oneCell', opStore, toIV, scalT, scalA, scalC, boxesA, boxesC, ↓reduceIte, Nat.reduceSub, Nat.reduceEqDiff, Nat.reduceAdd, Nat.reduceMul, Nat.reduceLT, Nat.reduceLeDiff, Int.reduceToNat, Int.reduceLE, Int.reduceLT, Int.reduceNeg, reduceCtorEq, zzR, gos, Int.reduceAdd, Int.reduceSub, Int.reduceMul, Int.reduceEq, cj]))))
end Go.Proofs.Ytnnkoghmglpnmaa.TM
