/- Layer 5: a matrix made thin, walked. -/
import Derived.Test.YtnnkoghmglpnmaaWMatI
import Derived.Test.YtnnkoghmglpnmaaWMatG
import Derived.Test.YtnnkoghmglpnmaaWDApp
namespace Go.Proofs.Ytnnkoghmglpnmaa.TM
open Go Go.RowKit
set_option linter.unusedVariables false
set_option linter.defProp false
set_option linter.unusedSimpArgs false
attribute [local irreducible] K W WOps Effs Xg Xo Xr Xdg Xdo Xdr Xif CallsP CallR

def nzC : List Int → Nat → List Int
  | [], _ => []
  | x :: l, k => if x = 0 then nzC l (k + 1) else (k : Int) :: nzC l (k + 1)
def nzV : List Int → List Int
  | [] => []
  | x :: l => if x = 0 then nzV l else x :: nzV l
theorem nzC_snoc (x : Int) : ∀ (l : List Int) (k : Nat), nzC (l ++ [x]) k = nzC l k ++ (if x = 0 then [] else [((k + l.length : Nat) : Int)])
  | [], k => by
    simp only [List.nil_append, nzC, List.length_nil, Nat.add_zero]
  | a :: l, k => by
    simp only [List.cons_append, nzC, nzC_snoc x l (k + 1), List.length_cons, show k + 1 + l.length = k + (l.length + 1) by omega]
    by_cases h : a = 0 <;> simp [h]
theorem nzV_snoc (x : Int) : ∀ l : List Int, nzV (l ++ [x]) = nzV l ++ (if x = 0 then [] else [x])
  | [] => by simp only [List.nil_append, nzV]
  | a :: l => by
    simp only [List.cons_append, nzV, nzV_snoc x l]
    by_cases h : a = 0 <;> simp [h]
theorem nz_len : ∀ (l : List Int) (k : Nat), (nzC l k).length = (nzV l).length ∧ (nzV l).length ≤ l.length
  | [], k => ⟨rfl, Nat.le_refl _⟩
  | a :: l, k => by
    obtain ⟨h1, h2⟩ := nz_len l (k + 1)
    simp only [nzC, nzV]
    by_cases h : a = 0
    · simp only [h, if_true, List.length_cons]; omega
    · simp only [h, if_false, List.length_cons]; omega
def thinC (C : Nat) (l : List Int) (j : Nat) : List Int := (List.range j).flatMap fun i => nzC (rowM C l i) 0
def thinV (C : Nat) (l : List Int) (j : Nat) : List Int := (List.range j).flatMap fun i => nzV (rowM C l i)
def thinB (C : Nat) (l : List Int) (j : Nat) : List Int := (List.range (j + 1)).map fun i => ((thinC C l i).length : Int)
theorem thinC_next (C : Nat) (l : List Int) (j : Nat) : thinC C l (j + 1) = thinC C l j ++ nzC (rowM C l j) 0 := by unfold thinC; rw [List.range_succ, List.flatMap_append]; simp
theorem thinV_next (C : Nat) (l : List Int) (j : Nat) : thinV C l (j + 1) = thinV C l j ++ nzV (rowM C l j) := by unfold thinV; rw [List.range_succ, List.flatMap_append]; simp
theorem thin_len (C : Nat) (l : List Int) : ∀ j : Nat, (thinC C l j).length = (thinV C l j).length
  | 0 => rfl
  | j + 1 => by rw [thinC_next, thinV_next, List.length_append, List.length_append, thin_len C l j, (nz_len _ 0).1]
theorem thinB_next (C : Nat) (l : List Int) (j : Nat) : thinB C l (j + 1) = thinB C l j ++ [((thinC C l (j + 1)).length : Int)] := by unfold thinB; rw [List.range_succ, List.map_append]; rfl
theorem thinV_le {R C : Nat} {l : List Int} (hl : l.length = R * C) : ∀ j, j ≤ R → (thinV C l j).length ≤ j * C
  | 0, _ => by simp [thinV]
  | j + 1, h => by
    have := thinV_le hl j (by omega)
    have h2 := (nz_len (rowM C l j) 0).2
    rw [rowM_len hl (by omega)] at h2
    rw [thinV_next, List.length_append, Nat.succ_mul]; omega
def thinR (p r c : Int) (l : List Int) : (Int × Int × List Int × List Int × List Int) × Int := if MatB p r c l then ((r, c, thinB c.toNat l r.toNat, thinC c.toNat l r.toNat, thinV c.toNat l r.toNat), 0) else ((0, 0, [], [], []), 1)
abbrev sp2 (q : (Int × Int × List Int × List Int × List Int) × Int) : PV := .tup [spP q.1.1 q.1.2.1 q.1.2.2.1 q.1.2.2.2.1 q.1.2.2.2.2, i64 q.2]
set_option maxHeartbeats 4000000 in
set_option maxRecDepth 100000 in
theorem thin_walk (p r c : Int) (l : List Int) (hl : l.length ≤ maxLen) : CallsP Try.prog 15 [u64 p, matP r c l] (sp2 (thinR p r c l)) := by
  have q1 := mright_walk p r c l hl
  unfold thinR
  cases h1 : MatB p r c l with
  | false =>
    rw [h1] at q1
    refine X_startP (n := 60) (m := 2) (rs := [.cell 4 28, .tmp 5]) Try.func15 rfl rfl rfl rfl (by decide) fun base => ?_
    repeat (first | ((first | refine X_call_fn2 rfl (by simp only [tys]) ?_ | refine X_dcall_fn2 rfl (by simp only [tys]) ?_); apply Exists.intro; apply And.intro; (focus (simp -dsimp only [simx, zzC, zzB, tys, ite_self, opnL, callB, stepOp, ofVal, opBuiltin, opLen, PV.sk, scalBin, scalUn, intBin, opLoad, natOf, opConvert, opField, cellsP, oneP, Value.oneCell', opStore, toIV, scalT, scalA, scalC, boxesA, boxesC, ↓reduceIte, Nat.reduceSub, Nat.reduceEqDiff, Nat.reduceAdd, Nat.reduceMul, Nat.reduceLT, Nat.reduceLeDiff, Int.reduceToNat, Int.reduceLE, Int.reduceLT, Int.reduceNeg, reduceCtorEq, zzL, if_true, if_false] <;> rfl)); apply Exists.intro; apply And.intro; (focus (first | exact q1))) | refine ⟨(by show drawK _ _ = true; kernel_rfl : drawX _ _ _), ?_⟩ | exact (by show drawK _ _ = true; kernel_rfl : drawX _ _ _) | simp -dsimp (maxSteps := 20000000) (disch := omega) only [simx, zzC, zzB, tys, ite_self, opnL, callB, stepOp, ofVal, opBuiltin, opLen, PV.sk, scalBin, scalUn, intBin, opLoad, natOf, opConvert, opField, cellsP, oneP, Value.oneCell', opStore, toIV, scalT, scalA, scalC, boxesA, boxesC, ↓reduceIte, Nat.reduceSub, Nat.reduceEqDiff, Nat.reduceAdd, Nat.reduceMul, Nat.reduceLT, Nat.reduceLeDiff, Int.reduceToNat, Int.reduceLE, Int.reduceLT, Int.reduceNeg, reduceCtorEq, zzR, gos, Int.reduceAdd, Int.reduceSub, Int.reduceMul, Int.reduceEq])
    rfl
  | true =>
    rw [h1] at q1
    obtain ⟨R, C, rfl, rfl, M⟩ := mat_of h1
    simp only [if_true, Int.toNat_natCast]
    have r1 := M.r1
    have r2 := M.r2
    have c1 := M.c1
    have c2 := M.c2
    have bd := rc_bd r2 c2
    refine X_startP (n := 60) (m := 2) (rs := [.cell 4 28, .tmp 5]) Try.func15 rfl rfl rfl rfl (by decide) fun base => ?_
    repeat (first | ((first | refine X_call_fn2 rfl (by simp only [tys]) ?_ | refine X_dcall_fn2 rfl (by simp only [tys]) ?_); apply Exists.intro; apply And.intro; (focus (simp -dsimp only [simx, zzC, zzB, tys, ite_self, opnL, callB, stepOp, ofVal, opBuiltin, opLen, PV.sk, scalBin, scalUn, intBin, opLoad, natOf, opConvert, opField, cellsP, oneP, Value.oneCell', opStore, toIV, scalT, scalA, scalC, boxesA, boxesC, ↓reduceIte, Nat.reduceSub, Nat.reduceEqDiff, Nat.reduceAdd, Nat.reduceMul, Nat.reduceLT, Nat.reduceLeDiff, Int.reduceToNat, Int.reduceLE, Int.reduceLT, Int.reduceNeg, reduceCtorEq, zzL, if_true, if_false] <;> rfl)); apply Exists.intro; apply And.intro; (focus (first | exact q1))) | refine ⟨(by show drawK _ _ = true; kernel_rfl : drawX _ _ _), ?_⟩ | exact (by show drawK _ _ = true; kernel_rfl : drawX _ _ _) | simp -dsimp (maxSteps := 20000000) (disch := omega) only [simx, zzC, zzB, tys, ite_self, opnL, callB, stepOp, ofVal, opBuiltin, opLen, PV.sk, scalBin, scalUn, intBin, opLoad, natOf, opConvert, opField, cellsP, oneP, Value.oneCell', opStore, toIV, scalT, scalA, scalC, boxesA, boxesC, ↓reduceIte, Nat.reduceSub, Nat.reduceEqDiff, Nat.reduceAdd, Nat.reduceMul, Nat.reduceLT, Nat.reduceLeDiff, Int.reduceToNat, Int.reduceLE, Int.reduceLT, Int.reduceNeg, reduceCtorEq, gos, Int.reduceAdd, Int.reduceSub, Int.reduceMul, Int.reduceEq])
    refine X_loopH [3, 4, 6, 22, 23] [(13, 5) :: base] (0) (R) (fun j => True) (fun j => [(23, i64 j)]) (fun j => rowH (rowH ((((Heap.none.put ((0, 0) :: base) (.var [i64 R, i64 C, lu l])).put ((0, 1) :: base) (.var [i64 0, i64 0, nilP, nilP, nilP])).put ((3, 4) :: base) (.row false ((thinB C l j).map ii))).put ((3, 6) :: base) (.var [i64 R, i64 C, rowP ((3, 4) :: base) 1 (j + 1) ((thinB C l j).map ii), rowP ((11, 4) :: base) 1 (thinC C l j).length ((thinC C l j).map ii), rowP ((11, 9) :: base) 1 (thinV C l j).length ((thinV C l j).map iu)])) ((11, 4) :: base) (thinC C l j).length ((thinC C l j).map ii)) ((11, 9) :: base) (thinV C l j).length ((thinV C l j).map iu)) ?_ ?_ ?_ ?_ ?_ (by decide) ?_
    · exact (fgt_cons (by simp only [Heap.none_at]) (by (simp -dsimp only [zzB, tys, ite_self, opnL, callB, stepOp, ofVal, opBuiltin, opLen, PV.sk, scalBin, scalUn, intBin, opLoad, natOf, opConvert, opField, cellsP, oneP, Value.oneCell', opStore, toIV, scalT, scalA, scalC, boxesA, boxesC, ↓reduceIte, Nat.reduceSub, Nat.reduceEqDiff, Nat.reduceAdd, Nat.reduceMul, Nat.reduceLT, Nat.reduceLeDiff, Int.reduceToNat, Int.reduceLE, Int.reduceLT, Int.reduceNeg, reduceCtorEq, notIn_cons, notIn_nil]) <;> simp [refsL, refsP, mem_refs_rowP]) (by repeat (first | exact noVar_none _ | refine noVar_row ?_ | refine noVar_rowH ?_ | refine noVar_var ?_ (by simp [refsL, refsP, mem_refs_rowP]))) (fgt_nil))
    · ((simp -dsimp (disch := omega) only [simx, zzB, tys, ite_self, opnL, callB, stepOp, ofVal, opBuiltin, opLen, PV.sk, scalBin, scalUn, intBin, opLoad, natOf, opConvert, opField, cellsP, oneP, Value.oneCell', opStore, toIV, scalT, scalA, scalC, boxesA, boxesC, ↓reduceIte, Nat.reduceSub, Nat.reduceEqDiff, Nat.reduceAdd, Nat.reduceMul, Nat.reduceLT, Nat.reduceLeDiff, Int.reduceToNat, Int.reduceLE, Int.reduceLT, Int.reduceNeg, reduceCtorEq, gos, Int.reduceAdd, Int.reduceSub, Int.reduceMul, Int.reduceEq]) <;> first | rfl | simp)
    · funext c
      simp (maxSteps := 20000000) only [Heap.drop_at, rowH_app, Heap.put_at, Heap.none_at, List.mem_cons, List.not_mem_nil, or_false]
      by_cases e0 : c = (0, 0) :: base
      · subst e0; simp [thinB, thinC, thinV, rowP]
      by_cases e1 : c = (0, 1) :: base
      · subst e1; simp [thinB, thinC, thinV, rowP]
      by_cases e2 : c = (3, 4) :: base
      · subst e2; simp [thinB, thinC, thinV, rowP]
      by_cases e3 : c = (3, 6) :: base
      · subst e3; simp [thinB, thinC, thinV, rowP]
      by_cases e4 : c = (13, 5) :: base
      · subst e4; simp [thinB, thinC, thinV, rowP]
      simp [e0, e1, e2, e3, e4, thinB, thinC, thinV, rowP]
    · omega
    · trivial
    · intro j hj _
      by_cases cj : j < R
      · have d := row_walk M.len M.r2 M.c2 cj
        have rl := rowM_len M.len cj
        repeat (first | ((first | refine X_call_fn2 rfl (by simp only [tys]) ?_ | refine X_dcall_fn2 rfl (by simp only [tys]) ?_); apply Exists.intro; apply And.intro; (focus (simp -dsimp only [simx, zzC, zzB, tys, ite_self, opnL, callB, stepOp, ofVal, opBuiltin, opLen, PV.sk, scalBin, scalUn, intBin, opLoad, natOf, opConvert, opField, cellsP, oneP, Value.oneCell', opStore, toIV, scalT, scalA, scalC, boxesA, boxesC, ↓reduceIte, Nat.reduceSub, Nat.reduceEqDiff, Nat.reduceAdd, Nat.reduceMul, Nat.reduceLT, Nat.reduceLeDiff, Int.reduceToNat, Int.reduceLE, Int.reduceLT, Int.reduceNeg, reduceCtorEq, zzL, if_true, if_false] <;> rfl)); apply Exists.intro; apply And.intro; (focus (first | exact d))) | refine ⟨(by show drawK _ _ = true; kernel_rfl : drawX _ _ _), ?_⟩ | exact (by show drawK _ _ = true; kernel_rfl : drawX _ _ _) | simp -dsimp (maxSteps := 20000000) (disch := omega) only [simx, zzC, zzB, tys, ite_self, opnL, callB, stepOp, ofVal, opBuiltin, opLen, PV.sk, scalBin, scalUn, intBin, opLoad, natOf, opConvert, opField, cellsP, oneP, Value.oneCell', opStore, toIV, scalT, scalA, scalC, boxesA, boxesC, ↓reduceIte, Nat.reduceSub, Nat.reduceEqDiff, Nat.reduceAdd, Nat.reduceMul, Nat.reduceLT, Nat.reduceLeDiff, Int.reduceToNat, Int.reduceLE, Int.reduceLT, Int.reduceNeg, reduceCtorEq, gos, Int.reduceAdd, Int.reduceSub, Int.reduceMul, Int.reduceEq, cj])
        refine X_loopH [3, 4, 6, 22, 23, 28, 29, 30] [(11, 3) :: base, (11, 8) :: base] (0) (C) (fun j_ => True) (fun j_ => [(30, i64 j_)]) (fun j_ => rowH (rowH ((((Heap.none.put ((0, 0) :: base) (.var [i64 R, i64 C, lu l])).put ((0, 1) :: base) (.var [i64 0, i64 0, nilP, nilP, nilP])).put ((3, 4) :: base) (.row false ((thinB C l j).map ii))).put ((3, 6) :: base) (.var [i64 R, i64 C, rowP ((3, 4) :: base) 1 (j + 1) ((thinB C l j).map ii), rowP ((11, 4) :: base) 1 (thinC C l j ++ nzC ((rowM C l j).take j_) 0).length ((thinC C l j ++ nzC ((rowM C l j).take j_) 0).map ii), rowP ((11, 9) :: base) 1 (thinV C l j ++ nzV ((rowM C l j).take j_)).length ((thinV C l j ++ nzV ((rowM C l j).take j_)).map iu)])) ((11, 4) :: base) (thinC C l j ++ nzC ((rowM C l j).take j_) 0).length ((thinC C l j ++ nzC ((rowM C l j).take j_) 0).map ii)) ((11, 9) :: base) (thinV C l j ++ nzV ((rowM C l j).take j_)).length ((thinV C l j ++ nzV ((rowM C l j).take j_)).map iu)) ?_ ?_ ?_ ?_ ?_ (by decide) ?_
        · exact (fgt_cons (by simp only [Heap.none_at]) (by (simp -dsimp only [zzB, tys, ite_self, opnL, callB, stepOp, ofVal, opBuiltin, opLen, PV.sk, scalBin, scalUn, intBin, opLoad, natOf, opConvert, opField, cellsP, oneP, Value.oneCell', opStore, toIV, scalT, scalA, scalC, boxesA, boxesC, ↓reduceIte, Nat.reduceSub, Nat.reduceEqDiff, Nat.reduceAdd, Nat.reduceMul, Nat.reduceLT, Nat.reduceLeDiff, Int.reduceToNat, Int.reduceLE, Int.reduceLT, Int.reduceNeg, reduceCtorEq, notIn_cons, notIn_nil]) <;> simp [refsL, refsP, mem_refs_rowP]) (by repeat (first | exact noVar_none _ | refine noVar_row ?_ | refine noVar_rowH ?_ | refine noVar_var ?_ (by simp [refsL, refsP, mem_refs_rowP]))) (fgt_cons (by simp only [Heap.none_at]) (by (simp -dsimp only [zzB, tys, ite_self, opnL, callB, stepOp, ofVal, opBuiltin, opLen, PV.sk, scalBin, scalUn, intBin, opLoad, natOf, opConvert, opField, cellsP, oneP, Value.oneCell', opStore, toIV, scalT, scalA, scalC, boxesA, boxesC, ↓reduceIte, Nat.reduceSub, Nat.reduceEqDiff, Nat.reduceAdd, Nat.reduceMul, Nat.reduceLT, Nat.reduceLeDiff, Int.reduceToNat, Int.reduceLE, Int.reduceLT, Int.reduceNeg, reduceCtorEq, notIn_cons, notIn_nil]) <;> simp [refsL, refsP, mem_refs_rowP]) (by repeat (first | exact noVar_none _ | refine noVar_row ?_ | refine noVar_rowH ?_ | refine noVar_var ?_ (by simp [refsL, refsP, mem_refs_rowP]))) (fgt_nil)))
        · ((simp -dsimp (disch := omega) only [simx, zzB, tys, ite_self, opnL, callB, stepOp, ofVal, opBuiltin, opLen, PV.sk, scalBin, scalUn, intBin, opLoad, natOf, opConvert, opField, cellsP, oneP, Value.oneCell', opStore, toIV, scalT, scalA, scalC, boxesA, boxesC, ↓reduceIte, Nat.reduceSub, Nat.reduceEqDiff, Nat.reduceAdd, Nat.reduceMul, Nat.reduceLT, Nat.reduceLeDiff, Int.reduceToNat, Int.reduceLE, Int.reduceLT, Int.reduceNeg, reduceCtorEq, gos, Int.reduceAdd, Int.reduceSub, Int.reduceMul, Int.reduceEq]) <;> first | rfl | simp)
        · funext c
          simp (maxSteps := 20000000) only [Heap.drop_at, rowH_app, Heap.put_at, Heap.none_at, List.mem_cons, List.not_mem_nil, or_false]
          by_cases e0 : c = (0, 0) :: base
          · subst e0; simp [nzC, nzV]
          by_cases e1 : c = (0, 1) :: base
          · subst e1; simp [nzC, nzV]
          by_cases e2 : c = (3, 4) :: base
          · subst e2; simp [nzC, nzV]
          by_cases e3 : c = (3, 6) :: base
          · subst e3; simp [nzC, nzV]
          by_cases e4 : c = (11, 3) :: base
          · subst e4; simp [nzC, nzV]
          by_cases e5 : c = (11, 8) :: base
          · subst e5; simp [nzC, nzV]
          by_cases e6 : c = (11, 4) :: base
          · subst e6; simp [nzC, nzV]
          by_cases e7 : c = (11, 9) :: base
          · subst e7; simp [nzC, nzV]
          simp [e0, e1, e2, e3, e4, e5, e6, e7, nzC, nzV]
        · omega
        · trivial
        · intro m hm _
          by_cases cm : m < C
          · have m1 : m < (rowM C l j).length := by omega
            have g2 : (rowM C l j)[m]? = some (rowM C l j)[m] := List.getElem?_eq_getElem m1
            have lt : ((rowM C l j).take m).length = m := by rw [List.length_take]; omega
            have tC : nzC ((rowM C l j).take (m + 1)) 0 = nzC ((rowM C l j).take m) 0 ++ (if (rowM C l j)[m] = 0 then [] else [(m : Int)]) := by
              rw [List.take_succ_eq_append_getElem m1, nzC_snoc, lt, Nat.zero_add]
            have tV : nzV ((rowM C l j).take (m + 1)) = nzV ((rowM C l j).take m) ++ (if (rowM C l j)[m] = 0 then [] else [(rowM C l j)[m]]) := by
              rw [List.take_succ_eq_append_getElem m1, nzV_snoc]
            have hlen : (thinC C l j ++ nzC ((rowM C l j).take m) 0).length = (thinV C l j ++ nzV ((rowM C l j).take m)).length := by
              rw [List.length_append, List.length_append, thin_len, (nz_len _ 0).1]
            have hle : (thinV C l j ++ nzV ((rowM C l j).take m)).length ≤ 4096 := by
              have t1 := thinV_le M.len j (by omega)
              have t2 := (nz_len ((rowM C l j).take m) 0).2
              have t3 := ic_bd (c := C) cj
              rw [List.length_append]; omega
            by_cases e : (rowM C l j)[m] = 0
            · rw [if_pos e, List.append_nil] at tC tV
              rw [e] at g2
              clear hlen hle
              repeat (first | refine ⟨(by show drawK _ _ = true; kernel_rfl : drawX _ _ _), ?_⟩ | exact (by show drawK _ _ = true; kernel_rfl : drawX _ _ _) | simp -dsimp (maxSteps := 20000000) (disch := omega) only [simx, zzC, zzB, tys, ite_self, opnL, callB, stepOp, ofVal, opBuiltin, opLen, PV.sk, scalBin, scalUn, intBin, opLoad, natOf, opConvert, opField, cellsP, oneP, Value.oneCell', opStore, toIV, scalT, scalA, scalC, boxesA, boxesC, ↓reduceIte, Nat.reduceSub, Nat.reduceEqDiff, Nat.reduceAdd, Nat.reduceMul, Nat.reduceLT, Nat.reduceLeDiff, Int.reduceToNat, Int.reduceLE, Int.reduceLT, Int.reduceNeg, reduceCtorEq, gos, Int.reduceAdd, Int.reduceSub, Int.reduceMul, Int.reduceEq, cm, rl, g2])
              refine ⟨cm, (fgt_cons (by simp only [Heap.none_at]) (by (simp -dsimp only [zzB, tys, ite_self, opnL, callB, stepOp, ofVal, opBuiltin, opLen, PV.sk, scalBin, scalUn, intBin, opLoad, natOf, opConvert, opField, cellsP, oneP, Value.oneCell', opStore, toIV, scalT, scalA, scalC, boxesA, boxesC, ↓reduceIte, Nat.reduceSub, Nat.reduceEqDiff, Nat.reduceAdd, Nat.reduceMul, Nat.reduceLT, Nat.reduceLeDiff, Int.reduceToNat, Int.reduceLE, Int.reduceLT, Int.reduceNeg, reduceCtorEq, notIn_cons, notIn_nil]) <;> simp [refsL, refsP, mem_refs_rowP]) (by repeat (first | exact noVar_none _ | refine noVar_row ?_ | refine noVar_rowH ?_ | refine noVar_var ?_ (by simp [refsL, refsP, mem_refs_rowP]))) (fgt_cons (by simp only [Heap.none_at]) (by (simp -dsimp only [zzB, tys, ite_self, opnL, callB, stepOp, ofVal, opBuiltin, opLen, PV.sk, scalBin, scalUn, intBin, opLoad, natOf, opConvert, opField, cellsP, oneP, Value.oneCell', opStore, toIV, scalT, scalA, scalC, boxesA, boxesC, ↓reduceIte, Nat.reduceSub, Nat.reduceEqDiff, Nat.reduceAdd, Nat.reduceMul, Nat.reduceLT, Nat.reduceLeDiff, Int.reduceToNat, Int.reduceLE, Int.reduceLT, Int.reduceNeg, reduceCtorEq, notIn_cons, notIn_nil]) <;> simp [refsL, refsP, mem_refs_rowP]) (by repeat (first | exact noVar_none _ | refine noVar_row ?_ | refine noVar_rowH ?_ | refine noVar_var ?_ (by simp [refsL, refsP, mem_refs_rowP]))) (fgt_nil))), rfl, ?_⟩
              rw [tC, tV]
              funext c
              simp (maxSteps := 20000000) only [Heap.drop_at, rowH_app, Heap.put_at, Heap.none_at, List.mem_cons, List.not_mem_nil, or_false]
              by_cases e0 : c = (11, 3) :: base
              · subst e0; simp []
              by_cases e1 : c = (11, 8) :: base
              · subst e1; simp []
              simp [e0, e1]
            · rw [if_neg e] at tC tV
              have nC : thinC C l j ++ nzC ((rowM C l j).take (m + 1)) 0 = (thinC C l j ++ nzC ((rowM C l j).take m) 0) ++ [(m : Int)] := by rw [tC, List.append_assoc]
              have nV : thinV C l j ++ nzV ((rowM C l j).take (m + 1)) = (thinV C l j ++ nzV ((rowM C l j).take m)) ++ [(rowM C l j)[m]] := by rw [tV, List.append_assoc]
              generalize (rowM C l j)[m] = x at *
              generalize thinC C l j ++ nzC ((rowM C l j).take m) 0 = cl at *
              generalize thinV C l j ++ nzV ((rowM C l j).take m) = vl at *
              clear tC tV
              cases cl with
              | nil =>
                obtain rfl : vl = [] := List.eq_nil_of_length_eq_zero (by simpa using hlen.symm)
                repeat (first | refine ⟨(by show drawK _ _ = true; kernel_rfl : drawX _ _ _), ?_⟩ | exact (by show drawK _ _ = true; kernel_rfl : drawX _ _ _) | simp -dsimp (maxSteps := 20000000) (disch := omega) only [simx, zzC, zzB, tys, ite_self, opnL, callB, stepOp, ofVal, opBuiltin, opLen, PV.sk, scalBin, scalUn, intBin, opLoad, natOf, opConvert, opField, cellsP, oneP, Value.oneCell', opStore, toIV, scalT, scalA, scalC, boxesA, boxesC, ↓reduceIte, Nat.reduceSub, Nat.reduceEqDiff, Nat.reduceAdd, Nat.reduceMul, Nat.reduceLT, Nat.reduceLeDiff, Int.reduceToNat, Int.reduceLE, Int.reduceLT, Int.reduceNeg, reduceCtorEq, gos, Int.reduceAdd, Int.reduceSub, Int.reduceMul, Int.reduceEq, cm, rl, g2, keysL_row0, keysL_rowS])
                refine X_dappend_one 3 [.int .i64 0] [ii m] (by simp only [tys]) (by simp only [tys]) rfl (by decide) (by simp) (by simp [Heap.put_at, Heap.none_at, rowH_app]) (by simp [Heap.put_at]; rfl) rfl (by simp only [tys]; simp at hle hlen; omega) (by rw [mx_len]; simp at hle hlen; omega) ?_
                repeat (first | refine ⟨(by show drawK _ _ = true; kernel_rfl : drawX _ _ _), ?_⟩ | exact (by show drawK _ _ = true; kernel_rfl : drawX _ _ _) | simp -dsimp (maxSteps := 20000000) (disch := omega) only [simx, zzC, zzB, tys, ite_self, opnL, callB, stepOp, ofVal, opBuiltin, opLen, PV.sk, scalBin, scalUn, intBin, opLoad, natOf, opConvert, opField, cellsP, oneP, Value.oneCell', opStore, toIV, scalT, scalA, scalC, boxesA, boxesC, ↓reduceIte, Nat.reduceSub, Nat.reduceEqDiff, Nat.reduceAdd, Nat.reduceMul, Nat.reduceLT, Nat.reduceLeDiff, Int.reduceToNat, Int.reduceLE, Int.reduceLT, Int.reduceNeg, reduceCtorEq, gos, Int.reduceAdd, Int.reduceSub, Int.reduceMul, Int.reduceEq, keysL_row0, keysL_rowS])
                refine X_dappend_one 22 [.int .u64 0] [iu x] (by simp only [tys]) (by simp only [tys]) rfl (by decide) (by simp) (by simp [Heap.put_at, Heap.none_at, rowH_app]) (by simp [Heap.put_at]; rfl) rfl (by simp only [tys]; simp at hle hlen; omega) (by rw [mx_len]; simp at hle hlen; omega) ?_
                repeat (first | refine ⟨(by show drawK _ _ = true; kernel_rfl : drawX _ _ _), ?_⟩ | exact (by show drawK _ _ = true; kernel_rfl : drawX _ _ _) | simp -dsimp (maxSteps := 20000000) (disch := omega) only [simx, zzC, zzB, tys, ite_self, opnL, callB, stepOp, ofVal, opBuiltin, opLen, PV.sk, scalBin, scalUn, intBin, opLoad, natOf, opConvert, opField, cellsP, oneP, Value.oneCell', opStore, toIV, scalT, scalA, scalC, boxesA, boxesC, ↓reduceIte, Nat.reduceSub, Nat.reduceEqDiff, Nat.reduceAdd, Nat.reduceMul, Nat.reduceLT, Nat.reduceLeDiff, Int.reduceToNat, Int.reduceLE, Int.reduceLT, Int.reduceNeg, reduceCtorEq, gos, Int.reduceAdd, Int.reduceSub, Int.reduceMul, Int.reduceEq, keysL_row0, keysL_rowS, rowP_succ])
                refine ⟨cm, (fgt_cons (by simp only [Heap.none_at]) (by (simp -dsimp only [zzB, tys, ite_self, opnL, callB, stepOp, ofVal, opBuiltin, opLen, PV.sk, scalBin, scalUn, intBin, opLoad, natOf, opConvert, opField, cellsP, oneP, Value.oneCell', opStore, toIV, scalT, scalA, scalC, boxesA, boxesC, ↓reduceIte, Nat.reduceSub, Nat.reduceEqDiff, Nat.reduceAdd, Nat.reduceMul, Nat.reduceLT, Nat.reduceLeDiff, Int.reduceToNat, Int.reduceLE, Int.reduceLT, Int.reduceNeg, reduceCtorEq, notIn_cons, notIn_nil]) <;> simp [refsL, refsP, mem_refs_rowP]) (by repeat (first | exact noVar_none _ | refine noVar_row ?_ | refine noVar_rowH ?_ | refine noVar_var ?_ (by simp [refsL, refsP, mem_refs_rowP]))) (fgt_cons (by simp only [Heap.none_at]) (by (simp -dsimp only [zzB, tys, ite_self, opnL, callB, stepOp, ofVal, opBuiltin, opLen, PV.sk, scalBin, scalUn, intBin, opLoad, natOf, opConvert, opField, cellsP, oneP, Value.oneCell', opStore, toIV, scalT, scalA, scalC, boxesA, boxesC, ↓reduceIte, Nat.reduceSub, Nat.reduceEqDiff, Nat.reduceAdd, Nat.reduceMul, Nat.reduceLT, Nat.reduceLeDiff, Int.reduceToNat, Int.reduceLE, Int.reduceLT, Int.reduceNeg, reduceCtorEq, notIn_cons, notIn_nil]) <;> simp [refsL, refsP, mem_refs_rowP]) (by repeat (first | exact noVar_none _ | refine noVar_row ?_ | refine noVar_rowH ?_ | refine noVar_var ?_ (by simp [refsL, refsP, mem_refs_rowP]))) (fgt_nil))), ⟨by rw [rl], rfl⟩, ?_⟩
                rw [nC, nV]
                funext c
                simp (maxSteps := 20000000) only [Heap.drop_at, rowH_app, Heap.put_at, Heap.none_at, List.mem_cons, List.not_mem_nil, or_false]
                by_cases e0 : c = (0, 0) :: base
                · subst e0; simp [rowP]
                by_cases e1 : c = (0, 1) :: base
                · subst e1; simp [rowP]
                by_cases e2 : c = (3, 4) :: base
                · subst e2; simp [rowP]
                by_cases e3 : c = (3, 6) :: base
                · subst e3; simp [rowP]
                by_cases e4 : c = (11, 3) :: base
                · subst e4; simp [rowP]
                by_cases e5 : c = (11, 8) :: base
                · subst e5; simp [rowP]
                by_cases e6 : c = (11, 4) :: base
                · subst e6; simp [rowP]
                by_cases e7 : c = (11, 9) :: base
                · subst e7; simp [rowP]
                simp [e0, e1, e2, e3, e4, e5, e6, e7, rowP]
              | cons a cl =>
                obtain ⟨b, vl, rfl⟩ : ∃ b vl', vl = b :: vl' := by
                  cases vl with
                  | nil => simp at hlen
                  | cons b vl => exact ⟨b, vl, rfl⟩
                repeat (first | refine ⟨(by show drawK _ _ = true; kernel_rfl : drawX _ _ _), ?_⟩ | exact (by show drawK _ _ = true; kernel_rfl : drawX _ _ _) | simp -dsimp (maxSteps := 20000000) (disch := omega) only [simx, zzC, zzB, tys, ite_self, opnL, callB, stepOp, ofVal, opBuiltin, opLen, PV.sk, scalBin, scalUn, intBin, opLoad, natOf, opConvert, opField, cellsP, oneP, Value.oneCell', opStore, toIV, scalT, scalA, scalC, boxesA, boxesC, ↓reduceIte, Nat.reduceSub, Nat.reduceEqDiff, Nat.reduceAdd, Nat.reduceMul, Nat.reduceLT, Nat.reduceLeDiff, Int.reduceToNat, Int.reduceLE, Int.reduceLT, Int.reduceNeg, reduceCtorEq, gos, Int.reduceAdd, Int.reduceSub, Int.reduceMul, Int.reduceEq, cm, rl, g2, keysL_row0, keysL_rowS])
                refine X_dappend_one 3 [.int .i64 0] [ii m] (by simp only [tys]) (by simp only [tys]) rfl (by decide) (by simp) (by simp [Heap.put_at, Heap.none_at, rowH_app]) (by simp [Heap.put_at]; rfl) rfl (by simp only [tys]; simp at hle hlen; omega) (by rw [mx_len]; simp at hle hlen; omega) ?_
                repeat (first | refine ⟨(by show drawK _ _ = true; kernel_rfl : drawX _ _ _), ?_⟩ | exact (by show drawK _ _ = true; kernel_rfl : drawX _ _ _) | simp -dsimp (maxSteps := 20000000) (disch := omega) only [simx, zzC, zzB, tys, ite_self, opnL, callB, stepOp, ofVal, opBuiltin, opLen, PV.sk, scalBin, scalUn, intBin, opLoad, natOf, opConvert, opField, cellsP, oneP, Value.oneCell', opStore, toIV, scalT, scalA, scalC, boxesA, boxesC, ↓reduceIte, Nat.reduceSub, Nat.reduceEqDiff, Nat.reduceAdd, Nat.reduceMul, Nat.reduceLT, Nat.reduceLeDiff, Int.reduceToNat, Int.reduceLE, Int.reduceLT, Int.reduceNeg, reduceCtorEq, gos, Int.reduceAdd, Int.reduceSub, Int.reduceMul, Int.reduceEq, keysL_row0, keysL_rowS])
                refine X_dappend_one 22 [.int .u64 0] [iu x] (by simp only [tys]) (by simp only [tys]) rfl (by decide) (by simp) (by simp [Heap.put_at, Heap.none_at, rowH_app]) (by simp [Heap.put_at]; rfl) rfl (by simp only [tys]; simp at hle hlen; omega) (by rw [mx_len]; simp at hle hlen; omega) ?_
                repeat (first | refine ⟨(by show drawK _ _ = true; kernel_rfl : drawX _ _ _), ?_⟩ | exact (by show drawK _ _ = true; kernel_rfl : drawX _ _ _) | simp -dsimp (maxSteps := 20000000) (disch := omega) only [simx, zzC, zzB, tys, ite_self, opnL, callB, stepOp, ofVal, opBuiltin, opLen, PV.sk, scalBin, scalUn, intBin, opLoad, natOf, opConvert, opField, cellsP, oneP, Value.oneCell', opStore, toIV, scalT, scalA, scalC, boxesA, boxesC, ↓reduceIte, Nat.reduceSub, Nat.reduceEqDiff, Nat.reduceAdd, Nat.reduceMul, Nat.reduceLT, Nat.reduceLeDiff, Int.reduceToNat, Int.reduceLE, Int.reduceLT, Int.reduceNeg, reduceCtorEq, gos, Int.reduceAdd, Int.reduceSub, Int.reduceMul, Int.reduceEq, keysL_row0, keysL_rowS, rowP_succ])
                refine ⟨cm, (fgt_cons (by simp only [Heap.none_at]) (by (simp -dsimp only [zzB, tys, ite_self, opnL, callB, stepOp, ofVal, opBuiltin, opLen, PV.sk, scalBin, scalUn, intBin, opLoad, natOf, opConvert, opField, cellsP, oneP, Value.oneCell', opStore, toIV, scalT, scalA, scalC, boxesA, boxesC, ↓reduceIte, Nat.reduceSub, Nat.reduceEqDiff, Nat.reduceAdd, Nat.reduceMul, Nat.reduceLT, Nat.reduceLeDiff, Int.reduceToNat, Int.reduceLE, Int.reduceLT, Int.reduceNeg, reduceCtorEq, notIn_cons, notIn_nil]) <;> simp [refsL, refsP, mem_refs_rowP]) (by repeat (first | exact noVar_none _ | refine noVar_row ?_ | refine noVar_rowH ?_ | refine noVar_var ?_ (by simp [refsL, refsP, mem_refs_rowP]))) (fgt_cons (by simp only [Heap.none_at]) (by (simp -dsimp only [zzB, tys, ite_self, opnL, callB, stepOp, ofVal, opBuiltin, opLen, PV.sk, scalBin, scalUn, intBin, opLoad, natOf, opConvert, opField, cellsP, oneP, Value.oneCell', opStore, toIV, scalT, scalA, scalC, boxesA, boxesC, ↓reduceIte, Nat.reduceSub, Nat.reduceEqDiff, Nat.reduceAdd, Nat.reduceMul, Nat.reduceLT, Nat.reduceLeDiff, Int.reduceToNat, Int.reduceLE, Int.reduceLT, Int.reduceNeg, reduceCtorEq, notIn_cons, notIn_nil]) <;> simp [refsL, refsP, mem_refs_rowP]) (by repeat (first | exact noVar_none _ | refine noVar_row ?_ | refine noVar_rowH ?_ | refine noVar_var ?_ (by simp [refsL, refsP, mem_refs_rowP]))) (fgt_nil))), ⟨by rw [rl], rfl⟩, ?_⟩
                rw [nC, nV]
                funext c
                simp (maxSteps := 20000000) only [Heap.drop_at, rowH_app, Heap.put_at, Heap.none_at, List.mem_cons, List.not_mem_nil, or_false]
                by_cases e0 : c = (0, 0) :: base
                · subst e0; simp [rowP]
                by_cases e1 : c = (0, 1) :: base
                · subst e1; simp [rowP]
                by_cases e2 : c = (3, 4) :: base
                · subst e2; simp [rowP]
                by_cases e3 : c = (3, 6) :: base
                · subst e3; simp [rowP]
                by_cases e4 : c = (11, 3) :: base
                · subst e4; simp [rowP]
                by_cases e5 : c = (11, 8) :: base
                · subst e5; simp [rowP]
                by_cases e6 : c = (11, 4) :: base
                · subst e6; simp [rowP]
                by_cases e7 : c = (11, 9) :: base
                · subst e7; simp [rowP]
                simp [e0, e1, e2, e3, e4, e5, e6, e7, rowP]
          · have hmC : m = C := by omega
            subst hmC
            have t1 : (rowM m l j).take m = rowM m l j := List.take_of_length_le (by omega)
            have nC := thinC_next m l j
            have nV := thinV_next m l j
            have nB := thinB_next m l j
            have hlen := thin_len m l (j + 1)
            rw [nC, nV] at hlen
            rw [nC] at nB
            have hle := thinV_le M.len (j + 1) (by omega)
            rw [nV] at hle
            rw [t1]
            generalize thinC m l j ++ nzC (rowM m l j) 0 = cl at *
            generalize thinV m l j ++ nzV (rowM m l j) = vl at *
            cases cl with
            | nil =>
                obtain rfl : vl = [] := List.eq_nil_of_length_eq_zero (by simpa using hlen.symm)
                have eb : rowP ((3, 4) :: base) 1 (j + 1) ((thinB m l j).map ii) = .view ((3, 4) :: base) 0 1 (j + 1) ((thinB m l j).map ii).length := rfl
                repeat (first | refine ⟨(by show drawK _ _ = true; kernel_rfl : drawX _ _ _), ?_⟩ | exact (by show drawK _ _ = true; kernel_rfl : drawX _ _ _) | simp -dsimp (maxSteps := 20000000) (disch := omega) only [simx, zzC, zzB, tys, ite_self, opnL, callB, stepOp, ofVal, opBuiltin, opLen, PV.sk, scalBin, scalUn, intBin, opLoad, natOf, opConvert, opField, cellsP, oneP, Value.oneCell', opStore, toIV, scalT, scalA, scalC, boxesA, boxesC, ↓reduceIte, Nat.reduceSub, Nat.reduceEqDiff, Nat.reduceAdd, Nat.reduceMul, Nat.reduceLT, Nat.reduceLeDiff, Int.reduceToNat, Int.reduceLE, Int.reduceLT, Int.reduceNeg, reduceCtorEq, gos, Int.reduceAdd, Int.reduceSub, Int.reduceMul, Int.reduceEq, rl, rowP_zero, eb])
                refine X_append_own 3 [.int .i64 0] [ii ((0 : Nat) : Int)] (by simp only [tys]) (by simp only [tys]) rfl (by decide) (by simp [Heap.put_at, Heap.none_at, rowH_app]) rfl (by simp [thinB]) (by simp [Heap.put_at]; rfl) rfl (by simp only [tys]; omega) (by rw [mx_len]; omega) ?_
                repeat (first | refine ⟨(by show drawK _ _ = true; kernel_rfl : drawX _ _ _), ?_⟩ | exact (by show drawK _ _ = true; kernel_rfl : drawX _ _ _) | simp -dsimp (maxSteps := 20000000) (disch := omega) only [simx, zzC, zzB, tys, ite_self, opnL, callB, stepOp, ofVal, opBuiltin, opLen, PV.sk, scalBin, scalUn, intBin, opLoad, natOf, opConvert, opField, cellsP, oneP, Value.oneCell', opStore, toIV, scalT, scalA, scalC, boxesA, boxesC, ↓reduceIte, Nat.reduceSub, Nat.reduceEqDiff, Nat.reduceAdd, Nat.reduceMul, Nat.reduceLT, Nat.reduceLeDiff, Int.reduceToNat, Int.reduceLE, Int.reduceLT, Int.reduceNeg, reduceCtorEq, gos, Int.reduceAdd, Int.reduceSub, Int.reduceMul, Int.reduceEq, rowP_succ])
                refine ⟨cj, (fgt_cons (by simp only [Heap.none_at]) (by (simp -dsimp only [zzB, tys, ite_self, opnL, callB, stepOp, ofVal, opBuiltin, opLen, PV.sk, scalBin, scalUn, intBin, opLoad, natOf, opConvert, opField, cellsP, oneP, Value.oneCell', opStore, toIV, scalT, scalA, scalC, boxesA, boxesC, ↓reduceIte, Nat.reduceSub, Nat.reduceEqDiff, Nat.reduceAdd, Nat.reduceMul, Nat.reduceLT, Nat.reduceLeDiff, Int.reduceToNat, Int.reduceLE, Int.reduceLT, Int.reduceNeg, reduceCtorEq, notIn_cons, notIn_nil]) <;> simp [refsL, refsP, mem_refs_rowP]) (by repeat (first | exact noVar_none _ | refine noVar_row ?_ | refine noVar_rowH ?_ | refine noVar_var ?_ (by simp [refsL, refsP, mem_refs_rowP]))) (fgt_nil)), rfl, ?_⟩
                rw [nB, nC, nV]
                funext c
                simp (maxSteps := 20000000) only [Heap.drop_at, rowH_app, Heap.put_at, Heap.none_at, List.mem_cons, List.not_mem_nil, or_false]
                by_cases e0 : c = (0, 0) :: base
                · subst e0; simp [rowP]
                by_cases e1 : c = (0, 1) :: base
                · subst e1; simp [rowP]
                by_cases e2 : c = (3, 4) :: base
                · subst e2; simp [rowP]
                by_cases e3 : c = (3, 6) :: base
                · subst e3; simp [rowP]
                by_cases e4 : c = (13, 5) :: base
                · subst e4; simp [rowP]
                by_cases e5 : c = (11, 4) :: base
                · subst e5; simp [rowP]
                by_cases e6 : c = (11, 9) :: base
                · subst e6; simp [rowP]
                simp [e0, e1, e2, e3, e4, e5, e6, rowP]
            | cons a cl =>
                obtain ⟨b, vl, rfl⟩ : ∃ b vl', vl = b :: vl' := by
                  cases vl with
                  | nil => simp at hlen
                  | cons b vl => exact ⟨b, vl, rfl⟩
                have ek : rowP ((11, 4) :: base) 1 (cl.length + 1) (ii a :: cl.map ii) = .view ((11, 4) :: base) 0 1 (cl.length + 1) (ii a :: cl.map ii).length := rfl
                have eb : rowP ((3, 4) :: base) 1 (j + 1) ((thinB m l j).map ii) = .view ((3, 4) :: base) 0 1 (j + 1) ((thinB m l j).map ii).length := rfl
                repeat (first | refine ⟨(by show drawK _ _ = true; kernel_rfl : drawX _ _ _), ?_⟩ | exact (by show drawK _ _ = true; kernel_rfl : drawX _ _ _) | simp -dsimp (maxSteps := 20000000) (disch := omega) only [simx, zzC, zzB, tys, ite_self, opnL, callB, stepOp, ofVal, opBuiltin, opLen, PV.sk, scalBin, scalUn, intBin, opLoad, natOf, opConvert, opField, cellsP, oneP, Value.oneCell', opStore, toIV, scalT, scalA, scalC, boxesA, boxesC, ↓reduceIte, Nat.reduceSub, Nat.reduceEqDiff, Nat.reduceAdd, Nat.reduceMul, Nat.reduceLT, Nat.reduceLeDiff, Int.reduceToNat, Int.reduceLE, Int.reduceLT, Int.reduceNeg, reduceCtorEq, gos, Int.reduceAdd, Int.reduceSub, Int.reduceMul, Int.reduceEq, rl, ek, eb])
                refine X_append_own 3 [.int .i64 0] [ii ((cl.length + 1 : Nat) : Int)] (by simp only [tys]) (by simp only [tys]) rfl (by decide) (by simp [Heap.put_at, Heap.none_at, rowH_app]) rfl (by simp [thinB]) (by simp [Heap.put_at]; rfl) rfl (by simp only [tys]; omega) (by rw [mx_len]; omega) ?_
                repeat (first | refine ⟨(by show drawK _ _ = true; kernel_rfl : drawX _ _ _), ?_⟩ | exact (by show drawK _ _ = true; kernel_rfl : drawX _ _ _) | simp -dsimp (maxSteps := 20000000) (disch := omega) only [simx, zzC, zzB, tys, ite_self, opnL, callB, stepOp, ofVal, opBuiltin, opLen, PV.sk, scalBin, scalUn, intBin, opLoad, natOf, opConvert, opField, cellsP, oneP, Value.oneCell', opStore, toIV, scalT, scalA, scalC, boxesA, boxesC, ↓reduceIte, Nat.reduceSub, Nat.reduceEqDiff, Nat.reduceAdd, Nat.reduceMul, Nat.reduceLT, Nat.reduceLeDiff, Int.reduceToNat, Int.reduceLE, Int.reduceLT, Int.reduceNeg, reduceCtorEq, gos, Int.reduceAdd, Int.reduceSub, Int.reduceMul, Int.reduceEq, rowP_succ])
                refine ⟨cj, (fgt_cons (by simp only [Heap.none_at]) (by (simp -dsimp only [zzB, tys, ite_self, opnL, callB, stepOp, ofVal, opBuiltin, opLen, PV.sk, scalBin, scalUn, intBin, opLoad, natOf, opConvert, opField, cellsP, oneP, Value.oneCell', opStore, toIV, scalT, scalA, scalC, boxesA, boxesC, ↓reduceIte, Nat.reduceSub, Nat.reduceEqDiff, Nat.reduceAdd, Nat.reduceMul, Nat.reduceLT, Nat.reduceLeDiff, Int.reduceToNat, Int.reduceLE, Int.reduceLT, Int.reduceNeg, reduceCtorEq, notIn_cons, notIn_nil]) <;> simp [refsL, refsP, mem_refs_rowP]) (by repeat (first | exact noVar_none _ | refine noVar_row ?_ | refine noVar_rowH ?_ | refine noVar_var ?_ (by simp [refsL, refsP, mem_refs_rowP]))) (fgt_nil)), rfl, ?_⟩
                rw [nB, nC, nV]
                funext c
                simp (maxSteps := 20000000) only [Heap.drop_at, rowH_app, Heap.put_at, Heap.none_at, List.mem_cons, List.not_mem_nil, or_false]
                by_cases e0 : c = (0, 0) :: base
                · subst e0; simp [rowP]
                by_cases e1 : c = (0, 1) :: base
                · subst e1; simp [rowP]
                by_cases e2 : c = (3, 4) :: base
                · subst e2; simp [rowP]
                by_cases e3 : c = (3, 6) :: base
                · subst e3; simp [rowP]
                by_cases e4 : c = (13, 5) :: base
                · subst e4; simp [rowP]
                by_cases e5 : c = (11, 4) :: base
                · subst e5; simp [rowP]
                by_cases e6 : c = (11, 9) :: base
                · subst e6; simp [rowP]
                simp [e0, e1, e2, e3, e4, e5, e6, rowP]
      · have hj : j = R := by omega
        subst hj
        have hlen := thin_len C l j
        have hB : (thinB C l j).length = j + 1 := by simp [thinB]
        have eB : ((thinB C l j).map ii).take (j + 1) = (thinB C l j).map ii := List.take_of_length_le (by simp [hB])
        generalize thinC C l j = cl at *
        generalize thinV C l j = vl at *
        cases cl with
        | nil =>
          obtain rfl : vl = [] := List.eq_nil_of_length_eq_zero (by simpa using hlen.symm)
          repeat (first | refine ⟨(by show drawK _ _ = true; kernel_rfl : drawX _ _ _), ?_⟩ | exact (by show drawK _ _ = true; kernel_rfl : drawX _ _ _) | simp -dsimp (maxSteps := 20000000) (disch := omega) only [simx, zzC, zzB, tys, ite_self, opnL, callB, stepOp, ofVal, opBuiltin, opLen, PV.sk, scalBin, scalUn, intBin, opLoad, natOf, opConvert, opField, cellsP, oneP, Value.oneCell', opStore, toIV, scalT, scalA, scalC, boxesA, boxesC, ↓reduceIte, Nat.reduceSub, Nat.reduceEqDiff, Nat.reduceAdd, Nat.reduceMul, Nat.reduceLT, Nat.reduceLeDiff, Int.reduceToNat, Int.reduceLE, Int.reduceLT, Int.reduceNeg, reduceCtorEq, zzR, gos, Int.reduceAdd, Int.reduceSub, Int.reduceMul, Int.reduceEq, rowP_zero, rowP_succ, List.length_map, hB, eB, sp2, spP, li])
          rfl
        | cons a cl =>
          obtain ⟨b, vl, rfl⟩ : ∃ b vl', vl = b :: vl' := by
            cases vl with
            | nil => simp at hlen
            | cons b vl => exact ⟨b, vl, rfl⟩
          have e1 : (cl.map ii).take cl.length = cl.map ii := List.take_of_length_le (by simp)
          have e2 : (vl.map iu).take vl.length = vl.map iu := List.take_of_length_le (by simp)
          repeat (first | refine ⟨(by show drawK _ _ = true; kernel_rfl : drawX _ _ _), ?_⟩ | exact (by show drawK _ _ = true; kernel_rfl : drawX _ _ _) | simp -dsimp (maxSteps := 20000000) (disch := omega) only [simx, zzC, zzB, tys, ite_self, opnL, callB, stepOp, ofVal, opBuiltin, opLen, PV.sk, scalBin, scalUn, intBin, opLoad, natOf, opConvert, opField, cellsP, oneP, Value.oneCell', opStore, toIV, scalT, scalA, scalC, boxesA, boxesC, ↓reduceIte, Nat.reduceSub, Nat.reduceEqDiff, Nat.reduceAdd, Nat.reduceMul, Nat.reduceLT, Nat.reduceLeDiff, Int.reduceToNat, Int.reduceLE, Int.reduceLT, Int.reduceNeg, reduceCtorEq, zzR, gos, Int.reduceAdd, Int.reduceSub, Int.reduceMul, Int.reduceEq, rowP_succ, List.length_map, hB, eB, e1, e2, sp2, spP, li, lu])
end Go.Proofs.Ytnnkoghmglpnmaa.TM
