/- Layer 5: a thin matrix made whole, walked. -/
import Derived.Test.YtnnkoghmglpnmaaWMatR
namespace Go.Proofs.Ytnnkoghmglpnmaa.TM
open Go Go.RowKit
set_option linter.unusedVariables false
set_option linter.defProp false
set_option linter.unusedSimpArgs false
attribute [local irreducible] K W WOps Effs Xg Xo Xr Xdg Xdo Xdr Xif CallsP CallR

def whJ (C : Nat) (b k v : List Int) (i e q : Nat) : Int := if q / C < i then whC b k v (q / C) (q % C) else if q / C = i then lookC ((q % C : Nat) : Int) ((segI b k i).take e) ((segI b v i).take e) 0 else 0
theorem whJ_next {C n : Nat} {b k v : List Int} {i q : Nat} (h1 : (segI b k i).length = n) (h2 : (segI b v i).length = n) : whJ C b k v i n q = whJ C b k v (i + 1) 0 q := by
  unfold whJ
  rw [List.take_of_length_le (by omega), List.take_of_length_le (by omega), List.take_zero, List.take_zero]
  by_cases a : q / C < i
  · rw [if_pos a, if_pos (by omega)]
  · rw [if_neg a]
    by_cases e : q / C = i
    · rw [if_pos e, if_pos (by omega)]; unfold whC; rw [e]
    · rw [if_neg e, if_neg (by omega)]
      by_cases e2 : q / C = i + 1
      · rw [if_pos e2]; rfl
      · rw [if_neg e2]
def wholeR (p r c : Int) (b k v : List Int) : (Int × Int × List Int) × Int := if spB p r c b k v then ((r, c, wholeM r.toNat c.toNat b k v), 0) else ((0, 0, []), 1)
set_option maxHeartbeats 8000000 in
set_option maxRecDepth 100000 in
theorem whole_walk (p r c : Int) (b k v : List Int) (hb : b.length ≤ maxLen) (hk : k.length ≤ maxLen) (hv : v.length ≤ maxLen) :
    CallsP Try.prog 14 [u64 p, spP r c b k v] (mat2 (wholeR p r c b k v)) := by
  have q1 := sparse_walk p r c b k v hb hk hv
  unfold wholeR
  cases h1 : spB p r c b k v with
  | false =>
    rw [h1] at q1
    refine X_startP (n := 65) (m := 2) (rs := [.cell 4 25, .tmp 5]) Try.func14 rfl rfl rfl rfl (by decide) fun base => ?_
    repeat (first | ((first | refine X_call_fn2 rfl (by simp only [tys]) ?_ | refine X_dcall_fn2 rfl (by simp only [tys]) ?_); apply Exists.intro; apply And.intro; (focus (simp -dsimp only [simx, zzC, zzB, tys, ite_self, opnL, callB, stepOp, ofVal, opBuiltin, opLen, PV.sk, scalBin, scalUn, intBin, opLoad, natOf, opConvert, opField, cellsP, oneP, Value.oneCell', opStore, toIV, scalT, scalA, scalC, boxesA, boxesC, ↓reduceIte, Nat.reduceSub, Nat.reduceEqDiff, Nat.reduceAdd, Nat.reduceMul, Nat.reduceLT, Nat.reduceLeDiff, Int.reduceToNat, Int.reduceLE, Int.reduceLT, Int.reduceNeg, reduceCtorEq, zzL, if_true, if_false] <;> rfl)); apply Exists.intro; apply And.intro; (focus (first | exact q1))) | refine ⟨(by show drawK _ _ = true; kernel_rfl : drawX _ _ _), ?_⟩ | exact (by show drawK _ _ = true; kernel_rfl : drawX _ _ _) | simp -dsimp (maxSteps := 20000000) (disch := omega) only [simx, zzC, zzB, tys, ite_self, opnL, callB, stepOp, ofVal, opBuiltin, opLen, PV.sk, scalBin, scalUn, intBin, opLoad, natOf, opConvert, opField, cellsP, oneP, Value.oneCell', opStore, toIV, scalT, scalA, scalC, boxesA, boxesC, ↓reduceIte, Nat.reduceSub, Nat.reduceEqDiff, Nat.reduceAdd, Nat.reduceMul, Nat.reduceLT, Nat.reduceLeDiff, Int.reduceToNat, Int.reduceLE, Int.reduceLT, Int.reduceNeg, reduceCtorEq, zzR, gos, Int.reduceAdd, Int.reduceSub, Int.reduceMul, Int.reduceEq])
    rfl
  | true =>
  rw [h1] at q1
  obtain ⟨R, C, rfl, rfl, S⟩ := sp_of h1
  simp only [if_true, Int.toNat_natCast]
  have r2 := S.r2
  have c2 := S.c2
  have bd := rc_bd r2 c2
  have e0 : IntKind.i64.wrap ((R : Int) * (C : Int)) = ((R * C : Nat) : Int) := by rw [← Int.natCast_mul]; exact iw_of (by omega) (by omega)
  have f1 : R * C * 8 ≤ 140737488355328 := by omega
  have f2 : R * C ≤ 140737488355328 := by omega
  have z1 := zero_tbl (R * C)
  have z0 : tbl (R * C) (whJ C b k v 0 0) = tbl (R * C) (fun _ => 0) := tbl_congr fun q _ => by
    unfold whJ
    rw [if_neg (Nat.not_lt_zero _)]
    split <;> rfl
  rw [← z0] at z1
  have tl := fun i e => tbl_len (R * C) (whJ C b k v i e)
  refine X_startP (n := 65) (m := 2) (rs := [.cell 4 25, .tmp 5]) Try.func14 rfl rfl rfl rfl (by decide) fun base => ?_
  repeat (first | ((first | refine X_call_fn2 rfl (by simp only [tys]) ?_ | refine X_dcall_fn2 rfl (by simp only [tys]) ?_); apply Exists.intro; apply And.intro; (focus (simp -dsimp only [simx, zzC, zzB, tys, ite_self, opnL, callB, stepOp, ofVal, opBuiltin, opLen, PV.sk, scalBin, scalUn, intBin, opLoad, natOf, opConvert, opField, cellsP, oneP, Value.oneCell', opStore, toIV, scalT, scalA, scalC, boxesA, boxesC, ↓reduceIte, Nat.reduceSub, Nat.reduceEqDiff, Nat.reduceAdd, Nat.reduceMul, Nat.reduceLT, Nat.reduceLeDiff, Int.reduceToNat, Int.reduceLE, Int.reduceLT, Int.reduceNeg, reduceCtorEq, zzL, if_true, if_false] <;> rfl)); apply Exists.intro; apply And.intro; (focus (first | exact q1))) | refine ⟨(by show drawK _ _ = true; kernel_rfl : drawX _ _ _), ?_⟩ | exact (by show drawK _ _ = true; kernel_rfl : drawX _ _ _) | simp -dsimp (maxSteps := 20000000) (disch := omega) only [simx, zzC, zzB, tys, ite_self, opnL, callB, stepOp, ofVal, opBuiltin, opLen, PV.sk, scalBin, scalUn, intBin, opLoad, natOf, opConvert, opField, cellsP, oneP, Value.oneCell', opStore, toIV, scalT, scalA, scalC, boxesA, boxesC, ↓reduceIte, Nat.reduceSub, Nat.reduceEqDiff, Nat.reduceAdd, Nat.reduceMul, Nat.reduceLT, Nat.reduceLeDiff, Int.reduceToNat, Int.reduceLE, Int.reduceLT, Int.reduceNeg, reduceCtorEq, gos, Int.reduceAdd, Int.reduceSub, Int.reduceMul, Int.reduceEq, e0, f1, f2, z1, tl, List.length_map])
  clear q1 h1 z0 z1
  rw [mx_len] at hk
  refine X_loopH [3, 4, 6, 26, 27] [] (0) (R) (fun j => True) (fun j => [(27, i64 j)]) (fun j => (((Heap.none.put ((0, 0) :: base) (.var [i64 R, i64 C, li b, li k, lu v])).put ((0, 1) :: base) (.var [i64 0, i64 0, nilP])).put ((3, 9) :: base) (.row false ((tbl (R * C) (whJ C b k v j 0)).map iu))).put ((3, 11) :: base) (.var [i64 R, i64 C, .view ((3, 9) :: base) 0 1 (R * C) (R * C)])) ?_ ?_ ?_ ?_ ?_ (by decide) ?_
  · exact (fgt_nil)
  · ((simp -dsimp (disch := omega) only [simx, zzB, tys, ite_self, opnL, callB, stepOp, ofVal, opBuiltin, opLen, PV.sk, scalBin, scalUn, intBin, opLoad, natOf, opConvert, opField, cellsP, oneP, Value.oneCell', opStore, toIV, scalT, scalA, scalC, boxesA, boxesC, ↓reduceIte, Nat.reduceSub, Nat.reduceEqDiff, Nat.reduceAdd, Nat.reduceMul, Nat.reduceLT, Nat.reduceLeDiff, Int.reduceToNat, Int.reduceLE, Int.reduceLT, Int.reduceNeg, reduceCtorEq, gos, Int.reduceAdd, Int.reduceSub, Int.reduceMul, Int.reduceEq]) <;> first | rfl | simp)
  · funext c
    simp (maxSteps := 20000000) only [Heap.drop_at, rowH_app, Heap.put_at, Heap.none_at, List.mem_cons, List.not_mem_nil, or_false]
    by_cases e0 : c = (0, 0) :: base
    · subst e0; simp []
    by_cases e1 : c = (0, 1) :: base
    · subst e1; simp []
    by_cases e2 : c = (3, 9) :: base
    · subst e2; simp []
    by_cases e3 : c = (3, 11) :: base
    · subst e3; simp []
    simp [e0, e1, e2, e3]
  · omega
  · trivial
  · intro j hj _
    by_cases cj : j < R
    · obtain ⟨a, y, g1, g2, l1, l2, xy, yk, yv, sg, sv, lk, lv, hc, hn⟩ := S.row cj
      have e6 : (j : Int) + 1 = ((j + 1 : Nat) : Int) := rfl
      have jc := ic_bd (c := C) cj
      have e1 : IntKind.i64.wrap ((j : Int) * (C : Int)) = ((j * C : Nat) : Int) := by rw [← Int.natCast_mul]; exact iw_of (by omega) (by omega)
      repeat (first | refine ⟨(by show drawK _ _ = true; kernel_rfl : drawX _ _ _), ?_⟩ | exact (by show drawK _ _ = true; kernel_rfl : drawX _ _ _) | simp -dsimp (maxSteps := 20000000) (disch := omega) only [simx, zzC, zzB, tys, ite_self, opnL, callB, stepOp, ofVal, opBuiltin, opLen, PV.sk, scalBin, scalUn, intBin, opLoad, natOf, opConvert, opField, cellsP, oneP, Value.oneCell', opStore, toIV, scalT, scalA, scalC, boxesA, boxesC, ↓reduceIte, Nat.reduceSub, Nat.reduceEqDiff, Nat.reduceAdd, Nat.reduceMul, Nat.reduceLT, Nat.reduceLeDiff, Int.reduceToNat, Int.reduceLE, Int.reduceLT, Int.reduceNeg, reduceCtorEq, gos, Int.reduceAdd, Int.reduceSub, Int.reduceMul, Int.reduceEq, cj, g1, l1])
      refine X_loopH [3, 4, 6, 7, 8, 26, 27] [] (0) (y - a) (fun j_ => True) (fun j_ => [(8, i64 ((a + j_ : Nat) : Int))]) (fun j_ => (((Heap.none.put ((0, 0) :: base) (.var [i64 R, i64 C, li b, li k, lu v])).put ((0, 1) :: base) (.var [i64 0, i64 0, nilP])).put ((3, 9) :: base) (.row false ((tbl (R * C) (whJ C b k v j j_)).map iu))).put ((3, 11) :: base) (.var [i64 R, i64 C, .view ((3, 9) :: base) 0 1 (R * C) (R * C)])) ?_ ?_ ?_ ?_ ?_ (by decide) ?_
      · exact (fgt_nil)
      · ((simp -dsimp (disch := omega) only [simx, zzB, tys, ite_self, opnL, callB, stepOp, ofVal, opBuiltin, opLen, PV.sk, scalBin, scalUn, intBin, opLoad, natOf, opConvert, opField, cellsP, oneP, Value.oneCell', opStore, toIV, scalT, scalA, scalC, boxesA, boxesC, ↓reduceIte, Nat.reduceSub, Nat.reduceEqDiff, Nat.reduceAdd, Nat.reduceMul, Nat.reduceLT, Nat.reduceLeDiff, Int.reduceToNat, Int.reduceLE, Int.reduceLT, Int.reduceNeg, reduceCtorEq, gos, Int.reduceAdd, Int.reduceSub, Int.reduceMul, Int.reduceEq]) <;> first | rfl | simp)
      · exact drop_nil _
      · omega
      · trivial
      · intro m hm _
        by_cases cm : m < y - a
        · obtain ⟨m1, m2, gk⟩ := wr_eq (v := v) sg lk cm yk
          obtain ⟨n1, n2, gv⟩ := wr_eq (v := v) sv lv cm yv
          obtain ⟨c0, c1⟩ := hc _ (List.getElem_mem m2)
          have tk : (segI b k j).take (m + 1) = (segI b k j).take m ++ [(segI b k j)[m]] := List.take_succ_eq_append_getElem m2
          have tv : (segI b v j).take (m + 1) = (segI b v j).take m ++ [(segI b v j)[m]] := List.take_succ_eq_append_getElem n2
          have tll : ((segI b k j).take m).length = ((segI b v j).take m).length := by rw [List.length_take, List.length_take]; omega
          generalize (segI b k j)[m] = q at gk c0 c1 tk
          generalize (segI b v j)[m] = u at gv tv
          obtain ⟨Q, rfl⟩ := Int.eq_ofNat_of_zero_le c0
          have hQ : Q < C := by omega
          have hd : j * C + Q < R * C := by omega
          have nx : (tbl (R * C) (fun c => if c = j * C + Q then u else whJ C b k v j m c)) = tbl (R * C) (whJ C b k v j (m + 1)) := by
            apply tbl_congr
            intro c hcl
            obtain ⟨s1, s2, s3⟩ := dc_lt hcl
            unfold whJ
            by_cases e : c = j * C + Q
            · rw [if_pos e, e, dc_div hQ, dc_mod hQ, if_neg (by omega), if_pos rfl, tk, tv, lookC_snoc _ _ _ _ _ _ tll, if_pos rfl]
            · rw [if_neg e]
              by_cases e2 : c / C < j
              · rw [if_pos e2, if_pos e2]
              · rw [if_neg e2, if_neg e2]
                by_cases e3 : c / C = j
                · rw [if_pos e3, if_pos e3, tk, tv, lookC_snoc _ _ _ _ _ _ tll, if_neg ?_]
                  intro h
                  apply e
                  rw [e3] at s3
                  omega
                · rw [if_neg e3, if_neg e3]
          have nx2 := tbl_put_iu (whJ C b k v j m) u hd
          rw [nx] at nx2
          have tl1 := tl j m
          have hd1 : j * C + Q + 1 ≤ R * C := hd
          have am : ((a + m : Nat) : Int) < (y : Int) := by omega
          have e2 : IntKind.i64.wrap (((j * C : Nat) : Int) + (Q : Int)) = ((j * C + Q : Nat) : Int) := by rw [← Int.natCast_add]; exact iw_of (by omega) (by omega)
          clear tk tv tll nx
          repeat (first | refine ⟨(by show drawK _ _ = true; kernel_rfl : drawX _ _ _), ?_⟩ | exact (by show drawK _ _ = true; kernel_rfl : drawX _ _ _) | simp -dsimp (maxSteps := 20000000) (disch := omega) only [simx, zzC, zzB, tys, ite_self, opnL, callB, stepOp, ofVal, opBuiltin, opLen, PV.sk, scalBin, scalUn, intBin, opLoad, natOf, opConvert, opField, cellsP, oneP, Value.oneCell', opStore, toIV, scalT, scalA, scalC, boxesA, boxesC, ↓reduceIte, Nat.reduceSub, Nat.reduceEqDiff, Nat.reduceAdd, Nat.reduceMul, Nat.reduceLT, Nat.reduceLeDiff, Int.reduceToNat, Int.reduceLE, Int.reduceLT, Int.reduceNeg, reduceCtorEq, gos, Int.reduceAdd, Int.reduceSub, Int.reduceMul, Int.reduceEq, cj, e6, e1, e2, g2, l2, am, gv, gk, m1, n1, hd, hd1, tl1, nx2, List.length_map])
          refine ⟨cm, (fgt_nil), ?_, ?_⟩
          · rfl
          · funext c
            simp (maxSteps := 20000000) only [Heap.drop_at, rowH_app, Heap.put_at, Heap.none_at, List.mem_cons, List.not_mem_nil, or_false]
            by_cases e0 : c = (0, 0) :: base
            · subst e0; simp []
            by_cases e1 : c = (0, 1) :: base
            · subst e1; simp []
            by_cases e2 : c = (3, 9) :: base
            · subst e2; simp []
            by_cases e3 : c = (3, 11) :: base
            · subst e3; simp []
            simp [e0, e1, e2, e3]
        · have hm' : m = y - a := by omega
          have e7 : tbl (R * C) (whJ C b k v j m) = tbl (R * C) (whJ C b k v (j + 1) 0) := tbl_congr fun c _ => whJ_next (by omega) (by omega)
          rw [e7]
          have am : ((a + m : Nat) : Int) = (y : Int) := by omega
          rw [am]
          repeat (first | refine ⟨(by show drawK _ _ = true; kernel_rfl : drawX _ _ _), ?_⟩ | exact (by show drawK _ _ = true; kernel_rfl : drawX _ _ _) | simp -dsimp (maxSteps := 20000000) (disch := omega) only [simx, zzC, zzB, tys, ite_self, opnL, callB, stepOp, ofVal, opBuiltin, opLen, PV.sk, scalBin, scalUn, intBin, opLoad, natOf, opConvert, opField, cellsP, oneP, Value.oneCell', opStore, toIV, scalT, scalA, scalC, boxesA, boxesC, ↓reduceIte, Nat.reduceSub, Nat.reduceEqDiff, Nat.reduceAdd, Nat.reduceMul, Nat.reduceLT, Nat.reduceLeDiff, Int.reduceToNat, Int.reduceLE, Int.reduceLT, Int.reduceNeg, reduceCtorEq, gos, Int.reduceAdd, Int.reduceSub, Int.reduceMul, Int.reduceEq, cj, e6, g2, l2])
          exact ⟨cj, (fgt_nil), by first | rfl | exact drop_nil _⟩
    · obtain rfl : R = j := by omega
      have e7 : tbl (R * C) (whJ C b k v R 0) = wholeM R C b k v := tbl_congr fun q hq => by
        unfold whJ
        rw [if_pos (dc_lt hq).1]
      rw [e7]
      have wl := wholeM_len R C b k v
      have e2 : ((wholeM R C b k v).map iu).take (R * C) = (wholeM R C b k v).map iu := List.take_of_length_le (by rw [List.length_map, wl]; exact Nat.le_refl _)
      repeat (first | refine ⟨(by show drawK _ _ = true; kernel_rfl : drawX _ _ _), ?_⟩ | exact (by show drawK _ _ = true; kernel_rfl : drawX _ _ _) | simp -dsimp (maxSteps := 20000000) (disch := omega) only [simx, zzC, zzB, tys, ite_self, opnL, callB, stepOp, ofVal, opBuiltin, opLen, PV.sk, scalBin, scalUn, intBin, opLoad, natOf, opConvert, opField, cellsP, oneP, Value.oneCell', opStore, toIV, scalT, scalA, scalC, boxesA, boxesC, ↓reduceIte, Nat.reduceSub, Nat.reduceEqDiff, Nat.reduceAdd, Nat.reduceMul, Nat.reduceLT, Nat.reduceLeDiff, Int.reduceToNat, Int.reduceLE, Int.reduceLT, Int.reduceNeg, reduceCtorEq, zzR, gos, Int.reduceAdd, Int.reduceSub, Int.reduceMul, Int.reduceEq, List.length_map, wl, e2, lu, mat2])
      rw [← wl]
end Go.Proofs.Ytnnkoghmglpnmaa.TM
