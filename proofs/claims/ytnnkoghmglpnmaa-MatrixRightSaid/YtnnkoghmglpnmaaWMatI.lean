/- Layer 5's reference: a matrix times a vector, walked. -/
import Derived.Test.YtnnkoghmglpnmaaWMatH
namespace Go.Proofs.Ytnnkoghmglpnmaa.TM
open Go Go.RowKit
set_option linter.unusedVariables false
set_option linter.defProp false
set_option linter.unusedSimpArgs false
attribute [local irreducible] K W WOps Effs Xg Xo Xr Xdg Xdo Xdr Xif CallsP CallR

theorem rowM_get {r c i k : Nat} {l : List Int} (hl : l.length = r * c) (hi : i < r) (hk : k < c) (h : k < (rowM c l i).length) : (rowM c l i)[k] = l.getD (i * c + k) 0 := by
  have b1 := ic_bd (c := c) hi
  have e3 : i * c + k < l.length := by omega
  have g : (rowM c l i)[k]? = l[i * c + k]? := by unfold rowM; rw [List.getElem?_take, if_pos hk, List.getElem?_drop]
  rw [List.getElem?_eq_getElem h, List.getElem?_eq_getElem e3] at g
  rw [List.getD_eq_getElem?_getD, List.getElem?_eq_getElem e3]
  exact Option.some.inj g
set_option maxHeartbeats 2000000 in
theorem rtimes_walk {p : Int} {R C : Nat} {l x : List Int} (M : Mt p R C l) (wl : W64s l) (hx : ∀ a ∈ x, a < p) (wx : W64s x) (lx : x.length = C) :
    CallsP Try.prog 35 [u64 p, matP R C l, lu x] (lu (timesM p R C l x)) := by
  have r1 := M.r1
  have r2 := M.r2
  have c1 := M.c1
  have c2 := M.c2
  have p1 := M.hp.1
  unfold timesM
  refine X_startP (n := 41) (m := 3) (rs := [.tmp 6]) Try.func35 rfl rfl rfl rfl (by decide) fun base => ?_
  repeat (first | refine ⟨(by show drawK _ _ = true; kernel_rfl : drawX _ _ _), ?_⟩ | exact (by show drawK _ _ = true; kernel_rfl : drawX _ _ _) | simp -dsimp (maxSteps := 20000000) (disch := omega) only [simx, zzC, zzB, tys, ite_self, opnL, callB, stepOp, ofVal, opBuiltin, opLen, PV.sk, scalBin, scalUn, intBin, opLoad, natOf, opConvert, opField, cellsP, oneP, Value.oneCell', opStore, toIV, scalT, scalA, scalC, boxesA, boxesC, ↓reduceIte, Nat.reduceSub, Nat.reduceEqDiff, Nat.reduceAdd, Nat.reduceMul, Nat.reduceLT, Nat.reduceLeDiff, Int.reduceToNat, Int.reduceLE, Int.reduceLT, Int.reduceNeg, reduceCtorEq, gos, Int.reduceAdd, Int.reduceSub, Int.reduceMul, Int.reduceEq])
  refine X_loopH [0, 2, 4, 7, 8] [(10, 2) :: base] (0) (R) (fun j => True) (fun j => [(7, rowP ((10, 3) :: base) 1 j (((List.range j).map (fun i => dotI (rowM C l i) x % p)).map iu)), (8, i64 j)]) (fun j => rowH (Heap.none.put ((0, 0) :: base) (.var [i64 R, i64 C, lu l])) ((10, 3) :: base) j (((List.range j).map (fun i => dotI (rowM C l i) x % p)).map iu)) ?_ ?_ ?_ ?_ ?_ (by decide) ?_
  · exact (fgt_cons (by simp only [Heap.none_at]) (by (simp -dsimp only [zzB, tys, ite_self, opnL, callB, stepOp, ofVal, opBuiltin, opLen, PV.sk, scalBin, scalUn, intBin, opLoad, natOf, opConvert, opField, cellsP, oneP, Value.oneCell', opStore, toIV, scalT, scalA, scalC, boxesA, boxesC, ↓reduceIte, Nat.reduceSub, Nat.reduceEqDiff, Nat.reduceAdd, Nat.reduceMul, Nat.reduceLT, Nat.reduceLeDiff, Int.reduceToNat, Int.reduceLE, Int.reduceLT, Int.reduceNeg, reduceCtorEq, notIn_cons, notIn_nil]) <;> simp [refsL, refsP, mem_refs_rowP]) (by repeat (first | exact noVar_none _ | refine noVar_row ?_ | refine noVar_rowH ?_ | refine noVar_var ?_ (by simp [refsL, refsP, mem_refs_rowP]))) (fgt_nil))
  · ((simp -dsimp (disch := omega) only [simx, zzB, tys, ite_self, opnL, callB, stepOp, ofVal, opBuiltin, opLen, PV.sk, scalBin, scalUn, intBin, opLoad, natOf, opConvert, opField, cellsP, oneP, Value.oneCell', opStore, toIV, scalT, scalA, scalC, boxesA, boxesC, ↓reduceIte, Nat.reduceSub, Nat.reduceEqDiff, Nat.reduceAdd, Nat.reduceMul, Nat.reduceLT, Nat.reduceLeDiff, Int.reduceToNat, Int.reduceLE, Int.reduceLT, Int.reduceNeg, reduceCtorEq, gos, Int.reduceAdd, Int.reduceSub, Int.reduceMul, Int.reduceEq]) <;> first | rfl | simp [rowP])
  · funext c
    simp (maxSteps := 20000000) only [Heap.drop_at, rowH_app, Heap.put_at, Heap.none_at, List.mem_cons, List.not_mem_nil, or_false]
    by_cases e0 : c = (0, 0) :: base
    · subst e0; simp []
    by_cases e1 : c = (10, 2) :: base
    · subst e1; simp []
    simp [e0, e1]
  · omega
  · trivial
  · intro j hj _
    by_cases cj : j < R
    · have rl := rowM_len M.len cj
      repeat (first | refine ⟨(by show drawK _ _ = true; kernel_rfl : drawX _ _ _), ?_⟩ | exact (by show drawK _ _ = true; kernel_rfl : drawX _ _ _) | simp -dsimp (maxSteps := 20000000) (disch := omega) only [simx, zzC, zzB, tys, ite_self, opnL, callB, stepOp, ofVal, opBuiltin, opLen, PV.sk, scalBin, scalUn, intBin, opLoad, natOf, opConvert, opField, cellsP, oneP, Value.oneCell', opStore, toIV, scalT, scalA, scalC, boxesA, boxesC, ↓reduceIte, Nat.reduceSub, Nat.reduceEqDiff, Nat.reduceAdd, Nat.reduceMul, Nat.reduceLT, Nat.reduceLeDiff, Int.reduceToNat, Int.reduceLE, Int.reduceLT, Int.reduceNeg, reduceCtorEq, gos, Int.reduceAdd, Int.reduceSub, Int.reduceMul, Int.reduceEq, cj])
      refine X_loopH [0, 2, 4, 7, 8, 9, 10] [] (0) (C) (fun j_ => True) (fun j_ => [(9, u64 (dotI ((rowM C l j).take j_) (x.take j_) % p)), (10, i64 j_)]) (fun j_ => rowH (Heap.none.put ((0, 0) :: base) (.var [i64 R, i64 C, lu l])) ((10, 3) :: base) j (((List.range j).map (fun i => dotI (rowM C l i) x % p)).map iu)) ?_ ?_ ?_ ?_ ?_ (by decide) ?_
      · exact (fgt_nil)
      · ((simp -dsimp (disch := omega) only [simx, zzB, tys, ite_self, opnL, callB, stepOp, ofVal, opBuiltin, opLen, PV.sk, scalBin, scalUn, intBin, opLoad, natOf, opConvert, opField, cellsP, oneP, Value.oneCell', opStore, toIV, scalT, scalA, scalC, boxesA, boxesC, ↓reduceIte, Nat.reduceSub, Nat.reduceEqDiff, Nat.reduceAdd, Nat.reduceMul, Nat.reduceLT, Nat.reduceLeDiff, Int.reduceToNat, Int.reduceLE, Int.reduceLT, Int.reduceNeg, reduceCtorEq, gos, Int.reduceAdd, Int.reduceSub, Int.reduceMul, Int.reduceEq]) <;> first | rfl | simp [dotI_nil])
      · exact drop_nil _
      · omega
      · trivial
      · intro m hm _
        by_cases cm : m < C
        · have m1 : m < (rowM C l j).length := by omega
          have m2 : m < x.length := by omega
          have g2 : x[m]? = some x[m] := List.getElem?_eq_getElem m2
          have d1 := at_walk M.len M.r2 M.c2 cj cm
          rw [← rowM_get M.len cj cm m1] at d1
          have i1 := in_of M.has wl (rowM_mem (List.getElem_mem m1))
          have i2 := in_of hx wx (List.getElem_mem m2)
          have d2 := rmul_walk p _ M.hp i1 x[m].toNat x[m] i2.1 (by have := i2.2; have := M.hp.2; omega) (Nat.le_refl _)
          have i3 := emod_in (p := p) ((rowM C l j)[m] * x[m]) (by omega)
          have i4 := emod_in (p := p) (dotI ((rowM C l j).take m) (x.take m)) (by omega)
          have d3 := radd_walk p _ _ M.hp i4 i3
          have e : (dotI ((rowM C l j).take m) (x.take m) % p + (rowM C l j)[m] * x[m] % p) % p = dotI ((rowM C l j).take (m + 1)) (x.take (m + 1)) % p := by rw [dotI_take m1 m2, am_l, am_r]
          rw [e] at d3
          clear i1 i2 i3 i4 e
          repeat (first | ((first | refine X_call_fn2 rfl (by simp only [tys]) ?_ | refine X_dcall_fn2 rfl (by simp only [tys]) ?_); apply Exists.intro; apply And.intro; (focus (simp -dsimp only [simx, zzC, zzB, tys, ite_self, opnL, callB, stepOp, ofVal, opBuiltin, opLen, PV.sk, scalBin, scalUn, intBin, opLoad, natOf, opConvert, opField, cellsP, oneP, Value.oneCell', opStore, toIV, scalT, scalA, scalC, boxesA, boxesC, ↓reduceIte, Nat.reduceSub, Nat.reduceEqDiff, Nat.reduceAdd, Nat.reduceMul, Nat.reduceLT, Nat.reduceLeDiff, Int.reduceToNat, Int.reduceLE, Int.reduceLT, Int.reduceNeg, reduceCtorEq, zzL, if_true, if_false] <;> rfl)); apply Exists.intro; apply And.intro; (focus (first | exact d1 | exact d2 | exact d3))) | refine ⟨(by show drawK _ _ = true; kernel_rfl : drawX _ _ _), ?_⟩ | exact (by show drawK _ _ = true; kernel_rfl : drawX _ _ _) | simp -dsimp (maxSteps := 20000000) (disch := omega) only [simx, zzC, zzB, tys, ite_self, opnL, callB, stepOp, ofVal, opBuiltin, opLen, PV.sk, scalBin, scalUn, intBin, opLoad, natOf, opConvert, opField, cellsP, oneP, Value.oneCell', opStore, toIV, scalT, scalA, scalC, boxesA, boxesC, ↓reduceIte, Nat.reduceSub, Nat.reduceEqDiff, Nat.reduceAdd, Nat.reduceMul, Nat.reduceLT, Nat.reduceLeDiff, Int.reduceToNat, Int.reduceLE, Int.reduceLT, Int.reduceNeg, reduceCtorEq, gos, Int.reduceAdd, Int.reduceSub, Int.reduceMul, Int.reduceEq, cm, m2, g2])
          exact ⟨cm, (fgt_nil), rfl, drop_nil _⟩
        · have hm : m = C := by omega
          subst hm
          have t1 : (rowM m l j).take m = rowM m l j := List.take_of_length_le (by omega)
          have t2 : x.take m = x := List.take_of_length_le (by omega)
          have tk := timesM_take (p := p) (c := m) (l := l) (x := x) cj
          repeat (first | refine ⟨(by show drawK _ _ = true; kernel_rfl : drawX _ _ _), ?_⟩ | exact (by show drawK _ _ = true; kernel_rfl : drawX _ _ _) | simp -dsimp (maxSteps := 20000000) (disch := omega) only [simx, zzC, zzB, tys, ite_self, opnL, callB, stepOp, ofVal, opBuiltin, opLen, PV.sk, scalBin, scalUn, intBin, opLoad, natOf, opConvert, opField, cellsP, oneP, Value.oneCell', opStore, toIV, scalT, scalA, scalC, boxesA, boxesC, ↓reduceIte, Nat.reduceSub, Nat.reduceEqDiff, Nat.reduceAdd, Nat.reduceMul, Nat.reduceLT, Nat.reduceLeDiff, Int.reduceToNat, Int.reduceLE, Int.reduceLT, Int.reduceNeg, reduceCtorEq, gos, Int.reduceAdd, Int.reduceSub, Int.reduceMul, Int.reduceEq, t1, t2])
          refine X_append_one 22 [.int .u64 0] [iu (dotI (rowM m l j) x % p)] (by simp only [tys]) (by simp only [tys]) rfl (by decide) (by simp) (by simp [Heap.put_at, Heap.none_at, rowH_app]) (by simp [Heap.put_at]; rfl) rfl (by simp only [tys]; omega) (by rw [mx_len]; omega) ?_
          repeat (first | refine ⟨(by show drawK _ _ = true; kernel_rfl : drawX _ _ _), ?_⟩ | exact (by show drawK _ _ = true; kernel_rfl : drawX _ _ _) | simp -dsimp (maxSteps := 20000000) (disch := omega) only [simx, zzC, zzB, tys, ite_self, opnL, callB, stepOp, ofVal, opBuiltin, opLen, PV.sk, scalBin, scalUn, intBin, opLoad, natOf, opConvert, opField, cellsP, oneP, Value.oneCell', opStore, toIV, scalT, scalA, scalC, boxesA, boxesC, ↓reduceIte, Nat.reduceSub, Nat.reduceEqDiff, Nat.reduceAdd, Nat.reduceMul, Nat.reduceLT, Nat.reduceLeDiff, Int.reduceToNat, Int.reduceLE, Int.reduceLT, Int.reduceNeg, reduceCtorEq, gos, Int.reduceAdd, Int.reduceSub, Int.reduceMul, Int.reduceEq, cj])
          refine ⟨cj, (fgt_cons (by simp only [Heap.none_at]) (by (simp -dsimp only [zzB, tys, ite_self, opnL, callB, stepOp, ofVal, opBuiltin, opLen, PV.sk, scalBin, scalUn, intBin, opLoad, natOf, opConvert, opField, cellsP, oneP, Value.oneCell', opStore, toIV, scalT, scalA, scalC, boxesA, boxesC, ↓reduceIte, Nat.reduceSub, Nat.reduceEqDiff, Nat.reduceAdd, Nat.reduceMul, Nat.reduceLT, Nat.reduceLeDiff, Int.reduceToNat, Int.reduceLE, Int.reduceLT, Int.reduceNeg, reduceCtorEq, notIn_cons, notIn_nil]) <;> simp [refsL, refsP, mem_refs_rowP]) (by repeat (first | exact noVar_none _ | refine noVar_row ?_ | refine noVar_rowH ?_ | refine noVar_var ?_ (by simp [refsL, refsP, mem_refs_rowP]))) (fgt_nil)), ⟨?_, rfl⟩, ?_⟩
          · rw [tk]; simp
          · funext c
            simp (maxSteps := 20000000) only [Heap.drop_at, rowH_app, Heap.put_at, Heap.none_at, List.mem_cons, List.not_mem_nil, or_false]
            by_cases e0 : c = (0, 0) :: base
            · subst e0; simp [tk]
            by_cases e1 : c = (10, 2) :: base
            · subst e1; simp [tk]
            by_cases e2 : c = (10, 3) :: base
            · subst e2; simp [tk]
            simp [e0, e1, e2, tk]
    · have hj : j = R := by omega
      subst hj
      obtain ⟨s, rfl⟩ : ∃ s, j = s + 1 := ⟨j - 1, by omega⟩
      have e2 : (((List.range (s + 1)).map (fun i => dotI (rowM C l i) x % p)).map iu).take (s + 1) = ((List.range (s + 1)).map (fun i => dotI (rowM C l i) x % p)).map iu := List.take_of_length_le (by simp)
      repeat (first | refine ⟨(by show drawK _ _ = true; kernel_rfl : drawX _ _ _), ?_⟩ | exact (by show drawK _ _ = true; kernel_rfl : drawX _ _ _) | simp -dsimp (maxSteps := 20000000) (disch := omega) only [simx, zzC, zzB, tys, ite_self, opnL, callB, stepOp, ofVal, opBuiltin, opLen, PV.sk, scalBin, scalUn, intBin, opLoad, natOf, opConvert, opField, cellsP, oneP, Value.oneCell', opStore, toIV, scalT, scalA, scalC, boxesA, boxesC, ↓reduceIte, Nat.reduceSub, Nat.reduceEqDiff, Nat.reduceAdd, Nat.reduceMul, Nat.reduceLT, Nat.reduceLeDiff, Int.reduceToNat, Int.reduceLE, Int.reduceLT, Int.reduceNeg, reduceCtorEq, zzR, gos, Int.reduceAdd, Int.reduceSub, Int.reduceMul, Int.reduceEq, rowP_succ, rowH_succ, List.length_map, List.length_range, e2, lu])
end Go.Proofs.Ytnnkoghmglpnmaa.TM
