/- What is proved of functions, and plain facts, part 7. Conditions: none. -/
import Derived.Test.YthnfphgjfpcpbaaSSolveInverse6
set_option linter.defProp false
set_option linter.unusedSectionVars false
set_option linter.unusedSimpArgs false
set_option linter.unusedVariables false
namespace Go.Proofs.Ythnfphgjfpcpbaa.TM
open Go Go.RowKit
attribute [local irreducible] K W WOps Effs Xg Xo Xr Xdg Xdo Xdr Xif CallsP CallR
theorem row_walk {r c i : Nat} {l : List Int} (hl : l.length = r * c) (hr : r ≤ 64) (hc : c ≤ 64) (hi : i < r) : CallsP Try.prog 80 [matP r c l, i64 i] (lu (rowM c l i)) := by
  have b1 := ic_bd (c := c) hi
  have b2 := rc_bd hr hc
  have rl := rowM_len hl hi
  have m0 : i * c ≤ 4096 := by omega
  have m1 : (i + 1) * c = i * c + c := Nat.succ_mul i c
  have e1 : IntKind.i64.wrap ((i : Int) * (c : Int)) = ((i * c : Nat) : Int) := by rw [← Int.natCast_mul]; exact iw_of (by omega) (by omega)
  have e2 : IntKind.i64.wrap (((i : Int) + 1) * (c : Int)) = ((i * c + c : Nat) : Int) := by
    rw [show ((i : Int) + 1) * (c : Int) = ((i * c + c : Nat) : Int) by rw [← m1]; push_cast; rfl]; exact iw_of (by omega) (by omega)
  have e3 : i * c + c - i * c = c := by omega
  have e4 : ((l.map iu).drop (i * c)).take c = (rowM c l i).map iu := by unfold rowM; rw [List.map_take, List.map_drop]
  have e5 : i * c ≤ i * c + c := by omega
  have e6 : i * c + c ≤ l.length := by omega
  refine X_startP (n := 17) (m := 2) (rs := [.tmp 4]) Try.func80 rfl rfl rfl rfl (by decide) fun base => ?_
  repeat (first | refine X_opc rfl ?_ | refine X_dopc rfl ?_ | refine ⟨(by show drawK _ _ = true; kernel_rfl : drawX _ _ _), ?_⟩ | exact (by show drawK _ _ = true; kernel_rfl : drawX _ _ _) | simp -dsimp (maxSteps := 20000000) (disch := omega) only [simx, zzC, zzB, tys, ite_self, opnL, callB, callX, readsB, stepOp, nilCmp, ofVal, opBuiltin, opLen, PV.sk, scalBin, scalUn, intBin, opLoad, natOf, opConvert, opField, cellsP, oneP, Value.oneCell', opStore, toIV, scalT, scalA, scalC, boxesA, boxesC, zipB_none, zipB_mx, isZ, opZip, zeroP, opAppendZ, opMakeMap, opLookup, mboxB, opUpdate, ↓reduceIte, Nat.reduceSub, Nat.reduceEqDiff, Nat.reduceAdd, Nat.reduceMul, Nat.reduceLT, Nat.reduceLeDiff, Int.reduceToNat, Int.reduceLE, Int.reduceLT, Int.reduceNeg, reduceCtorEq, zzR, gos, Int.reduceAdd, Int.reduceSub, Int.reduceMul, Int.reduceEq, e1, e2, e3, e4, e5, e6, List.length_map, lu, rl])
def timesR (p r c : Int) (l x : List Int) : List Int × Int := if MatB p r c l && (HasB p x && decide ((x.length : Int) = c)) then (timesM p r.toNat c.toNat l x, 0) else ([], 1)
set_option maxHeartbeats 4000000 in
theorem times_walk (p r c : Int) (l x : List Int) (hl : l.length ≤ maxLen) (hx : x.length ≤ maxLen) (wl : W64s l) (wx : W64s x) : CallsP Try.prog 31 [u64 p, matP r c l, lu x] (.tup [lu (timesR p r c l x).1, i64 (timesR p r c l x).2]) := by
  have q1 := mright_walk p r c l hl
  have q2 := has_walk p x hx
  unfold timesR
  cases h1 : MatB p r c l with
  | false =>
    rw [h1] at q1
    refine X_startP (n := 49) (m := 3) (rs := [.tmp 6, .tmp 7]) Try.func31 rfl rfl rfl rfl (by decide) fun base => ?_
    repeat (first | ((first | refine X_call_fn2 rfl (by simp only [tys]) ?_ | refine X_dcall_fn2 rfl (by simp only [tys]) ?_); apply Exists.intro; apply And.intro; (focus (simp -dsimp only [simx, zzC, zzB, tys, ite_self, opnL, callB, callX, readsB, stepOp, nilCmp, ofVal, opBuiltin, opLen, PV.sk, scalBin, scalUn, intBin, opLoad, natOf, opConvert, opField, cellsP, oneP, Value.oneCell', opStore, toIV, scalT, scalA, scalC, boxesA, boxesC, zipB_none, zipB_mx, isZ, opZip, zeroP, opAppendZ, opMakeMap, opLookup, mboxB, opUpdate, ↓reduceIte, Nat.reduceSub, Nat.reduceEqDiff, Nat.reduceAdd, Nat.reduceMul, Nat.reduceLT, Nat.reduceLeDiff, Int.reduceToNat, Int.reduceLE, Int.reduceLT, Int.reduceNeg, reduceCtorEq, zzL, if_true, if_false] <;> rfl)); apply Exists.intro; apply And.intro; (focus (first | exact q1))) | refine X_opc rfl ?_ | refine X_dopc rfl ?_ | refine ⟨(by show drawK _ _ = true; kernel_rfl : drawX _ _ _), ?_⟩ | exact (by show drawK _ _ = true; kernel_rfl : drawX _ _ _) | simp -dsimp (maxSteps := 20000000) (disch := omega) only [simx, zzC, zzB, tys, ite_self, opnL, callB, callX, readsB, stepOp, nilCmp, ofVal, opBuiltin, opLen, PV.sk, scalBin, scalUn, intBin, opLoad, natOf, opConvert, opField, cellsP, oneP, Value.oneCell', opStore, toIV, scalT, scalA, scalC, boxesA, boxesC, zipB_none, zipB_mx, isZ, opZip, zeroP, opAppendZ, opMakeMap, opLookup, mboxB, opUpdate, ↓reduceIte, Nat.reduceSub, Nat.reduceEqDiff, Nat.reduceAdd, Nat.reduceMul, Nat.reduceLT, Nat.reduceLeDiff, Int.reduceToNat, Int.reduceLE, Int.reduceLT, Int.reduceNeg, reduceCtorEq, zzR, gos, Int.reduceAdd, Int.reduceSub, Int.reduceMul, Int.reduceEq])
    rfl
  | true =>
    rw [h1] at q1
    cases h2 : HasB p x with
    | false =>
      rw [h2] at q2
      refine X_startP (n := 49) (m := 3) (rs := [.tmp 6, .tmp 7]) Try.func31 rfl rfl rfl rfl (by decide) fun base => ?_
      repeat (first | ((first | refine X_call_fn2 rfl (by simp only [tys]) ?_ | refine X_dcall_fn2 rfl (by simp only [tys]) ?_); apply Exists.intro; apply And.intro; (focus (simp -dsimp only [simx, zzC, zzB, tys, ite_self, opnL, callB, callX, readsB, stepOp, nilCmp, ofVal, opBuiltin, opLen, PV.sk, scalBin, scalUn, intBin, opLoad, natOf, opConvert, opField, cellsP, oneP, Value.oneCell', opStore, toIV, scalT, scalA, scalC, boxesA, boxesC, zipB_none, zipB_mx, isZ, opZip, zeroP, opAppendZ, opMakeMap, opLookup, mboxB, opUpdate, ↓reduceIte, Nat.reduceSub, Nat.reduceEqDiff, Nat.reduceAdd, Nat.reduceMul, Nat.reduceLT, Nat.reduceLeDiff, Int.reduceToNat, Int.reduceLE, Int.reduceLT, Int.reduceNeg, reduceCtorEq, zzL, if_true, if_false] <;> rfl)); apply Exists.intro; apply And.intro; (focus (first | exact q1 | exact q2))) | refine X_opc rfl ?_ | refine X_dopc rfl ?_ | refine ⟨(by show drawK _ _ = true; kernel_rfl : drawX _ _ _), ?_⟩ | exact (by show drawK _ _ = true; kernel_rfl : drawX _ _ _) | simp -dsimp (maxSteps := 20000000) (disch := omega) only [simx, zzC, zzB, tys, ite_self, opnL, callB, callX, readsB, stepOp, nilCmp, ofVal, opBuiltin, opLen, PV.sk, scalBin, scalUn, intBin, opLoad, natOf, opConvert, opField, cellsP, oneP, Value.oneCell', opStore, toIV, scalT, scalA, scalC, boxesA, boxesC, zipB_none, zipB_mx, isZ, opZip, zeroP, opAppendZ, opMakeMap, opLookup, mboxB, opUpdate, ↓reduceIte, Nat.reduceSub, Nat.reduceEqDiff, Nat.reduceAdd, Nat.reduceMul, Nat.reduceLT, Nat.reduceLeDiff, Int.reduceToNat, Int.reduceLE, Int.reduceLT, Int.reduceNeg, reduceCtorEq, zzR, gos, Int.reduceAdd, Int.reduceSub, Int.reduceMul, Int.reduceEq])
      rfl
    | true =>
      rw [h2] at q2
      by_cases h3 : (x.length : Int) = c
      · rw [decide_eq_true h3]
        obtain ⟨R, C, rfl, rfl, M⟩ := mat_of h1
        have h3' : x.length = C := by omega
        simp only [Bool.and_self, if_true, Int.toNat_natCast]
        have r1 := M.r1
        have r2 := M.r2
        have p1 := M.hp.1
        unfold timesM
        refine X_startP (n := 49) (m := 3) (rs := [.tmp 6, .tmp 7]) Try.func31 rfl rfl rfl rfl (by decide) fun base => ?_
        repeat (first | ((first | refine X_call_fn2 rfl (by simp only [tys]) ?_ | refine X_dcall_fn2 rfl (by simp only [tys]) ?_); apply Exists.intro; apply And.intro; (focus (simp -dsimp only [simx, zzC, zzB, tys, ite_self, opnL, callB, callX, readsB, stepOp, nilCmp, ofVal, opBuiltin, opLen, PV.sk, scalBin, scalUn, intBin, opLoad, natOf, opConvert, opField, cellsP, oneP, Value.oneCell', opStore, toIV, scalT, scalA, scalC, boxesA, boxesC, zipB_none, zipB_mx, isZ, opZip, zeroP, opAppendZ, opMakeMap, opLookup, mboxB, opUpdate, ↓reduceIte, Nat.reduceSub, Nat.reduceEqDiff, Nat.reduceAdd, Nat.reduceMul, Nat.reduceLT, Nat.reduceLeDiff, Int.reduceToNat, Int.reduceLE, Int.reduceLT, Int.reduceNeg, reduceCtorEq, zzL, if_true, if_false] <;> rfl)); apply Exists.intro; apply And.intro; (focus (first | exact q1 | exact q2))) | refine X_opc rfl ?_ | refine X_dopc rfl ?_ | refine ⟨(by show drawK _ _ = true; kernel_rfl : drawX _ _ _), ?_⟩ | exact (by show drawK _ _ = true; kernel_rfl : drawX _ _ _) | simp -dsimp (maxSteps := 20000000) (disch := omega) only [simx, zzC, zzB, tys, ite_self, opnL, callB, callX, readsB, stepOp, nilCmp, ofVal, opBuiltin, opLen, PV.sk, scalBin, scalUn, intBin, opLoad, natOf, opConvert, opField, cellsP, oneP, Value.oneCell', opStore, toIV, scalT, scalA, scalC, boxesA, boxesC, zipB_none, zipB_mx, isZ, opZip, zeroP, opAppendZ, opMakeMap, opLookup, mboxB, opUpdate, ↓reduceIte, Nat.reduceSub, Nat.reduceEqDiff, Nat.reduceAdd, Nat.reduceMul, Nat.reduceLT, Nat.reduceLeDiff, Int.reduceToNat, Int.reduceLE, Int.reduceLT, Int.reduceNeg, reduceCtorEq, gos, Int.reduceAdd, Int.reduceSub, Int.reduceMul, Int.reduceEq])
        refine X_loopH [0, 2, 4, 8, 30, 31] [(8, 2) :: base] (0) (R) (fun j => True) (fun j => [(8, rowP ((8, 3) :: base) 1 j (((List.range j).map (fun i => dotI (rowM C l i) x % p)).map iu)), (31, i64 j)]) (fun j => rowH (Heap.none.put ((0, 0) :: base) (.var [i64 R, i64 C, lu l])) ((8, 3) :: base) j (((List.range j).map (fun i => dotI (rowM C l i) x % p)).map iu)) ?_ ?_ ?_ ?_ ?_ (by decide) ?_
        · exact (fgt_cons (by simp only [Heap.none_at]) (by (simp -dsimp only [zzB, tys, ite_self, opnL, callB, callX, readsB, stepOp, nilCmp, ofVal, opBuiltin, opLen, PV.sk, scalBin, scalUn, intBin, opLoad, natOf, opConvert, opField, cellsP, oneP, Value.oneCell', opStore, toIV, scalT, scalA, scalC, boxesA, boxesC, zipB_none, zipB_mx, isZ, opZip, zeroP, opAppendZ, opMakeMap, opLookup, mboxB, opUpdate, ↓reduceIte, Nat.reduceSub, Nat.reduceEqDiff, Nat.reduceAdd, Nat.reduceMul, Nat.reduceLT, Nat.reduceLeDiff, Int.reduceToNat, Int.reduceLE, Int.reduceLT, Int.reduceNeg, reduceCtorEq, notIn_cons, notIn_nil]) <;> simp [refsL, refsP, mem_refs_rowP]) (by repeat (first | exact noVar_none _ | refine noVar_row ?_ | refine noVar_map ?_ | refine noVar_rowH ?_ | refine noVar_var ?_ (by simp [refsL, refsP, mem_refs_rowP]))) (fgt_nil))
        · ((simp -dsimp (disch := omega) only [simx, zzB, tys, ite_self, opnL, callB, callX, readsB, stepOp, nilCmp, ofVal, opBuiltin, opLen, PV.sk, scalBin, scalUn, intBin, opLoad, natOf, opConvert, opField, cellsP, oneP, Value.oneCell', opStore, toIV, scalT, scalA, scalC, boxesA, boxesC, zipB_none, zipB_mx, isZ, opZip, zeroP, opAppendZ, opMakeMap, opLookup, mboxB, opUpdate, ↓reduceIte, Nat.reduceSub, Nat.reduceEqDiff, Nat.reduceAdd, Nat.reduceMul, Nat.reduceLT, Nat.reduceLeDiff, Int.reduceToNat, Int.reduceLE, Int.reduceLT, Int.reduceNeg, reduceCtorEq, gos, Int.reduceAdd, Int.reduceSub, Int.reduceMul, Int.reduceEq]) <;> first | rfl | simp [rowP])
        · funext c
          simp (maxSteps := 20000000) only [Heap.drop_at, rowH_app, Heap.put_at, Heap.none_at, List.mem_cons, List.not_mem_nil, or_false]
          by_cases e0 : c = (0, 0) :: base
          · subst e0; simp []
          by_cases e1 : c = (8, 2) :: base
          · subst e1; simp []
          simp [e0, e1]
        · omega
        · trivial
        · intro j hj _
          by_cases cj : j < R
          · have d1 := row_walk M.len M.r2 M.c2 cj
            have rl := rowM_len M.len cj
            have d2 := dot_walk p (rowM C l j) x (by rw [rl, mx_len]; have := M.c2; omega) hx (fun a ha => wl a (rowM_mem ha)) wx
            rw [show dotR p (rowM C l j) x = (dotI (rowM C l j) x % p, 0) by
              unfold dotR
              rw [show HasB p (rowM C l j) = true from (has_iff _ _).2 ⟨fun a ha => M.has a (rowM_mem ha), M.hp.1, M.hp.2⟩, h2, decide_eq_true (show (rowM C l j).length = x.length by omega)]; rfl] at d2
            have tk := timesM_take (p := p) (c := C) (l := l) (x := x) cj
            repeat (first | ((first | refine X_call_fn2 rfl (by simp only [tys]) ?_ | refine X_dcall_fn2 rfl (by simp only [tys]) ?_); apply Exists.intro; apply And.intro; (focus (simp -dsimp only [simx, zzC, zzB, tys, ite_self, opnL, callB, callX, readsB, stepOp, nilCmp, ofVal, opBuiltin, opLen, PV.sk, scalBin, scalUn, intBin, opLoad, natOf, opConvert, opField, cellsP, oneP, Value.oneCell', opStore, toIV, scalT, scalA, scalC, boxesA, boxesC, zipB_none, zipB_mx, isZ, opZip, zeroP, opAppendZ, opMakeMap, opLookup, mboxB, opUpdate, ↓reduceIte, Nat.reduceSub, Nat.reduceEqDiff, Nat.reduceAdd, Nat.reduceMul, Nat.reduceLT, Nat.reduceLeDiff, Int.reduceToNat, Int.reduceLE, Int.reduceLT, Int.reduceNeg, reduceCtorEq, zzL, if_true, if_false] <;> rfl)); apply Exists.intro; apply And.intro; (focus (first | exact d1 | exact d2))) | refine X_opc rfl ?_ | refine X_dopc rfl ?_ | refine ⟨(by show drawK _ _ = true; kernel_rfl : drawX _ _ _), ?_⟩ | exact (by show drawK _ _ = true; kernel_rfl : drawX _ _ _) | simp -dsimp (maxSteps := 20000000) (disch := omega) only [simx, zzC, zzB, tys, ite_self, opnL, callB, callX, readsB, stepOp, nilCmp, ofVal, opBuiltin, opLen, PV.sk, scalBin, scalUn, intBin, opLoad, natOf, opConvert, opField, cellsP, oneP, Value.oneCell', opStore, toIV, scalT, scalA, scalC, boxesA, boxesC, zipB_none, zipB_mx, isZ, opZip, zeroP, opAppendZ, opMakeMap, opLookup, mboxB, opUpdate, ↓reduceIte, Nat.reduceSub, Nat.reduceEqDiff, Nat.reduceAdd, Nat.reduceMul, Nat.reduceLT, Nat.reduceLeDiff, Int.reduceToNat, Int.reduceLE, Int.reduceLT, Int.reduceNeg, reduceCtorEq, gos, Int.reduceAdd, Int.reduceSub, Int.reduceMul, Int.reduceEq, cj])
            refine X_append_one 22 [.int .u64 0] [iu (dotI (rowM C l j) x % p)] (by simp only [tys]) (by simp only [tys]) rfl (by decide) (by simp) (by simp [Heap.put_at, Heap.none_at, rowH_app]) (by simp [Heap.put_at]; rfl) rfl (by simp only [tys]; omega) (by rw [mx_len]; omega) ?_
            repeat (first | refine X_opc rfl ?_ | refine X_dopc rfl ?_ | refine ⟨(by show drawK _ _ = true; kernel_rfl : drawX _ _ _), ?_⟩ | exact (by show drawK _ _ = true; kernel_rfl : drawX _ _ _) | simp -dsimp (maxSteps := 20000000) (disch := omega) only [simx, zzC, zzB, tys, ite_self, opnL, callB, callX, readsB, stepOp, nilCmp, ofVal, opBuiltin, opLen, PV.sk, scalBin, scalUn, intBin, opLoad, natOf, opConvert, opField, cellsP, oneP, Value.oneCell', opStore, toIV, scalT, scalA, scalC, boxesA, boxesC, zipB_none, zipB_mx, isZ, opZip, zeroP, opAppendZ, opMakeMap, opLookup, mboxB, opUpdate, ↓reduceIte, Nat.reduceSub, Nat.reduceEqDiff, Nat.reduceAdd, Nat.reduceMul, Nat.reduceLT, Nat.reduceLeDiff, Int.reduceToNat, Int.reduceLE, Int.reduceLT, Int.reduceNeg, reduceCtorEq, gos, Int.reduceAdd, Int.reduceSub, Int.reduceMul, Int.reduceEq, cj])
            refine ⟨cj, (fgt_cons (by simp only [Heap.none_at]) (by (simp -dsimp only [zzB, tys, ite_self, opnL, callB, callX, readsB, stepOp, nilCmp, ofVal, opBuiltin, opLen, PV.sk, scalBin, scalUn, intBin, opLoad, natOf, opConvert, opField, cellsP, oneP, Value.oneCell', opStore, toIV, scalT, scalA, scalC, boxesA, boxesC, zipB_none, zipB_mx, isZ, opZip, zeroP, opAppendZ, opMakeMap, opLookup, mboxB, opUpdate, ↓reduceIte, Nat.reduceSub, Nat.reduceEqDiff, Nat.reduceAdd, Nat.reduceMul, Nat.reduceLT, Nat.reduceLeDiff, Int.reduceToNat, Int.reduceLE, Int.reduceLT, Int.reduceNeg, reduceCtorEq, notIn_cons, notIn_nil]) <;> simp [refsL, refsP, mem_refs_rowP]) (by repeat (first | exact noVar_none _ | refine noVar_row ?_ | refine noVar_map ?_ | refine noVar_rowH ?_ | refine noVar_var ?_ (by simp [refsL, refsP, mem_refs_rowP]))) (fgt_nil)), ⟨?_, rfl⟩, ?_⟩
            · rw [tk]; simp
            · funext c
              simp (maxSteps := 20000000) only [Heap.drop_at, rowH_app, Heap.put_at, Heap.none_at, List.mem_cons, List.not_mem_nil, or_false]
              by_cases e0 : c = (0, 0) :: base
              · subst e0; simp [tk]
              by_cases e1 : c = (8, 2) :: base
              · subst e1; simp [tk]
              by_cases e2 : c = (8, 3) :: base
              · subst e2; simp [tk]
              simp [e0, e1, e2, tk]
          · have hj : j = R := by omega
            subst hj
            obtain ⟨s, rfl⟩ : ∃ s, j = s + 1 := ⟨j - 1, by omega⟩
            have e2 : (((List.range (s + 1)).map (fun i => dotI (rowM C l i) x % p)).map iu).take (s + 1) = ((List.range (s + 1)).map (fun i => dotI (rowM C l i) x % p)).map iu := List.take_of_length_le (by simp)
            repeat (first | refine X_opc rfl ?_ | refine X_dopc rfl ?_ | refine ⟨(by show drawK _ _ = true; kernel_rfl : drawX _ _ _), ?_⟩ | exact (by show drawK _ _ = true; kernel_rfl : drawX _ _ _) | simp -dsimp (maxSteps := 20000000) (disch := omega) only [simx, zzC, zzB, tys, ite_self, opnL, callB, callX, readsB, stepOp, nilCmp, ofVal, opBuiltin, opLen, PV.sk, scalBin, scalUn, intBin, opLoad, natOf, opConvert, opField, cellsP, oneP, Value.oneCell', opStore, toIV, scalT, scalA, scalC, boxesA, boxesC, zipB_none, zipB_mx, isZ, opZip, zeroP, opAppendZ, opMakeMap, opLookup, mboxB, opUpdate, ↓reduceIte, Nat.reduceSub, Nat.reduceEqDiff, Nat.reduceAdd, Nat.reduceMul, Nat.reduceLT, Nat.reduceLeDiff, Int.reduceToNat, Int.reduceLE, Int.reduceLT, Int.reduceNeg, reduceCtorEq, zzR, gos, Int.reduceAdd, Int.reduceSub, Int.reduceMul, Int.reduceEq, rowP_succ, rowH_succ, List.length_map, List.length_range, e2, lu])
      · rw [decide_eq_false h3]
        simp only [Bool.and_false, Bool.false_eq_true, if_false]
        refine X_startP (n := 49) (m := 3) (rs := [.tmp 6, .tmp 7]) Try.func31 rfl rfl rfl rfl (by decide) fun base => ?_
        repeat (first | ((first | refine X_call_fn2 rfl (by simp only [tys]) ?_ | refine X_dcall_fn2 rfl (by simp only [tys]) ?_); apply Exists.intro; apply And.intro; (focus (simp -dsimp only [simx, zzC, zzB, tys, ite_self, opnL, callB, callX, readsB, stepOp, nilCmp, ofVal, opBuiltin, opLen, PV.sk, scalBin, scalUn, intBin, opLoad, natOf, opConvert, opField, cellsP, oneP, Value.oneCell', opStore, toIV, scalT, scalA, scalC, boxesA, boxesC, zipB_none, zipB_mx, isZ, opZip, zeroP, opAppendZ, opMakeMap, opLookup, mboxB, opUpdate, ↓reduceIte, Nat.reduceSub, Nat.reduceEqDiff, Nat.reduceAdd, Nat.reduceMul, Nat.reduceLT, Nat.reduceLeDiff, Int.reduceToNat, Int.reduceLE, Int.reduceLT, Int.reduceNeg, reduceCtorEq, zzL, if_true, if_false] <;> rfl)); apply Exists.intro; apply And.intro; (focus (first | exact q1 | exact q2))) | refine X_opc rfl ?_ | refine X_dopc rfl ?_ | refine ⟨(by show drawK _ _ = true; kernel_rfl : drawX _ _ _), ?_⟩ | exact (by show drawK _ _ = true; kernel_rfl : drawX _ _ _) | simp -dsimp (maxSteps := 20000000) (disch := omega) only [simx, zzC, zzB, tys, ite_self, opnL, callB, callX, readsB, stepOp, nilCmp, ofVal, opBuiltin, opLen, PV.sk, scalBin, scalUn, intBin, opLoad, natOf, opConvert, opField, cellsP, oneP, Value.oneCell', opStore, toIV, scalT, scalA, scalC, boxesA, boxesC, zipB_none, zipB_mx, isZ, opZip, zeroP, opAppendZ, opMakeMap, opLookup, mboxB, opUpdate, ↓reduceIte, Nat.reduceSub, Nat.reduceEqDiff, Nat.reduceAdd, Nat.reduceMul, Nat.reduceLT, Nat.reduceLeDiff, Int.reduceToNat, Int.reduceLE, Int.reduceLT, Int.reduceNeg, reduceCtorEq, zzR, gos, Int.reduceAdd, Int.reduceSub, Int.reduceMul, Int.reduceEq])
        rfl
end Go.Proofs.Ythnfphgjfpcpbaa.TM
namespace Go.Proofs.Ythnfphgjfpcpbaa.TM
open Go Go.RowKit
attribute [local irreducible] K W WOps Effs Xg Xo Xr Xdg Xdo Xdr Xif CallsP CallR
def turnR (p r c : Int) (l : List Int) : (Int × Int × List Int) × Int := if MatB p r c l then ((c, r, turnM r.toNat c.toNat l), 0) else ((0, 0, []), 1)
abbrev mat2 (q : (Int × Int × List Int) × Int) : PV := .tup [matP q.1.1 q.1.2.1 q.1.2.2, i64 q.2]
set_option maxHeartbeats 2000000 in
theorem turn_walk (p r c : Int) (l : List Int) (hl : l.length ≤ maxLen) : CallsP Try.prog 49 [u64 p, matP r c l] (mat2 (turnR p r c l)) := by
  have q1 := mright_walk p r c l hl
  unfold turnR
  cases h1 : MatB p r c l with
  | false =>
    rw [h1] at q1
    refine X_startP (n := 49) (m := 2) (rs := [.cell 4 25, .tmp 5]) Try.func49 rfl rfl rfl rfl (by decide) fun base => ?_
    repeat (first | ((first | refine X_call_fn2 rfl (by simp only [tys]) ?_ | refine X_dcall_fn2 rfl (by simp only [tys]) ?_); apply Exists.intro; apply And.intro; (focus (simp -dsimp only [simx, zzC, zzB, tys, ite_self, opnL, callB, callX, readsB, stepOp, nilCmp, ofVal, opBuiltin, opLen, PV.sk, scalBin, scalUn, intBin, opLoad, natOf, opConvert, opField, cellsP, oneP, Value.oneCell', opStore, toIV, scalT, scalA, scalC, boxesA, boxesC, zipB_none, zipB_mx, isZ, opZip, zeroP, opAppendZ, opMakeMap, opLookup, mboxB, opUpdate, ↓reduceIte, Nat.reduceSub, Nat.reduceEqDiff, Nat.reduceAdd, Nat.reduceMul, Nat.reduceLT, Nat.reduceLeDiff, Int.reduceToNat, Int.reduceLE, Int.reduceLT, Int.reduceNeg, reduceCtorEq, zzL, if_true, if_false] <;> rfl)); apply Exists.intro; apply And.intro; (focus (first | exact q1))) | refine X_opc rfl ?_ | refine X_dopc rfl ?_ | refine ⟨(by show drawK _ _ = true; kernel_rfl : drawX _ _ _), ?_⟩ | exact (by show drawK _ _ = true; kernel_rfl : drawX _ _ _) | simp -dsimp (maxSteps := 20000000) (disch := omega) only [simx, zzC, zzB, tys, ite_self, opnL, callB, callX, readsB, stepOp, nilCmp, ofVal, opBuiltin, opLen, PV.sk, scalBin, scalUn, intBin, opLoad, natOf, opConvert, opField, cellsP, oneP, Value.oneCell', opStore, toIV, scalT, scalA, scalC, boxesA, boxesC, zipB_none, zipB_mx, isZ, opZip, zeroP, opAppendZ, opMakeMap, opLookup, mboxB, opUpdate, ↓reduceIte, Nat.reduceSub, Nat.reduceEqDiff, Nat.reduceAdd, Nat.reduceMul, Nat.reduceLT, Nat.reduceLeDiff, Int.reduceToNat, Int.reduceLE, Int.reduceLT, Int.reduceNeg, reduceCtorEq, zzR, gos, Int.reduceAdd, Int.reduceSub, Int.reduceMul, Int.reduceEq])
    rfl
  | true =>
    rw [h1] at q1
    obtain ⟨R, C, rfl, rfl, M⟩ := mat_of h1
    simp only [if_true, Int.toNat_natCast]
    have r1 := M.r1
    have r2 := M.r2
    have c1 := M.c1
    have c2 := M.c2
    have bd := rc_bd r2 c2
    have len := M.len
    have f1 : l.length * 8 ≤ 140737488355328 := by omega
    have f2 : l.length ≤ 140737488355328 := by omega
    have zf : List.map IV.v (zeroRow [Value.int .u64 0] l.length) = (turnJ R C l 0).map iu := by
      rw [turnJ_zero, len, Nat.mul_comm C R, List.map_replicate]
      induction R * C with
      | zero => rfl
      | succ n ih => rw [zeroRow_succ, List.map_append, ih]; rfl
    clear h1 hl
    refine X_startP (n := 49) (m := 2) (rs := [.cell 4 25, .tmp 5]) Try.func49 rfl rfl rfl rfl (by decide) fun base => ?_
    repeat (first | ((first | refine X_call_fn2 rfl (by simp only [tys]) ?_ | refine X_dcall_fn2 rfl (by simp only [tys]) ?_); apply Exists.intro; apply And.intro; (focus (simp -dsimp only [simx, zzC, zzB, tys, ite_self, opnL, callB, callX, readsB, stepOp, nilCmp, ofVal, opBuiltin, opLen, PV.sk, scalBin, scalUn, intBin, opLoad, natOf, opConvert, opField, cellsP, oneP, Value.oneCell', opStore, toIV, scalT, scalA, scalC, boxesA, boxesC, zipB_none, zipB_mx, isZ, opZip, zeroP, opAppendZ, opMakeMap, opLookup, mboxB, opUpdate, ↓reduceIte, Nat.reduceSub, Nat.reduceEqDiff, Nat.reduceAdd, Nat.reduceMul, Nat.reduceLT, Nat.reduceLeDiff, Int.reduceToNat, Int.reduceLE, Int.reduceLT, Int.reduceNeg, reduceCtorEq, zzL, if_true, if_false] <;> rfl)); apply Exists.intro; apply And.intro; (focus (first | exact q1))) | refine X_opc rfl ?_ | refine X_dopc rfl ?_ | refine ⟨(by show drawK _ _ = true; kernel_rfl : drawX _ _ _), ?_⟩ | exact (by show drawK _ _ = true; kernel_rfl : drawX _ _ _) | simp -dsimp (maxSteps := 20000000) (disch := omega) only [simx, zzC, zzB, tys, ite_self, opnL, callB, callX, readsB, stepOp, nilCmp, ofVal, opBuiltin, opLen, PV.sk, scalBin, scalUn, intBin, opLoad, natOf, opConvert, opField, cellsP, oneP, Value.oneCell', opStore, toIV, scalT, scalA, scalC, boxesA, boxesC, zipB_none, zipB_mx, isZ, opZip, zeroP, opAppendZ, opMakeMap, opLookup, mboxB, opUpdate, ↓reduceIte, Nat.reduceSub, Nat.reduceEqDiff, Nat.reduceAdd, Nat.reduceMul, Nat.reduceLT, Nat.reduceLeDiff, Int.reduceToNat, Int.reduceLE, Int.reduceLT, Int.reduceNeg, reduceCtorEq, gos, Int.reduceAdd, Int.reduceSub, Int.reduceMul, Int.reduceEq, zf, f1, f2])
    refine X_loopH [3, 4, 6, 24, 25, 26] [] (0) (l.length) (fun j => True) (fun j => [(26, i64 j)]) (fun j => (((Heap.none.put ((0, 0) :: base) (.var [i64 R, i64 C, lu l])).put ((0, 1) :: base) (.var [i64 0, i64 0, nilP])).put ((3, 7) :: base) (.row false ((turnJ R C l j).map iu))).put ((3, 9) :: base) (.var [i64 C, i64 R, .view ((3, 7) :: base) 0 1 l.length l.length])) ?_ ?_ ?_ ?_ ?_ (by decide) ?_
    · exact (fgt_nil)
    · ((simp -dsimp (disch := omega) only [simx, zzB, tys, ite_self, opnL, callB, callX, readsB, stepOp, nilCmp, ofVal, opBuiltin, opLen, PV.sk, scalBin, scalUn, intBin, opLoad, natOf, opConvert, opField, cellsP, oneP, Value.oneCell', opStore, toIV, scalT, scalA, scalC, boxesA, boxesC, zipB_none, zipB_mx, isZ, opZip, zeroP, opAppendZ, opMakeMap, opLookup, mboxB, opUpdate, ↓reduceIte, Nat.reduceSub, Nat.reduceEqDiff, Nat.reduceAdd, Nat.reduceMul, Nat.reduceLT, Nat.reduceLeDiff, Int.reduceToNat, Int.reduceLE, Int.reduceLT, Int.reduceNeg, reduceCtorEq, gos, Int.reduceAdd, Int.reduceSub, Int.reduceMul, Int.reduceEq]) <;> first | rfl | simp)
    · funext c
      simp (maxSteps := 20000000) only [Heap.drop_at, rowH_app, Heap.put_at, Heap.none_at, List.mem_cons, List.not_mem_nil, or_false]
      by_cases e0 : c = (0, 0) :: base
      · subst e0; simp [zf]
      by_cases e1 : c = (0, 1) :: base
      · subst e1; simp [zf]
      by_cases e2 : c = (3, 7) :: base
      · subst e2; simp [zf]
      by_cases e3 : c = (3, 9) :: base
      · subst e3; simp [zf]
      simp [e0, e1, e2, e3, zf]
    · omega
    · trivial
    · intro j hj _
      by_cases cj : j < l.length
      · have g1 : l[j]? = some l[j] := List.getElem?_eq_getElem cj
        obtain ⟨d1, d2⟩ := turn_dst (r := R) (c := C) (j := j) (by omega) (by omega)
        have nx := turnJ_next (r := R) (c := C) (j := j) (l := l) (by omega) (by omega) len (by omega)
        have m1 : j % C < C := Nat.mod_lt _ (by omega)
        have m2 := ic_bd (c := R) m1
        have m3 : C * R ≤ 4096 := rc_bd c2 r2
        have tl : (turnJ R C l j).length = l.length := by rw [turnJ_len, len, Nat.mul_comm]
        have e1 : (j : Int) % (C : Int) = ((j % C : Nat) : Int) := rfl
        have e2 : IntKind.i64.wrap (((j % C : Nat) : Int) * (R : Int)) = ((j % C * R : Nat) : Int) := by rw [← Int.natCast_mul]; exact iw_of (by omega) (by omega)
        have e3 : (j : Int) / (C : Int) = ((j / C : Nat) : Int) := rfl
        have e4 : IntKind.i64.wrap (((j % C * R : Nat) : Int) + ((j / C : Nat) : Int)) = ((j % C * R + j / C : Nat) : Int) := by
          rw [← Int.natCast_add]
          generalize j % C * R + j / C = z at d1
          exact iw_of (by omega) (by omega)
        have e5 : IntKind.i64.wrap ((j / C : Nat) : Int) = ((j / C : Nat) : Int) := by
          have := Nat.div_le_self j C
          generalize j / C = z at this
          exact iw_of (by omega) (by omega)
        have nx2 : ((turnJ R C l j).map iu).take (j % C * R + j / C) ++ [iu l[j]] ++ ((turnJ R C l j).map iu).drop (j % C * R + j / C + 1) = (turnJ R C l (j + 1)).map iu := by
          rw [← nx]; simp
        have d3 : j % C * R + j / C < l.length := by rw [len, Nat.mul_comm R C]; exact d1
        have d4 : j % C * R + j / C + 1 ≤ l.length := d3
        have cne : (C : Int) ≠ 0 := by omega
        have hj0 : (0 : Int) ≤ j := by omega
        clear nx d1 d2 m1 m2 m3 bd zf
        repeat (first | refine X_opc rfl ?_ | refine X_dopc rfl ?_ | refine ⟨(by show drawK _ _ = true; kernel_rfl : drawX _ _ _), ?_⟩ | exact (by show drawK _ _ = true; kernel_rfl : drawX _ _ _) | simp -dsimp (maxSteps := 20000000) (disch := omega) only [simx, zzC, zzB, tys, ite_self, opnL, callB, callX, readsB, stepOp, nilCmp, ofVal, opBuiltin, opLen, PV.sk, scalBin, scalUn, intBin, opLoad, natOf, opConvert, opField, cellsP, oneP, Value.oneCell', opStore, toIV, scalT, scalA, scalC, boxesA, boxesC, zipB_none, zipB_mx, isZ, opZip, zeroP, opAppendZ, opMakeMap, opLookup, mboxB, opUpdate, ↓reduceIte, Nat.reduceSub, Nat.reduceEqDiff, Nat.reduceAdd, Nat.reduceMul, Nat.reduceLT, Nat.reduceLeDiff, Int.reduceToNat, Int.reduceLE, Int.reduceLT, Int.reduceNeg, reduceCtorEq, gos, Int.reduceAdd, Int.reduceSub, Int.reduceMul, Int.reduceEq, cj, g1, tmod_nn hj0, tdiv_nn hj0, e1, e2, e3, e4, e5, nx2, d3, d4, cne, List.length_map, tl])
        refine ⟨cj, (fgt_nil), rfl, ?_⟩
        funext c
        simp (maxSteps := 20000000) only [Heap.drop_at, rowH_app, Heap.put_at, Heap.none_at, List.mem_cons, List.not_mem_nil, or_false]
        by_cases e0 : c = (0, 0) :: base
        · subst e0; simp []
        by_cases e1 : c = (0, 1) :: base
        · subst e1; simp []
        by_cases e2 : c = (3, 7) :: base
        · subst e2; simp []
        by_cases e3 : c = (3, 9) :: base
        · subst e3; simp []
        simp [e0, e1, e2, e3]
      · have hj : j = l.length := by omega
        subst hj
        have tl : (turnJ R C l l.length).length = l.length := by rw [turnJ_len, len, Nat.mul_comm]
        have e2 : ((turnJ R C l l.length).map iu).take l.length = (turnJ R C l l.length).map iu := List.take_of_length_le (by rw [List.length_map, tl]; exact Nat.le_refl _)
        have e3 : turnJ R C l l.length = turnM R C l := by rw [len]; exact turnJ_all (by omega)
        have e4 := turnM_len R C l
        repeat (first | refine X_opc rfl ?_ | refine X_dopc rfl ?_ | refine ⟨(by show drawK _ _ = true; kernel_rfl : drawX _ _ _), ?_⟩ | exact (by show drawK _ _ = true; kernel_rfl : drawX _ _ _) | simp -dsimp (maxSteps := 20000000) (disch := omega) only [simx, zzC, zzB, tys, ite_self, opnL, callB, callX, readsB, stepOp, nilCmp, ofVal, opBuiltin, opLen, PV.sk, scalBin, scalUn, intBin, opLoad, natOf, opConvert, opField, cellsP, oneP, Value.oneCell', opStore, toIV, scalT, scalA, scalC, boxesA, boxesC, zipB_none, zipB_mx, isZ, opZip, zeroP, opAppendZ, opMakeMap, opLookup, mboxB, opUpdate, ↓reduceIte, Nat.reduceSub, Nat.reduceEqDiff, Nat.reduceAdd, Nat.reduceMul, Nat.reduceLT, Nat.reduceLeDiff, Int.reduceToNat, Int.reduceLE, Int.reduceLT, Int.reduceNeg, reduceCtorEq, zzR, gos, Int.reduceAdd, Int.reduceSub, Int.reduceMul, Int.reduceEq, e2, tl, List.length_map])
        rw [e3, show l.length = (turnM R C l).length by rw [e4, len, Nat.mul_comm]]
def mlR (p : Int) (x : List Int) (r c : Int) (l : List Int) : List Int × Int := if MatB p r c l && (HasB p x && decide ((x.length : Int) = r)) then (timesM p c.toNat r.toNat (turnM r.toNat c.toNat l) x, 0) else ([], 1)
theorem left_walk (p r c : Int) (l x : List Int) (hl : l.length ≤ maxLen) (hx : x.length ≤ maxLen) (wl : W64s l) (wx : W64s x) : CallsP Try.prog 32 [u64 p, lu x, matP r c l] (.tup [lu (mlR p x r c l).1, i64 (mlR p x r c l).2]) := by
  have q1 := turn_walk p r c l hl
  unfold turnR at q1
  unfold mlR
  cases h1 : MatB p r c l with
  | false =>
    rw [h1] at q1
    refine X_startP (n := 25) (m := 3) (rs := [.tmp 6, .tmp 7]) Try.func32 rfl rfl rfl rfl (by decide) fun base => ?_
    repeat (first | ((first | refine X_call_fn2 rfl (by simp only [tys]) ?_ | refine X_dcall_fn2 rfl (by simp only [tys]) ?_); apply Exists.intro; apply And.intro; (focus (simp -dsimp only [simx, zzC, zzB, tys, ite_self, opnL, callB, callX, readsB, stepOp, nilCmp, ofVal, opBuiltin, opLen, PV.sk, scalBin, scalUn, intBin, opLoad, natOf, opConvert, opField, cellsP, oneP, Value.oneCell', opStore, toIV, scalT, scalA, scalC, boxesA, boxesC, zipB_none, zipB_mx, isZ, opZip, zeroP, opAppendZ, opMakeMap, opLookup, mboxB, opUpdate, ↓reduceIte, Nat.reduceSub, Nat.reduceEqDiff, Nat.reduceAdd, Nat.reduceMul, Nat.reduceLT, Nat.reduceLeDiff, Int.reduceToNat, Int.reduceLE, Int.reduceLT, Int.reduceNeg, reduceCtorEq, zzL, if_true, if_false] <;> rfl)); apply Exists.intro; apply And.intro; (focus (first | exact q1))) | refine X_opc rfl ?_ | refine X_dopc rfl ?_ | refine ⟨(by show drawK _ _ = true; kernel_rfl : drawX _ _ _), ?_⟩ | exact (by show drawK _ _ = true; kernel_rfl : drawX _ _ _) | simp -dsimp (maxSteps := 20000000) (disch := omega) only [simx, zzC, zzB, tys, ite_self, opnL, callB, callX, readsB, stepOp, nilCmp, ofVal, opBuiltin, opLen, PV.sk, scalBin, scalUn, intBin, opLoad, natOf, opConvert, opField, cellsP, oneP, Value.oneCell', opStore, toIV, scalT, scalA, scalC, boxesA, boxesC, zipB_none, zipB_mx, isZ, opZip, zeroP, opAppendZ, opMakeMap, opLookup, mboxB, opUpdate, ↓reduceIte, Nat.reduceSub, Nat.reduceEqDiff, Nat.reduceAdd, Nat.reduceMul, Nat.reduceLT, Nat.reduceLeDiff, Int.reduceToNat, Int.reduceLE, Int.reduceLT, Int.reduceNeg, reduceCtorEq, zzR, gos, Int.reduceAdd, Int.reduceSub, Int.reduceMul, Int.reduceEq])
    rfl
  | true =>
    rw [h1] at q1
    obtain ⟨R, C, rfl, rfl, M⟩ := mat_of h1
    simp only [if_true, Int.toNat_natCast] at q1
    have M2 := turn_mt M
    have q2 := times_walk p C R (turnM R C l) x (by rw [turnM_len, mx_len]; have := rc_bd M.c2 M.r2; omega) hx (fun a ha => wl a (turnM_mem (by have := M.r1; omega) M.len ha)) wx
    unfold timesR at q2
    rw [mat_mk M2] at q2
    simp only [Int.toNat_natCast] at q2 ⊢
    clear h1 M M2 hl hx wl wx
    obtain ⟨y, e, hy⟩ : ∃ y e, (if (true && (HasB p x && decide ((x.length : Int) = R))) = true then (timesM p C R (turnM R C l) x, (0 : Int)) else ([], 1)) = (y, e) := ⟨_, _, rfl⟩
    rw [hy] at q2 ⊢
    refine X_startP (n := 25) (m := 3) (rs := [.tmp 6, .tmp 7]) Try.func32 rfl rfl rfl rfl (by decide) fun base => ?_
    repeat (first | ((first | refine X_call_fn2 rfl (by simp only [tys]) ?_ | refine X_dcall_fn2 rfl (by simp only [tys]) ?_); apply Exists.intro; apply And.intro; (focus (simp -dsimp only [simx, zzC, zzB, tys, ite_self, opnL, callB, callX, readsB, stepOp, nilCmp, ofVal, opBuiltin, opLen, PV.sk, scalBin, scalUn, intBin, opLoad, natOf, opConvert, opField, cellsP, oneP, Value.oneCell', opStore, toIV, scalT, scalA, scalC, boxesA, boxesC, zipB_none, zipB_mx, isZ, opZip, zeroP, opAppendZ, opMakeMap, opLookup, mboxB, opUpdate, ↓reduceIte, Nat.reduceSub, Nat.reduceEqDiff, Nat.reduceAdd, Nat.reduceMul, Nat.reduceLT, Nat.reduceLeDiff, Int.reduceToNat, Int.reduceLE, Int.reduceLT, Int.reduceNeg, reduceCtorEq, zzL, if_true, if_false] <;> rfl)); apply Exists.intro; apply And.intro; (focus (first | exact q1 | exact q2))) | refine X_opc rfl ?_ | refine X_dopc rfl ?_ | refine ⟨(by show drawK _ _ = true; kernel_rfl : drawX _ _ _), ?_⟩ | exact (by show drawK _ _ = true; kernel_rfl : drawX _ _ _) | simp -dsimp (maxSteps := 20000000) (disch := omega) only [simx, zzC, zzB, tys, ite_self, opnL, callB, callX, readsB, stepOp, nilCmp, ofVal, opBuiltin, opLen, PV.sk, scalBin, scalUn, intBin, opLoad, natOf, opConvert, opField, cellsP, oneP, Value.oneCell', opStore, toIV, scalT, scalA, scalC, boxesA, boxesC, zipB_none, zipB_mx, isZ, opZip, zeroP, opAppendZ, opMakeMap, opLookup, mboxB, opUpdate, ↓reduceIte, Nat.reduceSub, Nat.reduceEqDiff, Nat.reduceAdd, Nat.reduceMul, Nat.reduceLT, Nat.reduceLeDiff, Int.reduceToNat, Int.reduceLE, Int.reduceLT, Int.reduceNeg, reduceCtorEq, zzR, gos, Int.reduceAdd, Int.reduceSub, Int.reduceMul, Int.reduceEq])
end Go.Proofs.Ythnfphgjfpcpbaa.TM
namespace Go.Proofs.Ythnfphgjfpcpbaa.TM
open Go Go.RowKit
attribute [local irreducible] K W WOps Effs Xg Xo Xr Xdg Xdo Xdr Xif CallsP CallR
theorem is_walk (p : Nat) (hp : p < 1048576) : ∃ b, CallsP Try.prog 55 [u64 p] (bl b) ∧ (b = true → Prm p) := by
  by_cases h2 : p < 2
  · refine ⟨false, ?_, fun h => by cases h⟩
    refine X_startP (n := 17) (m := 1) (rs := [.tmp 2]) Try.func55 rfl rfl rfl rfl (by decide) fun base => ?_
    repeat (first | refine X_opc rfl ?_ | refine X_dopc rfl ?_ | refine ⟨(by show drawK _ _ = true; kernel_rfl : drawX _ _ _), ?_⟩ | exact (by show drawK _ _ = true; kernel_rfl : drawX _ _ _) | simp -dsimp (maxSteps := 20000000) (disch := omega) only [simx, zzC, zzB, tys, ite_self, opnL, callB, callX, readsB, stepOp, nilCmp, ofVal, opBuiltin, opLen, PV.sk, scalBin, scalUn, intBin, opLoad, natOf, opConvert, opField, cellsP, oneP, Value.oneCell', opStore, toIV, scalT, scalA, scalC, boxesA, boxesC, zipB_none, zipB_mx, isZ, opZip, zeroP, opAppendZ, opMakeMap, opLookup, mboxB, opUpdate, ↓reduceIte, Nat.reduceSub, Nat.reduceEqDiff, Nat.reduceAdd, Nat.reduceMul, Nat.reduceLT, Nat.reduceLeDiff, Int.reduceToNat, Int.reduceLE, Int.reduceLT, Int.reduceNeg, reduceCtorEq, zzR, gos, Int.reduceAdd, Int.reduceSub, Int.reduceMul, Int.reduceEq])
  obtain ⟨d0, ⟨d2, dd⟩, dl⟩ := least (fun d => 2 ≤ d ∧ (p < d * d ∨ p % d = 0)) p ⟨by omega, .inr (Nat.mod_self p)⟩
  have lo : ∀ d, 2 ≤ d → d < d0 → d * d ≤ p ∧ p % d ≠ 0 := fun d h1 h3 => by
    have := dl d h3
    constructor
    · rcases Nat.lt_or_ge p (d * d) with h | h
      · exact absurd ⟨h1, .inl h⟩ this
      · exact h
    · intro h; exact this ⟨h1, .inr h⟩
  have dm : d0 ≤ 1024 := by
    rcases Nat.lt_or_ge 1024 d0 with h | h
    · have := (lo 1024 (by omega) h).1; omega
    · exact h
  have sq : ∀ j : Nat, j ≤ 1024 → j * j ≤ 1024 * 1024 := fun j h => Nat.mul_le_mul h h
  refine ⟨decide (p < d0 * d0), ?_, fun h => prm_of (by omega) fun d h1 h3 => ?_⟩
  · refine X_startP (n := 17) (m := 1) (rs := [.tmp 2]) Try.func55 rfl rfl rfl rfl (by decide) fun base => ?_
    repeat (first | refine X_opc rfl ?_ | refine X_dopc rfl ?_ | refine ⟨(by show drawK _ _ = true; kernel_rfl : drawX _ _ _), ?_⟩ | exact (by show drawK _ _ = true; kernel_rfl : drawX _ _ _) | simp -dsimp (maxSteps := 20000000) (disch := omega) only [simx, zzC, zzB, tys, ite_self, opnL, callB, callX, readsB, stepOp, nilCmp, ofVal, opBuiltin, opLen, PV.sk, scalBin, scalUn, intBin, opLoad, natOf, opConvert, opField, cellsP, oneP, Value.oneCell', opStore, toIV, scalT, scalA, scalC, boxesA, boxesC, zipB_none, zipB_mx, isZ, opZip, zeroP, opAppendZ, opMakeMap, opLookup, mboxB, opUpdate, ↓reduceIte, Nat.reduceSub, Nat.reduceEqDiff, Nat.reduceAdd, Nat.reduceMul, Nat.reduceLT, Nat.reduceLeDiff, Int.reduceToNat, Int.reduceLE, Int.reduceLT, Int.reduceNeg, reduceCtorEq, gos, Int.reduceAdd, Int.reduceSub, Int.reduceMul, Int.reduceEq])
    refine X_loopH [0, 3] [] (0) (d0 - 2) (fun j => True) (fun j => [(3, u64 ((2 + j : Nat) : Int))]) (fun j => Heap.none) ?_ ?_ ?_ ?_ ?_ (by decide) ?_
    · exact (fgt_nil)
    · ((simp -dsimp (disch := omega) only [simx, zzB, tys, ite_self, opnL, callB, callX, readsB, stepOp, nilCmp, ofVal, opBuiltin, opLen, PV.sk, scalBin, scalUn, intBin, opLoad, natOf, opConvert, opField, cellsP, oneP, Value.oneCell', opStore, toIV, scalT, scalA, scalC, boxesA, boxesC, zipB_none, zipB_mx, isZ, opZip, zeroP, opAppendZ, opMakeMap, opLookup, mboxB, opUpdate, ↓reduceIte, Nat.reduceSub, Nat.reduceEqDiff, Nat.reduceAdd, Nat.reduceMul, Nat.reduceLT, Nat.reduceLeDiff, Int.reduceToNat, Int.reduceLE, Int.reduceLT, Int.reduceNeg, reduceCtorEq, gos, Int.reduceAdd, Int.reduceSub, Int.reduceMul, Int.reduceEq]) <;> first | rfl | simp)
    · exact drop_nil _
    · omega
    · trivial
    · intro j hj _
      have s1 := sq (2 + j) (by omega)
      have e1 : IntKind.u64.wrap (((2 + j : Nat) : Int) * ((2 + j : Nat) : Int)) = (((2 + j) * (2 + j) : Nat) : Int) := by rw [← Int.natCast_mul]; exact uw_of (by omega) (by omega)
      by_cases cj : j < d0 - 2
      · obtain ⟨l1, l2⟩ := lo (2 + j) (by omega) (by omega)
        have e2 : (((2 + j) * (2 + j) : Nat) : Int) ≤ (p : Int) := by omega
        have e3 : ¬ (p : Int) % ((2 + j : Nat) : Int) = 0 := by rw [← Int.natCast_emod]; omega
        have e4 : IntKind.u64.wrap (((2 + j : Nat) : Int) + 1) = ((2 + (j + 1) : Nat) : Int) := by
          rw [show ((2 + j : Nat) : Int) + 1 = ((2 + (j + 1) : Nat) : Int) by omega]
          exact uw_of (by omega) (by omega)
        have e5 : ¬ ((2 + j : Nat) : Int) = 0 := by omega
        generalize (((2 + j) * (2 + j) : Nat) : Int) = sq2 at *
        clear lo dl dd sq
        repeat (first | refine X_opc rfl ?_ | refine X_dopc rfl ?_ | refine ⟨(by show drawK _ _ = true; kernel_rfl : drawX _ _ _), ?_⟩ | exact (by show drawK _ _ = true; kernel_rfl : drawX _ _ _) | simp -dsimp (maxSteps := 20000000) (disch := omega) only [simx, zzC, zzB, tys, ite_self, opnL, callB, callX, readsB, stepOp, nilCmp, ofVal, opBuiltin, opLen, PV.sk, scalBin, scalUn, intBin, opLoad, natOf, opConvert, opField, cellsP, oneP, Value.oneCell', opStore, toIV, scalT, scalA, scalC, boxesA, boxesC, zipB_none, zipB_mx, isZ, opZip, zeroP, opAppendZ, opMakeMap, opLookup, mboxB, opUpdate, ↓reduceIte, Nat.reduceSub, Nat.reduceEqDiff, Nat.reduceAdd, Nat.reduceMul, Nat.reduceLT, Nat.reduceLeDiff, Int.reduceToNat, Int.reduceLE, Int.reduceLT, Int.reduceNeg, reduceCtorEq, gos, Int.reduceAdd, Int.reduceSub, Int.reduceMul, Int.reduceEq, e1, e2, e3, e4, e5])
        exact ⟨cj, (fgt_nil), by first | exact drop_nil _ | exact ⟨rfl, drop_nil _⟩⟩
      · have hj' : 2 + j = d0 := by omega
        rw [hj'] at e1 s1 ⊢
        by_cases c : p < d0 * d0
        · rw [decide_eq_true c]
          have e2 : ¬ ((d0 * d0 : Nat) : Int) ≤ (p : Int) := by omega
          generalize ((d0 * d0 : Nat) : Int) = sq2 at *
          clear lo dl dd sq
          repeat (first | refine X_opc rfl ?_ | refine X_dopc rfl ?_ | refine ⟨(by show drawK _ _ = true; kernel_rfl : drawX _ _ _), ?_⟩ | exact (by show drawK _ _ = true; kernel_rfl : drawX _ _ _) | simp -dsimp (maxSteps := 20000000) (disch := omega) only [simx, zzC, zzB, tys, ite_self, opnL, callB, callX, readsB, stepOp, nilCmp, ofVal, opBuiltin, opLen, PV.sk, scalBin, scalUn, intBin, opLoad, natOf, opConvert, opField, cellsP, oneP, Value.oneCell', opStore, toIV, scalT, scalA, scalC, boxesA, boxesC, zipB_none, zipB_mx, isZ, opZip, zeroP, opAppendZ, opMakeMap, opLookup, mboxB, opUpdate, ↓reduceIte, Nat.reduceSub, Nat.reduceEqDiff, Nat.reduceAdd, Nat.reduceMul, Nat.reduceLT, Nat.reduceLeDiff, Int.reduceToNat, Int.reduceLE, Int.reduceLT, Int.reduceNeg, reduceCtorEq, zzR, gos, Int.reduceAdd, Int.reduceSub, Int.reduceMul, Int.reduceEq, e1, e2])
        · rw [decide_eq_false c]
          have e2 : ((d0 * d0 : Nat) : Int) ≤ (p : Int) := by omega
          have e3 : (p : Int) % (d0 : Int) = 0 := by
            rcases dd with h | h
            · exact absurd h c
            · rw [← Int.natCast_emod]; omega
          have e5 : ¬ (d0 : Int) = 0 := by omega
          generalize ((d0 * d0 : Nat) : Int) = sq2 at *
          clear lo dl dd sq
          repeat (first | refine X_opc rfl ?_ | refine X_dopc rfl ?_ | refine ⟨(by show drawK _ _ = true; kernel_rfl : drawX _ _ _), ?_⟩ | exact (by show drawK _ _ = true; kernel_rfl : drawX _ _ _) | simp -dsimp (maxSteps := 20000000) (disch := omega) only [simx, zzC, zzB, tys, ite_self, opnL, callB, callX, readsB, stepOp, nilCmp, ofVal, opBuiltin, opLen, PV.sk, scalBin, scalUn, intBin, opLoad, natOf, opConvert, opField, cellsP, oneP, Value.oneCell', opStore, toIV, scalT, scalA, scalC, boxesA, boxesC, zipB_none, zipB_mx, isZ, opZip, zeroP, opAppendZ, opMakeMap, opLookup, mboxB, opUpdate, ↓reduceIte, Nat.reduceSub, Nat.reduceEqDiff, Nat.reduceAdd, Nat.reduceMul, Nat.reduceLT, Nat.reduceLeDiff, Int.reduceToNat, Int.reduceLE, Int.reduceLT, Int.reduceNeg, reduceCtorEq, zzR, gos, Int.reduceAdd, Int.reduceSub, Int.reduceMul, Int.reduceEq, e1, e2, e3, e5])
  · rw [decide_eq_true_eq] at h
    exact (lo d h1 (sq_lt (Nat.lt_of_le_of_lt h3 h))).2
theorem equal_walk (a b : List Int) (hl : a.length ≤ maxLen) : CallsP Try.prog 60 [lu a, lu b] (bl (decide (a = b))) := by
  rw [mx_len] at hl
  by_cases c0 : (a.length : Int) = b.length
  case neg =>
    rw [decide_eq_false (by rintro rfl; exact c0 rfl)]
    refine X_startP (n := 26) (m := 2) (rs := [.tmp 4]) Try.func60 rfl rfl rfl rfl (by decide) fun base => ?_
    repeat (first | refine X_opc rfl ?_ | refine X_dopc rfl ?_ | refine ⟨(by show drawK _ _ = true; kernel_rfl : drawX _ _ _), ?_⟩ | exact (by show drawK _ _ = true; kernel_rfl : drawX _ _ _) | simp -dsimp (maxSteps := 20000000) (disch := omega) only [simx, zzC, zzB, tys, ite_self, opnL, callB, callX, readsB, stepOp, nilCmp, ofVal, opBuiltin, opLen, PV.sk, scalBin, scalUn, intBin, opLoad, natOf, opConvert, opField, cellsP, oneP, Value.oneCell', opStore, toIV, scalT, scalA, scalC, boxesA, boxesC, zipB_none, zipB_mx, isZ, opZip, zeroP, opAppendZ, opMakeMap, opLookup, mboxB, opUpdate, ↓reduceIte, Nat.reduceSub, Nat.reduceEqDiff, Nat.reduceAdd, Nat.reduceMul, Nat.reduceLT, Nat.reduceLeDiff, Int.reduceToNat, Int.reduceLE, Int.reduceLT, Int.reduceNeg, reduceCtorEq, zzR, gos, Int.reduceAdd, Int.reduceSub, Int.reduceMul, Int.reduceEq])
  refine X_startP (n := 26) (m := 2) (rs := [.tmp 4]) Try.func60 rfl rfl rfl rfl (by decide) fun base => ?_
  repeat (first | refine X_opc rfl ?_ | refine X_dopc rfl ?_ | refine ⟨(by show drawK _ _ = true; kernel_rfl : drawX _ _ _), ?_⟩ | exact (by show drawK _ _ = true; kernel_rfl : drawX _ _ _) | simp -dsimp (maxSteps := 20000000) (disch := omega) only [simx, zzC, zzB, tys, ite_self, opnL, callB, callX, readsB, stepOp, nilCmp, ofVal, opBuiltin, opLen, PV.sk, scalBin, scalUn, intBin, opLoad, natOf, opConvert, opField, cellsP, oneP, Value.oneCell', opStore, toIV, scalT, scalA, scalC, boxesA, boxesC, zipB_none, zipB_mx, isZ, opZip, zeroP, opAppendZ, opMakeMap, opLookup, mboxB, opUpdate, ↓reduceIte, Nat.reduceSub, Nat.reduceEqDiff, Nat.reduceAdd, Nat.reduceMul, Nat.reduceLT, Nat.reduceLeDiff, Int.reduceToNat, Int.reduceLE, Int.reduceLT, Int.reduceNeg, reduceCtorEq, gos, Int.reduceAdd, Int.reduceSub, Int.reduceMul, Int.reduceEq])
  refine X_loopH [0, 1, 12, 13] [] (0) (a.length) (fun j => a.take j = b.take j) (fun j => [(13, i64 j)]) (fun j => Heap.none) ?_ ?_ ?_ ?_ ?_ (by decide) ?_
  · exact (fgt_nil)
  · ((simp -dsimp (disch := omega) only [simx, zzB, tys, ite_self, opnL, callB, callX, readsB, stepOp, nilCmp, ofVal, opBuiltin, opLen, PV.sk, scalBin, scalUn, intBin, opLoad, natOf, opConvert, opField, cellsP, oneP, Value.oneCell', opStore, toIV, scalT, scalA, scalC, boxesA, boxesC, zipB_none, zipB_mx, isZ, opZip, zeroP, opAppendZ, opMakeMap, opLookup, mboxB, opUpdate, ↓reduceIte, Nat.reduceSub, Nat.reduceEqDiff, Nat.reduceAdd, Nat.reduceMul, Nat.reduceLT, Nat.reduceLeDiff, Int.reduceToNat, Int.reduceLE, Int.reduceLT, Int.reduceNeg, reduceCtorEq, gos, Int.reduceAdd, Int.reduceSub, Int.reduceMul, Int.reduceEq]) <;> first | rfl | simp)
  · exact drop_nil _
  · omega
  · rfl
  · intro j hj hf
    by_cases c : j < a.length
    · have c' : j < b.length := by omega
      have g1 : a[j]? = some a[j] := List.getElem?_eq_getElem c
      have g2 : b[j]? = some b[j] := List.getElem?_eq_getElem c'
      by_cases e : a[j] = b[j]
      · have nx := take_next c c' hf e
        rw [e] at g1
        generalize b[j] = y at g1 g2
        repeat (first | refine X_opc rfl ?_ | refine X_dopc rfl ?_ | refine ⟨(by show drawK _ _ = true; kernel_rfl : drawX _ _ _), ?_⟩ | exact (by show drawK _ _ = true; kernel_rfl : drawX _ _ _) | simp -dsimp (maxSteps := 20000000) (disch := omega) only [simx, zzC, zzB, tys, ite_self, opnL, callB, callX, readsB, stepOp, nilCmp, ofVal, opBuiltin, opLen, PV.sk, scalBin, scalUn, intBin, opLoad, natOf, opConvert, opField, cellsP, oneP, Value.oneCell', opStore, toIV, scalT, scalA, scalC, boxesA, boxesC, zipB_none, zipB_mx, isZ, opZip, zeroP, opAppendZ, opMakeMap, opLookup, mboxB, opUpdate, ↓reduceIte, Nat.reduceSub, Nat.reduceEqDiff, Nat.reduceAdd, Nat.reduceMul, Nat.reduceLT, Nat.reduceLeDiff, Int.reduceToNat, Int.reduceLE, Int.reduceLT, Int.reduceNeg, reduceCtorEq, gos, Int.reduceAdd, Int.reduceSub, Int.reduceMul, Int.reduceEq, c, c', g1, g2])
        exact ⟨c, (fgt_nil), nx, rfl, drop_nil _⟩
      · rw [decide_eq_false (by rintro rfl; exact e rfl)]
        generalize a[j] = x at g1 e
        generalize b[j] = y at g2 e
        repeat (first | refine X_opc rfl ?_ | refine X_dopc rfl ?_ | refine ⟨(by show drawK _ _ = true; kernel_rfl : drawX _ _ _), ?_⟩ | exact (by show drawK _ _ = true; kernel_rfl : drawX _ _ _) | simp -dsimp (maxSteps := 20000000) (disch := omega) only [simx, zzC, zzB, tys, ite_self, opnL, callB, callX, readsB, stepOp, nilCmp, ofVal, opBuiltin, opLen, PV.sk, scalBin, scalUn, intBin, opLoad, natOf, opConvert, opField, cellsP, oneP, Value.oneCell', opStore, toIV, scalT, scalA, scalC, boxesA, boxesC, zipB_none, zipB_mx, isZ, opZip, zeroP, opAppendZ, opMakeMap, opLookup, mboxB, opUpdate, ↓reduceIte, Nat.reduceSub, Nat.reduceEqDiff, Nat.reduceAdd, Nat.reduceMul, Nat.reduceLT, Nat.reduceLeDiff, Int.reduceToNat, Int.reduceLE, Int.reduceLT, Int.reduceNeg, reduceCtorEq, zzR, gos, Int.reduceAdd, Int.reduceSub, Int.reduceMul, Int.reduceEq, c, c', g1, g2])
    · have hj : j = a.length := by omega
      subst hj
      rw [List.take_length, List.take_of_length_le (by omega)] at hf
      rw [decide_eq_true hf]
      repeat (first | refine X_opc rfl ?_ | refine X_dopc rfl ?_ | refine ⟨(by show drawK _ _ = true; kernel_rfl : drawX _ _ _), ?_⟩ | exact (by show drawK _ _ = true; kernel_rfl : drawX _ _ _) | simp -dsimp (maxSteps := 20000000) (disch := omega) only [simx, zzC, zzB, tys, ite_self, opnL, callB, callX, readsB, stepOp, nilCmp, ofVal, opBuiltin, opLen, PV.sk, scalBin, scalUn, intBin, opLoad, natOf, opConvert, opField, cellsP, oneP, Value.oneCell', opStore, toIV, scalT, scalA, scalC, boxesA, boxesC, zipB_none, zipB_mx, isZ, opZip, zeroP, opAppendZ, opMakeMap, opLookup, mboxB, opUpdate, ↓reduceIte, Nat.reduceSub, Nat.reduceEqDiff, Nat.reduceAdd, Nat.reduceMul, Nat.reduceLT, Nat.reduceLeDiff, Int.reduceToNat, Int.reduceLE, Int.reduceLT, Int.reduceNeg, reduceCtorEq, zzR, gos, Int.reduceAdd, Int.reduceSub, Int.reduceMul, Int.reduceEq])
end Go.Proofs.Ythnfphgjfpcpbaa.TM
namespace Go.Proofs.Ythnfphgjfpcpbaa.TM
open Go Go.RowKit
attribute [local irreducible] K W WOps Effs Xg Xo Xr Xdg Xdo Xdr Xif CallsP CallR
theorem timesM_len (p : Int) (r c : Nat) (l x : List Int) : (timesM p r c l x).length = r := by simp [timesM]
def mulRow (p : Int) (ac : Nat) (al : List Int) (bc : Nat) (bl : List Int) (i : Nat) : List Int := timesM p bc ac (turnM ac bc bl) (rowM ac al i)
def mulM (p : Int) (ar ac : Nat) (al : List Int) (bc : Nat) (bl : List Int) : List Int := (List.range ar).flatMap (mulRow p ac al bc bl)
theorem mulM_next (p : Int) (j ac : Nat) (al : List Int) (bc : Nat) (bl : List Int) : mulM p (j + 1) ac al bc bl = mulM p j ac al bc bl ++ mulRow p ac al bc bl j := by
  unfold mulM; rw [List.range_succ, List.flatMap_append]; simp
theorem mulM_len (p : Int) (ac : Nat) (al : List Int) (bc : Nat) (bl : List Int) : ∀ j : Nat, (mulM p j ac al bc bl).length = j * bc
  | 0 => by simp [mulM]
  | j + 1 => by rw [mulM_next, List.length_append, mulM_len p ac al bc bl j, mulRow, timesM_len, Nat.succ_mul]
def mulR (p ar ac : Int) (al : List Int) (br bc : Int) (bl : List Int) : (Int × Int × List Int) × Int :=
  if MatB p ar ac al && (MatB p br bc bl && decide (ac = br)) then ((ar, bc, mulM p ar.toNat ac.toNat al bc.toNat bl), 0) else ((0, 0, []), 1)
set_option maxHeartbeats 2000000 in
theorem mmul_walk (p ar ac : Int) (al : List Int) (br bc : Int) (bl : List Int) (ha : al.length ≤ maxLen) (hb : bl.length ≤ maxLen) (wa : W64s al) (wb : W64s bl) :
    CallsP Try.prog 39 [u64 p, matP ar ac al, matP br bc bl] (mat2 (mulR p ar ac al br bc bl)) := by
  have q1 := mright_walk p ar ac al ha
  have q2 := mright_walk p br bc bl hb
  unfold mulR
  cases h1 : MatB p ar ac al with
  | false =>
    rw [h1] at q1
    refine X_startP (n := 56) (m := 3) (rs := [.cell 6 25, .tmp 7]) Try.func39 rfl rfl rfl rfl (by decide) fun base => ?_
    repeat (first | ((first | refine X_call_fn2 rfl (by simp only [tys]) ?_ | refine X_dcall_fn2 rfl (by simp only [tys]) ?_); apply Exists.intro; apply And.intro; (focus (simp -dsimp only [simx, zzC, zzB, tys, ite_self, opnL, callB, callX, readsB, stepOp, nilCmp, ofVal, opBuiltin, opLen, PV.sk, scalBin, scalUn, intBin, opLoad, natOf, opConvert, opField, cellsP, oneP, Value.oneCell', opStore, toIV, scalT, scalA, scalC, boxesA, boxesC, zipB_none, zipB_mx, isZ, opZip, zeroP, opAppendZ, opMakeMap, opLookup, mboxB, opUpdate, ↓reduceIte, Nat.reduceSub, Nat.reduceEqDiff, Nat.reduceAdd, Nat.reduceMul, Nat.reduceLT, Nat.reduceLeDiff, Int.reduceToNat, Int.reduceLE, Int.reduceLT, Int.reduceNeg, reduceCtorEq, zzL, if_true, if_false] <;> rfl)); apply Exists.intro; apply And.intro; (focus (first | exact q1))) | refine X_opc rfl ?_ | refine X_dopc rfl ?_ | refine ⟨(by show drawK _ _ = true; kernel_rfl : drawX _ _ _), ?_⟩ | exact (by show drawK _ _ = true; kernel_rfl : drawX _ _ _) | simp -dsimp (maxSteps := 20000000) (disch := omega) only [simx, zzC, zzB, tys, ite_self, opnL, callB, callX, readsB, stepOp, nilCmp, ofVal, opBuiltin, opLen, PV.sk, scalBin, scalUn, intBin, opLoad, natOf, opConvert, opField, cellsP, oneP, Value.oneCell', opStore, toIV, scalT, scalA, scalC, boxesA, boxesC, zipB_none, zipB_mx, isZ, opZip, zeroP, opAppendZ, opMakeMap, opLookup, mboxB, opUpdate, ↓reduceIte, Nat.reduceSub, Nat.reduceEqDiff, Nat.reduceAdd, Nat.reduceMul, Nat.reduceLT, Nat.reduceLeDiff, Int.reduceToNat, Int.reduceLE, Int.reduceLT, Int.reduceNeg, reduceCtorEq, zzR, gos, Int.reduceAdd, Int.reduceSub, Int.reduceMul, Int.reduceEq])
    rfl
  | true =>
    rw [h1] at q1
    cases h2 : MatB p br bc bl with
    | false =>
      rw [h2] at q2
      refine X_startP (n := 56) (m := 3) (rs := [.cell 6 25, .tmp 7]) Try.func39 rfl rfl rfl rfl (by decide) fun base => ?_
      repeat (first | ((first | refine X_call_fn2 rfl (by simp only [tys]) ?_ | refine X_dcall_fn2 rfl (by simp only [tys]) ?_); apply Exists.intro; apply And.intro; (focus (simp -dsimp only [simx, zzC, zzB, tys, ite_self, opnL, callB, callX, readsB, stepOp, nilCmp, ofVal, opBuiltin, opLen, PV.sk, scalBin, scalUn, intBin, opLoad, natOf, opConvert, opField, cellsP, oneP, Value.oneCell', opStore, toIV, scalT, scalA, scalC, boxesA, boxesC, zipB_none, zipB_mx, isZ, opZip, zeroP, opAppendZ, opMakeMap, opLookup, mboxB, opUpdate, ↓reduceIte, Nat.reduceSub, Nat.reduceEqDiff, Nat.reduceAdd, Nat.reduceMul, Nat.reduceLT, Nat.reduceLeDiff, Int.reduceToNat, Int.reduceLE, Int.reduceLT, Int.reduceNeg, reduceCtorEq, zzL, if_true, if_false] <;> rfl)); apply Exists.intro; apply And.intro; (focus (first | exact q1 | exact q2))) | refine X_opc rfl ?_ | refine X_dopc rfl ?_ | refine ⟨(by show drawK _ _ = true; kernel_rfl : drawX _ _ _), ?_⟩ | exact (by show drawK _ _ = true; kernel_rfl : drawX _ _ _) | simp -dsimp (maxSteps := 20000000) (disch := omega) only [simx, zzC, zzB, tys, ite_self, opnL, callB, callX, readsB, stepOp, nilCmp, ofVal, opBuiltin, opLen, PV.sk, scalBin, scalUn, intBin, opLoad, natOf, opConvert, opField, cellsP, oneP, Value.oneCell', opStore, toIV, scalT, scalA, scalC, boxesA, boxesC, zipB_none, zipB_mx, isZ, opZip, zeroP, opAppendZ, opMakeMap, opLookup, mboxB, opUpdate, ↓reduceIte, Nat.reduceSub, Nat.reduceEqDiff, Nat.reduceAdd, Nat.reduceMul, Nat.reduceLT, Nat.reduceLeDiff, Int.reduceToNat, Int.reduceLE, Int.reduceLT, Int.reduceNeg, reduceCtorEq, zzR, gos, Int.reduceAdd, Int.reduceSub, Int.reduceMul, Int.reduceEq])
      rfl
    | true =>
      rw [h2] at q2
      by_cases h3 : ac = br
      · subst h3
        rw [decide_eq_true rfl]
        obtain ⟨R, C, rfl, rfl, M⟩ := mat_of h1
        obtain ⟨C', D, hC, rfl, N⟩ := mat_of h2
        have : C = C' := by omega
        subst this
        simp only [Bool.and_self, if_true, Int.toNat_natCast]
        have r1 := M.r1
        have r2 := M.r2
        have c1 := M.c1
        have c2 := M.c2
        have d1 := N.c1
        have d2 := N.c2
        have bd := rc_bd r2 d2
        refine X_startP (n := 56) (m := 3) (rs := [.cell 6 25, .tmp 7]) Try.func39 rfl rfl rfl rfl (by decide) fun base => ?_
        repeat (first | ((first | refine X_call_fn2 rfl (by simp only [tys]) ?_ | refine X_dcall_fn2 rfl (by simp only [tys]) ?_); apply Exists.intro; apply And.intro; (focus (simp -dsimp only [simx, zzC, zzB, tys, ite_self, opnL, callB, callX, readsB, stepOp, nilCmp, ofVal, opBuiltin, opLen, PV.sk, scalBin, scalUn, intBin, opLoad, natOf, opConvert, opField, cellsP, oneP, Value.oneCell', opStore, toIV, scalT, scalA, scalC, boxesA, boxesC, zipB_none, zipB_mx, isZ, opZip, zeroP, opAppendZ, opMakeMap, opLookup, mboxB, opUpdate, ↓reduceIte, Nat.reduceSub, Nat.reduceEqDiff, Nat.reduceAdd, Nat.reduceMul, Nat.reduceLT, Nat.reduceLeDiff, Int.reduceToNat, Int.reduceLE, Int.reduceLT, Int.reduceNeg, reduceCtorEq, zzL, if_true, if_false] <;> rfl)); apply Exists.intro; apply And.intro; (focus (first | exact q1 | exact q2))) | refine X_opc rfl ?_ | refine X_dopc rfl ?_ | refine ⟨(by show drawK _ _ = true; kernel_rfl : drawX _ _ _), ?_⟩ | exact (by show drawK _ _ = true; kernel_rfl : drawX _ _ _) | simp -dsimp (maxSteps := 20000000) (disch := omega) only [simx, zzC, zzB, tys, ite_self, opnL, callB, callX, readsB, stepOp, nilCmp, ofVal, opBuiltin, opLen, PV.sk, scalBin, scalUn, intBin, opLoad, natOf, opConvert, opField, cellsP, oneP, Value.oneCell', opStore, toIV, scalT, scalA, scalC, boxesA, boxesC, zipB_none, zipB_mx, isZ, opZip, zeroP, opAppendZ, opMakeMap, opLookup, mboxB, opUpdate, ↓reduceIte, Nat.reduceSub, Nat.reduceEqDiff, Nat.reduceAdd, Nat.reduceMul, Nat.reduceLT, Nat.reduceLeDiff, Int.reduceToNat, Int.reduceLE, Int.reduceLT, Int.reduceNeg, reduceCtorEq, gos, Int.reduceAdd, Int.reduceSub, Int.reduceMul, Int.reduceEq])
        refine X_loopH [0, 4, 5, 6, 8, 36, 37] [] (0) (R) (fun j => True) (fun j => [(37, i64 j)]) (fun j => rowH ((((Heap.none.put ((0, 0) :: base) (.var [i64 R, i64 C, lu al])).put ((0, 1) :: base) (.var [i64 C, i64 D, lu bl])).put ((0, 2) :: base) (.var [i64 0, i64 0, nilP])).put ((3, 5) :: base) (.var [i64 R, i64 D, rowP ((8, 3) :: base) 1 (j * D) ((mulM p j C al D bl).map iu)])) ((8, 3) :: base) (j * D) ((mulM p j C al D bl).map iu)) ?_ ?_ ?_ ?_ ?_ (by decide) ?_
        · exact (fgt_nil)
        · ((simp -dsimp (disch := omega) only [simx, zzB, tys, ite_self, opnL, callB, callX, readsB, stepOp, nilCmp, ofVal, opBuiltin, opLen, PV.sk, scalBin, scalUn, intBin, opLoad, natOf, opConvert, opField, cellsP, oneP, Value.oneCell', opStore, toIV, scalT, scalA, scalC, boxesA, boxesC, zipB_none, zipB_mx, isZ, opZip, zeroP, opAppendZ, opMakeMap, opLookup, mboxB, opUpdate, ↓reduceIte, Nat.reduceSub, Nat.reduceEqDiff, Nat.reduceAdd, Nat.reduceMul, Nat.reduceLT, Nat.reduceLeDiff, Int.reduceToNat, Int.reduceLE, Int.reduceLT, Int.reduceNeg, reduceCtorEq, gos, Int.reduceAdd, Int.reduceSub, Int.reduceMul, Int.reduceEq]) <;> first | rfl | simp)
        · funext c
          simp (maxSteps := 20000000) only [Heap.drop_at, rowH_app, Heap.put_at, Heap.none_at, List.mem_cons, List.not_mem_nil, or_false]
          by_cases e0 : c = (0, 0) :: base
          · subst e0; simp [rowP]
          by_cases e1 : c = (0, 1) :: base
          · subst e1; simp [rowP]
          by_cases e2 : c = (0, 2) :: base
          · subst e2; simp [rowP]
          by_cases e3 : c = (3, 5) :: base
          · subst e3; simp [rowP]
          simp [e0, e1, e2, e3, rowP]
        · omega
        · trivial
        · intro j hj _
          by_cases cj : j < R
          · have g1 := row_walk M.len M.r2 M.c2 cj
            have rl := rowM_len M.len cj
            have g2 := left_walk p C D bl (rowM C al j) hb (by rw [rl, mx_len]; omega) wb (fun a h => wa a (rowM_mem h))
            rw [show mlR p (rowM C al j) C D bl = (mulRow p C al D bl j, 0) by
              unfold mlR mulRow
              rw [h2, show HasB p (rowM C al j) = true from (has_iff _ _).2 ⟨fun a h => M.has a (rowM_mem h), M.hp.1, M.hp.2⟩, decide_eq_true (show ((rowM C al j).length : Int) = C by rw [rl])]; rfl] at g2
            have tl : (mulRow p C al D bl j).length = D := by rw [mulRow, timesM_len]
            have ml := mulM_len p C al D bl j
            have nx := mulM_next p j C al D bl
            have sm : (j + 1) * D = j * D + D := Nat.succ_mul j D
            have b3 := ic_bd (c := D) cj
            clear M N q1 q2 h1 h2 wa wb ha hb hC
            repeat (first | ((first | refine X_call_fn2 rfl (by simp only [tys]) ?_ | refine X_dcall_fn2 rfl (by simp only [tys]) ?_); apply Exists.intro; apply And.intro; (focus (simp -dsimp only [simx, zzC, zzB, tys, ite_self, opnL, callB, callX, readsB, stepOp, nilCmp, ofVal, opBuiltin, opLen, PV.sk, scalBin, scalUn, intBin, opLoad, natOf, opConvert, opField, cellsP, oneP, Value.oneCell', opStore, toIV, scalT, scalA, scalC, boxesA, boxesC, zipB_none, zipB_mx, isZ, opZip, zeroP, opAppendZ, opMakeMap, opLookup, mboxB, opUpdate, ↓reduceIte, Nat.reduceSub, Nat.reduceEqDiff, Nat.reduceAdd, Nat.reduceMul, Nat.reduceLT, Nat.reduceLeDiff, Int.reduceToNat, Int.reduceLE, Int.reduceLT, Int.reduceNeg, reduceCtorEq, zzL, if_true, if_false] <;> rfl)); apply Exists.intro; apply And.intro; (focus (first | exact g1 | exact g2))) | refine X_opc rfl ?_ | refine X_dopc rfl ?_ | refine ⟨(by show drawK _ _ = true; kernel_rfl : drawX _ _ _), ?_⟩ | exact (by show drawK _ _ = true; kernel_rfl : drawX _ _ _) | simp -dsimp (maxSteps := 20000000) (disch := omega) only [simx, zzC, zzB, tys, ite_self, opnL, callB, callX, readsB, stepOp, nilCmp, ofVal, opBuiltin, opLen, PV.sk, scalBin, scalUn, intBin, opLoad, natOf, opConvert, opField, cellsP, oneP, Value.oneCell', opStore, toIV, scalT, scalA, scalC, boxesA, boxesC, zipB_none, zipB_mx, isZ, opZip, zeroP, opAppendZ, opMakeMap, opLookup, mboxB, opUpdate, ↓reduceIte, Nat.reduceSub, Nat.reduceEqDiff, Nat.reduceAdd, Nat.reduceMul, Nat.reduceLT, Nat.reduceLeDiff, Int.reduceToNat, Int.reduceLE, Int.reduceLT, Int.reduceNeg, reduceCtorEq, gos, Int.reduceAdd, Int.reduceSub, Int.reduceMul, Int.reduceEq, cj, lu, tl])
            refine X_append_list 22 [.int .u64 0] ((mulRow p C al D bl j).map iu) (by simp only [tys]) (by simp only [tys]) rfl (by decide) (by rw [List.length_map, ml, Nat.mul_one]) (by simp [Heap.put_at, Heap.none_at, rowH_app]) (by omega) (by rw [List.length_map, tl, Nat.mul_one]) (by simp only [tys]; omega) (by rw [mx_len]; omega) ?_
            have ep : rowP ((8, 3) :: base) 1 (j * D + D) ((mulM p j C al D bl).map iu ++ (mulRow p C al D bl j).map iu) = .view ((8, 3) :: base) 0 1 (j * D + D) ((mulM p j C al D bl).map iu ++ (mulRow p C al D bl j).map iu).length := if_neg (by omega)
            repeat (first | refine X_opc rfl ?_ | refine X_dopc rfl ?_ | refine ⟨(by show drawK _ _ = true; kernel_rfl : drawX _ _ _), ?_⟩ | exact (by show drawK _ _ = true; kernel_rfl : drawX _ _ _) | simp -dsimp (maxSteps := 20000000) (disch := omega) only [simx, zzC, zzB, tys, ite_self, opnL, callB, callX, readsB, stepOp, nilCmp, ofVal, opBuiltin, opLen, PV.sk, scalBin, scalUn, intBin, opLoad, natOf, opConvert, opField, cellsP, oneP, Value.oneCell', opStore, toIV, scalT, scalA, scalC, boxesA, boxesC, zipB_none, zipB_mx, isZ, opZip, zeroP, opAppendZ, opMakeMap, opLookup, mboxB, opUpdate, ↓reduceIte, Nat.reduceSub, Nat.reduceEqDiff, Nat.reduceAdd, Nat.reduceMul, Nat.reduceLT, Nat.reduceLeDiff, Int.reduceToNat, Int.reduceLE, Int.reduceLT, Int.reduceNeg, reduceCtorEq, gos, Int.reduceAdd, Int.reduceSub, Int.reduceMul, Int.reduceEq, ep])
            refine ⟨cj, (fgt_nil), rfl, ?_⟩
            rw [sm, nx, List.map_append, ep]
            have hd : ¬ D = 0 := by omega
            funext c
            simp (maxSteps := 20000000) only [Heap.drop_at, rowH_app, Heap.put_at, Heap.none_at, List.mem_cons, List.not_mem_nil, or_false]
            by_cases e0 : c = (0, 0) :: base
            · subst e0; simp [hd]
            by_cases e1 : c = (0, 1) :: base
            · subst e1; simp [hd]
            by_cases e2 : c = (0, 2) :: base
            · subst e2; simp [hd]
            by_cases e3 : c = (3, 5) :: base
            · subst e3; simp [hd]
            by_cases e4 : c = (8, 3) :: base
            · subst e4; simp [hd]
            simp [e0, e1, e2, e3, e4, hd]
          · have hj : j = R := by omega
            subst hj
            have ml := mulM_len p C al D bl j
            have hne : ¬ j * D = 0 := Nat.ne_of_gt (Nat.mul_pos (by omega) (by omega))
            have ep : rowP ((8, 3) :: base) 1 (j * D) ((mulM p j C al D bl).map iu) = .view ((8, 3) :: base) 0 1 (j * D) ((mulM p j C al D bl).map iu).length := if_neg hne
            have e2 : ((mulM p j C al D bl).map iu).take (j * D) = (mulM p j C al D bl).map iu := List.take_of_length_le (by simp [ml])
            repeat (first | refine X_opc rfl ?_ | refine X_dopc rfl ?_ | refine ⟨(by show drawK _ _ = true; kernel_rfl : drawX _ _ _), ?_⟩ | exact (by show drawK _ _ = true; kernel_rfl : drawX _ _ _) | simp -dsimp (maxSteps := 20000000) (disch := omega) only [simx, zzC, zzB, tys, ite_self, opnL, callB, callX, readsB, stepOp, nilCmp, ofVal, opBuiltin, opLen, PV.sk, scalBin, scalUn, intBin, opLoad, natOf, opConvert, opField, cellsP, oneP, Value.oneCell', opStore, toIV, scalT, scalA, scalC, boxesA, boxesC, zipB_none, zipB_mx, isZ, opZip, zeroP, opAppendZ, opMakeMap, opLookup, mboxB, opUpdate, ↓reduceIte, Nat.reduceSub, Nat.reduceEqDiff, Nat.reduceAdd, Nat.reduceMul, Nat.reduceLT, Nat.reduceLeDiff, Int.reduceToNat, Int.reduceLE, Int.reduceLT, Int.reduceNeg, reduceCtorEq, zzR, gos, Int.reduceAdd, Int.reduceSub, Int.reduceMul, Int.reduceEq, hne, ep, List.length_map, ml, e2, mat2])
            rw [← ml]
      · rw [decide_eq_false h3]
        simp only [Bool.and_false, Bool.false_eq_true, if_false]
        refine X_startP (n := 56) (m := 3) (rs := [.cell 6 25, .tmp 7]) Try.func39 rfl rfl rfl rfl (by decide) fun base => ?_
        repeat (first | ((first | refine X_call_fn2 rfl (by simp only [tys]) ?_ | refine X_dcall_fn2 rfl (by simp only [tys]) ?_); apply Exists.intro; apply And.intro; (focus (simp -dsimp only [simx, zzC, zzB, tys, ite_self, opnL, callB, callX, readsB, stepOp, nilCmp, ofVal, opBuiltin, opLen, PV.sk, scalBin, scalUn, intBin, opLoad, natOf, opConvert, opField, cellsP, oneP, Value.oneCell', opStore, toIV, scalT, scalA, scalC, boxesA, boxesC, zipB_none, zipB_mx, isZ, opZip, zeroP, opAppendZ, opMakeMap, opLookup, mboxB, opUpdate, ↓reduceIte, Nat.reduceSub, Nat.reduceEqDiff, Nat.reduceAdd, Nat.reduceMul, Nat.reduceLT, Nat.reduceLeDiff, Int.reduceToNat, Int.reduceLE, Int.reduceLT, Int.reduceNeg, reduceCtorEq, zzL, if_true, if_false] <;> rfl)); apply Exists.intro; apply And.intro; (focus (first | exact q1 | exact q2))) | refine X_opc rfl ?_ | refine X_dopc rfl ?_ | refine ⟨(by show drawK _ _ = true; kernel_rfl : drawX _ _ _), ?_⟩ | exact (by show drawK _ _ = true; kernel_rfl : drawX _ _ _) | simp -dsimp (maxSteps := 20000000) (disch := omega) only [simx, zzC, zzB, tys, ite_self, opnL, callB, callX, readsB, stepOp, nilCmp, ofVal, opBuiltin, opLen, PV.sk, scalBin, scalUn, intBin, opLoad, natOf, opConvert, opField, cellsP, oneP, Value.oneCell', opStore, toIV, scalT, scalA, scalC, boxesA, boxesC, zipB_none, zipB_mx, isZ, opZip, zeroP, opAppendZ, opMakeMap, opLookup, mboxB, opUpdate, ↓reduceIte, Nat.reduceSub, Nat.reduceEqDiff, Nat.reduceAdd, Nat.reduceMul, Nat.reduceLT, Nat.reduceLeDiff, Int.reduceToNat, Int.reduceLE, Int.reduceLT, Int.reduceNeg, reduceCtorEq, zzR, gos, Int.reduceAdd, Int.reduceSub, Int.reduceMul, Int.reduceEq])
        rfl
def oneJ (n j : Nat) : List Int := (List.range (n * n)).map fun q => if q / n = q % n ∧ q / n < j then 1 else 0
theorem oneJ_len (n j : Nat) : (oneJ n j).length = n * n := by simp [oneJ]
theorem oneJ_zero (n : Nat) : oneJ n 0 = List.replicate (n * n) 0 := by
  apply List.ext_getElem?
  intro i
  unfold oneJ
  rw [List.getElem?_map, List.getElem?_replicate]
  by_cases h : i < n * n
  · rw [if_pos h, List.getElem?_range h]; simp
  · rw [if_neg h, List.getElem?_eq_none (by simp; omega)]; rfl
theorem one_at {n j : Nat} (hj : j < n) : j * n + j < n * n ∧ (j * n + j) / n = j ∧ (j * n + j) % n = j := by
  have h := ic_bd (c := n) hj
  have hn : 0 < n := Nat.lt_of_le_of_lt (Nat.zero_le _) hj
  refine ⟨by omega, ?_, ?_⟩
  · rw [Nat.add_comm, Nat.add_mul_div_right _ _ hn, Nat.div_eq_of_lt hj, Nat.zero_add]
  · rw [Nat.add_comm, Nat.add_mul_mod_self_right, Nat.mod_eq_of_lt hj]
theorem oneJ_next {n j : Nat} (hj : j < n) : (oneJ n j).take (j * n + j) ++ [1] ++ (oneJ n j).drop (j * n + j + 1) = oneJ n (j + 1) := by
  obtain ⟨d1, d2, d3⟩ := one_at hj
  generalize hd : j * n + j = d at d1 d2 d3 ⊢
  have g : ∀ k i, i < n * n → (oneJ n k)[i]? = some (if i / n = i % n ∧ i / n < k then 1 else 0) := by
    intro k i hi; unfold oneJ; rw [List.getElem?_map, List.getElem?_range hi]; rfl
  have uq : ∀ i, i / n = i % n → i / n = j → i = d := by
    intro i h1 h2
    have := Nat.div_add_mod i n
    rw [← h1, h2] at this
    rw [← hd, ← this, Nat.mul_comm]
  apply List.ext_getElem?
  intro i
  have hlen : ((oneJ n j).take d).length = d := by rw [List.length_take, oneJ_len]; omega
  by_cases hi : i < n * n
  · rw [g _ _ hi, List.append_assoc, List.getElem?_append, hlen]
    have same : i ≠ d → (if i / n = i % n ∧ i / n < j then (1 : Int) else 0) = if i / n = i % n ∧ i / n < j + 1 then 1 else 0 := by
      intro hne
      congr 1
      simp only [eq_iff_iff]
      constructor
      · rintro ⟨h1, h2⟩; exact ⟨h1, Nat.lt_succ_of_lt h2⟩
      · rintro ⟨h1, h2⟩
        refine ⟨h1, ?_⟩
        rcases Nat.lt_or_ge (i / n) j with h3 | h3
        · exact h3
        · exact absurd (uq i h1 (Nat.le_antisymm (Nat.le_of_lt_succ h2) h3)) hne
    by_cases h1 : i < d
    · rw [if_pos h1, List.getElem?_take, if_pos h1, g _ _ hi, same (by omega)]
    · rw [if_neg h1, List.getElem?_append]
      by_cases h2 : i = d
      · subst h2
        rw [if_pos (by simp), d2, d3, if_pos ⟨rfl, Nat.lt_succ_self j⟩]
        simp
      · rw [if_neg (by simp; omega), List.getElem?_drop, List.length_singleton, show d + 1 + (i - d - 1) = i by omega, g _ _ hi, same h2]
  · rw [List.getElem?_eq_none (by simp [oneJ_len]; omega), List.getElem?_eq_none (by rw [oneJ_len]; omega)]
def mOneR (n : Int) : (Int × Int × List Int) × Int := if SideB n then ((n, n, oneJ n.toNat n.toNat), 0) else ((0, 0, []), 1)
set_option maxHeartbeats 2000000 in
theorem one_walk (n : Int) : CallsP Try.prog 38 [i64 n] (mat2 (mOneR n)) := by
  have q1 := side_walk n
  unfold mOneR
  cases h1 : SideB n with
  | false =>
    rw [h1] at q1
    refine X_startP (n := 31) (m := 1) (rs := [.cell 2 25, .tmp 3]) Try.func38 rfl rfl rfl rfl (by decide) fun base => ?_
    repeat (first | ((first | refine X_call_fn2 rfl (by simp only [tys]) ?_ | refine X_dcall_fn2 rfl (by simp only [tys]) ?_); apply Exists.intro; apply And.intro; (focus (simp -dsimp only [simx, zzC, zzB, tys, ite_self, opnL, callB, callX, readsB, stepOp, nilCmp, ofVal, opBuiltin, opLen, PV.sk, scalBin, scalUn, intBin, opLoad, natOf, opConvert, opField, cellsP, oneP, Value.oneCell', opStore, toIV, scalT, scalA, scalC, boxesA, boxesC, zipB_none, zipB_mx, isZ, opZip, zeroP, opAppendZ, opMakeMap, opLookup, mboxB, opUpdate, ↓reduceIte, Nat.reduceSub, Nat.reduceEqDiff, Nat.reduceAdd, Nat.reduceMul, Nat.reduceLT, Nat.reduceLeDiff, Int.reduceToNat, Int.reduceLE, Int.reduceLT, Int.reduceNeg, reduceCtorEq, zzL, if_true, if_false] <;> rfl)); apply Exists.intro; apply And.intro; (focus (first | exact q1))) | refine X_opc rfl ?_ | refine X_dopc rfl ?_ | refine ⟨(by show drawK _ _ = true; kernel_rfl : drawX _ _ _), ?_⟩ | exact (by show drawK _ _ = true; kernel_rfl : drawX _ _ _) | simp -dsimp (maxSteps := 20000000) (disch := omega) only [simx, zzC, zzB, tys, ite_self, opnL, callB, callX, readsB, stepOp, nilCmp, ofVal, opBuiltin, opLen, PV.sk, scalBin, scalUn, intBin, opLoad, natOf, opConvert, opField, cellsP, oneP, Value.oneCell', opStore, toIV, scalT, scalA, scalC, boxesA, boxesC, zipB_none, zipB_mx, isZ, opZip, zeroP, opAppendZ, opMakeMap, opLookup, mboxB, opUpdate, ↓reduceIte, Nat.reduceSub, Nat.reduceEqDiff, Nat.reduceAdd, Nat.reduceMul, Nat.reduceLT, Nat.reduceLeDiff, Int.reduceToNat, Int.reduceLE, Int.reduceLT, Int.reduceNeg, reduceCtorEq, zzR, gos, Int.reduceAdd, Int.reduceSub, Int.reduceMul, Int.reduceEq])
    rfl
  | true =>
    rw [h1] at q1
    rw [side_iff] at h1
    obtain ⟨N, rfl⟩ := Int.eq_ofNat_of_zero_le (show 0 ≤ n by omega)
    have n1 : 1 ≤ N := by omega
    have n2 : N ≤ 64 := by omega
    have bd := rc_bd n2 n2
    simp only [if_true, Int.toNat_natCast]
    have e0 : IntKind.i64.wrap ((N : Int) * (N : Int)) = ((N * N : Nat) : Int) := by rw [← Int.natCast_mul]; exact iw_of (by omega) (by omega)
    have f1 : N * N * 8 ≤ 140737488355328 := by omega
    have f2 : N * N ≤ 140737488355328 := by omega
    have zf : List.map IV.v (zeroRow [Value.int .u64 0] (N * N)) = (oneJ N 0).map iu := by
      rw [oneJ_zero, List.map_replicate]
      induction N * N with
      | zero => rfl
      | succ n ih => rw [zeroRow_succ, List.map_append, ih]; rfl
    have tl := oneJ_len N
    clear h1
    refine X_startP (n := 31) (m := 1) (rs := [.cell 2 25, .tmp 3]) Try.func38 rfl rfl rfl rfl (by decide) fun base => ?_
    repeat (first | ((first | refine X_call_fn2 rfl (by simp only [tys]) ?_ | refine X_dcall_fn2 rfl (by simp only [tys]) ?_); apply Exists.intro; apply And.intro; (focus (simp -dsimp only [simx, zzC, zzB, tys, ite_self, opnL, callB, callX, readsB, stepOp, nilCmp, ofVal, opBuiltin, opLen, PV.sk, scalBin, scalUn, intBin, opLoad, natOf, opConvert, opField, cellsP, oneP, Value.oneCell', opStore, toIV, scalT, scalA, scalC, boxesA, boxesC, zipB_none, zipB_mx, isZ, opZip, zeroP, opAppendZ, opMakeMap, opLookup, mboxB, opUpdate, ↓reduceIte, Nat.reduceSub, Nat.reduceEqDiff, Nat.reduceAdd, Nat.reduceMul, Nat.reduceLT, Nat.reduceLeDiff, Int.reduceToNat, Int.reduceLE, Int.reduceLT, Int.reduceNeg, reduceCtorEq, zzL, if_true, if_false] <;> rfl)); apply Exists.intro; apply And.intro; (focus (first | exact q1))) | refine X_opc rfl ?_ | refine X_dopc rfl ?_ | refine ⟨(by show drawK _ _ = true; kernel_rfl : drawX _ _ _), ?_⟩ | exact (by show drawK _ _ = true; kernel_rfl : drawX _ _ _) | simp -dsimp (maxSteps := 20000000) (disch := omega) only [simx, zzC, zzB, tys, ite_self, opnL, callB, callX, readsB, stepOp, nilCmp, ofVal, opBuiltin, opLen, PV.sk, scalBin, scalUn, intBin, opLoad, natOf, opConvert, opField, cellsP, oneP, Value.oneCell', opStore, toIV, scalT, scalA, scalC, boxesA, boxesC, zipB_none, zipB_mx, isZ, opZip, zeroP, opAppendZ, opMakeMap, opLookup, mboxB, opUpdate, ↓reduceIte, Nat.reduceSub, Nat.reduceEqDiff, Nat.reduceAdd, Nat.reduceMul, Nat.reduceLT, Nat.reduceLeDiff, Int.reduceToNat, Int.reduceLE, Int.reduceLT, Int.reduceNeg, reduceCtorEq, gos, Int.reduceAdd, Int.reduceSub, Int.reduceMul, Int.reduceEq, e0, zf, f1, f2, List.length_map, tl])
    refine X_loopH [0, 2, 4, 17, 18] [] (0) (N) (fun j => True) (fun j => [(18, i64 j)]) (fun j => (((Heap.none.put ((0, 0) :: base) (.var [i64 0, i64 0, nilP])).put ((3, 5) :: base) (.row false ((oneJ N j).map iu)))).put ((3, 7) :: base) (.var [i64 N, i64 N, .view ((3, 5) :: base) 0 1 (N * N) (N * N)])) ?_ ?_ ?_ ?_ ?_ (by decide) ?_
    · exact (fgt_nil)
    · ((simp -dsimp (disch := omega) only [simx, zzB, tys, ite_self, opnL, callB, callX, readsB, stepOp, nilCmp, ofVal, opBuiltin, opLen, PV.sk, scalBin, scalUn, intBin, opLoad, natOf, opConvert, opField, cellsP, oneP, Value.oneCell', opStore, toIV, scalT, scalA, scalC, boxesA, boxesC, zipB_none, zipB_mx, isZ, opZip, zeroP, opAppendZ, opMakeMap, opLookup, mboxB, opUpdate, ↓reduceIte, Nat.reduceSub, Nat.reduceEqDiff, Nat.reduceAdd, Nat.reduceMul, Nat.reduceLT, Nat.reduceLeDiff, Int.reduceToNat, Int.reduceLE, Int.reduceLT, Int.reduceNeg, reduceCtorEq, gos, Int.reduceAdd, Int.reduceSub, Int.reduceMul, Int.reduceEq]) <;> first | rfl | simp)
    · funext c
      simp (maxSteps := 20000000) only [Heap.drop_at, rowH_app, Heap.put_at, Heap.none_at, List.mem_cons, List.not_mem_nil, or_false]
      by_cases e0 : c = (0, 0) :: base
      · subst e0; simp [zf]
      by_cases e1 : c = (3, 5) :: base
      · subst e1; simp [zf]
      by_cases e2 : c = (3, 7) :: base
      · subst e2; simp [zf]
      simp [e0, e1, e2, zf]
    · omega
    · trivial
    · intro j hj _
      by_cases cj : j < N
      · obtain ⟨d1, _, _⟩ := one_at cj
        have nx := oneJ_next cj
        have m2 := ic_bd (c := N) cj
        have e2 : IntKind.i64.wrap ((j : Int) * (N : Int)) = ((j * N : Nat) : Int) := by rw [← Int.natCast_mul]; exact iw_of (by omega) (by omega)
        have e4 : IntKind.i64.wrap (((j * N : Nat) : Int) + (j : Int)) = ((j * N + j : Nat) : Int) := by
          rw [← Int.natCast_add]
          exact iw_of (by omega) (by omega)
        have nx2 : ((oneJ N j).map iu).take (j * N + j) ++ [IV.v (.int .u64 1)] ++ ((oneJ N j).map iu).drop (j * N + j + 1) = (oneJ N (j + 1)).map iu := by
          rw [← nx]; simp
        have d4 : j * N + j + 1 ≤ N * N := d1
        clear nx m2 bd zf
        repeat (first | refine X_opc rfl ?_ | refine X_dopc rfl ?_ | refine ⟨(by show drawK _ _ = true; kernel_rfl : drawX _ _ _), ?_⟩ | exact (by show drawK _ _ = true; kernel_rfl : drawX _ _ _) | simp -dsimp (maxSteps := 20000000) (disch := omega) only [simx, zzC, zzB, tys, ite_self, opnL, callB, callX, readsB, stepOp, nilCmp, ofVal, opBuiltin, opLen, PV.sk, scalBin, scalUn, intBin, opLoad, natOf, opConvert, opField, cellsP, oneP, Value.oneCell', opStore, toIV, scalT, scalA, scalC, boxesA, boxesC, zipB_none, zipB_mx, isZ, opZip, zeroP, opAppendZ, opMakeMap, opLookup, mboxB, opUpdate, ↓reduceIte, Nat.reduceSub, Nat.reduceEqDiff, Nat.reduceAdd, Nat.reduceMul, Nat.reduceLT, Nat.reduceLeDiff, Int.reduceToNat, Int.reduceLE, Int.reduceLT, Int.reduceNeg, reduceCtorEq, gos, Int.reduceAdd, Int.reduceSub, Int.reduceMul, Int.reduceEq, cj, e2, e4, nx2, d1, d4, List.length_map, tl])
        refine ⟨cj, (fgt_nil), rfl, ?_⟩
        funext c
        simp (maxSteps := 20000000) only [Heap.drop_at, rowH_app, Heap.put_at, Heap.none_at, List.mem_cons, List.not_mem_nil, or_false]
        by_cases e0 : c = (0, 0) :: base
        · subst e0; simp []
        by_cases e1 : c = (3, 5) :: base
        · subst e1; simp []
        by_cases e2 : c = (3, 7) :: base
        · subst e2; simp []
        simp [e0, e1, e2]
      · have hj : j = N := by omega
        subst hj
        have e2 : ((oneJ j j).map iu).take (j * j) = (oneJ j j).map iu := List.take_of_length_le (by rw [List.length_map, tl]; exact Nat.le_refl _)
        repeat (first | refine X_opc rfl ?_ | refine X_dopc rfl ?_ | refine ⟨(by show drawK _ _ = true; kernel_rfl : drawX _ _ _), ?_⟩ | exact (by show drawK _ _ = true; kernel_rfl : drawX _ _ _) | simp -dsimp (maxSteps := 20000000) (disch := omega) only [simx, zzC, zzB, tys, ite_self, opnL, callB, callX, readsB, stepOp, nilCmp, ofVal, opBuiltin, opLen, PV.sk, scalBin, scalUn, intBin, opLoad, natOf, opConvert, opField, cellsP, oneP, Value.oneCell', opStore, toIV, scalT, scalA, scalC, boxesA, boxesC, zipB_none, zipB_mx, isZ, opZip, zeroP, opAppendZ, opMakeMap, opLookup, mboxB, opUpdate, ↓reduceIte, Nat.reduceSub, Nat.reduceEqDiff, Nat.reduceAdd, Nat.reduceMul, Nat.reduceLT, Nat.reduceLeDiff, Int.reduceToNat, Int.reduceLE, Int.reduceLT, Int.reduceNeg, reduceCtorEq, zzR, gos, Int.reduceAdd, Int.reduceSub, Int.reduceMul, Int.reduceEq, e2, tl, List.length_map, mat2])
        rw [← tl j]
end Go.Proofs.Ythnfphgjfpcpbaa.TM
namespace Go.Proofs.Ythnfphgjfpcpbaa.TM
open Go Go.RowKit
attribute [local irreducible] K W WOps Effs Xg Xo Xr Xdg Xdo Xdr Xif CallsP CallR
def zeroV (n : Nat) : List Int := tbl n (fun _ => 0)
theorem zeroV_len (n : Nat) : (zeroV n).length = n := tbl_len ..
theorem zeroV_in {p : Int} (hp : Md p) (n : Nat) : ∀ a ∈ zeroV n, In p a := fun a ha => by
  obtain ⟨_, _, rfl⟩ := tbl_mem ha; exact ⟨by decide, by have := hp.1; omega⟩
theorem invsT_in {P R C : Nat} (hP : Prm P) (hp : Md P) {c : CupT} (hw : CupW P R C c) : (∀ a ∈ invsT P c, In P a) ∧ (invsT P c).length = c.1.length := by
  refine ⟨fun a ha => ?_, by unfold invsT; rw [tbl_len, hw.ul]⟩
  obtain ⟨k, hk, rfl⟩ := tbl_mem ha
  have hk' : k < c.1.length := by rw [← hw.ul]; exact hk
  obtain ⟨u1, u2⟩ := hw.ur (c.2.2.2.getD k []) (getD_mm hk)
  obtain ⟨q0, q1⟩ := hw.qb (c.2.1.getD k 0) (getD_mm (by rw [hw.ql]; exact hk'))
  have hi := getD_of u2 (i := (c.2.1.getD k 0).toNat) (by omega)
  exact (finvC_in hp.1 hp.2 hi (prm_gcd hP hi (hw.nz k hk'))).1
def solX (p : Int) (C : Nat) (c : CupT) (b : List Int) : List Int := svL p C c (invsT p c) (hlL p c b c.1.length) (zeroV C) c.1.length
theorem solX_len (p : Int) (C : Nat) (c : CupT) (b : List Int) : (solX p C c b).length = C := svL_len (zeroV_len C) _
theorem solX_in {p : Int} {C : Nat} (hp : Md p) (c : CupT) (b : List Int) : ∀ a ∈ solX p C c b, In p a := svL_in hp (zeroV_in hp C) (zeroV_len C) _
set_option maxHeartbeats 4000000 in
theorem solve_yes {P R C : Nat} {l b : List Int} (hP : Prm P) (M : Mt P R C l) (hin : ∀ a ∈ l, In P a) (hb : ∀ a ∈ b, In P a) (hbl : b.length = R) :
    CallsP Try.prog 15 [u64 P, matP R C l, lu b] (if timesM P R C l (solX P C (tkCup P C R l) b) = b then .tup [lu (solX P C (tkCup P C R l) b), i64 0] else .tup [lu [], i64 6]) := by
  have hp := M.hp
  have r2 := M.r2
  have c2 := M.c2
  have q1 := vector_walk P b R (by rw [hbl, mx_len]; omega)
  rw [(has_iff _ _).2 ⟨fun x hx => (hb x hx).2, hp.1, hp.2⟩, decide_eq_true (show (b.length : Int) = R by omega)] at q1
  have q2 := take8_yes hP M hin
  have hw := tkCup_W hP M hin
  have xl := solX_len P C (tkCup P C R l) b
  have xi := solX_in (C := C) hp (tkCup P C R l) b
  have vi := invsT_in hP hp hw
  have k1 := fun vs => halves_walk (l := l) (vs := vs) hp hw r2 hb hbl
  have zi := hlL_in hp hw hb hbl _ (Nat.le_refl _)
  have zl := hlL_len P (tkCup P C R l) b (tkCup P C R l).1.length
  have k2 := solved_walk (l := l) (x := zeroV C) (z := hlL P (tkCup P C R l) b (tkCup P C R l).1.length) hp hw r2 c2 (zeroV_in hp C) (zeroV_len C) zi zl vi.1 vi.2
  have k3 := times_walk P R C l (solX P C (tkCup P C R l) b) (by have := M.len; have := rc_bd r2 c2; rw [mx_len]; omega) (by rw [xl, mx_len]; omega) (fun a ha => in_w64 hp (hin a ha)) (fun a ha => in_w64 hp (xi a ha))
  rw [show timesR P R C l (solX P C (tkCup P C R l) b) = (timesM P R C l (solX P C (tkCup P C R l) b), 0) by
    unfold timesR; rw [mat_mk M, (has_iff _ _).2 ⟨fun x hx => (xi x hx).2, hp.1, hp.2⟩, decide_eq_true (show ((solX P C (tkCup P C R l) b).length : Int) = C by omega)]; rfl] at k3
  have k4 := equal_walk (timesM P R C l (solX P C (tkCup P C R l) b)) b (by rw [timesM_len, mx_len]; omega)
  have tml := timesM_len P R C l (solX P C (tkCup P C R l) b)
  change CallsW _ _ _ _ _ ((solX P C (tkCup P C R l) b).map iu) at k2
  generalize solX P C (tkCup P C R l) b = X at xl xi k2 k3 k4 tml ⊢
  generalize hlL P (tkCup P C R l) b (tkCup P C R l).1.length = Z at zi zl k1 k2
  generalize invsT P (tkCup P C R l) = vs at q2 vi k2
  have k1 := k1 vs
  generalize tkCup P C R l = c at q2 hw k1 k2 zl
  obtain ⟨rw0, cw, cc, uu⟩ := c
  generalize timesM P R C l X = TX at k3 k4 tml ⊢
  simp only at zl k2
  rw [show (lu b) = .i (.l R (b.map iu)) by rw [lu, hbl]] at k4
  rw [lu, xl] at k3
  rw [lu, zl] at k1
  have b1 : C * 8 ≤ 140737488355328 := by omega
  have b2 : C ≤ 140737488355328 := by omega
  have ez : (zeroRow [Value.int .u64 0] C).map IV.v = (zeroV C).map iu := zero_tbl C
  have nt : (X.map iu).take C = X.map iu := List.take_of_length_le (by simp [xl])
  have nb : (lu b) = .i (.l R (b.map iu)) := by rw [lu, hbl]
  rw [nb] at q1 ⊢
  by_cases hx : TX = b
  · rw [decide_eq_true hx] at k4
    rw [if_pos hx]
    refine X_startP (n := 49) (m := 3) (rs := [.tmp 6, .tmp 7]) Try.func15 rfl rfl rfl rfl (by decide) fun base => ?_
    repeat (first | ((first | refine X_call_fn2 rfl (by simp only [tys]) ?_ | refine X_dcall_fn2 rfl (by simp only [tys]) ?_); apply Exists.intro; apply And.intro; (focus (simp -dsimp only [simx, zzC, zzB, tys, ite_self, opnL, callB, callX, readsB, stepOp, nilCmp, ofVal, opBuiltin, opLen, PV.sk, scalBin, scalUn, intBin, opLoad, natOf, opConvert, opField, cellsP, oneP, Value.oneCell', opStore, toIV, scalT, scalA, scalC, boxesA, boxesC, zipB_none, zipB_mx, isZ, opZip, zeroP, opAppendZ, opMakeMap, opLookup, mboxB, opUpdate, ↓reduceIte, Nat.reduceSub, Nat.reduceEqDiff, Nat.reduceAdd, Nat.reduceMul, Nat.reduceLT, Nat.reduceLeDiff, Int.reduceToNat, Int.reduceLE, Int.reduceLT, Int.reduceNeg, reduceCtorEq, zzL, if_true, if_false] <;> rfl)); apply Exists.intro; apply And.intro; (focus (first | exact q1 | exact q2 | exact k1))) | refine X_opc rfl ?_ | refine X_dopc rfl ?_ | refine ⟨(by show drawK _ _ = true; kernel_rfl : drawX _ _ _), ?_⟩ | exact (by show drawK _ _ = true; kernel_rfl : drawX _ _ _) | simp -dsimp (maxSteps := 20000000) (disch := omega) only [simx, zzC, zzB, tys, ite_self, opnL, callB, callX, readsB, stepOp, nilCmp, ofVal, opBuiltin, opLen, PV.sk, scalBin, scalUn, intBin, opLoad, natOf, opConvert, opField, cellsP, oneP, Value.oneCell', opStore, toIV, scalT, scalA, scalC, boxesA, boxesC, zipB_none, zipB_mx, isZ, opZip, zeroP, opAppendZ, opMakeMap, opLookup, mboxB, opUpdate, ↓reduceIte, Nat.reduceSub, Nat.reduceEqDiff, Nat.reduceAdd, Nat.reduceMul, Nat.reduceLT, Nat.reduceLeDiff, Int.reduceToNat, Int.reduceLE, Int.reduceLT, Int.reduceNeg, reduceCtorEq, gos, Int.reduceAdd, Int.reduceSub, Int.reduceMul, Int.reduceEq, b1, b2])
    refine X_dcall_w (args := [takenP P R C l (rw0, cw, cc, uu) vs, .view ((6, 2) :: base) 0 1 C C, .i (.l rw0.length (Z.map iu))]) ((6, 2) :: base) k2 rfl (by simp only [tys]) rfl (by rw [← ez]; exact Heap.put_same _ _ _) (by simp [boxesA, boxesC]) (by simp [mapO, lowerW, isV, reV, boxesA, boxesC, lowerA, lowerC]) rfl (by simp [xl, zeroV_len]) ?_
    rw [show (List.filter (notB ((6, 2) :: base)) (List.flatMap boxesA [takenP P R C l (rw0, cw, cc, uu) vs, .view ((6, 2) :: base) 0 1 C C, .i (.l rw0.length (Z.map iu))])) = [] by simp [boxesA, boxesC, notB]]
    repeat (first | ((first | refine X_call_fn2 rfl (by simp only [tys]) ?_ | refine X_dcall_fn2 rfl (by simp only [tys]) ?_); apply Exists.intro; apply And.intro; (focus (simp -dsimp only [simx, zzC, zzB, tys, ite_self, opnL, callB, callX, readsB, stepOp, nilCmp, ofVal, opBuiltin, opLen, PV.sk, scalBin, scalUn, intBin, opLoad, natOf, opConvert, opField, cellsP, oneP, Value.oneCell', opStore, toIV, scalT, scalA, scalC, boxesA, boxesC, zipB_none, zipB_mx, isZ, opZip, zeroP, opAppendZ, opMakeMap, opLookup, mboxB, opUpdate, ↓reduceIte, Nat.reduceSub, Nat.reduceEqDiff, Nat.reduceAdd, Nat.reduceMul, Nat.reduceLT, Nat.reduceLeDiff, Int.reduceToNat, Int.reduceLE, Int.reduceLT, Int.reduceNeg, reduceCtorEq, zzL, if_true, if_false, List.length_map, xl, nt] <;> rfl)); apply Exists.intro; apply And.intro; (focus (first | exact k3 | exact k4))) | refine X_opc rfl ?_ | refine X_dopc rfl ?_ | refine ⟨(by show drawK _ _ = true; kernel_rfl : drawX _ _ _), ?_⟩ | exact (by show drawK _ _ = true; kernel_rfl : drawX _ _ _) | simp -dsimp (maxSteps := 20000000) (disch := omega) only [simx, zzC, zzB, tys, ite_self, opnL, callB, callX, readsB, stepOp, nilCmp, ofVal, opBuiltin, opLen, PV.sk, scalBin, scalUn, intBin, opLoad, natOf, opConvert, opField, cellsP, oneP, Value.oneCell', opStore, toIV, scalT, scalA, scalC, boxesA, boxesC, zipB_none, zipB_mx, isZ, opZip, zeroP, opAppendZ, opMakeMap, opLookup, mboxB, opUpdate, ↓reduceIte, Nat.reduceSub, Nat.reduceEqDiff, Nat.reduceAdd, Nat.reduceMul, Nat.reduceLT, Nat.reduceLeDiff, Int.reduceToNat, Int.reduceLE, Int.reduceLT, Int.reduceNeg, reduceCtorEq, zzR, gos, Int.reduceAdd, Int.reduceSub, Int.reduceMul, Int.reduceEq, List.length_map, xl, nt])
    simp [xl]
  · rw [decide_eq_false hx] at k4
    rw [if_neg hx]
    refine X_startP (n := 49) (m := 3) (rs := [.tmp 6, .tmp 7]) Try.func15 rfl rfl rfl rfl (by decide) fun base => ?_
    repeat (first | ((first | refine X_call_fn2 rfl (by simp only [tys]) ?_ | refine X_dcall_fn2 rfl (by simp only [tys]) ?_); apply Exists.intro; apply And.intro; (focus (simp -dsimp only [simx, zzC, zzB, tys, ite_self, opnL, callB, callX, readsB, stepOp, nilCmp, ofVal, opBuiltin, opLen, PV.sk, scalBin, scalUn, intBin, opLoad, natOf, opConvert, opField, cellsP, oneP, Value.oneCell', opStore, toIV, scalT, scalA, scalC, boxesA, boxesC, zipB_none, zipB_mx, isZ, opZip, zeroP, opAppendZ, opMakeMap, opLookup, mboxB, opUpdate, ↓reduceIte, Nat.reduceSub, Nat.reduceEqDiff, Nat.reduceAdd, Nat.reduceMul, Nat.reduceLT, Nat.reduceLeDiff, Int.reduceToNat, Int.reduceLE, Int.reduceLT, Int.reduceNeg, reduceCtorEq, zzL, if_true, if_false] <;> rfl)); apply Exists.intro; apply And.intro; (focus (first | exact q1 | exact q2 | exact k1))) | refine X_opc rfl ?_ | refine X_dopc rfl ?_ | refine ⟨(by show drawK _ _ = true; kernel_rfl : drawX _ _ _), ?_⟩ | exact (by show drawK _ _ = true; kernel_rfl : drawX _ _ _) | simp -dsimp (maxSteps := 20000000) (disch := omega) only [simx, zzC, zzB, tys, ite_self, opnL, callB, callX, readsB, stepOp, nilCmp, ofVal, opBuiltin, opLen, PV.sk, scalBin, scalUn, intBin, opLoad, natOf, opConvert, opField, cellsP, oneP, Value.oneCell', opStore, toIV, scalT, scalA, scalC, boxesA, boxesC, zipB_none, zipB_mx, isZ, opZip, zeroP, opAppendZ, opMakeMap, opLookup, mboxB, opUpdate, ↓reduceIte, Nat.reduceSub, Nat.reduceEqDiff, Nat.reduceAdd, Nat.reduceMul, Nat.reduceLT, Nat.reduceLeDiff, Int.reduceToNat, Int.reduceLE, Int.reduceLT, Int.reduceNeg, reduceCtorEq, gos, Int.reduceAdd, Int.reduceSub, Int.reduceMul, Int.reduceEq, b1, b2])
    refine X_dcall_w (args := [takenP P R C l (rw0, cw, cc, uu) vs, .view ((6, 2) :: base) 0 1 C C, .i (.l rw0.length (Z.map iu))]) ((6, 2) :: base) k2 rfl (by simp only [tys]) rfl (by rw [← ez]; exact Heap.put_same _ _ _) (by simp [boxesA, boxesC]) (by simp [mapO, lowerW, isV, reV, boxesA, boxesC, lowerA, lowerC]) rfl (by simp [xl, zeroV_len]) ?_
    rw [show (List.filter (notB ((6, 2) :: base)) (List.flatMap boxesA [takenP P R C l (rw0, cw, cc, uu) vs, .view ((6, 2) :: base) 0 1 C C, .i (.l rw0.length (Z.map iu))])) = [] by simp [boxesA, boxesC, notB]]
    repeat (first | ((first | refine X_call_fn2 rfl (by simp only [tys]) ?_ | refine X_dcall_fn2 rfl (by simp only [tys]) ?_); apply Exists.intro; apply And.intro; (focus (simp -dsimp only [simx, zzC, zzB, tys, ite_self, opnL, callB, callX, readsB, stepOp, nilCmp, ofVal, opBuiltin, opLen, PV.sk, scalBin, scalUn, intBin, opLoad, natOf, opConvert, opField, cellsP, oneP, Value.oneCell', opStore, toIV, scalT, scalA, scalC, boxesA, boxesC, zipB_none, zipB_mx, isZ, opZip, zeroP, opAppendZ, opMakeMap, opLookup, mboxB, opUpdate, ↓reduceIte, Nat.reduceSub, Nat.reduceEqDiff, Nat.reduceAdd, Nat.reduceMul, Nat.reduceLT, Nat.reduceLeDiff, Int.reduceToNat, Int.reduceLE, Int.reduceLT, Int.reduceNeg, reduceCtorEq, zzL, if_true, if_false, List.length_map, xl, nt] <;> rfl)); apply Exists.intro; apply And.intro; (focus (first | exact k3 | exact k4))) | refine X_opc rfl ?_ | refine X_dopc rfl ?_ | refine ⟨(by show drawK _ _ = true; kernel_rfl : drawX _ _ _), ?_⟩ | exact (by show drawK _ _ = true; kernel_rfl : drawX _ _ _) | simp -dsimp (maxSteps := 20000000) (disch := omega) only [simx, zzC, zzB, tys, ite_self, opnL, callB, callX, readsB, stepOp, nilCmp, ofVal, opBuiltin, opLen, PV.sk, scalBin, scalUn, intBin, opLoad, natOf, opConvert, opField, cellsP, oneP, Value.oneCell', opStore, toIV, scalT, scalA, scalC, boxesA, boxesC, zipB_none, zipB_mx, isZ, opZip, zeroP, opAppendZ, opMakeMap, opLookup, mboxB, opUpdate, ↓reduceIte, Nat.reduceSub, Nat.reduceEqDiff, Nat.reduceAdd, Nat.reduceMul, Nat.reduceLT, Nat.reduceLeDiff, Int.reduceToNat, Int.reduceLE, Int.reduceLT, Int.reduceNeg, reduceCtorEq, zzR, gos, Int.reduceAdd, Int.reduceSub, Int.reduceMul, Int.reduceEq, List.length_map, xl, nt])
    rfl
end Go.Proofs.Ythnfphgjfpcpbaa.TM
namespace Go.Proofs.Ythnfphgjfpcpbaa.TM
open Go Go.RowKit
attribute [local irreducible] K W WOps Effs Xg Xo Xr Xdg Xdo Xdr Xif CallsP CallR
theorem left8_yes {P R C : Nat} {l : List Int} (hP : Prm P) (M : Mt P R C l) (hin : ∀ a ∈ l, In P a) :
    CallsP Try.prog 18 [u64 P, matP R C l] (.tup [lu (fstR P R (tkCup P C R l) (fun _ => true)).1, i64 (fstR P R (tkCup P C R l) (fun _ => true)).2]) := by
  have hp := M.hp
  have q2 := take8_yes hP M hin
  have hw := tkCup_W hP M hin
  have vi := invsT_in hP hp hw
  have k1 := fun (b0 : Name) (h : Heap) h0 => firstL_walk (base := b0) (h := h) (l := l) (vs := invsT P (tkCup P C R l)) hp hw M.r2 h0
  unfold fstR
  unfold fstP at k1
  generalize invsT P (tkCup P C R l) = vs at q2 vi k1
  generalize tkCup P C R l = c at q2 hw k1 ⊢
  obtain ⟨rw0, cw, cc, uu⟩ := c
  simp only at k1 ⊢
  cases hf : fstI rw0 (fun i => true) R with
  | none =>
    rw [hf] at k1
    simp only at k1 ⊢
    refine X_startP (n := 21) (m := 2) (rs := [.tmp 4, .tmp 5]) Try.func18 rfl rfl rfl rfl (by decide) fun base => ?_
    repeat (first | ((first | refine X_call_fn2 rfl (by simp only [tys]) ?_ | refine X_dcall_fn2 rfl (by simp only [tys]) ?_); apply Exists.intro; apply And.intro; (focus (simp -dsimp only [simx, zzC, zzB, tys, ite_self, opnL, callB, callX, readsB, stepOp, nilCmp, ofVal, opBuiltin, opLen, PV.sk, scalBin, scalUn, intBin, opLoad, natOf, opConvert, opField, cellsP, oneP, Value.oneCell', opStore, toIV, scalT, scalA, scalC, boxesA, boxesC, zipB_none, zipB_mx, isZ, opZip, zeroP, opAppendZ, opMakeMap, opLookup, mboxB, opUpdate, ↓reduceIte, Nat.reduceSub, Nat.reduceEqDiff, Nat.reduceAdd, Nat.reduceMul, Nat.reduceLT, Nat.reduceLeDiff, Int.reduceToNat, Int.reduceLE, Int.reduceLT, Int.reduceNeg, reduceCtorEq, zzL, if_true, if_false] <;> rfl)); apply Exists.intro; apply And.intro; (focus (first | exact q2))) | refine X_opc rfl ?_ | refine X_dopc rfl ?_ | refine ⟨(by show drawK _ _ = true; kernel_rfl : drawX _ _ _), ?_⟩ | exact (by show drawK _ _ = true; kernel_rfl : drawX _ _ _) | simp -dsimp (maxSteps := 20000000) (disch := omega) only [simx, zzC, zzB, tys, ite_self, opnL, callB, callX, readsB, stepOp, nilCmp, ofVal, opBuiltin, opLen, PV.sk, scalBin, scalUn, intBin, opLoad, natOf, opConvert, opField, cellsP, oneP, Value.oneCell', opStore, toIV, scalT, scalA, scalC, boxesA, boxesC, zipB_none, zipB_mx, isZ, opZip, zeroP, opAppendZ, opMakeMap, opLookup, mboxB, opUpdate, ↓reduceIte, Nat.reduceSub, Nat.reduceEqDiff, Nat.reduceAdd, Nat.reduceMul, Nat.reduceLT, Nat.reduceLeDiff, Int.reduceToNat, Int.reduceLE, Int.reduceLT, Int.reduceNeg, reduceCtorEq, gos, Int.reduceAdd, Int.reduceSub, Int.reduceMul, Int.reduceEq])
    refine X_call_sh rfl (by simp only [tys]) rfl (k1 _ _ (by simp [Heap.put_at, Heap.none_at])) ?_
    repeat (first | refine X_opc rfl ?_ | refine X_dopc rfl ?_ | refine ⟨(by show drawK _ _ = true; kernel_rfl : drawX _ _ _), ?_⟩ | exact (by show drawK _ _ = true; kernel_rfl : drawX _ _ _) | simp -dsimp (maxSteps := 20000000) (disch := omega) only [simx, zzC, zzB, tys, ite_self, opnL, callB, callX, readsB, stepOp, nilCmp, ofVal, opBuiltin, opLen, PV.sk, scalBin, scalUn, intBin, opLoad, natOf, opConvert, opField, cellsP, oneP, Value.oneCell', opStore, toIV, scalT, scalA, scalC, boxesA, boxesC, zipB_none, zipB_mx, isZ, opZip, zeroP, opAppendZ, opMakeMap, opLookup, mboxB, opUpdate, ↓reduceIte, Nat.reduceSub, Nat.reduceEqDiff, Nat.reduceAdd, Nat.reduceMul, Nat.reduceLT, Nat.reduceLeDiff, Int.reduceToNat, Int.reduceLE, Int.reduceLT, Int.reduceNeg, reduceCtorEq, zzR, gos, Int.reduceAdd, Int.reduceSub, Int.reduceMul, Int.reduceEq])
    rfl
  | some i =>
    rw [hf] at k1
    simp only at k1 ⊢
    refine X_startP (n := 21) (m := 2) (rs := [.tmp 4, .tmp 5]) Try.func18 rfl rfl rfl rfl (by decide) fun base => ?_
    repeat (first | ((first | refine X_call_fn2 rfl (by simp only [tys]) ?_ | refine X_dcall_fn2 rfl (by simp only [tys]) ?_); apply Exists.intro; apply And.intro; (focus (simp -dsimp only [simx, zzC, zzB, tys, ite_self, opnL, callB, callX, readsB, stepOp, nilCmp, ofVal, opBuiltin, opLen, PV.sk, scalBin, scalUn, intBin, opLoad, natOf, opConvert, opField, cellsP, oneP, Value.oneCell', opStore, toIV, scalT, scalA, scalC, boxesA, boxesC, zipB_none, zipB_mx, isZ, opZip, zeroP, opAppendZ, opMakeMap, opLookup, mboxB, opUpdate, ↓reduceIte, Nat.reduceSub, Nat.reduceEqDiff, Nat.reduceAdd, Nat.reduceMul, Nat.reduceLT, Nat.reduceLeDiff, Int.reduceToNat, Int.reduceLE, Int.reduceLT, Int.reduceNeg, reduceCtorEq, zzL, if_true, if_false] <;> rfl)); apply Exists.intro; apply And.intro; (focus (first | exact q2))) | refine X_opc rfl ?_ | refine X_dopc rfl ?_ | refine ⟨(by show drawK _ _ = true; kernel_rfl : drawX _ _ _), ?_⟩ | exact (by show drawK _ _ = true; kernel_rfl : drawX _ _ _) | simp -dsimp (maxSteps := 20000000) (disch := omega) only [simx, zzC, zzB, tys, ite_self, opnL, callB, callX, readsB, stepOp, nilCmp, ofVal, opBuiltin, opLen, PV.sk, scalBin, scalUn, intBin, opLoad, natOf, opConvert, opField, cellsP, oneP, Value.oneCell', opStore, toIV, scalT, scalA, scalC, boxesA, boxesC, zipB_none, zipB_mx, isZ, opZip, zeroP, opAppendZ, opMakeMap, opLookup, mboxB, opUpdate, ↓reduceIte, Nat.reduceSub, Nat.reduceEqDiff, Nat.reduceAdd, Nat.reduceMul, Nat.reduceLT, Nat.reduceLeDiff, Int.reduceToNat, Int.reduceLE, Int.reduceLT, Int.reduceNeg, reduceCtorEq, gos, Int.reduceAdd, Int.reduceSub, Int.reduceMul, Int.reduceEq])
    refine X_call_sh rfl (by simp only [tys]) rfl (k1 _ _ (by simp [Heap.put_at, Heap.none_at])) ?_
    repeat (first | refine X_opc rfl ?_ | refine X_dopc rfl ?_ | refine ⟨(by show drawK _ _ = true; kernel_rfl : drawX _ _ _), ?_⟩ | exact (by show drawK _ _ = true; kernel_rfl : drawX _ _ _) | simp -dsimp (maxSteps := 20000000) (disch := omega) only [simx, zzC, zzB, tys, ite_self, opnL, callB, callX, readsB, stepOp, nilCmp, ofVal, opBuiltin, opLen, PV.sk, scalBin, scalUn, intBin, opLoad, natOf, opConvert, opField, cellsP, oneP, Value.oneCell', opStore, toIV, scalT, scalA, scalC, boxesA, boxesC, zipB_none, zipB_mx, isZ, opZip, zeroP, opAppendZ, opMakeMap, opLookup, mboxB, opUpdate, ↓reduceIte, Nat.reduceSub, Nat.reduceEqDiff, Nat.reduceAdd, Nat.reduceMul, Nat.reduceLT, Nat.reduceLeDiff, Int.reduceToNat, Int.reduceLE, Int.reduceLT, Int.reduceNeg, reduceCtorEq, zzR, gos, Int.reduceAdd, Int.reduceSub, Int.reduceMul, Int.reduceEq])
theorem rows8_yes {P R C : Nat} {l : List Int} (hP : Prm P) (M : Mt P R C l) (hin : ∀ a ∈ l, In P a) (i : Int) :
    CallsP Try.prog 19 [u64 P, matP R C l, i64 i] (if i < 0 ∨ (R : Int) ≤ i then .tup [lu [], i64 1] else if i ∈ (tkCup P C R l).1 then .tup [lu [], i64 6] else .tup [lu (rowsV P R (tkCup P C R l) i.toNat), i64 0]) := by
  have hp := M.hp
  have q2 := take8_yes hP M hin
  have hw := tkCup_W hP M hin
  have rle := hw.rle
  have r2 := M.r2
  have k1 := containsI_walk (tkCup P C R l).1 i (by rw [mx_len]; omega)
  have k2 := fun (j : Nat) (hj : j < R) => rowsV_walk (l := l) (vs := invsT P (tkCup P C R l)) (i := j) hp hw M.r2 hj
  generalize invsT P (tkCup P C R l) = vs at q2 k2
  generalize tkCup P C R l = c at q2 hw k1 k2 ⊢
  obtain ⟨rw0, cw, cc, uu⟩ := c
  simp only at k1 k2 ⊢
  by_cases h1 : i < 0
  · rw [if_pos (.inl h1)]
    refine X_startP (n := 42) (m := 3) (rs := [.tmp 6, .tmp 7]) Try.func19 rfl rfl rfl rfl (by decide) fun base => ?_
    repeat (first | ((first | refine X_call_fn2 rfl (by simp only [tys]) ?_ | refine X_dcall_fn2 rfl (by simp only [tys]) ?_); apply Exists.intro; apply And.intro; (focus (simp -dsimp only [simx, zzC, zzB, tys, ite_self, opnL, callB, callX, readsB, stepOp, nilCmp, ofVal, opBuiltin, opLen, PV.sk, scalBin, scalUn, intBin, opLoad, natOf, opConvert, opField, cellsP, oneP, Value.oneCell', opStore, toIV, scalT, scalA, scalC, boxesA, boxesC, zipB_none, zipB_mx, isZ, opZip, zeroP, opAppendZ, opMakeMap, opLookup, mboxB, opUpdate, ↓reduceIte, Nat.reduceSub, Nat.reduceEqDiff, Nat.reduceAdd, Nat.reduceMul, Nat.reduceLT, Nat.reduceLeDiff, Int.reduceToNat, Int.reduceLE, Int.reduceLT, Int.reduceNeg, reduceCtorEq, zzL, if_true, if_false] <;> rfl)); apply Exists.intro; apply And.intro; (focus (first | exact q2))) | refine X_opc rfl ?_ | refine X_dopc rfl ?_ | refine ⟨(by show drawK _ _ = true; kernel_rfl : drawX _ _ _), ?_⟩ | exact (by show drawK _ _ = true; kernel_rfl : drawX _ _ _) | simp -dsimp (maxSteps := 20000000) (disch := omega) only [simx, zzC, zzB, tys, ite_self, opnL, callB, callX, readsB, stepOp, nilCmp, ofVal, opBuiltin, opLen, PV.sk, scalBin, scalUn, intBin, opLoad, natOf, opConvert, opField, cellsP, oneP, Value.oneCell', opStore, toIV, scalT, scalA, scalC, boxesA, boxesC, zipB_none, zipB_mx, isZ, opZip, zeroP, opAppendZ, opMakeMap, opLookup, mboxB, opUpdate, ↓reduceIte, Nat.reduceSub, Nat.reduceEqDiff, Nat.reduceAdd, Nat.reduceMul, Nat.reduceLT, Nat.reduceLeDiff, Int.reduceToNat, Int.reduceLE, Int.reduceLT, Int.reduceNeg, reduceCtorEq, zzR, gos, Int.reduceAdd, Int.reduceSub, Int.reduceMul, Int.reduceEq, h1])
    rfl
  · by_cases h2 : (R : Int) ≤ i
    · rw [if_pos (.inr h2)]
      refine X_startP (n := 42) (m := 3) (rs := [.tmp 6, .tmp 7]) Try.func19 rfl rfl rfl rfl (by decide) fun base => ?_
      repeat (first | ((first | refine X_call_fn2 rfl (by simp only [tys]) ?_ | refine X_dcall_fn2 rfl (by simp only [tys]) ?_); apply Exists.intro; apply And.intro; (focus (simp -dsimp only [simx, zzC, zzB, tys, ite_self, opnL, callB, callX, readsB, stepOp, nilCmp, ofVal, opBuiltin, opLen, PV.sk, scalBin, scalUn, intBin, opLoad, natOf, opConvert, opField, cellsP, oneP, Value.oneCell', opStore, toIV, scalT, scalA, scalC, boxesA, boxesC, zipB_none, zipB_mx, isZ, opZip, zeroP, opAppendZ, opMakeMap, opLookup, mboxB, opUpdate, ↓reduceIte, Nat.reduceSub, Nat.reduceEqDiff, Nat.reduceAdd, Nat.reduceMul, Nat.reduceLT, Nat.reduceLeDiff, Int.reduceToNat, Int.reduceLE, Int.reduceLT, Int.reduceNeg, reduceCtorEq, zzL, if_true, if_false] <;> rfl)); apply Exists.intro; apply And.intro; (focus (first | exact q2))) | refine X_opc rfl ?_ | refine X_dopc rfl ?_ | refine ⟨(by show drawK _ _ = true; kernel_rfl : drawX _ _ _), ?_⟩ | exact (by show drawK _ _ = true; kernel_rfl : drawX _ _ _) | simp -dsimp (maxSteps := 20000000) (disch := omega) only [simx, zzC, zzB, tys, ite_self, opnL, callB, callX, readsB, stepOp, nilCmp, ofVal, opBuiltin, opLen, PV.sk, scalBin, scalUn, intBin, opLoad, natOf, opConvert, opField, cellsP, oneP, Value.oneCell', opStore, toIV, scalT, scalA, scalC, boxesA, boxesC, zipB_none, zipB_mx, isZ, opZip, zeroP, opAppendZ, opMakeMap, opLookup, mboxB, opUpdate, ↓reduceIte, Nat.reduceSub, Nat.reduceEqDiff, Nat.reduceAdd, Nat.reduceMul, Nat.reduceLT, Nat.reduceLeDiff, Int.reduceToNat, Int.reduceLE, Int.reduceLT, Int.reduceNeg, reduceCtorEq, zzR, gos, Int.reduceAdd, Int.reduceSub, Int.reduceMul, Int.reduceEq, h1, h2])
      rfl
    · rw [if_neg (by omega)]
      by_cases h3 : i ∈ rw0
      · rw [decide_eq_true h3] at k1
        rw [if_pos h3]
        refine X_startP (n := 42) (m := 3) (rs := [.tmp 6, .tmp 7]) Try.func19 rfl rfl rfl rfl (by decide) fun base => ?_
        repeat (first | ((first | refine X_call_fn2 rfl (by simp only [tys]) ?_ | refine X_dcall_fn2 rfl (by simp only [tys]) ?_); apply Exists.intro; apply And.intro; (focus (simp -dsimp only [simx, zzC, zzB, tys, ite_self, opnL, callB, callX, readsB, stepOp, nilCmp, ofVal, opBuiltin, opLen, PV.sk, scalBin, scalUn, intBin, opLoad, natOf, opConvert, opField, cellsP, oneP, Value.oneCell', opStore, toIV, scalT, scalA, scalC, boxesA, boxesC, zipB_none, zipB_mx, isZ, opZip, zeroP, opAppendZ, opMakeMap, opLookup, mboxB, opUpdate, ↓reduceIte, Nat.reduceSub, Nat.reduceEqDiff, Nat.reduceAdd, Nat.reduceMul, Nat.reduceLT, Nat.reduceLeDiff, Int.reduceToNat, Int.reduceLE, Int.reduceLT, Int.reduceNeg, reduceCtorEq, zzL, if_true, if_false] <;> rfl)); apply Exists.intro; apply And.intro; (focus (first | exact q2 | exact k1))) | refine X_opc rfl ?_ | refine X_dopc rfl ?_ | refine ⟨(by show drawK _ _ = true; kernel_rfl : drawX _ _ _), ?_⟩ | exact (by show drawK _ _ = true; kernel_rfl : drawX _ _ _) | simp -dsimp (maxSteps := 20000000) (disch := omega) only [simx, zzC, zzB, tys, ite_self, opnL, callB, callX, readsB, stepOp, nilCmp, ofVal, opBuiltin, opLen, PV.sk, scalBin, scalUn, intBin, opLoad, natOf, opConvert, opField, cellsP, oneP, Value.oneCell', opStore, toIV, scalT, scalA, scalC, boxesA, boxesC, zipB_none, zipB_mx, isZ, opZip, zeroP, opAppendZ, opMakeMap, opLookup, mboxB, opUpdate, ↓reduceIte, Nat.reduceSub, Nat.reduceEqDiff, Nat.reduceAdd, Nat.reduceMul, Nat.reduceLT, Nat.reduceLeDiff, Int.reduceToNat, Int.reduceLE, Int.reduceLT, Int.reduceNeg, reduceCtorEq, zzR, gos, Int.reduceAdd, Int.reduceSub, Int.reduceMul, Int.reduceEq, h1, h2])
        rfl
      · rw [decide_eq_false h3] at k1
        rw [if_neg h3]
        have k2 := k2 i.toNat (by omega)
        rw [show ((i.toNat : Nat) : Int) = i by omega] at k2
        refine X_startP (n := 42) (m := 3) (rs := [.tmp 6, .tmp 7]) Try.func19 rfl rfl rfl rfl (by decide) fun base => ?_
        repeat (first | ((first | refine X_call_fn2 rfl (by simp only [tys]) ?_ | refine X_dcall_fn2 rfl (by simp only [tys]) ?_); apply Exists.intro; apply And.intro; (focus (simp -dsimp only [simx, zzC, zzB, tys, ite_self, opnL, callB, callX, readsB, stepOp, nilCmp, ofVal, opBuiltin, opLen, PV.sk, scalBin, scalUn, intBin, opLoad, natOf, opConvert, opField, cellsP, oneP, Value.oneCell', opStore, toIV, scalT, scalA, scalC, boxesA, boxesC, zipB_none, zipB_mx, isZ, opZip, zeroP, opAppendZ, opMakeMap, opLookup, mboxB, opUpdate, ↓reduceIte, Nat.reduceSub, Nat.reduceEqDiff, Nat.reduceAdd, Nat.reduceMul, Nat.reduceLT, Nat.reduceLeDiff, Int.reduceToNat, Int.reduceLE, Int.reduceLT, Int.reduceNeg, reduceCtorEq, zzL, if_true, if_false] <;> rfl)); apply Exists.intro; apply And.intro; (focus (first | exact q2 | exact k1 | exact k2))) | refine X_opc rfl ?_ | refine X_dopc rfl ?_ | refine ⟨(by show drawK _ _ = true; kernel_rfl : drawX _ _ _), ?_⟩ | exact (by show drawK _ _ = true; kernel_rfl : drawX _ _ _) | simp -dsimp (maxSteps := 20000000) (disch := omega) only [simx, zzC, zzB, tys, ite_self, opnL, callB, callX, readsB, stepOp, nilCmp, ofVal, opBuiltin, opLen, PV.sk, scalBin, scalUn, intBin, opLoad, natOf, opConvert, opField, cellsP, oneP, Value.oneCell', opStore, toIV, scalT, scalA, scalC, boxesA, boxesC, zipB_none, zipB_mx, isZ, opZip, zeroP, opAppendZ, opMakeMap, opLookup, mboxB, opUpdate, ↓reduceIte, Nat.reduceSub, Nat.reduceEqDiff, Nat.reduceAdd, Nat.reduceMul, Nat.reduceLT, Nat.reduceLeDiff, Int.reduceToNat, Int.reduceLE, Int.reduceLT, Int.reduceNeg, reduceCtorEq, zzR, gos, Int.reduceAdd, Int.reduceSub, Int.reduceMul, Int.reduceEq, h1, h2])
theorem against8_yes {P R C : Nat} {l b : List Int} (hP : Prm P) (M : Mt P R C l) (hin : ∀ a ∈ l, In P a) (hb : ∀ a ∈ b, In P a) (hbl : b.length = R) :
    CallsP Try.prog 16 [u64 P, matP R C l, lu b] (.tup [lu (fstR P R (tkCup P C R l) (fun y => dotNz P y b)).1, i64 (fstR P R (tkCup P C R l) (fun y => dotNz P y b)).2]) := by
  have hp := M.hp
  have r2 := M.r2
  have q1 := vector_walk P b R (by rw [hbl, mx_len]; omega)
  rw [(has_iff _ _).2 ⟨fun x hx => (hb x hx).2, hp.1, hp.2⟩, decide_eq_true (show (b.length : Int) = R by omega)] at q1
  have q2 := take8_yes hP M hin
  have hw := tkCup_W hP M hin
  have k1 := fun (b0 b1 b2 : Name) (h : Heap) h0 h1 h2 n1 n2 => firstA_walk (base := b0) (h := h) (b1 := b1) (b2 := b2) (l := l) (vs := invsT P (tkCup P C R l)) (b := b) hp hw M.r2 h0 hb hbl h1 h2 n1 n2
  unfold fstR
  unfold fstP at k1
  generalize invsT P (tkCup P C R l) = vs at q2 k1
  generalize tkCup P C R l = c at q2 hw k1 ⊢
  obtain ⟨rw0, cw, cc, uu⟩ := c
  simp only at k1 ⊢
  cases hf : fstI rw0 (fun i => dotNz P (rowsV P R (rw0, cw, cc, uu) i) b) R with
  | none =>
    rw [hf] at k1
    simp only at k1 ⊢
    refine X_startP (n := 30) (m := 3) (rs := [.tmp 6, .tmp 7]) Try.func16 rfl rfl rfl rfl (by decide) fun base => ?_
    repeat (first | ((first | refine X_call_fn2 rfl (by simp only [tys]) ?_ | refine X_dcall_fn2 rfl (by simp only [tys]) ?_); apply Exists.intro; apply And.intro; (focus (simp -dsimp only [simx, zzC, zzB, tys, ite_self, opnL, callB, callX, readsB, stepOp, nilCmp, ofVal, opBuiltin, opLen, PV.sk, scalBin, scalUn, intBin, opLoad, natOf, opConvert, opField, cellsP, oneP, Value.oneCell', opStore, toIV, scalT, scalA, scalC, boxesA, boxesC, zipB_none, zipB_mx, isZ, opZip, zeroP, opAppendZ, opMakeMap, opLookup, mboxB, opUpdate, ↓reduceIte, Nat.reduceSub, Nat.reduceEqDiff, Nat.reduceAdd, Nat.reduceMul, Nat.reduceLT, Nat.reduceLeDiff, Int.reduceToNat, Int.reduceLE, Int.reduceLT, Int.reduceNeg, reduceCtorEq, zzL, if_true, if_false] <;> rfl)); apply Exists.intro; apply And.intro; (focus (first | exact q1 | exact q2))) | refine X_opc rfl ?_ | refine X_dopc rfl ?_ | refine ⟨(by show drawK _ _ = true; kernel_rfl : drawX _ _ _), ?_⟩ | exact (by show drawK _ _ = true; kernel_rfl : drawX _ _ _) | simp -dsimp (maxSteps := 20000000) (disch := omega) only [simx, zzC, zzB, tys, ite_self, opnL, callB, callX, readsB, stepOp, nilCmp, ofVal, opBuiltin, opLen, PV.sk, scalBin, scalUn, intBin, opLoad, natOf, opConvert, opField, cellsP, oneP, Value.oneCell', opStore, toIV, scalT, scalA, scalC, boxesA, boxesC, zipB_none, zipB_mx, isZ, opZip, zeroP, opAppendZ, opMakeMap, opLookup, mboxB, opUpdate, ↓reduceIte, Nat.reduceSub, Nat.reduceEqDiff, Nat.reduceAdd, Nat.reduceMul, Nat.reduceLT, Nat.reduceLeDiff, Int.reduceToNat, Int.reduceLE, Int.reduceLT, Int.reduceNeg, reduceCtorEq, gos, Int.reduceAdd, Int.reduceSub, Int.reduceMul, Int.reduceEq])
    refine X_call_sh rfl (by simp only [tys]) rfl (k1 _ ((0, 0) :: base) ((0, 2) :: base) _ (by simp [Heap.put_at, Heap.none_at]) (by simp [Heap.put_at, Heap.none_at]) (by simp [Heap.put_at, Heap.none_at]) (by simp) (by simp)) ?_
    repeat (first | refine X_opc rfl ?_ | refine X_dopc rfl ?_ | refine ⟨(by show drawK _ _ = true; kernel_rfl : drawX _ _ _), ?_⟩ | exact (by show drawK _ _ = true; kernel_rfl : drawX _ _ _) | simp -dsimp (maxSteps := 20000000) (disch := omega) only [simx, zzC, zzB, tys, ite_self, opnL, callB, callX, readsB, stepOp, nilCmp, ofVal, opBuiltin, opLen, PV.sk, scalBin, scalUn, intBin, opLoad, natOf, opConvert, opField, cellsP, oneP, Value.oneCell', opStore, toIV, scalT, scalA, scalC, boxesA, boxesC, zipB_none, zipB_mx, isZ, opZip, zeroP, opAppendZ, opMakeMap, opLookup, mboxB, opUpdate, ↓reduceIte, Nat.reduceSub, Nat.reduceEqDiff, Nat.reduceAdd, Nat.reduceMul, Nat.reduceLT, Nat.reduceLeDiff, Int.reduceToNat, Int.reduceLE, Int.reduceLT, Int.reduceNeg, reduceCtorEq, zzR, gos, Int.reduceAdd, Int.reduceSub, Int.reduceMul, Int.reduceEq])
    rfl
  | some i =>
    rw [hf] at k1
    simp only at k1 ⊢
    refine X_startP (n := 30) (m := 3) (rs := [.tmp 6, .tmp 7]) Try.func16 rfl rfl rfl rfl (by decide) fun base => ?_
    repeat (first | ((first | refine X_call_fn2 rfl (by simp only [tys]) ?_ | refine X_dcall_fn2 rfl (by simp only [tys]) ?_); apply Exists.intro; apply And.intro; (focus (simp -dsimp only [simx, zzC, zzB, tys, ite_self, opnL, callB, callX, readsB, stepOp, nilCmp, ofVal, opBuiltin, opLen, PV.sk, scalBin, scalUn, intBin, opLoad, natOf, opConvert, opField, cellsP, oneP, Value.oneCell', opStore, toIV, scalT, scalA, scalC, boxesA, boxesC, zipB_none, zipB_mx, isZ, opZip, zeroP, opAppendZ, opMakeMap, opLookup, mboxB, opUpdate, ↓reduceIte, Nat.reduceSub, Nat.reduceEqDiff, Nat.reduceAdd, Nat.reduceMul, Nat.reduceLT, Nat.reduceLeDiff, Int.reduceToNat, Int.reduceLE, Int.reduceLT, Int.reduceNeg, reduceCtorEq, zzL, if_true, if_false] <;> rfl)); apply Exists.intro; apply And.intro; (focus (first | exact q1 | exact q2))) | refine X_opc rfl ?_ | refine X_dopc rfl ?_ | refine ⟨(by show drawK _ _ = true; kernel_rfl : drawX _ _ _), ?_⟩ | exact (by show drawK _ _ = true; kernel_rfl : drawX _ _ _) | simp -dsimp (maxSteps := 20000000) (disch := omega) only [simx, zzC, zzB, tys, ite_self, opnL, callB, callX, readsB, stepOp, nilCmp, ofVal, opBuiltin, opLen, PV.sk, scalBin, scalUn, intBin, opLoad, natOf, opConvert, opField, cellsP, oneP, Value.oneCell', opStore, toIV, scalT, scalA, scalC, boxesA, boxesC, zipB_none, zipB_mx, isZ, opZip, zeroP, opAppendZ, opMakeMap, opLookup, mboxB, opUpdate, ↓reduceIte, Nat.reduceSub, Nat.reduceEqDiff, Nat.reduceAdd, Nat.reduceMul, Nat.reduceLT, Nat.reduceLeDiff, Int.reduceToNat, Int.reduceLE, Int.reduceLT, Int.reduceNeg, reduceCtorEq, gos, Int.reduceAdd, Int.reduceSub, Int.reduceMul, Int.reduceEq])
    refine X_call_sh rfl (by simp only [tys]) rfl (k1 _ ((0, 0) :: base) ((0, 2) :: base) _ (by simp [Heap.put_at, Heap.none_at]) (by simp [Heap.put_at, Heap.none_at]) (by simp [Heap.put_at, Heap.none_at]) (by simp) (by simp)) ?_
    repeat (first | refine X_opc rfl ?_ | refine X_dopc rfl ?_ | refine ⟨(by show drawK _ _ = true; kernel_rfl : drawX _ _ _), ?_⟩ | exact (by show drawK _ _ = true; kernel_rfl : drawX _ _ _) | simp -dsimp (maxSteps := 20000000) (disch := omega) only [simx, zzC, zzB, tys, ite_self, opnL, callB, callX, readsB, stepOp, nilCmp, ofVal, opBuiltin, opLen, PV.sk, scalBin, scalUn, intBin, opLoad, natOf, opConvert, opField, cellsP, oneP, Value.oneCell', opStore, toIV, scalT, scalA, scalC, boxesA, boxesC, zipB_none, zipB_mx, isZ, opZip, zeroP, opAppendZ, opMakeMap, opLookup, mboxB, opUpdate, ↓reduceIte, Nat.reduceSub, Nat.reduceEqDiff, Nat.reduceAdd, Nat.reduceMul, Nat.reduceLT, Nat.reduceLeDiff, Int.reduceToNat, Int.reduceLE, Int.reduceLT, Int.reduceNeg, reduceCtorEq, zzR, gos, Int.reduceAdd, Int.reduceSub, Int.reduceMul, Int.reduceEq])
end Go.Proofs.Ythnfphgjfpcpbaa.TM
namespace Go.Proofs.Ythnfphgjfpcpbaa.TM
open Go Go.RowKit
attribute [local irreducible] K W WOps Effs Xg Xo Xr Xdg Xdo Xdr Xif CallsP CallR
def uniV (n i : Nat) : List Int := tbl n (fun m => if m = i then 1 else 0)
theorem uniV_len (n i : Nat) : (uniV n i).length = n := tbl_len ..
theorem uniV_in {p : Int} (hp : Md p) (n i : Nat) : ∀ a ∈ uniV n i, In p a := fun a ha => by
  obtain ⟨m, _, rfl⟩ := tbl_mem ha
  (try simp only)
  have := hp.1
  split
  · exact ⟨by decide, by omega⟩
  · exact ⟨by decide, by omega⟩
def kerX (p : Int) (C : Nat) (c : CupT) (f : Nat) : List Int := svL p C c (invsT p c) (zeroV c.1.length) (uniV C f) c.1.length
def freeI (cols : List Int) (C : Nat) : Option Nat := fstI cols (fun _ => true) C
def kernR (p : Int) (C : Nat) (c : CupT) : List Int × Int := match freeI c.2.1 C with
  | some f => (kerX p C c f, 0)
  | none => ([], 6)
set_option maxHeartbeats 4000000 in
theorem kernel8_yes {P R C : Nat} {l : List Int} (hP : Prm P) (M : Mt P R C l) (hin : ∀ a ∈ l, In P a) :
    CallsP Try.prog 17 [u64 P, matP R C l] (.tup [lu (kernR P C (tkCup P C R l)).1, i64 (kernR P C (tkCup P C R l)).2]) := by
  have hp := M.hp
  have r2 := M.r2
  have c2 := M.c2
  have q2 := take8_yes hP M hin
  have hw := tkCup_W hP M hin
  have rle := hw.rle
  have ul := hw.ul
  have ql := hw.ql
  have vi := invsT_in hP hp hw
  have k2 := fun f => solved_walk (l := l) (x := uniV C f) (z := zeroV (tkCup P C R l).1.length) hp hw r2 c2 (uniV_in hp C f) (uniV_len C f) (zeroV_in hp _) (zeroV_len _) vi.1 vi.2
  have xl := fun f => svL_len (p := P) (C := C) (c := tkCup P C R l) (vs := invsT P (tkCup P C R l)) (z := zeroV (tkCup P C R l).1.length) (uniV_len C f) (tkCup P C R l).1.length
  unfold kernR freeI
  have ke : kerX P C (tkCup P C R l) = fun f => svL P C (tkCup P C R l) (invsT P (tkCup P C R l)) (zeroV (tkCup P C R l).1.length) (uniV C f) (tkCup P C R l).1.length := rfl
  rw [← show kerX P C (tkCup P C R l) = fun f => svL P C (tkCup P C R l) (invsT P (tkCup P C R l)) (zeroV (tkCup P C R l).1.length) (uniV C f) (tkCup P C R l).1.length from rfl] at ke
  change ∀ f, CallsW _ _ _ _ _ ((kerX P C (tkCup P C R l) f).map iu) at k2
  change ∀ f, (kerX P C (tkCup P C R l) f).length = C at xl
  clear ke
  generalize kerX P C (tkCup P C R l) = KX at k2 xl ⊢
  generalize invsT P (tkCup P C R l) = vs at q2 k2
  generalize tkCup P C R l = c at q2 hw k2 rle ul ql ⊢
  obtain ⟨rw0, cw, cc, uu⟩ := c
  simp only at k2 rle ul ql ⊢
  have b1 : C * 8 ≤ 140737488355328 := by omega
  have b2 : C ≤ 140737488355328 := by omega
  have b3 : rw0.length * 8 ≤ 140737488355328 := by omega
  have b4 : rw0.length ≤ 140737488355328 := by omega
  have ez : (zeroRow [Value.int .u64 0] C).map IV.v = (zeroV C).map iu := zero_tbl C
  have ez2 : (zeroRow [Value.int .u64 0] rw0.length).map IV.v = (zeroV rw0.length).map iu := zero_tbl _
  have rl : ((zeroRow [Value.int .u64 0] C).map IV.v).length = C := by rw [List.length_map, zeroRow_len]; simp
  have zl2 : ((zeroRow [Value.int .u64 0] rw0.length).map IV.v).length = rw0.length := by rw [List.length_map, zeroRow_len]; simp
  have nz2 : ((zeroRow [Value.int .u64 0] rw0.length).map IV.v).take rw0.length = (zeroRow [Value.int .u64 0] rw0.length).map IV.v := List.take_of_length_le (by omega)
  refine X_startP (n := 46) (m := 2) (rs := [.tmp 4, .tmp 5]) Try.func17 rfl rfl rfl rfl (by decide) fun base => ?_
  repeat (first | ((first | refine X_call_fn2 rfl (by simp only [tys]) ?_ | refine X_dcall_fn2 rfl (by simp only [tys]) ?_); apply Exists.intro; apply And.intro; (focus (simp -dsimp only [simx, zzC, zzB, tys, ite_self, opnL, callB, callX, readsB, stepOp, nilCmp, ofVal, opBuiltin, opLen, PV.sk, scalBin, scalUn, intBin, opLoad, natOf, opConvert, opField, cellsP, oneP, Value.oneCell', opStore, toIV, scalT, scalA, scalC, boxesA, boxesC, zipB_none, zipB_mx, isZ, opZip, zeroP, opAppendZ, opMakeMap, opLookup, mboxB, opUpdate, ↓reduceIte, Nat.reduceSub, Nat.reduceEqDiff, Nat.reduceAdd, Nat.reduceMul, Nat.reduceLT, Nat.reduceLeDiff, Int.reduceToNat, Int.reduceLE, Int.reduceLT, Int.reduceNeg, reduceCtorEq, zzL, if_true, if_false] <;> rfl)); apply Exists.intro; apply And.intro; (focus (first | exact q2))) | refine X_opc rfl ?_ | refine X_dopc rfl ?_ | refine ⟨(by show drawK _ _ = true; kernel_rfl : drawX _ _ _), ?_⟩ | exact (by show drawK _ _ = true; kernel_rfl : drawX _ _ _) | simp -dsimp (maxSteps := 20000000) (disch := omega) only [simx, zzC, zzB, tys, ite_self, opnL, callB, callX, readsB, stepOp, nilCmp, ofVal, opBuiltin, opLen, PV.sk, scalBin, scalUn, intBin, opLoad, natOf, opConvert, opField, cellsP, oneP, Value.oneCell', opStore, toIV, scalT, scalA, scalC, boxesA, boxesC, zipB_none, zipB_mx, isZ, opZip, zeroP, opAppendZ, opMakeMap, opLookup, mboxB, opUpdate, ↓reduceIte, Nat.reduceSub, Nat.reduceEqDiff, Nat.reduceAdd, Nat.reduceMul, Nat.reduceLT, Nat.reduceLeDiff, Int.reduceToNat, Int.reduceLE, Int.reduceLT, Int.reduceNeg, reduceCtorEq, gos, Int.reduceAdd, Int.reduceSub, Int.reduceMul, Int.reduceEq])
  refine X_loopH [3, 6, 20, 21] [] (0) (C) (fun j => ∀ i, i < j → (!decide ((i : Int) ∈ cw) && true) = false) (fun j => [(21, i64 j)]) (fun j => (Heap.none.put ((0, 0) :: base) (.var [i64 R, i64 C, lu l])).put ((1, 6) :: base) (.var [li rw0, li cw, llP cc, llP uu, u64 P, i64 R, i64 C, lu l, lu vs])) ?_ ?_ ?_ ?_ ?_ (by decide) ?_
  · exact (fgt_nil)
  · ((simp -dsimp (disch := omega) only [simx, zzB, tys, ite_self, opnL, callB, callX, readsB, stepOp, nilCmp, ofVal, opBuiltin, opLen, PV.sk, scalBin, scalUn, intBin, opLoad, natOf, opConvert, opField, cellsP, oneP, Value.oneCell', opStore, toIV, scalT, scalA, scalC, boxesA, boxesC, zipB_none, zipB_mx, isZ, opZip, zeroP, opAppendZ, opMakeMap, opLookup, mboxB, opUpdate, ↓reduceIte, Nat.reduceSub, Nat.reduceEqDiff, Nat.reduceAdd, Nat.reduceMul, Nat.reduceLT, Nat.reduceLeDiff, Int.reduceToNat, Int.reduceLE, Int.reduceLT, Int.reduceNeg, reduceCtorEq, gos, Int.reduceAdd, Int.reduceSub, Int.reduceMul, Int.reduceEq]) <;> first | rfl | simp)
  · funext c
    simp (maxSteps := 20000000) only [Heap.drop_at, rowH_app, Heap.put_at, Heap.none_at, List.mem_cons, List.not_mem_nil, or_false]
    by_cases e0 : c = (0, 0) :: base
    · subst e0; simp []
    by_cases e1 : c = (1, 6) :: base
    · subst e1; simp []
    simp [e0, e1]
  · omega
  · intro i hi; omega
  · intro j hj hf
    by_cases cj : j < C
    · have k1 := containsI_walk cw (j : Int) (by rw [mx_len]; omega)
      by_cases cm : (j : Int) ∈ cw
      · rw [decide_eq_true cm] at k1
        repeat (first | ((first | refine X_call_fn2 rfl (by simp only [tys]) ?_ | refine X_dcall_fn2 rfl (by simp only [tys]) ?_); apply Exists.intro; apply And.intro; (focus (simp -dsimp only [simx, zzC, zzB, tys, ite_self, opnL, callB, callX, readsB, stepOp, nilCmp, ofVal, opBuiltin, opLen, PV.sk, scalBin, scalUn, intBin, opLoad, natOf, opConvert, opField, cellsP, oneP, Value.oneCell', opStore, toIV, scalT, scalA, scalC, boxesA, boxesC, zipB_none, zipB_mx, isZ, opZip, zeroP, opAppendZ, opMakeMap, opLookup, mboxB, opUpdate, ↓reduceIte, Nat.reduceSub, Nat.reduceEqDiff, Nat.reduceAdd, Nat.reduceMul, Nat.reduceLT, Nat.reduceLeDiff, Int.reduceToNat, Int.reduceLE, Int.reduceLT, Int.reduceNeg, reduceCtorEq, zzL, if_true, if_false] <;> rfl)); apply Exists.intro; apply And.intro; (focus (first | exact k1))) | refine X_opc rfl ?_ | refine X_dopc rfl ?_ | refine ⟨(by show drawK _ _ = true; kernel_rfl : drawX _ _ _), ?_⟩ | exact (by show drawK _ _ = true; kernel_rfl : drawX _ _ _) | simp -dsimp (maxSteps := 20000000) (disch := omega) only [simx, zzC, zzB, tys, ite_self, opnL, callB, callX, readsB, stepOp, nilCmp, ofVal, opBuiltin, opLen, PV.sk, scalBin, scalUn, intBin, opLoad, natOf, opConvert, opField, cellsP, oneP, Value.oneCell', opStore, toIV, scalT, scalA, scalC, boxesA, boxesC, zipB_none, zipB_mx, isZ, opZip, zeroP, opAppendZ, opMakeMap, opLookup, mboxB, opUpdate, ↓reduceIte, Nat.reduceSub, Nat.reduceEqDiff, Nat.reduceAdd, Nat.reduceMul, Nat.reduceLT, Nat.reduceLeDiff, Int.reduceToNat, Int.reduceLE, Int.reduceLT, Int.reduceNeg, reduceCtorEq, gos, Int.reduceAdd, Int.reduceSub, Int.reduceMul, Int.reduceEq, cj])
        refine ⟨cj, (fgt_nil), ?_, rfl, drop_nil _⟩
        intro i hi
        by_cases e : i = j
        · subst e; rw [decide_eq_true cm]; rfl
        · have := hf i (by omega); simpa using this
      · rw [decide_eq_false cm] at k1
        have e : fstI cw (fun i => true) C = some j := fstI_some cj hf (by rw [decide_eq_false cm]; rfl)
        rw [e]
        have j1 : j + 1 ≤ C := cj
        have px := tbl_put_iu (fun _ => 0) 1 cj
        rw [← zero_tbl C] at px
        have k2 := k2 j
        have xl := xl j
        obtain ⟨X, hX⟩ : ∃ X, KX j = X := ⟨_, rfl⟩
        rw [hX] at k2 xl
        have nt : (X.map iu).take C = X.map iu := List.take_of_length_le (by simp [xl])
        repeat (first | ((first | refine X_call_fn2 rfl (by simp only [tys]) ?_ | refine X_dcall_fn2 rfl (by simp only [tys]) ?_); apply Exists.intro; apply And.intro; (focus (simp -dsimp only [simx, zzC, zzB, tys, ite_self, opnL, callB, callX, readsB, stepOp, nilCmp, ofVal, opBuiltin, opLen, PV.sk, scalBin, scalUn, intBin, opLoad, natOf, opConvert, opField, cellsP, oneP, Value.oneCell', opStore, toIV, scalT, scalA, scalC, boxesA, boxesC, zipB_none, zipB_mx, isZ, opZip, zeroP, opAppendZ, opMakeMap, opLookup, mboxB, opUpdate, ↓reduceIte, Nat.reduceSub, Nat.reduceEqDiff, Nat.reduceAdd, Nat.reduceMul, Nat.reduceLT, Nat.reduceLeDiff, Int.reduceToNat, Int.reduceLE, Int.reduceLT, Int.reduceNeg, reduceCtorEq, zzL, if_true, if_false] <;> rfl)); apply Exists.intro; apply And.intro; (focus (first | exact k1))) | refine X_opc rfl ?_ | refine X_dopc rfl ?_ | refine ⟨(by show drawK _ _ = true; kernel_rfl : drawX _ _ _), ?_⟩ | exact (by show drawK _ _ = true; kernel_rfl : drawX _ _ _) | simp -dsimp (maxSteps := 20000000) (disch := omega) only [simx, zzC, zzB, tys, ite_self, opnL, callB, callX, readsB, stepOp, nilCmp, ofVal, opBuiltin, opLen, PV.sk, scalBin, scalUn, intBin, opLoad, natOf, opConvert, opField, cellsP, oneP, Value.oneCell', opStore, toIV, scalT, scalA, scalC, boxesA, boxesC, zipB_none, zipB_mx, isZ, opZip, zeroP, opAppendZ, opMakeMap, opLookup, mboxB, opUpdate, ↓reduceIte, Nat.reduceSub, Nat.reduceEqDiff, Nat.reduceAdd, Nat.reduceMul, Nat.reduceLT, Nat.reduceLeDiff, Int.reduceToNat, Int.reduceLE, Int.reduceLT, Int.reduceNeg, reduceCtorEq, gos, Int.reduceAdd, Int.reduceSub, Int.reduceMul, Int.reduceEq, cj, b1, b2, b3, b4, rl, j1, px, ul])
        refine X_dcall_w (args := [takenP P R C l (rw0, cw, cc, uu) vs, .view ((8, 2) :: base) 0 1 C C, .view ((10, 6) :: base) 0 1 rw0.length rw0.length]) (largs := [takenP P R C l (rw0, cw, cc, uu) vs, .view wN 0 1 C C, .i (.l rw0.length ((zeroV rw0.length).map iu))]) ((8, 2) :: base) k2 rfl (by simp only [tys]) rfl ?_ (by simp [boxesA, boxesC]) ?_ rfl (by simp [xl, uniV_len]) ?_
        · simp [Heap.put_at]; rfl
        · have h1 : ∀ h, lowerW h ((8, 2) :: base) (takenP P R C l (rw0, cw, cc, uu) vs) = some (takenP P R C l (rw0, cw, cc, uu) vs) := fun h => by simp [lowerW, isV, boxesA, boxesC, lowerA, mapO, lowerC]
          have h2 : ∀ h, lowerW h ((8, 2) :: base) (.view ((8, 2) :: base) 0 1 C C) = some (.view wN 0 1 C C) := fun h => by simp [lowerW, isV, reV]
          simp only [mapO, h1, h2]
          simp only [lowerW, isV, boxesA, boxesC, lowerA, lowerC, Heap.put_at]
          simp [zl2, nz2]
          exact ez2
        · rw [show (List.filter (notB ((8, 2) :: base)) (List.flatMap boxesA [takenP P R C l (rw0, cw, cc, uu) vs, .view ((8, 2) :: base) 0 1 C C, .view ((10, 6) :: base) 0 1 rw0.length rw0.length])) = [(10, 6) :: base] by simp [boxesA, boxesC, notB]]
          repeat (first | refine X_opc rfl ?_ | refine X_dopc rfl ?_ | refine ⟨(by show drawK _ _ = true; kernel_rfl : drawX _ _ _), ?_⟩ | exact (by show drawK _ _ = true; kernel_rfl : drawX _ _ _) | simp -dsimp (maxSteps := 20000000) (disch := omega) only [simx, zzC, zzB, tys, ite_self, opnL, callB, callX, readsB, stepOp, nilCmp, ofVal, opBuiltin, opLen, PV.sk, scalBin, scalUn, intBin, opLoad, natOf, opConvert, opField, cellsP, oneP, Value.oneCell', opStore, toIV, scalT, scalA, scalC, boxesA, boxesC, zipB_none, zipB_mx, isZ, opZip, zeroP, opAppendZ, opMakeMap, opLookup, mboxB, opUpdate, ↓reduceIte, Nat.reduceSub, Nat.reduceEqDiff, Nat.reduceAdd, Nat.reduceMul, Nat.reduceLT, Nat.reduceLeDiff, Int.reduceToNat, Int.reduceLE, Int.reduceLT, Int.reduceNeg, reduceCtorEq, zzR, gos, Int.reduceAdd, Int.reduceSub, Int.reduceMul, Int.reduceEq, List.length_map, xl, nt])
          simp [hX, xl]
    · have ej : C = j := by omega
      subst ej
      have e : fstI cw (fun i => true) C = none := fstI_none hf
      rw [e]
      repeat (first | refine X_opc rfl ?_ | refine X_dopc rfl ?_ | refine ⟨(by show drawK _ _ = true; kernel_rfl : drawX _ _ _), ?_⟩ | exact (by show drawK _ _ = true; kernel_rfl : drawX _ _ _) | simp -dsimp (maxSteps := 20000000) (disch := omega) only [simx, zzC, zzB, tys, ite_self, opnL, callB, callX, readsB, stepOp, nilCmp, ofVal, opBuiltin, opLen, PV.sk, scalBin, scalUn, intBin, opLoad, natOf, opConvert, opField, cellsP, oneP, Value.oneCell', opStore, toIV, scalT, scalA, scalC, boxesA, boxesC, zipB_none, zipB_mx, isZ, opZip, zeroP, opAppendZ, opMakeMap, opLookup, mboxB, opUpdate, ↓reduceIte, Nat.reduceSub, Nat.reduceEqDiff, Nat.reduceAdd, Nat.reduceMul, Nat.reduceLT, Nat.reduceLeDiff, Int.reduceToNat, Int.reduceLE, Int.reduceLT, Int.reduceNeg, reduceCtorEq, zzR, gos, Int.reduceAdd, Int.reduceSub, Int.reduceMul, Int.reduceEq])
      rfl
end Go.Proofs.Ythnfphgjfpcpbaa.TM
namespace Go.Proofs.Ythnfphgjfpcpbaa.TM
open Go Go.RowKit
attribute [local irreducible] K W WOps Effs Xg Xo Xr Xdg Xdo Xdr Xif CallsP CallR
theorem X_append_any {P : Program} {C : CallRel} {h h0 : Heap} {base : Name} {Qf : Ex → List PV → Heap → Prop} {k : List It} {t : List PV} {R : It} {d : Option Tmp} {s : Name} {ty : TypeId} (e : TypeId) (zs : List Value) {n z m : Nat} {cs : List IV} (xs : List IV) {y : PV} {k2 : SK}
    (he : elemB P ty = some e) (hz : zeroB P e = some zs) (hzl : zs.length = z) (hz0 : 0 < z) (hn : cs.length = n * z) (hs : h s = if n = 0 then none else some (.row false cs)) (hy : y.sk = some k2) (hm : k2.len = m) (hm0 : 0 < m) (hx : k2.cells h z = some xs)
    (hby : (n + m) * P.bytesOf e ≤ 140737488355328) (hl : n + m ≤ maxLen)
    (hk : K P C h0 base Qf (R :: k) .normal (putT t d (rowP s z (n + m) (cs ++ xs))) (h.put s (.row false (cs ++ xs)))) :
    Xr P C h0 base Qf (opAppend P h s ty (rowP s z n cs) y) d R k t h := Xr_eq (append_row he hz hzl hz0 hn hs hy hm hm0 hx hby hl) hk
def invJ (p : Int) (n : Nat) (c : CupT) (j : Nat) : List Int := (List.range j).flatMap (fun i => solX p n c (uniV n i))
theorem invJ_next (p : Int) (n : Nat) (c : CupT) (j : Nat) : invJ p n c (j + 1) = invJ p n c j ++ solX p n c (uniV n j) := by
  unfold invJ; rw [List.range_succ, List.flatMap_append]; simp
theorem invJ_len (p : Int) (n : Nat) (c : CupT) : ∀ j, (invJ p n c j).length = j * n
  | 0 => by simp [invJ]
  | j + 1 => by rw [invJ_next, List.length_append, invJ_len p n c j, solX_len, Nat.succ_mul]
theorem invJ_in {p : Int} (hp : Md p) (n : Nat) (c : CupT) : ∀ j, ∀ a ∈ invJ p n c j, In p a
  | 0, a, ha => by simp [invJ] at ha
  | j + 1, a, ha => by
    rw [invJ_next] at ha
    rcases List.mem_append.1 ha with ha | ha
    · exact invJ_in hp n c j a ha
    · exact solX_in hp c _ a ha
theorem inverse8_no {P : Nat} (hP : Prm P) {r c : Int} {l : List Int} (hl : l.length ≤ maxLen) (wl : W64s l) (h : r ≠ c ∨ MatB P r c l = false) :
    CallsP Try.prog 36 [u64 P, matP r c l] (.tup [matP 0 0 [], i64 1]) := by
  by_cases e : r = c
  · have h2 : MatB P r c l = false := by
      rcases h with h | h
      · exact absurd e h
      · exact h
    have q2 := take8_no hP hl wl h2
    subst e
    refine X_startP (n := 74) (m := 2) (rs := [.cell 4 25, .tmp 5]) Try.func36 rfl rfl rfl rfl (by decide) fun base => ?_
    repeat (first | ((first | refine X_call_fn2 rfl (by simp only [tys]) ?_ | refine X_dcall_fn2 rfl (by simp only [tys]) ?_); apply Exists.intro; apply And.intro; (focus (simp -dsimp only [simx, zzC, zzB, tys, ite_self, opnL, callB, callX, readsB, stepOp, nilCmp, ofVal, opBuiltin, opLen, PV.sk, scalBin, scalUn, intBin, opLoad, natOf, opConvert, opField, cellsP, oneP, Value.oneCell', opStore, toIV, scalT, scalA, scalC, boxesA, boxesC, zipB_none, zipB_mx, isZ, opZip, zeroP, opAppendZ, opMakeMap, opLookup, mboxB, opUpdate, ↓reduceIte, Nat.reduceSub, Nat.reduceEqDiff, Nat.reduceAdd, Nat.reduceMul, Nat.reduceLT, Nat.reduceLeDiff, Int.reduceToNat, Int.reduceLE, Int.reduceLT, Int.reduceNeg, reduceCtorEq, zzL, if_true, if_false] <;> rfl)); apply Exists.intro; apply And.intro; (focus (first | exact q2))) | refine X_opc rfl ?_ | refine X_dopc rfl ?_ | refine ⟨(by show drawK _ _ = true; kernel_rfl : drawX _ _ _), ?_⟩ | exact (by show drawK _ _ = true; kernel_rfl : drawX _ _ _) | simp -dsimp (maxSteps := 20000000) (disch := omega) only [simx, zzC, zzB, tys, ite_self, opnL, callB, callX, readsB, stepOp, nilCmp, ofVal, opBuiltin, opLen, PV.sk, scalBin, scalUn, intBin, opLoad, natOf, opConvert, opField, cellsP, oneP, Value.oneCell', opStore, toIV, scalT, scalA, scalC, boxesA, boxesC, zipB_none, zipB_mx, isZ, opZip, zeroP, opAppendZ, opMakeMap, opLookup, mboxB, opUpdate, ↓reduceIte, Nat.reduceSub, Nat.reduceEqDiff, Nat.reduceAdd, Nat.reduceMul, Nat.reduceLT, Nat.reduceLeDiff, Int.reduceToNat, Int.reduceLE, Int.reduceLT, Int.reduceNeg, reduceCtorEq, zzR, gos, Int.reduceAdd, Int.reduceSub, Int.reduceMul, Int.reduceEq])
    rfl
  · refine X_startP (n := 74) (m := 2) (rs := [.cell 4 25, .tmp 5]) Try.func36 rfl rfl rfl rfl (by decide) fun base => ?_
    repeat (first | refine X_opc rfl ?_ | refine X_dopc rfl ?_ | refine ⟨(by show drawK _ _ = true; kernel_rfl : drawX _ _ _), ?_⟩ | exact (by show drawK _ _ = true; kernel_rfl : drawX _ _ _) | simp -dsimp (maxSteps := 20000000) (disch := omega) only [simx, zzC, zzB, tys, ite_self, opnL, callB, callX, readsB, stepOp, nilCmp, ofVal, opBuiltin, opLen, PV.sk, scalBin, scalUn, intBin, opLoad, natOf, opConvert, opField, cellsP, oneP, Value.oneCell', opStore, toIV, scalT, scalA, scalC, boxesA, boxesC, zipB_none, zipB_mx, isZ, opZip, zeroP, opAppendZ, opMakeMap, opLookup, mboxB, opUpdate, ↓reduceIte, Nat.reduceSub, Nat.reduceEqDiff, Nat.reduceAdd, Nat.reduceMul, Nat.reduceLT, Nat.reduceLeDiff, Int.reduceToNat, Int.reduceLE, Int.reduceLT, Int.reduceNeg, reduceCtorEq, zzR, gos, Int.reduceAdd, Int.reduceSub, Int.reduceMul, Int.reduceEq, e])
    rfl
theorem inverse8_low {P R : Nat} {l : List Int} (hP : Prm P) (M : Mt P R R l) (hin : ∀ a ∈ l, In P a) (h : (tkCup P R R l).1.length < R) :
    CallsP Try.prog 36 [u64 P, matP R R l] (.tup [matP 0 0 [], i64 6]) := by
  have q2 := take8_yes hP M hin
  generalize invsT P (tkCup P R R l) = vs at q2
  generalize tkCup P R R l = c at q2 h
  obtain ⟨rw0, cw, cc, uu⟩ := c
  simp only at h
  have h1 : (rw0.length : Int) < (R : Int) := by omega
  refine X_startP (n := 74) (m := 2) (rs := [.cell 4 25, .tmp 5]) Try.func36 rfl rfl rfl rfl (by decide) fun base => ?_
  repeat (first | ((first | refine X_call_fn2 rfl (by simp only [tys]) ?_ | refine X_dcall_fn2 rfl (by simp only [tys]) ?_); apply Exists.intro; apply And.intro; (focus (simp -dsimp only [simx, zzC, zzB, tys, ite_self, opnL, callB, callX, readsB, stepOp, nilCmp, ofVal, opBuiltin, opLen, PV.sk, scalBin, scalUn, intBin, opLoad, natOf, opConvert, opField, cellsP, oneP, Value.oneCell', opStore, toIV, scalT, scalA, scalC, boxesA, boxesC, zipB_none, zipB_mx, isZ, opZip, zeroP, opAppendZ, opMakeMap, opLookup, mboxB, opUpdate, ↓reduceIte, Nat.reduceSub, Nat.reduceEqDiff, Nat.reduceAdd, Nat.reduceMul, Nat.reduceLT, Nat.reduceLeDiff, Int.reduceToNat, Int.reduceLE, Int.reduceLT, Int.reduceNeg, reduceCtorEq, zzL, if_true, if_false] <;> rfl)); apply Exists.intro; apply And.intro; (focus (first | exact q2))) | refine X_opc rfl ?_ | refine X_dopc rfl ?_ | refine ⟨(by show drawK _ _ = true; kernel_rfl : drawX _ _ _), ?_⟩ | exact (by show drawK _ _ = true; kernel_rfl : drawX _ _ _) | simp -dsimp (maxSteps := 20000000) (disch := omega) only [simx, zzC, zzB, tys, ite_self, opnL, callB, callX, readsB, stepOp, nilCmp, ofVal, opBuiltin, opLen, PV.sk, scalBin, scalUn, intBin, opLoad, natOf, opConvert, opField, cellsP, oneP, Value.oneCell', opStore, toIV, scalT, scalA, scalC, boxesA, boxesC, zipB_none, zipB_mx, isZ, opZip, zeroP, opAppendZ, opMakeMap, opLookup, mboxB, opUpdate, ↓reduceIte, Nat.reduceSub, Nat.reduceEqDiff, Nat.reduceAdd, Nat.reduceMul, Nat.reduceLT, Nat.reduceLeDiff, Int.reduceToNat, Int.reduceLE, Int.reduceLT, Int.reduceNeg, reduceCtorEq, zzR, gos, Int.reduceAdd, Int.reduceSub, Int.reduceMul, Int.reduceEq, h1, SK.len])
  rfl
set_option maxHeartbeats 8000000 in
theorem inverse8_yes {P R : Nat} {l : List Int} (hP : Prm P) (M : Mt P R R l) (hin : ∀ a ∈ l, In P a) (h : (tkCup P R R l).1.length = R) :
    CallsP Try.prog 36 [u64 P, matP R R l] (.tup [matP R R (turnM R R (invJ P R (tkCup P R R l) R)), i64 0]) := by
  have hp := M.hp
  have r1 := M.r1
  have r2 := M.r2
  have q2 := take8_yes hP M hin
  have hw := tkCup_W hP M hin
  have vi := invsT_in hP hp hw
  have k1 := fun (vs b : List Int) (hb : ∀ a ∈ b, In P a) (hbl : b.length = R) => halves_walk (l := l) (vs := vs) hp hw r2 hb hbl
  have k2 := fun b (hb : ∀ a ∈ b, In P a) (hbl : b.length = R) => solved_walk (l := l) (x := zeroV R) (z := hlL P (tkCup P R R l) b (tkCup P R R l).1.length) hp hw r2 r2 (zeroV_in hp R) (zeroV_len R) (hlL_in hp hw hb hbl _ (Nat.le_refl _)) (hlL_len ..) vi.1 vi.2
  have zl := fun b => hlL_len P (tkCup P R R l) b (tkCup P R R l).1.length
  change ∀ b, _ → _ → CallsW _ _ _ _ _ ((solX P R (tkCup P R R l) b).map iu) at k2
  have xl := fun b => solX_len P R (tkCup P R R l) b
  have inx := invJ_next P R (tkCup P R R l)
  have inl := invJ_len P R (tkCup P R R l)
  have Mi : Mt P R R (invJ P R (tkCup P R R l) R) := ⟨hp, r1, r2, r1, r2, inl R, fun a ha => (invJ_in hp R _ R a ha).2⟩
  have q3 := turn_walk P R R (invJ P R (tkCup P R R l) R) (by rw [inl]; have := rc_bd r2 r2; rw [mx_len]; omega)
  rw [show turnR P R R (invJ P R (tkCup P R R l) R) = (((R : Int), (R : Int), turnM R R (invJ P R (tkCup P R R l) R)), (0 : Int)) by unfold turnR; rw [mat_mk Mi]; rfl] at q3
  rw [h] at k1 k2 zl
  have k1 := k1 (invsT P (tkCup P R R l))
  have i0 : invJ P R (tkCup P R R l) 0 = [] := rfl
  generalize hZ : (fun b => hlL P (tkCup P R R l) b R) = HZ at *
  have hz : ∀ b, hlL P (tkCup P R R l) b R = HZ b := fun b => by rw [← hZ]
  simp only [hz] at k1 k2 zl
  generalize solX P R (tkCup P R R l) = SX at k2 xl inx
  generalize invJ P R (tkCup P R R l) = IJ at inx inl Mi q3 i0 ⊢
  generalize invsT P (tkCup P R R l) = vs at q2 vi k1 k2
  clear hz hZ
  generalize tkCup P R R l = c at q2 hw k1 k2 h
  obtain ⟨rw0, cw, cc, uu⟩ := c
  simp only at h
  have h1 : ¬ (rw0.length : Int) < (R : Int) := by omega
  have b1 : R * 8 ≤ 140737488355328 := by omega
  have b2 : R ≤ 140737488355328 := by omega
  have bd := rc_bd r2 r2
  have rl : ((zeroRow [Value.int .u64 0] R).map IV.v).length = R := by rw [List.length_map, zeroRow_len]; simp
  have ez : (zeroRow [Value.int .u64 0] R).map IV.v = (zeroV R).map iu := zero_tbl R
  refine X_startP (n := 74) (m := 2) (rs := [.cell 4 25, .tmp 5]) Try.func36 rfl rfl rfl rfl (by decide) fun base => ?_
  repeat (first | ((first | refine X_call_fn2 rfl (by simp only [tys]) ?_ | refine X_dcall_fn2 rfl (by simp only [tys]) ?_); apply Exists.intro; apply And.intro; (focus (simp -dsimp only [simx, zzC, zzB, tys, ite_self, opnL, callB, callX, readsB, stepOp, nilCmp, ofVal, opBuiltin, opLen, PV.sk, scalBin, scalUn, intBin, opLoad, natOf, opConvert, opField, cellsP, oneP, Value.oneCell', opStore, toIV, scalT, scalA, scalC, boxesA, boxesC, zipB_none, zipB_mx, isZ, opZip, zeroP, opAppendZ, opMakeMap, opLookup, mboxB, opUpdate, ↓reduceIte, Nat.reduceSub, Nat.reduceEqDiff, Nat.reduceAdd, Nat.reduceMul, Nat.reduceLT, Nat.reduceLeDiff, Int.reduceToNat, Int.reduceLE, Int.reduceLT, Int.reduceNeg, reduceCtorEq, zzL, if_true, if_false] <;> rfl)); apply Exists.intro; apply And.intro; (focus (first | exact q2))) | refine X_opc rfl ?_ | refine X_dopc rfl ?_ | refine ⟨(by show drawK _ _ = true; kernel_rfl : drawX _ _ _), ?_⟩ | exact (by show drawK _ _ = true; kernel_rfl : drawX _ _ _) | simp -dsimp (maxSteps := 20000000) (disch := omega) only [simx, zzC, zzB, tys, ite_self, opnL, callB, callX, readsB, stepOp, nilCmp, ofVal, opBuiltin, opLen, PV.sk, scalBin, scalUn, intBin, opLoad, natOf, opConvert, opField, cellsP, oneP, Value.oneCell', opStore, toIV, scalT, scalA, scalC, boxesA, boxesC, zipB_none, zipB_mx, isZ, opZip, zeroP, opAppendZ, opMakeMap, opLookup, mboxB, opUpdate, ↓reduceIte, Nat.reduceSub, Nat.reduceEqDiff, Nat.reduceAdd, Nat.reduceMul, Nat.reduceLT, Nat.reduceLeDiff, Int.reduceToNat, Int.reduceLE, Int.reduceLT, Int.reduceNeg, reduceCtorEq, gos, Int.reduceAdd, Int.reduceSub, Int.reduceMul, Int.reduceEq, h1, SK.len])
  refine X_loopH [0, 3, 4, 6, 8, 44, 45] [(12, 2) :: base, (12, 5) :: base] (0) (R) (fun j => True) (fun j => [(45, i64 j)]) (fun j => rowH ((((Heap.none.put ((0, 0) :: base) (.var [i64 R, i64 R, lu l])).put ((0, 1) :: base) (.var [i64 0, i64 0, nilP])).put ((3, 6) :: base) (.var [li rw0, li cw, llP cc, llP uu, u64 P, i64 R, i64 R, lu l, lu vs])).put ((8, 5) :: base) (.var [i64 R, i64 R, rowP ((15, 3) :: base) 1 (j * R) ((IJ j).map iu)])) ((15, 3) :: base) (j * R) ((IJ j).map iu)) ?_ ?_ ?_ ?_ ?_ (by decide) ?_
  · exact (fgt_cons (by simp only [Heap.none_at]) (by (simp -dsimp only [zzB, tys, ite_self, opnL, callB, callX, readsB, stepOp, nilCmp, ofVal, opBuiltin, opLen, PV.sk, scalBin, scalUn, intBin, opLoad, natOf, opConvert, opField, cellsP, oneP, Value.oneCell', opStore, toIV, scalT, scalA, scalC, boxesA, boxesC, zipB_none, zipB_mx, isZ, opZip, zeroP, opAppendZ, opMakeMap, opLookup, mboxB, opUpdate, ↓reduceIte, Nat.reduceSub, Nat.reduceEqDiff, Nat.reduceAdd, Nat.reduceMul, Nat.reduceLT, Nat.reduceLeDiff, Int.reduceToNat, Int.reduceLE, Int.reduceLT, Int.reduceNeg, reduceCtorEq, notIn_cons, notIn_nil]) <;> simp [refsL, refsP, mem_refs_rowP]) (by repeat (first | exact noVar_none _ | refine noVar_row ?_ | refine noVar_map ?_ | refine noVar_rowH ?_ | refine noVar_var ?_ (by simp [refsL, refsP, mem_refs_rowP]))) (fgt_cons (by simp only [Heap.none_at]) (by (simp -dsimp only [zzB, tys, ite_self, opnL, callB, callX, readsB, stepOp, nilCmp, ofVal, opBuiltin, opLen, PV.sk, scalBin, scalUn, intBin, opLoad, natOf, opConvert, opField, cellsP, oneP, Value.oneCell', opStore, toIV, scalT, scalA, scalC, boxesA, boxesC, zipB_none, zipB_mx, isZ, opZip, zeroP, opAppendZ, opMakeMap, opLookup, mboxB, opUpdate, ↓reduceIte, Nat.reduceSub, Nat.reduceEqDiff, Nat.reduceAdd, Nat.reduceMul, Nat.reduceLT, Nat.reduceLeDiff, Int.reduceToNat, Int.reduceLE, Int.reduceLT, Int.reduceNeg, reduceCtorEq, notIn_cons, notIn_nil]) <;> simp [refsL, refsP, mem_refs_rowP]) (by repeat (first | exact noVar_none _ | refine noVar_row ?_ | refine noVar_map ?_ | refine noVar_rowH ?_ | refine noVar_var ?_ (by simp [refsL, refsP, mem_refs_rowP]))) (fgt_nil)))
  · ((simp -dsimp (disch := omega) only [simx, zzB, tys, ite_self, opnL, callB, callX, readsB, stepOp, nilCmp, ofVal, opBuiltin, opLen, PV.sk, scalBin, scalUn, intBin, opLoad, natOf, opConvert, opField, cellsP, oneP, Value.oneCell', opStore, toIV, scalT, scalA, scalC, boxesA, boxesC, zipB_none, zipB_mx, isZ, opZip, zeroP, opAppendZ, opMakeMap, opLookup, mboxB, opUpdate, ↓reduceIte, Nat.reduceSub, Nat.reduceEqDiff, Nat.reduceAdd, Nat.reduceMul, Nat.reduceLT, Nat.reduceLeDiff, Int.reduceToNat, Int.reduceLE, Int.reduceLT, Int.reduceNeg, reduceCtorEq, gos, Int.reduceAdd, Int.reduceSub, Int.reduceMul, Int.reduceEq]) <;> first | rfl | simp)
  · rw [i0, Nat.zero_mul, rowP_zero, rowH_zero]
    funext c
    simp (maxSteps := 20000000) only [Heap.drop_at, rowH_app, Heap.put_at, Heap.none_at, List.mem_cons, List.not_mem_nil, or_false]
    by_cases e0 : c = (0, 0) :: base
    · subst e0; simp []
    by_cases e1 : c = (0, 1) :: base
    · subst e1; simp []
    by_cases e2 : c = (3, 6) :: base
    · subst e2; simp []
    by_cases e3 : c = (8, 5) :: base
    · subst e3; simp []
    by_cases e4 : c = (12, 2) :: base
    · subst e4; simp []
    by_cases e5 : c = (12, 5) :: base
    · subst e5; simp []
    simp [e0, e1, e2, e3, e4, e5]
  · omega
  · trivial
  · intro j hj _
    by_cases cj : j < R
    · have j1 : j + 1 ≤ R := cj
      have px := tbl_put_iu (fun _ => 0) 1 cj
      rw [← zero_tbl R] at px
      change _ = (uniV R j).map iu at px
      have ulen := uniV_len R j
      have k1 := k1 (uniV R j) (uniV_in hp R j) ulen
      have k2 := k2 (uniV R j) (uniV_in hp R j) ulen
      have zl := zl (uniV R j)
      have xl := xl (uniV R j)
      have nx := inx j
      have il := inl j
      generalize SX (uniV R j) = X at k2 xl nx
      generalize HZ (uniV R j) = Z at k1 k2 zl
      generalize uniV R j = U at px k1 ulen
      rw [lu, zl] at k1
      have ut : (U.map iu).take R = U.map iu := List.take_of_length_le (by simp [ulen])
      have b3 := ic_bd (c := R) cj
      repeat (first | ((first | refine X_call_fn2 rfl (by simp only [tys]) ?_ | refine X_dcall_fn2 rfl (by simp only [tys]) ?_); apply Exists.intro; apply And.intro; (focus (simp -dsimp only [simx, zzC, zzB, tys, ite_self, opnL, callB, callX, readsB, stepOp, nilCmp, ofVal, opBuiltin, opLen, PV.sk, scalBin, scalUn, intBin, opLoad, natOf, opConvert, opField, cellsP, oneP, Value.oneCell', opStore, toIV, scalT, scalA, scalC, boxesA, boxesC, zipB_none, zipB_mx, isZ, opZip, zeroP, opAppendZ, opMakeMap, opLookup, mboxB, opUpdate, ↓reduceIte, Nat.reduceSub, Nat.reduceEqDiff, Nat.reduceAdd, Nat.reduceMul, Nat.reduceLT, Nat.reduceLeDiff, Int.reduceToNat, Int.reduceLE, Int.reduceLT, Int.reduceNeg, reduceCtorEq, zzL, if_true, if_false, List.length_map, ulen, ut] <;> rfl)); apply Exists.intro; apply And.intro; (focus (first | exact k1))) | refine X_opc rfl ?_ | refine X_dopc rfl ?_ | refine ⟨(by show drawK _ _ = true; kernel_rfl : drawX _ _ _), ?_⟩ | exact (by show drawK _ _ = true; kernel_rfl : drawX _ _ _) | simp -dsimp (maxSteps := 20000000) (disch := omega) only [simx, zzC, zzB, tys, ite_self, opnL, callB, callX, readsB, stepOp, nilCmp, ofVal, opBuiltin, opLen, PV.sk, scalBin, scalUn, intBin, opLoad, natOf, opConvert, opField, cellsP, oneP, Value.oneCell', opStore, toIV, scalT, scalA, scalC, boxesA, boxesC, zipB_none, zipB_mx, isZ, opZip, zeroP, opAppendZ, opMakeMap, opLookup, mboxB, opUpdate, ↓reduceIte, Nat.reduceSub, Nat.reduceEqDiff, Nat.reduceAdd, Nat.reduceMul, Nat.reduceLT, Nat.reduceLeDiff, Int.reduceToNat, Int.reduceLE, Int.reduceLT, Int.reduceNeg, reduceCtorEq, gos, Int.reduceAdd, Int.reduceSub, Int.reduceMul, Int.reduceEq, cj, b1, b2, rl, j1, px, List.length_map, ulen, ut])
      refine X_dcall_w (args := [takenP P R R l (rw0, cw, cc, uu) vs, .view ((12, 5) :: base) 0 1 R R, .i (.l R (Z.map iu))]) ((12, 5) :: base) k2 rfl (by simp only [tys]) rfl (by simp [Heap.put_at]; exact ez) (by simp [boxesA, boxesC]) (by simp [mapO, lowerW, isV, reV, boxesA, boxesC, lowerA, lowerC]) rfl (by simp [xl, zeroV_len]) ?_
      rw [show (List.filter (notB ((12, 5) :: base)) (List.flatMap boxesA [takenP P R R l (rw0, cw, cc, uu) vs, .view ((12, 5) :: base) 0 1 R R, .i (.l R (Z.map iu))])) = [] by simp [boxesA, boxesC, notB]]
      repeat (first | refine X_opc rfl ?_ | refine X_dopc rfl ?_ | refine ⟨(by show drawK _ _ = true; kernel_rfl : drawX _ _ _), ?_⟩ | exact (by show drawK _ _ = true; kernel_rfl : drawX _ _ _) | simp -dsimp (maxSteps := 20000000) (disch := omega) only [simx, zzC, zzB, tys, ite_self, opnL, callB, callX, readsB, stepOp, nilCmp, ofVal, opBuiltin, opLen, PV.sk, scalBin, scalUn, intBin, opLoad, natOf, opConvert, opField, cellsP, oneP, Value.oneCell', opStore, toIV, scalT, scalA, scalC, boxesA, boxesC, zipB_none, zipB_mx, isZ, opZip, zeroP, opAppendZ, opMakeMap, opLookup, mboxB, opUpdate, ↓reduceIte, Nat.reduceSub, Nat.reduceEqDiff, Nat.reduceAdd, Nat.reduceMul, Nat.reduceLT, Nat.reduceLeDiff, Int.reduceToNat, Int.reduceLE, Int.reduceLT, Int.reduceNeg, reduceCtorEq, gos, Int.reduceAdd, Int.reduceSub, Int.reduceMul, Int.reduceEq])
      have xt : (X.map iu).take R = X.map iu := List.take_of_length_le (by simp [xl])
      refine X_append_any (s := (15, 3) :: base) (n := j * R) (z := 1) (m := R) (cs := (IJ j).map iu) 22 [.int .u64 0] (X.map iu) (k2 := .own ((12, 5) :: base) 0 1 R R) (by simp only [tys]) (by simp only [tys]) rfl (by decide) (by simp [il]) (by simp [rowH_app, Heap.put_at, Heap.none_at]) rfl rfl (by omega) (by simp [SK.cells, Heap.put_at, xl, xt]) (by simp only [tys]; omega) (by rw [mx_len]; omega) ?_
      have rp : rowP ((15, 3) :: base) 1 (j * R + R) ((IJ j).map iu ++ X.map iu) = .view ((15, 3) :: base) 0 1 (j * R + R) ((IJ j).map iu ++ X.map iu).length := if_neg (by omega)
      repeat (first | refine X_opc rfl ?_ | refine X_dopc rfl ?_ | refine ⟨(by show drawK _ _ = true; kernel_rfl : drawX _ _ _), ?_⟩ | exact (by show drawK _ _ = true; kernel_rfl : drawX _ _ _) | simp -dsimp (maxSteps := 20000000) (disch := omega) only [simx, zzC, zzB, tys, ite_self, opnL, callB, callX, readsB, stepOp, nilCmp, ofVal, opBuiltin, opLen, PV.sk, scalBin, scalUn, intBin, opLoad, natOf, opConvert, opField, cellsP, oneP, Value.oneCell', opStore, toIV, scalT, scalA, scalC, boxesA, boxesC, zipB_none, zipB_mx, isZ, opZip, zeroP, opAppendZ, opMakeMap, opLookup, mboxB, opUpdate, ↓reduceIte, Nat.reduceSub, Nat.reduceEqDiff, Nat.reduceAdd, Nat.reduceMul, Nat.reduceLT, Nat.reduceLeDiff, Int.reduceToNat, Int.reduceLE, Int.reduceLT, Int.reduceNeg, reduceCtorEq, gos, Int.reduceAdd, Int.reduceSub, Int.reduceMul, Int.reduceEq, rp])
      have sm : (j + 1) * R = j * R + R := Nat.succ_mul j R
      have hd : ¬ R = 0 := by omega
      refine ⟨cj, (fgt_cons (by simp only [Heap.none_at]) (by (simp -dsimp only [zzB, tys, ite_self, opnL, callB, callX, readsB, stepOp, nilCmp, ofVal, opBuiltin, opLen, PV.sk, scalBin, scalUn, intBin, opLoad, natOf, opConvert, opField, cellsP, oneP, Value.oneCell', opStore, toIV, scalT, scalA, scalC, boxesA, boxesC, zipB_none, zipB_mx, isZ, opZip, zeroP, opAppendZ, opMakeMap, opLookup, mboxB, opUpdate, ↓reduceIte, Nat.reduceSub, Nat.reduceEqDiff, Nat.reduceAdd, Nat.reduceMul, Nat.reduceLT, Nat.reduceLeDiff, Int.reduceToNat, Int.reduceLE, Int.reduceLT, Int.reduceNeg, reduceCtorEq, notIn_cons, notIn_nil]) <;> simp [refsL, refsP, mem_refs_rowP]) (by repeat (first | exact noVar_none _ | refine noVar_row ?_ | refine noVar_map ?_ | refine noVar_rowH ?_ | refine noVar_var ?_ (by simp [refsL, refsP, mem_refs_rowP]))) (fgt_cons (by simp only [Heap.none_at]) (by (simp -dsimp only [zzB, tys, ite_self, opnL, callB, callX, readsB, stepOp, nilCmp, ofVal, opBuiltin, opLen, PV.sk, scalBin, scalUn, intBin, opLoad, natOf, opConvert, opField, cellsP, oneP, Value.oneCell', opStore, toIV, scalT, scalA, scalC, boxesA, boxesC, zipB_none, zipB_mx, isZ, opZip, zeroP, opAppendZ, opMakeMap, opLookup, mboxB, opUpdate, ↓reduceIte, Nat.reduceSub, Nat.reduceEqDiff, Nat.reduceAdd, Nat.reduceMul, Nat.reduceLT, Nat.reduceLeDiff, Int.reduceToNat, Int.reduceLE, Int.reduceLT, Int.reduceNeg, reduceCtorEq, notIn_cons, notIn_nil]) <;> simp [refsL, refsP, mem_refs_rowP]) (by repeat (first | exact noVar_none _ | refine noVar_row ?_ | refine noVar_map ?_ | refine noVar_rowH ?_ | refine noVar_var ?_ (by simp [refsL, refsP, mem_refs_rowP]))) (fgt_nil))), rfl, ?_⟩
      rw [sm, nx, List.map_append, rp]
      funext c
      simp (maxSteps := 20000000) only [Heap.drop_at, rowH_app, Heap.put_at, Heap.none_at, List.mem_cons, List.not_mem_nil, or_false]
      by_cases e0 : c = (0, 0) :: base
      · subst e0; simp [hd]
      by_cases e1 : c = (0, 1) :: base
      · subst e1; simp [hd]
      by_cases e2 : c = (3, 6) :: base
      · subst e2; simp [hd]
      by_cases e3 : c = (8, 5) :: base
      · subst e3; simp [hd]
      by_cases e4 : c = (12, 2) :: base
      · subst e4; simp [hd]
      by_cases e5 : c = (12, 5) :: base
      · subst e5; simp [hd]
      by_cases e6 : c = (15, 3) :: base
      · subst e6; simp [hd]
      simp [e0, e1, e2, e3, e4, e5, e6, hd]
    · have ej : R = j := by omega
      subst ej
      have il := inl R
      have hne : ¬ R * R = 0 := Nat.ne_of_gt (Nat.mul_pos (by omega) (by omega))
      have rp : rowP ((15, 3) :: base) 1 (R * R) ((IJ R).map iu) = .view ((15, 3) :: base) 0 1 (R * R) (R * R) := by unfold rowP; rw [if_neg hne, List.length_map, il]
      have it : ((IJ R).map iu).take (R * R) = (IJ R).map iu := List.take_of_length_le (by simp [il])
      rw [rp]
      rw [matP, lu, il] at q3
      repeat (first | ((first | refine X_call_fn2 rfl (by simp only [tys]) ?_ | refine X_dcall_fn2 rfl (by simp only [tys]) ?_); apply Exists.intro; apply And.intro; (focus (simp -dsimp only [simx, zzC, zzB, tys, ite_self, opnL, callB, callX, readsB, stepOp, nilCmp, ofVal, opBuiltin, opLen, PV.sk, scalBin, scalUn, intBin, opLoad, natOf, opConvert, opField, cellsP, oneP, Value.oneCell', opStore, toIV, scalT, scalA, scalC, boxesA, boxesC, zipB_none, zipB_mx, isZ, opZip, zeroP, opAppendZ, opMakeMap, opLookup, mboxB, opUpdate, ↓reduceIte, Nat.reduceSub, Nat.reduceEqDiff, Nat.reduceAdd, Nat.reduceMul, Nat.reduceLT, Nat.reduceLeDiff, Int.reduceToNat, Int.reduceLE, Int.reduceLT, Int.reduceNeg, reduceCtorEq, zzL, if_true, if_false, List.length_map, il, it, hne] <;> rfl)); apply Exists.intro; apply And.intro; (focus (first | exact q3))) | refine X_opc rfl ?_ | refine X_dopc rfl ?_ | refine ⟨(by show drawK _ _ = true; kernel_rfl : drawX _ _ _), ?_⟩ | exact (by show drawK _ _ = true; kernel_rfl : drawX _ _ _) | simp -dsimp (maxSteps := 20000000) (disch := omega) only [simx, zzC, zzB, tys, ite_self, opnL, callB, callX, readsB, stepOp, nilCmp, ofVal, opBuiltin, opLen, PV.sk, scalBin, scalUn, intBin, opLoad, natOf, opConvert, opField, cellsP, oneP, Value.oneCell', opStore, toIV, scalT, scalA, scalC, boxesA, boxesC, zipB_none, zipB_mx, isZ, opZip, zeroP, opAppendZ, opMakeMap, opLookup, mboxB, opUpdate, ↓reduceIte, Nat.reduceSub, Nat.reduceEqDiff, Nat.reduceAdd, Nat.reduceMul, Nat.reduceLT, Nat.reduceLeDiff, Int.reduceToNat, Int.reduceLE, Int.reduceLT, Int.reduceNeg, reduceCtorEq, zzR, gos, Int.reduceAdd, Int.reduceSub, Int.reduceMul, Int.reduceEq, hne, List.length_map, il, it])
      skip
end Go.Proofs.Ythnfphgjfpcpbaa.TM
namespace Go.Proofs.Ythnfphgjfpcpbaa.TM
open Go Go.RowKit
def sumN : Nat → (Nat → Int) → Int
  | 0, _ => 0
  | n + 1, f => sumN n f + f n
theorem sumN_congr {n : Nat} {f g : Nat → Int} (h : ∀ i, i < n → f i = g i) : sumN n f = sumN n g := by
  induction n with
  | zero => rfl
  | succ n ih => rw [sumN, sumN, ih (fun i hi => h i (by omega)), h n (by omega)]
theorem sumN_add (n : Nat) (f g : Nat → Int) : sumN n (fun i => f i + g i) = sumN n f + sumN n g := by
  induction n with
  | zero => rfl
  | succ n ih => simp only [sumN, ih]; omega
theorem sumN_sub (n : Nat) (f g : Nat → Int) : sumN n (fun i => f i - g i) = sumN n f - sumN n g := by
  induction n with
  | zero => rfl
  | succ n ih => simp only [sumN, ih]; omega
theorem sumN_mul (n : Nat) (a : Int) (f : Nat → Int) : sumN n (fun i => a * f i) = a * sumN n f := by
  induction n with
  | zero => simp [sumN]
  | succ n ih => simp only [sumN, ih, Int.mul_add]
theorem sumN_mulr (n : Nat) (a : Int) (f : Nat → Int) : sumN n (fun i => f i * a) = sumN n f * a := by
  induction n with
  | zero => simp [sumN]
  | succ n ih => simp only [sumN, ih, Int.add_mul]
theorem sumN_zero (n : Nat) : sumN n (fun _ => 0) = 0 := by
  induction n with
  | zero => rfl
  | succ n ih => simp [sumN, ih]
theorem sumN_z {n : Nat} {f : Nat → Int} (h : ∀ i, i < n → f i = 0) : sumN n f = 0 := (sumN_congr h).trans (sumN_zero n)
theorem sumN_swap (m n : Nat) (f : Nat → Nat → Int) : sumN m (fun i => sumN n (fun j => f i j)) = sumN n (fun j => sumN m (fun i => f i j)) := by
  induction m with
  | zero => simp [sumN, sumN_zero]
  | succ m ih => simp only [sumN, ih, sumN_add]
theorem sumN_mod {p : Int} {n : Nat} {f g : Nat → Int} (h : ∀ i, i < n → f i % p = g i % p) : sumN n f % p = sumN n g % p := by
  induction n with
  | zero => rfl
  | succ n ih => rw [sumN, sumN, Int.add_emod, ih (fun i hi => h i (by omega)), h n (by omega), ← Int.add_emod]
theorem sumN_one {n i : Nat} (f : Nat → Int) (hi : i < n) : sumN n (fun k => if k = i then f k else 0) = f i := by
  induction n with
  | zero => omega
  | succ n ih =>
    rw [sumN]
    by_cases h : i = n
    · subst h
      rw [sumN_z (fun k hk => if_neg (by omega)), if_pos rfl, Int.zero_add]
    · rw [ih (by omega), if_neg (by omega), Int.add_zero]
theorem sumN_split (m n : Nat) (f : Nat → Int) : sumN (m + n) f = sumN m f + sumN n (fun i => f (m + i)) := by
  induction n with
  | zero => simp [sumN]
  | succ n ih => rw [← Nat.add_assoc, sumN, ih, sumN]; omega
theorem dotI_eq : ∀ (n : Nat) (a b : List Int), a.length = n → b.length = n → dotI a b = sumN n (fun k => a.getD k 0 * b.getD k 0)
  | 0, [], [], _, _ => rfl
  | n + 1, x :: a, y :: b, ha, hb => by
    rw [dotI, dotI_eq n a b (by simpa using ha) (by simpa using hb), Nat.add_comm, sumN_split 1 n]
    simp only [sumN, Int.zero_add]
    congr 1
    apply sumN_congr
    intro i _
    rw [Nat.add_comm 1 i]; simp
  | 0, _ :: _, _, h, _ => by simp at h
  | 0, [], _ :: _, _, h => by simp at h
  | n + 1, [], _, h, _ => by simp at h
  | n + 1, _ :: _, [], _, h => by simp at h
def cl (c : Nat) (l : List Int) (i k : Nat) : Int := l.getD (i * c + k) 0
theorem rowM_cl {r c i k : Nat} {l : List Int} (hl : l.length = r * c) (hi : i < r) (hk : k < c) : (rowM c l i).getD k 0 = cl c l i k := by
  have b1 := ic_bd (c := c) hi
  have e3 : i * c + k < l.length := by omega
  unfold cl rowM
  rw [List.getD_eq_getElem?_getD, List.getD_eq_getElem?_getD, List.getElem?_take, if_pos hk, List.getElem?_drop]
theorem cl_tbl {r c i k : Nat} (f : Nat → Int) (hi : i < r) (hk : k < c) : cl c (tbl (r * c) f) i k = f (i * c + k) := by
  have b1 := ic_bd (c := c) hi
  exact tbl_getD f (by omega)
theorem dc_div {c i k : Nat} (hk : k < c) : (i * c + k) / c = i := by
  rw [Nat.add_comm, Nat.add_mul_div_right _ _ (by omega), Nat.div_eq_of_lt hk, Nat.zero_add]
theorem dc_mod {c i k : Nat} (hk : k < c) : (i * c + k) % c = k := by
  rw [Nat.add_comm, Nat.add_mul_mod_self_right, Nat.mod_eq_of_lt hk]
theorem dotRow {r c i : Nat} {l x : List Int} (hl : l.length = r * c) (hi : i < r) (hx : x.length = c) : dotI (rowM c l i) x = sumN c (fun k => cl c l i k * x.getD k 0) := by
  rw [dotI_eq c _ _ (rowM_len hl hi) hx]
  exact sumN_congr fun k hk => by rw [rowM_cl hl hi hk]
theorem timesM_tbl {p : Int} {r c : Nat} {l x : List Int} (hl : l.length = r * c) (hx : x.length = c) : timesM p r c l x = tbl r (fun i => sumN c (fun k => cl c l i k * x.getD k 0) % p) := by
  unfold timesM tbl
  exact List.map_congr_left fun i hi => by rw [dotRow hl (List.mem_range.1 hi) hx]
theorem turn_cl {r c i k : Nat} (l : List Int) (hi : i < r) (hk : k < c) : cl r (turnM r c l) k i = cl c l i k := by
  have b1 := ic_bd (c := r) hk
  unfold cl turnM
  rw [show (List.range (c * r)).map (fun q => l.getD (srcT r c q) 0) = tbl (c * r) (fun q => l.getD (srcT r c q) 0) from rfl, tbl_getD _ (by omega)]
  unfold srcT
  rw [dc_div hi, dc_mod hi]
end Go.Proofs.Ythnfphgjfpcpbaa.TM
namespace Go.Proofs.Ythnfphgjfpcpbaa.TM
open Go Go.RowKit
def skip (k j : Nat) : Nat := if j < k then j else j + 1
def sg (k : Nat) : Int := if k % 2 = 0 then 1 else -1
theorem sg_zero : sg 0 = 1 := rfl
theorem sg_succ (k : Nat) : sg (k + 1) = - sg k := by
  unfold sg
  by_cases h : k % 2 = 0
  · rw [if_pos h, if_neg (by omega)]
  · rw [if_neg h, if_pos (by omega)]; rfl
abbrev Mx := Nat → Nat → Int
def tr (A : Mx) : Mx := fun i j => A j i
def mnr (A : Mx) (k : Nat) : Mx := fun i j => A (i + 1) (skip k j)
def Lp : Nat → Mx → Int
  | 0, _ => 1
  | n + 1, A => sumN (n + 1) (fun k => sg k * A 0 k * Lp n (mnr A k))
theorem Lp_succ (n : Nat) (A : Mx) : Lp (n + 1) A = sumN (n + 1) (fun k => sg k * A 0 k * Lp n (mnr A k)) := rfl
theorem sumN_succ' (n : Nat) (f : Nat → Int) : sumN (n + 1) f = f 0 + sumN n (fun i => f (i + 1)) := by
  rw [Nat.add_comm, sumN_split 1 n]
  simp only [sumN, Int.zero_add]
  congr 1
  exact sumN_congr fun i _ => by rw [Nat.add_comm 1 i]
theorem skip_lt {n k j : Nat} (hj : j < n) : skip k j < n + 1 := by unfold skip; split <;> omega
theorem Lp_congr : ∀ (n : Nat) {A B : Mx}, (∀ i j, i < n → j < n → A i j = B i j) → Lp n A = Lp n B
  | 0, _, _, _ => rfl
  | n + 1, A, B, h => by
    rw [Lp_succ, Lp_succ]
    refine sumN_congr fun k hk => ?_
    rw [h 0 k (by omega) hk, Lp_congr n (A := mnr A k) (B := mnr B k) fun i j hi hj => h _ _ (by omega) (skip_lt hj)]
theorem Lp_mod {p : Int} : ∀ (n : Nat) {A B : Mx}, (∀ i j, i < n → j < n → A i j % p = B i j % p) → Lp n A % p = Lp n B % p
  | 0, _, _, _ => rfl
  | n + 1, A, B, h => by
    rw [Lp_succ, Lp_succ]
    refine sumN_mod fun k hk => ?_
    rw [Int.mul_emod, Int.mul_emod (sg k), h 0 k (by omega) hk, Lp_mod n (A := mnr A k) (B := mnr B k) fun i j hi hj => h _ _ (by omega) (skip_lt hj), ← Int.mul_emod (sg k), ← Int.mul_emod]
theorem Lp_two (n : Nat) (h1 : ∀ A, Lp (n + 1) A = Lp (n + 1) (tr A)) (h2 : ∀ A, Lp n A = Lp n (tr A)) (A : Mx) :
    Lp (n + 2) A = A 0 0 * Lp (n + 1) (fun i j => A (i + 1) (j + 1)) + sumN (n + 1) (fun k => sumN (n + 1) (fun i => sg (k + 1) * sg i * A 0 (k + 1) * A (i + 1) 0 * Lp n (fun a b => A (skip i a + 1) (skip k b + 1)))) := by
  rw [Lp_succ, sumN_succ', sg_zero, Int.one_mul]
  congr 1
  refine sumN_congr fun k hk => ?_
  rw [h1, Lp_succ, ← sumN_mul]
  refine sumN_congr fun i hi => ?_
  have e1 : tr (mnr A (k + 1)) 0 i = A (i + 1) 0 := rfl
  have e2 : mnr (tr (mnr A (k + 1))) i = tr (fun a b => A (skip i a + 1) (skip k b + 1)) := by
    funext a b
    show A (skip i b + 1) (skip (k + 1) (a + 1)) = A (skip i b + 1) (skip k a + 1)
    congr 1
    unfold skip
    by_cases c : a < k
    · rw [if_pos (by omega), if_pos c]
    · rw [if_neg (by omega), if_neg c]
  rw [e1, e2, ← h2]
  grind
theorem Lp_tr : ∀ (n : Nat) (A : Mx), Lp n A = Lp n (tr A)
  | 0, A => rfl
  | 1, A => by
    rw [Lp_succ, Lp_succ]
    simp [sumN, tr, Lp]
  | n + 2, A => by
    rw [Lp_two n (Lp_tr (n + 1)) (Lp_tr n) A, Lp_two n (Lp_tr (n + 1)) (Lp_tr n) (tr A)]
    have e1 : Lp (n + 1) (fun i j => A (i + 1) (j + 1)) = Lp (n + 1) (fun i j => tr A (i + 1) (j + 1)) := Lp_tr (n + 1) _
    rw [e1, sumN_swap]
    congr 1
    refine sumN_congr fun i hi => sumN_congr fun k hk => ?_
    have e2 : Lp n (fun a b => A (skip i a + 1) (skip k b + 1)) = Lp n (fun a b => tr A (skip k a + 1) (skip i b + 1)) := Lp_tr n _
    rw [e2, sg_succ, sg_succ]
    show - sg k * sg i * A 0 (k + 1) * A (i + 1) 0 * _ = - sg i * sg k * A (i + 1) 0 * A 0 (k + 1) * _
    grind
def updc (A : Mx) (k : Nat) (u : Nat → Int) : Mx := fun i j => if j = k then u i else A i j
theorem mnr_updc_same (A : Mx) (k : Nat) (u : Nat → Int) : mnr (updc A k u) k = mnr A k := by
  funext i j
  show (if skip k j = k then _ else _) = _
  rw [if_neg (by unfold skip; split <;> omega)]; rfl
theorem mnr_updc {A : Mx} {m k : Nat} (h : m ≠ k) (u : Nat → Int) : mnr (updc A k u) m = updc (mnr A m) (if k < m then k else k - 1) (fun i => u (i + 1)) := by
  funext i j
  show (if skip m j = k then u (i + 1) else A (i + 1) (skip m j)) = if j = _ then u (i + 1) else A (i + 1) (skip m j)
  have : skip m j = k ↔ j = (if k < m then k else k - 1) := by
    unfold skip
    split <;> split <;> omega
  simp only [this]
theorem Lp_lin : ∀ (n : Nat) (A : Mx) (k : Nat) (u v : Nat → Int) (c : Int), k < n → Lp n (updc A k (fun i => u i + c * v i)) = Lp n (updc A k u) + c * Lp n (updc A k v)
  | 0, _, _, _, _, _, h => by omega
  | n + 1, A, k, u, v, c, h => by
    rw [Lp_succ, Lp_succ, Lp_succ, ← sumN_mul, ← sumN_add]
    refine sumN_congr fun m hm => ?_
    by_cases e : m = k
    · subst e
      rw [mnr_updc_same, mnr_updc_same, mnr_updc_same]
      show sg m * (if m = m then _ else _) * _ = sg m * (if m = m then _ else _) * _ + c * (sg m * (if m = m then _ else _) * _)
      rw [if_pos rfl, if_pos rfl, if_pos rfl]
      grind
    · rw [mnr_updc e, mnr_updc e, mnr_updc e]
      have ih := Lp_lin n (mnr A m) (if k < m then k else k - 1) (fun i => u (i + 1)) (fun i => v (i + 1)) c (by split <;> omega)
      rw [ih]
      show sg m * (if m = k then _ else _) * _ = sg m * (if m = k then _ else _) * _ + c * (sg m * (if m = k then _ else _) * _)
      rw [if_neg e, if_neg e, if_neg e]
      grind
theorem sumN_pair {n k : Nat} {f : Nat → Int} (hk : k + 1 < n) (h : ∀ m, m < n → m ≠ k → m ≠ k + 1 → f m = 0) (h2 : f k + f (k + 1) = 0) : sumN n f = 0 := by
  have e : sumN n f = sumN n (fun m => (if m = k then f m else 0) + (if m = k + 1 then f m else 0)) := sumN_congr fun m hm => by
    by_cases a : m = k
    · rw [if_pos a, if_neg (by omega)]; omega
    · by_cases b : m = k + 1
      · rw [if_neg a, if_pos b]; omega
      · rw [if_neg a, if_neg b, h m hm a b]; rfl
  rw [e, sumN_add, sumN_one f (by omega), sumN_one f hk, h2]
theorem Lp_adj : ∀ (n : Nat) (A : Mx) (k : Nat), k + 1 < n → (∀ i, A i k = A i (k + 1)) → Lp n A = 0
  | 0, _, _, h, _ => by omega
  | n + 1, A, k, hk, he => by
    rw [Lp_succ]
    refine sumN_pair hk (fun m hm h1 h2 => ?_) ?_
    · rw [Lp_adj n (mnr A m) (if k < m then k else k - 1) (by split <;> omega) fun i => ?_, Int.mul_zero]
      show A (i + 1) (skip m _) = A (i + 1) (skip m _)
      by_cases c : k < m
      · rw [if_pos c, show skip m k = k by unfold skip; rw [if_pos c], show skip m (k + 1) = k + 1 by unfold skip; rw [if_pos (by omega)], he]
      · rw [if_neg c, show skip m (k - 1) = k by unfold skip; rw [if_neg (by omega)]; omega, show skip m (k - 1 + 1) = k + 1 by unfold skip; rw [if_neg (by omega)]; omega, he]
    · have e : Lp n (mnr A k) = Lp n (mnr A (k + 1)) := by
        congr 1
        funext i j
        show A (i + 1) (skip k j) = A (i + 1) (skip (k + 1) j)
        by_cases a : j < k
        · rw [show skip k j = j by unfold skip; rw [if_pos a], show skip (k + 1) j = j by unfold skip; rw [if_pos (by omega)]]
        · by_cases b : j = k
          · subst b
            rw [show skip j j = j + 1 by unfold skip; rw [if_neg (by omega)], show skip (j + 1) j = j by unfold skip; rw [if_pos (by omega)], he]
          · rw [show skip k j = j + 1 by unfold skip; rw [if_neg a], show skip (k + 1) j = j + 1 by unfold skip; rw [if_neg (by omega)]]
      rw [e, he 0, sg_succ]
      grind
end Go.Proofs.Ythnfphgjfpcpbaa.TM
namespace Go.Proofs.Ythnfphgjfpcpbaa.TM
open Go Go.RowKit
theorem emod_sub0 {p a b : Int} : a % p = b % p ↔ (a - b) % p = 0 := (Int.emod_eq_emod_iff_emod_sub_eq_zero)
theorem em_mul {p a b c d : Int} (h1 : a % p = b % p) (h2 : c % p = d % p) : a * c % p = b * d % p := by rw [Int.mul_emod, h1, h2, ← Int.mul_emod]
theorem em_add {p a b c d : Int} (h1 : a % p = b % p) (h2 : c % p = d % p) : (a + c) % p = (b + d) % p := by rw [Int.add_emod, h1, h2, ← Int.add_emod]
theorem em_sub {p a b c d : Int} (h1 : a % p = b % p) (h2 : c % p = d % p) : (a - c) % p = (b - d) % p := by rw [Int.sub_emod, h1, h2, ← Int.sub_emod]
theorem em_z {p a b : Int} (h : a % p = 0) : a * b % p = 0 := by rw [Int.mul_emod, h, Int.zero_mul, Int.zero_emod]
theorem em_z' {p a b : Int} (h : b % p = 0) : a * b % p = 0 := by rw [Int.mul_comm]; exact em_z h
theorem bezout (m n : Nat) : ∃ x y : Int, (m : Int) * x + (n : Int) * y = (Nat.gcd m n : Int) := by
  induction m, n using Nat.gcd.induction with
  | H0 n => exact ⟨0, 1, by simp⟩
  | H1 m n hm ih =>
    obtain ⟨x, y, h⟩ := ih
    refine ⟨y - (n / m : Nat) * x, x, ?_⟩
    rw [Nat.gcd_rec, ← h]
    have e : (n : Int) = ((n % m : Nat) : Int) + (m : Int) * ((n / m : Nat) : Int) := by have := Nat.mod_add_div n m; omega
    rw [e]
    grind
theorem prm_nz {P : Nat} (hP : Prm P) {a : Int} (h : a % P ≠ 0) : ∃ b, a * b % P = 1 := by
  have h2 := hP.1
  have hp : (0 : Int) < P := by omega
  have i1 := Int.emod_nonneg a (show (P : Int) ≠ 0 by omega)
  have i2 := Int.emod_lt_of_pos a hp
  have g := hP.2 (a % P).toNat (by omega) (by omega)
  obtain ⟨x, y, hxy⟩ := bezout P (a % P).toNat
  rw [g, show ((a % P).toNat : Int) = a % P by omega] at hxy
  refine ⟨y, ?_⟩
  have e : a * y % P = (a % P) * y % P := em_mul (Int.emod_emod_of_dvd a (Int.dvd_refl _)).symm rfl
  rw [e, show (a % P) * y = 1 - P * x by rw [show ((1 : Nat) : Int) = 1 from rfl] at hxy; omega, Int.sub_mul_emod_self_left]
  exact Int.emod_eq_of_lt (by omega) (by omega)
theorem prm_mul0 {P : Nat} (hP : Prm P) {a b : Int} (h : a * b % P = 0) (ha : a % P ≠ 0) : b % P = 0 := by
  obtain ⟨c, hc⟩ := prm_nz hP ha
  have e : c * (a * b) % P = b % P := by
    rw [show c * (a * b) = (a * c) * b by rw [← Int.mul_assoc, Int.mul_comm c a]]
    rw [Int.mul_emod, hc, Int.one_mul, Int.emod_emod_of_dvd _ (Int.dvd_refl _)]
  rw [← e]; exact em_z' h
theorem sumN_0 {p : Int} {n : Nat} {f : Nat → Int} (h : ∀ i, i < n → f i % p = 0) : sumN n f % p = 0 := by
  rw [sumN_mod (g := fun _ => 0) (fun i hi => by rw [h i hi]; rfl), sumN_zero]; rfl
theorem sumN_only {p : Int} {n k : Nat} {f : Nat → Int} (hk : k < n) (h : ∀ i, i < n → i ≠ k → f i % p = 0) : sumN n f % p = f k % p := by
  rw [← sumN_one f hk]
  refine sumN_mod fun i hi => ?_
  by_cases e : i = k
  · rw [if_pos e]
  · rw [if_neg e, h i hi e]; rfl
theorem sumN_upd {n c : Nat} (f x : Nat → Int) (d : Int) (hc : c < n) : sumN n (fun j => f j * (if j = c then x j + d else x j)) = sumN n (fun j => f j * x j) + f c * d := by
  rw [← sumN_one (fun j => f j * d) hc, ← sumN_add]
  refine sumN_congr fun j _ => ?_
  split
  · rw [Int.mul_add]
  · omega
structure Cp (p : Int) (R C r : Nat) (A : Mx) (rw cw : Nat → Nat) (c u : Mx) : Prop where
  rlt : ∀ k, k < r → rw k < R
  rinc : ∀ j k, j < k → k < r → rw j < rw k
  clt : ∀ k, k < r → cw k < C
  upiv : ∀ k, k < r → u k (cw k) % p ≠ 0
  uz : ∀ j k, j < k → k < r → u k (cw j) % p = 0
  uh : ∀ k, k < r → ∀ j, j < cw k → u k j % p = 0
  c1 : ∀ k, k < r → c (rw k) k % p = 1
  cz : ∀ k, k < r → ∀ i, i < rw k → c i k % p = 0
  made : ∀ i, i < R → ∀ j, j < C → A i j % p = sumN r (fun k => c i k * u k j) % p
def apX (C : Nat) (A : Mx) (x : Nat → Int) : Nat → Int := fun i => sumN C (fun j => A i j * x j)
theorem apX_add (C : Nat) (A : Mx) (x y : Nat → Int) (i : Nat) : apX C A (fun j => x j + y j) i = apX C A x i + apX C A y i := by
  unfold apX; rw [← sumN_add]; exact sumN_congr fun j _ => Int.mul_add ..
theorem apX_sub (C : Nat) (A : Mx) (x y : Nat → Int) (i : Nat) : apX C A (fun j => x j - y j) i = apX C A x i - apX C A y i := by
  unfold apX; rw [← sumN_sub]; exact sumN_congr fun j _ => Int.mul_sub ..
theorem apX_mod {p : Int} {C : Nat} {A : Mx} {x y : Nat → Int} (h : ∀ j, j < C → x j % p = y j % p) (i : Nat) : apX C A x i % p = apX C A y i % p :=
  sumN_mod fun j hj => em_mul rfl (h j hj)
section
variable {P R C r : Nat} {A : Mx} {rw cw : Nat → Nat} {c u : Mx}
theorem Cp.cdis (H : Cp P R C r A rw cw c u) {j k : Nat} (hj : j < r) (hk : k < r) (e : cw j = cw k) : j = k := by
  rcases Nat.lt_trichotomy j k with h | h | h
  · exact absurd (e ▸ H.uz j k h hk) (H.upiv k hk)
  · exact h
  · exact absurd (e ▸ H.uz k j h hj) (H.upiv j hj)
theorem Cp.ap (H : Cp P R C r A rw cw c u) {x : Nat → Int} {i : Nat} (hi : i < R) : apX C A x i % P = sumN r (fun k => c i k * apX C u x k) % P := by
  unfold apX
  have e : sumN r (fun k => c i k * sumN C (fun j => u k j * x j)) = sumN C (fun j => sumN r (fun k => c i k * u k j) * x j) := by
    rw [sumN_congr fun k _ => (sumN_mul C (c i k) (fun j => u k j * x j)).symm, sumN_swap]
    refine sumN_congr fun j _ => ?_
    rw [← sumN_mulr]
    exact sumN_congr fun k _ => by rw [Int.mul_assoc]
  rw [e]
  exact sumN_mod fun j hj => em_mul (H.made i hi j hj) rfl
theorem Cp.usolve (hP : Prm P) (H : Cp P R C r A rw cw c u) (z x0 : Nat → Int) : ∃ x : Nat → Int, (∀ j, (∀ k, k < r → j ≠ cw k) → x j = x0 j) ∧ ∀ k, k < r → apX C u x k % P = z k % P := by
  have key : ∀ d, d ≤ r → ∃ x : Nat → Int, (∀ j, (∀ k, k < r → j ≠ cw k) → x j = x0 j) ∧ ∀ k, r - d ≤ k → k < r → apX C u x k % P = z k % P := by
    intro d
    induction d with
    | zero => exact fun _ => ⟨x0, fun _ _ => rfl, fun k h1 h2 => by omega⟩
    | succ d ih =>
      intro hd
      obtain ⟨x, h1, h2⟩ := ih (by omega)
      have hm : r - (d + 1) < r := by omega
      obtain ⟨b, hb⟩ := prm_nz hP (H.upiv _ hm)
      obtain ⟨y, hy⟩ : ∃ y, apX C u x (r - (d + 1)) = y := ⟨_, rfl⟩
      refine ⟨fun j => if j = cw (r - (d + 1)) then x j + b * (z (r - (d + 1)) - y) else x j, fun j hj => ?_, fun k h3 h4 => ?_⟩
      · simp only
        rw [if_neg (hj _ hm)]; exact h1 j hj
      · unfold apX
        rw [sumN_upd _ _ _ (H.clt _ hm)]
        by_cases e : k = r - (d + 1)
        · subst e
          show (apX C u x _ + _) % _ = _
          rw [hy, ← Int.mul_assoc]
          have : (y + u (r - (d + 1)) (cw (r - (d + 1))) * b * (z (r - (d + 1)) - y)) % P = (y + 1 * (z (r - (d + 1)) - y)) % P := em_add rfl (em_mul (by rw [hb]; exact (Int.emod_eq_of_lt (by omega) (by have := hP.1; omega)).symm) rfl)
          rw [this, Int.one_mul]; congr 1; omega
        · have h5 := h2 k (by omega) h4
          rw [← h5]
          show (apX C u x k + _) % _ = _
          have h6 := H.uz (r - (d + 1)) k (by omega) h4
          rw [Int.add_emod, em_z h6, Int.add_zero, Int.emod_emod_of_dvd _ (Int.dvd_refl _)]
  obtain ⟨x, h1, h2⟩ := key r (Nat.le_refl _)
  exact ⟨x, h1, fun k hk => h2 k (by omega) hk⟩
theorem Cp.uinj (hP : Prm P) (H : Cp P R C r A rw cw c u) {x : Nat → Int} (h0 : ∀ j, j < C → (∀ k, k < r → j ≠ cw k) → x j % P = 0) (h1 : ∀ k, k < r → apX C u x k % P = 0) : ∀ j, j < C → x j % P = 0 := by
  have key : ∀ d k, d ≤ r → r - d ≤ k → k < r → x (cw k) % P = 0 := by
    intro d
    induction d with
    | zero => intro k _ h1 h2; omega
    | succ d ih =>
      intro k hd h2 h3
      by_cases e : r - d ≤ k
      · exact ih k (by omega) e h3
      · have hk : k = r - (d + 1) := by omega
        have h4 := h1 k h3
        unfold apX at h4
        rw [sumN_only (H.clt k h3) (fun j hj hjk => ?_)] at h4
        · exact prm_mul0 hP h4 (H.upiv k h3)
        · by_cases c1 : ∀ m, m < r → j ≠ cw m
          · exact em_z' (h0 j hj c1)
          · have : ∃ m, m < r ∧ j = cw m := Classical.byContradiction fun hn => c1 fun m hm e => hn ⟨m, hm, e⟩
            obtain ⟨m, hm, rfl⟩ := this
            by_cases c2 : m < k
            · exact em_z (H.uz m k c2 h3)
            · by_cases c3 : m = k
              · subst c3; exact absurd rfl hjk
              · exact em_z' (ih m (by omega) (by omega) hm)
  intro j hj
  by_cases c1 : ∀ m, m < r → j ≠ cw m
  · exact h0 j hj c1
  · have : ∃ m, m < r ∧ j = cw m := Classical.byContradiction fun hn => c1 fun m hm e => hn ⟨m, hm, e⟩
    obtain ⟨m, hm, rfl⟩ := this
    exact key r m (Nat.le_refl _) (by omega) hm
theorem Cp.cinj (H : Cp P R C r A rw cw c u) {z : Nat → Int} (h1 : ∀ m, m < r → sumN r (fun k => c (rw m) k * z k) % P = 0) : ∀ k, k < r → z k % P = 0 := by
  intro k
  induction k using Nat.strongRecOn with
  | _ k ih =>
  intro hk
  have h2 := h1 k hk
  rw [sumN_only hk (fun j hj hjk => ?_)] at h2
  · rw [Int.mul_emod, H.c1 k hk, Int.one_mul, Int.emod_emod_of_dvd _ (Int.dvd_refl _)] at h2
    exact h2
  · by_cases c : j < k
    · exact em_z' (ih j c hj)
    · exact em_z (H.cz j hj _ (H.rinc k j (by omega) hj))
theorem Cp.ker (H : Cp P R C r A rw cw c u) {x : Nat → Int} : (∀ i, i < R → apX C A x i % P = 0) ↔ ∀ k, k < r → apX C u x k % P = 0 := by
  constructor
  · intro h
    exact H.cinj fun m hm => by rw [← H.ap (H.rlt m hm)]; exact h _ (H.rlt m hm)
  · intro h i hi
    rw [H.ap hi]
    exact sumN_0 fun k hk => em_z' (h k hk)
end
end Go.Proofs.Ythnfphgjfpcpbaa.TM
namespace Go.Proofs.Ythnfphgjfpcpbaa.TM
open Go Go.RowKit
theorem getD_app {α : Type} (l : List α) (x d : α) (k : Nat) : (l ++ [x]).getD k d = if k < l.length then l.getD k d else if k = l.length then x else d := by
  rw [List.getD_eq_getElem?_getD, List.getD_eq_getElem?_getD]
  by_cases h : k < l.length
  · rw [if_pos h, List.getElem?_append_left h]
  · rw [if_neg h, List.getElem?_append_right (by omega)]
    by_cases e : k = l.length
    · subst e; rw [if_pos rfl]; simp
    · rw [if_neg e, List.getElem?_eq_none (by simp; omega)]; rfl
def rwF (T : Tk) (k : Nat) : Nat := (T.rows.getD k 0).toNat
def cwF (T : Tk) (k : Nat) : Nat := (T.cols.getD k 0).toNat
def cF (T : Tk) : Mx := fun i k => (csF T i).getD k 0
def uF (T : Tk) : Mx := fun k j => (T.us.getD k []).getD j 0
def vF (T : Tk) (k : Nat) : Int := T.vs.getD k 0
structure TkC (P C i : Nat) (A : Mx) (T : Tk) : Prop where
  I : TkI P C i T
  H : Cp P i C T.us.length A (rwF T) (cwF T) (cF T) (uF T)
  inv : ∀ k, k < T.us.length → uF T k (cwF T k) * vF T k % P = 1
theorem rest_spec {P C i : Nat} {A : Mx} {T : Tk} (K : TkC P C i A T) {row : List Int} (hl : row.length = C) : ∀ k, k ≤ T.us.length →
    (∀ j, j < k → (elR P T row k).getD (cwF T j) 0 % P = 0) ∧ ∀ q, q < C → row.getD q 0 % P = ((elR P T row k).getD q 0 + sumN k (fun m => elX P T row m * uF T m q)) % P
  | 0, _ => ⟨fun j h => by omega, fun q _ => by simp [elR, sumN]⟩
  | k + 1, hk => by
    obtain ⟨h1, h2⟩ := rest_spec K hl k (by omega)
    have len := elR_len P T row k
    rw [hl] at len
    have get : ∀ q, q < C → (elR P T row (k + 1)).getD q 0 % P = ((elR P T row k).getD q 0 - elX P T row k * uF T k q) % P := fun q hq => by
      rw [elR_succ, lessV_get _ _ _ _ (by omega), Int.emod_emod_of_dvd _ (Int.dvd_refl _)]
      exact em_sub rfl (Int.emod_emod_of_dvd _ (Int.dvd_refl _))
    refine ⟨fun j hj => ?_, fun q hq => ?_⟩
    · rw [get _ (K.H.clt j (by omega))]
      by_cases e : j = k
      · subst e
        have hx : elX P T row j % P = ((elR P T row j).getD (cwF T j) 0 * vF T j) % P := by unfold elX vF cwF; exact Int.emod_emod_of_dvd _ (Int.dvd_refl _)
        have hi := K.inv j (by omega)
        generalize (elR P T row j).getD (cwF T j) 0 = y at hx ⊢
        rw [em_sub rfl (em_mul hx rfl)]
        have hm : (2 : Int) ≤ P := K.I.ri |> fun _ => by
          rcases Nat.lt_or_ge P 2 with h | h
          · have : P = 0 ∨ P = 1 := by omega
            rcases this with rfl | rfl
            · exact absurd (K.H.upiv j (by omega)) (by
                intro hne
                have hz := K.I.ul (T.us.getD j []) (by rw [List.getD_eq_getElem?_getD, List.getElem?_eq_getElem (show j < T.us.length by omega)]; exact List.getElem_mem _)
                have hin := getD_of hz.2 (i := cwF T j) (by rw [hz.1]; exact K.H.clt j (by omega))
                unfold In at hin; omega)
            · exact absurd hi (by rw [show ((1 : Nat) : Int) = 1 from rfl, Int.emod_one]; decide)
          · omega
        have : (y - y * vF T j * uF T j (cwF T j)) % P = (y - y * 1) % P := em_sub rfl (by
          rw [Int.mul_assoc]
          exact em_mul rfl (by rw [Int.mul_comm, hi]; exact (Int.emod_eq_of_lt (by decide) (by omega)).symm))
        rw [this, Int.mul_one, Int.sub_self]; rfl
      · have h3 := K.H.uz j k (by omega) (by omega)
        rw [Int.sub_emod, h1 j (by omega), em_z' h3]; rfl
    · rw [h2 q hq, sumN]
      have h4 := em_add (get q hq) (rfl : (sumN k (fun m => elX P T row m * uF T m q) + elX P T row k * uF T k q) % P = _)
      rw [h4]; congr 1; omega
theorem cup_step {P C i : Nat} {A : Mx} {T : Tk} (hP : Prm P) (hp : Md P) (K : TkC P C i A T) {row : List Int} (hrow : ∀ a ∈ row, In P a) (hl : row.length = C) (hA : ∀ j, j < C → A i j % P = row.getD j 0 % P) : TkC P C (i + 1) A (tkRow P T i row) := by
  have I := K.I
  have H := K.H
  have J := I.next hP hp hrow hl
  obtain ⟨c1, _⟩ := tkRow_cs (P := P) (row := row) I
  obtain ⟨te1, te2⟩ := tk_end (p := P) I row (i : Int) rfl
  obtain ⟨s1, s2⟩ := rest_spec K hl T.us.length (Nat.le_refl _)
  have rl : (rstT P T row).length = C := by unfold rstT; rw [elR_len, hl]
  have rin : ∀ a ∈ rstT P T row, In P a := elR_in hp T hrow _
  change ∀ j, j < T.us.length → (rstT P T row).getD (cwF T j) 0 % P = 0 at s1
  change ∀ q, q < C → row.getD q 0 % P = ((rstT P T row).getD q 0 + _) % P at s2
  have xg : ∀ k, k < T.us.length → (xsT P T row).getD k 0 = elX P T row k := fun k hk => tbl_getD _ hk
  have xl : (xsT P T row).length = T.us.length := tbl_len ..
  have cold : ∀ i', i' < i → ∀ k, cF (tkRow P T i row) i' k = cF T i' k := fun i' h k => by unfold cF; rw [c1 i' h]
  rcases nzA_spec (rstT P T row) 0 with ⟨z1, z2⟩ | ⟨n, z1, z2, z3, z4⟩
  · have neg : nzA (rstT P T row) 0 < 0 := by rw [z1]; decide
    obtain ⟨t1, t2, t3, t4⟩ := tk_no (p := P) (T := T) (row := row) (x := i) neg
    have te := te1 neg
    have e1 : rwF (tkRow P T i row) = rwF T := by unfold rwF; rw [t1]
    have e2 : cwF (tkRow P T i row) = cwF T := by unfold cwF; rw [t2]
    have e3 : uF (tkRow P T i row) = uF T := by unfold uF; rw [t3]
    have e4 : vF (tkRow P T i row) = vF T := by unfold vF; rw [t4]
    refine ⟨J, ?_, ?_⟩
    · rw [t3, e1, e2, e3]
      refine ⟨fun k hk => by have := H.rlt k hk; omega, H.rinc, H.clt, H.upiv, H.uz, H.uh, fun k hk => ?_, fun k hk i' hi' => ?_, fun i' hi' j hj => ?_⟩
      · rw [cold _ (H.rlt k hk)]; exact H.c1 k hk
      · rw [cold _ (Nat.lt_trans hi' (H.rlt k hk))]; exact H.cz k hk i' hi'
      · by_cases e : i' = i
        · subst e
          rw [hA j hj, s2 j hj]
          have z : (rstT P T row).getD j 0 = 0 := by rw [List.getD_eq_getElem?_getD, List.getElem?_eq_getElem (by omega)]; exact z2 _ (List.getElem_mem _)
          rw [z, Int.zero_add]
          refine sumN_mod fun k hk => ?_
          unfold cF csF
          rw [te, xg k hk]
        · rw [H.made i' (by omega) j hj]
          exact sumN_mod fun k hk => by rw [cold i' (by omega)]
    · rw [t3, e2, e3, e4]; exact K.inv
  · have neg : ¬ nzA (rstT P T row) 0 < 0 := by rw [z1]; omega
    obtain ⟨t1, t2, t3, t4⟩ := tk_yes (p := P) (T := T) (row := row) (x := i) neg
    have te := te2 neg
    have zn : (((0 + n : Nat) : Int)).toNat = n := by omega
    have zi : ((0 + n : Nat) : Int) = (n : Int) := by omega
    rw [z1] at t2 t4
    rw [zn] at t4
    rw [zi] at t2
    have r1 : ∀ k, rwF (tkRow P T i row) k = if k < T.us.length then rwF T k else if k = T.us.length then i else 0 := fun k => by
      unfold rwF; rw [t1, getD_app, I.rl]; (repeat' split) <;> simp
    have r2 : ∀ k, cwF (tkRow P T i row) k = if k < T.us.length then cwF T k else if k = T.us.length then n else 0 := fun k => by
      unfold cwF; rw [t2, getD_app, I.ql]; (repeat' split) <;> simp
    have r3 : ∀ k j, uF (tkRow P T i row) k j = if k < T.us.length then uF T k j else if k = T.us.length then (rstT P T row).getD j 0 else 0 := fun k j => by
      unfold uF; rw [t3, getD_app]; (repeat' split) <;> simp
    have r4 : ∀ k, vF (tkRow P T i row) k = if k < T.us.length then vF T k else if k = T.us.length then finvC P ((rstT P T row).getD n 0) else 0 := fun k => by
      unfold vF; rw [t4, getD_app, I.vl]
    have rn : In P ((rstT P T row).getD n 0) := getD_of rin z2
    have rnz : (rstT P T row).getD n 0 % P ≠ 0 := by rw [Int.emod_eq_of_lt rn.1 rn.2]; exact z3
    have us1 : (tkRow P T i row).us.length = T.us.length + 1 := by rw [t3]; simp
    have cnew : ∀ k, cF (tkRow P T i row) i k = if k < T.us.length then elX P T row k else if k = T.us.length then 1 else 0 := fun k => by
      unfold cF csF
      rw [te, getD_app, xl]
      split
      · rename_i h; rw [xg k h]
      · rfl
    have cnr : ∀ i', i' < i → cF T i' T.us.length = 0 := fun i' h => by
      unfold cF csF
      have : ((T.cs.getD i' [])).length ≤ T.us.length := by
        rw [List.getD_eq_getElem?_getD, List.getElem?_eq_getElem (by rw [I.cl]; exact h)]
        exact (I.cb _ (List.getElem_mem _)).1
      rw [List.getD_eq_getElem?_getD, List.getElem?_eq_none this]; rfl
    refine ⟨J, ?_, ?_⟩
    · rw [us1]
      refine ⟨fun k hk => ?_, fun j k hjk hk => ?_, fun k hk => ?_, fun k hk => ?_, fun j k hjk hk => ?_, fun k hk j hj => ?_, fun k hk => ?_, fun k hk i' hi' => ?_, fun i' hi' j hj => ?_⟩
      · rw [r1]
        by_cases h : k < T.us.length
        · rw [if_pos h]; have := H.rlt k h; omega
        · rw [if_neg h, if_pos (by omega)]; omega
      · rw [r1, r1, if_pos (show j < T.us.length by omega)]
        by_cases h : k < T.us.length
        · rw [if_pos h]; exact H.rinc j k hjk h
        · rw [if_neg h, if_pos (by omega)]; exact H.rlt j (by omega)
      · rw [r2]
        by_cases h : k < T.us.length
        · rw [if_pos h]; exact H.clt k h
        · rw [if_neg h, if_pos (by omega)]; omega
      · rw [r3, r2]
        by_cases h : k < T.us.length
        · rw [if_pos h, if_pos h]; exact H.upiv k h
        · rw [if_neg h, if_pos (by omega), if_neg h, if_pos (by omega)]; exact rnz
      · rw [r3, r2, if_pos (show j < T.us.length by omega)]
        by_cases h : k < T.us.length
        · rw [if_pos h]; exact H.uz j k hjk h
        · rw [if_neg h, if_pos (by omega)]; exact s1 j (by omega)
      · rw [r2] at hj
        rw [r3]
        by_cases h : k < T.us.length
        · rw [if_pos h] at hj ⊢; exact H.uh k h j hj
        · rw [if_neg h, if_pos (by omega)] at hj ⊢; rw [z4 j hj]; rfl
      · rw [r1]
        by_cases h : k < T.us.length
        · rw [if_pos h, cold _ (H.rlt k h)]; exact H.c1 k h
        · rw [if_neg h, if_pos (by omega), cnew, if_neg h, if_pos (by omega)]
          exact Int.emod_eq_of_lt (by decide) (by have := hp.1; omega)
      · rw [r1] at hi'
        by_cases h : k < T.us.length
        · rw [if_pos h] at hi'
          rw [cold _ (Nat.lt_trans hi' (H.rlt k h))]; exact H.cz k h i' hi'
        · rw [if_neg h, if_pos (by omega)] at hi'
          have ek : k = T.us.length := by omega
          subst ek
          rw [cold i' hi', cnr i' hi']; rfl
      · rw [sumN]
        by_cases e : i' = i
        · subst e
          rw [hA j hj, s2 j hj, r3, if_neg (by omega), if_pos rfl, cnew, if_neg (by omega), if_pos rfl, Int.one_mul, Int.add_comm]
          refine em_add (sumN_mod fun k hk => ?_) rfl
          rw [cnew, if_pos hk, r3, if_pos hk]
        · rw [H.made i' (by omega) j hj, cold i' (by omega), cnr i' (by omega), Int.zero_mul, Int.add_zero]
          refine sumN_mod fun k hk => ?_
          rw [cold i' (by omega), r3, if_pos hk]
    · intro k hk
      rw [us1] at hk
      rw [r3, r2, r4]
      by_cases h : k < T.us.length
      · rw [if_pos h, if_pos h, if_pos h]; exact K.inv k h
      · rw [if_neg h, if_pos (by omega), if_neg h, if_pos (by omega), if_neg h, if_pos (by omega)]
        exact (finvC_in hp.1 hp.2 rn (prm_gcd hP rn z3)).2
theorem tkN_C {P R C : Nat} {l : List Int} (hP : Prm P) (hp : Md P) (hl : l.length = R * C) (hin : ∀ a ∈ l, In P a) : ∀ i, i ≤ R → TkC P C i (cl C l) (tkN P C l i)
  | 0, _ => ⟨TkI.zero _ _, ⟨fun k h => absurd h (Nat.not_lt_zero k), fun j k _ h => absurd h (Nat.not_lt_zero k), fun k h => absurd h (Nat.not_lt_zero k), fun k h => absurd h (Nat.not_lt_zero k), fun j k _ h => absurd h (Nat.not_lt_zero k), fun k h => absurd h (Nat.not_lt_zero k), fun k h => absurd h (Nat.not_lt_zero k), fun k h => absurd h (Nat.not_lt_zero k), fun i h => absurd h (Nat.not_lt_zero i)⟩, fun k h => absurd h (Nat.not_lt_zero k)⟩
  | i + 1, h => cup_step hP hp (tkN_C hP hp hl hin i (by omega)) (fun a ha => hin a (rowM_mem ha)) (rowM_len hl (by omega)) fun j hj => by rw [rowM_cl hl (by omega) hj]
end Go.Proofs.Ythnfphgjfpcpbaa.TM
namespace Go.Proofs.Ythnfphgjfpcpbaa.TM
open Go Go.RowKit
def cntN : Nat → (Nat → Bool) → Nat
  | 0, _ => 0
  | n + 1, f => cntN n f + (if f n = true then 1 else 0)
theorem cnt_congr {n : Nat} {f g : Nat → Bool} (h : ∀ i, i < n → f i = g i) : cntN n f = cntN n g := by
  induction n with
  | zero => rfl
  | succ n ih => rw [cntN, cntN, ih fun i hi => h i (by omega), h n (by omega)]
theorem cnt_all {n : Nat} {f : Nat → Bool} (h : ∀ i, i < n → f i = true) : cntN n f = n := by
  induction n with
  | zero => rfl
  | succ n ih => rw [cntN, ih fun i hi => h i (by omega), if_pos (h n (by omega))]
theorem cnt_add (m n : Nat) (f : Nat → Bool) : cntN (m + n) f = cntN m f + cntN n (fun i => f (m + i)) := by
  induction n with
  | zero => rfl
  | succ n ih => rw [← Nat.add_assoc, cntN, ih, cntN]; omega
theorem cnt_mul (N : Nat) (f : Nat → Bool) : ∀ a, cntN (a * N) (fun q => f (q % N)) = a * cntN N f
  | 0 => by simp [cntN]
  | a + 1 => by
    rw [Nat.succ_mul, cnt_add, cnt_mul N f a, Nat.succ_mul]
    congr 1
    exact cnt_congr fun i hi => by rw [Nat.mul_add_mod_self_right, Nat.mod_eq_of_lt hi]
theorem cnt_drop {m a : Nat} {f : Nat → Bool} (ha : a < m) (hf : f a = true) : cntN m f = cntN m (fun j => f j && j != a) + 1 := by
  induction m with
  | zero => omega
  | succ m ih =>
    rw [cntN, cntN]
    by_cases e : a = m
    · subst e
      rw [if_pos hf, if_neg (by simp)]
      have : cntN a f = cntN a (fun j => f j && j != a) := cnt_congr fun i hi => by
        have : (i != a) = true := by simp; omega
        rw [this, Bool.and_true]
      omega
    · rw [ih (by omega)]
      have : (m != a) = true := by simp; omega
      rw [this, Bool.and_true]; omega
theorem cnt_inj : ∀ (n : Nat) (f : Nat → Bool) (m : Nat) (g : Nat → Bool) (φ : Nat → Nat), (∀ i, i < n → f i = true → φ i < m ∧ g (φ i) = true) →
    (∀ i j, i < n → j < n → f i = true → f j = true → φ i = φ j → i = j) → cntN n f ≤ cntN m g
  | 0, _, _, _, _, _, _ => Nat.zero_le _
  | n + 1, f, m, g, φ, h1, h2 => by
    rw [cntN]
    by_cases c : f n = true
    · rw [if_pos c]
      obtain ⟨a1, a2⟩ := h1 n (by omega) c
      rw [cnt_drop a1 a2]
      refine Nat.succ_le_succ (cnt_inj n f m _ φ (fun i hi hf => ?_) (fun i j hi hj => h2 i j (by omega) (by omega)))
      obtain ⟨b1, b2⟩ := h1 i (by omega) hf
      refine ⟨b1, ?_⟩
      have : (φ i != φ n) = true := by
        simp only [bne_iff_ne]
        intro e
        have := h2 i n (by omega) (by omega) hf c e
        omega
      rw [b2, this]; rfl
    · rw [if_neg c]
      exact cnt_inj n f m g φ (fun i hi => h1 i (by omega)) (fun i j hi hj => h2 i j (by omega) (by omega))
theorem cnt_mono {n : Nat} {f g : Nat → Bool} (h : ∀ i, i < n → f i = true → g i = true) : cntN n f ≤ cntN n g :=
  cnt_inj n f n g id (fun i hi hf => ⟨hi, h i hi hf⟩) (fun _ _ _ _ _ _ e => e)
def vec (P n k : Nat) : Int := ((n / P ^ k % P : Nat) : Int)
def num (P : Nat) : Nat → (Nat → Int) → Nat
  | 0, _ => 0
  | c + 1, x => (x 0 % P).toNat + P * num P c (fun k => x (k + 1))
theorem num_lt {P : Nat} (h : 0 < P) : ∀ (c : Nat) (x : Nat → Int), num P c x < P ^ c
  | 0, _ => by simp [num]
  | c + 1, x => by
    have ih := num_lt h c (fun k => x (k + 1))
    have h1 := Int.emod_nonneg (x 0) (show (P : Int) ≠ 0 by omega)
    have h2 := Int.emod_lt_of_pos (x 0) (show (0 : Int) < P by omega)
    rw [num, Nat.pow_succ]
    have h3 : P * num P c (fun k => x (k + 1)) + P ≤ P * P ^ c := by rw [← Nat.mul_succ]; exact Nat.mul_le_mul_left P ih
    rw [Nat.mul_comm (P ^ c)]
    omega
theorem num_congr {P : Nat} : ∀ (c : Nat) {x y : Nat → Int}, (∀ k, k < c → x k % P = y k % P) → num P c x = num P c y
  | 0, _, _, _ => rfl
  | c + 1, x, y, h => by rw [num, num, h 0 (by omega), num_congr c fun k hk => h (k + 1) (by omega)]
theorem vec_num {P : Nat} (h : 0 < P) : ∀ (c : Nat) (x : Nat → Int) (k : Nat), k < c → vec P (num P c x) k = x k % P
  | 0, _, _, hk => by omega
  | c + 1, x, k, hk => by
    have h1 := Int.emod_nonneg (x 0) (show (P : Int) ≠ 0 by omega)
    have h2 := Int.emod_lt_of_pos (x 0) (show (0 : Int) < P by omega)
    have h3 : (x 0 % P).toNat < P := by omega
    rw [num]
    cases k with
    | zero =>
      unfold vec
      rw [Nat.pow_zero, Nat.div_one, Nat.add_mul_mod_self_left, Nat.mod_eq_of_lt h3]; omega
    | succ k =>
      have ih := vec_num h c (fun k => x (k + 1)) k (by omega)
      rw [← ih]
      unfold vec
      rw [Nat.pow_succ, Nat.mul_comm (P ^ k) P, ← Nat.div_div_eq_div_mul, Nat.add_mul_div_left _ _ h, Nat.div_eq_of_lt h3, Nat.zero_add]
theorem num_vec {P : Nat} (h : 0 < P) : ∀ (c n : Nat), n < P ^ c → num P c (vec P n) = n
  | 0, n, hn => by simp at hn; subst hn; rfl
  | c + 1, n, hn => by
    rw [num]
    have e : (fun k => vec P n (k + 1)) = vec P (n / P) := by
      funext k; unfold vec; rw [Nat.pow_succ, Nat.mul_comm, ← Nat.div_div_eq_div_mul]
    have h0 : (vec P n 0 % P).toNat = n % P := by
      unfold vec; rw [Nat.pow_zero, Nat.div_one]; 
      have := Nat.mod_lt n h
      rw [Int.emod_eq_of_lt (by omega) (by omega)]; omega
    rw [e, h0, num_vec h c (n / P) (by rw [Nat.pow_succ, Nat.mul_comm] at hn; exact (Nat.div_lt_iff_lt_mul h).2 (by rw [Nat.mul_comm]; exact hn)), Nat.mod_add_div]
theorem vec_inj {P c m n : Nat} (h : 0 < P) (hm : m < P ^ c) (hn : n < P ^ c) (he : ∀ k, k < c → vec P m k % P = vec P n k % P) : m = n := by
  rw [← num_vec h c m hm, ← num_vec h c n hn, num_congr c he]
theorem num_inj {P c : Nat} {x y : Nat → Int} (h : 0 < P) (he : num P c x = num P c y) : ∀ k, k < c → x k % P = y k % P := fun k hk => by
  rw [← vec_num h c x k hk, ← vec_num h c y k hk, he]
section
variable {P R C r : Nat} {A : Mx} {rw cw : Nat → Nat} {c u : Mx}
theorem div_pair {a b N : Nat} (hb : b < N) : (a * N + b) / N = a ∧ (a * N + b) % N = b := by
  have hN : 0 < N := by omega
  refine ⟨?_, ?_⟩
  · rw [Nat.add_comm, Nat.add_mul_div_right _ _ hN, Nat.div_eq_of_lt hb, Nat.zero_add]
  · rw [Nat.add_comm, Nat.add_mul_mod_self_right, Nat.mod_eq_of_lt hb]
theorem Cp.kcnt (hP : Prm P) (H : Cp P R C r A rw cw c u) {f : Nat → Bool} (hf : ∀ n, n < P ^ C → (f n = true ↔ ∀ i, i < R → apX C A (vec P n) i % P = 0)) : P ^ r * cntN (P ^ C) f = P ^ C := by
  have p0 : 0 < P := by have := hP.1; omega
  have N0 : 0 < P ^ C := Nat.pow_pos p0
  have hs : ∀ z : Nat → Int, ∃ x : Nat → Int, ∀ k, k < r → apX C u x k % P = z k % P := fun z => by
    obtain ⟨x, _, h⟩ := H.usolve hP z (fun _ => 0); exact ⟨x, h⟩
  let s : Nat → Nat → Int := fun y => Classical.choose (hs (vec P y))
  have ss : ∀ y k, k < r → apX C u (s y) k % P = vec P y k % P := fun y => Classical.choose_spec (hs (vec P y))
  have hk : ∀ n, n < P ^ C → (f n = true ↔ ∀ k, k < r → apX C u (vec P n) k % P = 0) := fun n hn => (hf n hn).trans H.ker
  refine Nat.le_antisymm ?_ ?_
  · rw [← cnt_mul]
    refine Nat.le_trans ?_ (Nat.le_of_eq (cnt_all (n := P ^ C) (f := fun _ => true) fun _ _ => rfl))
    refine cnt_inj _ _ _ _ (fun q => num P C (fun j => vec P (q % P ^ C) j + s (q / P ^ C) j)) (fun q _ _ => ⟨num_lt p0 _ _, rfl⟩) (fun q q' hq hq' fq fq' he => ?_)
    have e1 := num_inj p0 he
    have hy : q / P ^ C < P ^ r := (Nat.div_lt_iff_lt_mul N0).2 hq
    have hy' : q' / P ^ C < P ^ r := (Nat.div_lt_iff_lt_mul N0).2 hq'
    have k1 := (hk _ (Nat.mod_lt q N0)).1 fq
    have k2 := (hk _ (Nat.mod_lt q' N0)).1 fq'
    have ey : q / P ^ C = q' / P ^ C := by
      refine vec_inj p0 hy hy' fun k hk => ?_
      have e2 := apX_mod (A := u) e1 k
      rw [apX_add, apX_add, Int.add_emod, k1 k hk, ss _ k hk, Int.add_emod (apX C u (vec P (q' % P ^ C)) k), k2 k hk, ss _ k hk] at e2
      simpa using e2
    have en : q % P ^ C = q' % P ^ C := by
      refine vec_inj p0 (Nat.mod_lt _ N0) (Nat.mod_lt _ N0) fun k hk => ?_
      have e3 := e1 k hk
      simp only [ey] at e3
      have := em_sub e3 (rfl : s (q' / P ^ C) k % P = s (q' / P ^ C) k % P)
      simpa using this
    rw [← Nat.div_add_mod q (P ^ C), ← Nat.div_add_mod q' (P ^ C), ey, en]
  · rw [← cnt_mul]
    have : P ^ C = cntN (P ^ C) (fun _ => true) := (cnt_all fun _ _ => rfl).symm
    refine Nat.le_trans (Nat.le_of_eq this) ?_
    have ny : ∀ n, num P r (apX C u (vec P n)) < P ^ r := fun n => num_lt p0 _ _
    have nx : ∀ x, num P C x < P ^ C := fun x => num_lt p0 _ _
    refine cnt_inj _ _ _ _ (fun n => num P r (apX C u (vec P n)) * P ^ C + num P C (fun j => vec P n j - s (num P r (apX C u (vec P n))) j)) (fun n hn _ => ⟨?_, ?_⟩) (fun n n' hn hn' _ _ he => ?_)
    · have h1 := ny n
      have h2 := nx (fun j => vec P n j - s (num P r (apX C u (vec P n))) j)
      have h3 : num P r (apX C u (vec P n)) * P ^ C + P ^ C ≤ P ^ r * P ^ C := by rw [← Nat.succ_mul]; exact Nat.mul_le_mul_right _ h1
      omega
    · rw [(div_pair (nx _)).2, hk _ (nx _)]
      intro k hk
      have e1 : ∀ j, j < C → vec P (num P C (fun j => vec P n j - s (num P r (apX C u (vec P n))) j)) j % P = (vec P n j - s (num P r (apX C u (vec P n))) j) % P := fun j hj => by
        rw [vec_num p0 _ _ _ hj, Int.emod_emod_of_dvd _ (Int.dvd_refl _)]
      rw [apX_mod e1, apX_sub, Int.sub_emod, ss _ k hk, vec_num p0 _ _ _ hk, Int.emod_emod_of_dvd _ (Int.dvd_refl _), Int.sub_self]; rfl
    · have ey : num P r (apX C u (vec P n)) = num P r (apX C u (vec P n')) := by rw [← (div_pair (a := num P r (apX C u (vec P n))) (nx _)).1, he, (div_pair (nx _)).1]
      have en := (div_pair (a := num P r (apX C u (vec P n))) (nx (fun j => vec P n j - s (num P r (apX C u (vec P n))) j))).2
      rw [he, (div_pair (nx _)).2, ey] at en
      refine vec_inj p0 hn hn' fun k hk => ?_
      have e3 := num_inj p0 en.symm k hk
      have := em_add e3 (rfl : s (num P r (apX C u (vec P n'))) k % P = s (num P r (apX C u (vec P n'))) k % P)
      simpa using this
end
end Go.Proofs.Ythnfphgjfpcpbaa.TM
