/- Layer 11: a number's bytes. -/
import Derived.Test.YtkhjfphenflefaaWFrmA
namespace Go.Proofs.Ytkhjfphenflefaa.TM
open Go Go.RowKit
set_option linter.unusedVariables false
set_option linter.defProp false
set_option linter.unusedSimpArgs false
attribute [local irreducible] K W WOps Effs Xg Xo Xr Xdg Xdo Xdr Xif CallsP CallR

theorem zero_byts (m : Nat) : List.map IV.v (zeroRow [Value.int .u8 0] m) = (List.replicate m (0 : Int)).map ib := by
  rw [List.map_replicate]
  induction m with
  | zero => rfl
  | succ m ih => rw [zeroRow_succ, List.map_append, ih, List.replicate_succ]; rfl
theorem set_byts (l : List Int) (i : Nat) (v : Int) (h : i < l.length) : (l.map ib).take i ++ [ib v] ++ (l.map ib).drop (i + 1) = (l.set i v).map ib := by
  rw [List.set_eq_take_append_cons_drop, if_pos h, List.map_append, List.map_cons, List.map_take, List.map_drop]
  simp
theorem number_walk (n : Int) (m : Nat) (hn : W64 n) (h1 : 1 ≤ m) (h2 : m ≤ 8) : CallsP Try.prog 62 [u64 n, i64 m] (lb (numL n m)) := by
  have zf := zero_byts m
  have b1 : m * 1 ≤ 140737488355328 := by omega
  have b2 : m ≤ 140737488355328 := by omega
  obtain ⟨z, hz⟩ : ∃ z, z = List.replicate m (0 : Int) := ⟨_, rfl⟩
  have zl : z.length = m := by rw [hz, List.length_replicate]
  rw [← hz] at zf
  refine X_startP (n := 21) (m := 2) (rs := [.tmp 4]) Try.func62 rfl rfl rfl rfl (by decide) fun base => ?_
  repeat (first | refine ⟨(by show drawK _ _ = true; kernel_rfl : drawX _ _ _), ?_⟩ | exact (by show drawK _ _ = true; kernel_rfl : drawX _ _ _) | simp -dsimp (maxSteps := 20000000) (disch := omega) only [simx, zzC, zzB, tys, ite_self, opnL, callB, readsB, stepOp, ofVal, opBuiltin, opLen, PV.sk, scalBin, scalUn, intBin, opLoad, natOf, opConvert, opField, cellsP, oneP, Value.oneCell', opStore, toIV, scalT, scalA, scalC, boxesA, boxesC, zipB_none, zipB_mx, isZ, opZip, zeroP, opAppendZ, opMakeMap, opLookup, mboxB, opUpdate, ↓reduceIte, Nat.reduceSub, Nat.reduceEqDiff, Nat.reduceAdd, Nat.reduceMul, Nat.reduceLT, Nat.reduceLeDiff, Int.reduceToNat, Int.reduceLE, Int.reduceLT, Int.reduceNeg, reduceCtorEq, gos, Int.reduceAdd, Int.reduceSub, Int.reduceMul, Int.reduceEq, zf, b1, b2, Int.toNat_natCast])
  refine X_call_sh rfl (by simp only [tys]) rfl (backward_walk ((1, 1) :: base) 0 1 m m (by simp [Heap.put_at, Heap.none_at])) ?_
  repeat (first | refine ⟨(by show drawK _ _ = true; kernel_rfl : drawX _ _ _), ?_⟩ | exact (by show drawK _ _ = true; kernel_rfl : drawX _ _ _) | simp -dsimp (maxSteps := 20000000) (disch := omega) only [simx, zzC, zzB, tys, ite_self, opnL, callB, readsB, stepOp, ofVal, opBuiltin, opLen, PV.sk, scalBin, scalUn, intBin, opLoad, natOf, opConvert, opField, cellsP, oneP, Value.oneCell', opStore, toIV, scalT, scalA, scalC, boxesA, boxesC, zipB_none, zipB_mx, isZ, opZip, zeroP, opAppendZ, opMakeMap, opLookup, mboxB, opUpdate, ↓reduceIte, Nat.reduceSub, Nat.reduceEqDiff, Nat.reduceAdd, Nat.reduceMul, Nat.reduceLT, Nat.reduceLeDiff, Int.reduceToNat, Int.reduceLE, Int.reduceLT, Int.reduceNeg, reduceCtorEq, gos, Int.reduceAdd, Int.reduceSub, Int.reduceMul, Int.reduceEq])
  refine X_range [2, 5] [(0, 0) :: (2, 1) :: base] [] (fun x : {i : Nat // i < m} × Value => [i64 x.1.1, .dead]) (fun xs => xs.map (·.1.1) = (List.range m).reverse) m _
    (fun pre => ((Heap.none.put ((0, 0) :: base) (.var [u64 (outP z n (pre.map (·.1.1))).2])).put ((1, 1) :: base) (.row false ((outP z n (pre.map (·.1.1))).1.map ib))).put ((1, 2) :: base) (.var [.view ((1, 1) :: base) 0 1 m m]))
    (((Heap.none.put ((0, 0) :: base) (.var [u64 (outP z n (List.range m).reverse).2])).put ((1, 1) :: base) (.row false ((numL n m).map ib))).put ((1, 2) :: base) (.var [.view ((1, 1) :: base) 0 1 m m]))
    (by decide) rfl rfl (by simp only [tys]) (backB_iter (r := (1, 1) :: base) (cs := z.map ib) (by simp [Heap.put_at]) (by simp [Heap.put_at]) (by rw [List.length_map, zl]) h1 (by omega)) ?_ ?_ (fun x => ⟨rfl, assign2 _ _ (by decide) (by decide)⟩)
    (fun pre => noMapH_put (noMapH_put (noMapH_put noMapH_none _ rfl) _ rfl) _ rfl) ?_ ?_ ?_
  · exact (fgt_cons (by simp only [Heap.none_at]) (by (simp -dsimp only [zzB, tys, ite_self, opnL, callB, readsB, stepOp, ofVal, opBuiltin, opLen, PV.sk, scalBin, scalUn, intBin, opLoad, natOf, opConvert, opField, cellsP, oneP, Value.oneCell', opStore, toIV, scalT, scalA, scalC, boxesA, boxesC, zipB_none, zipB_mx, isZ, opZip, zeroP, opAppendZ, opMakeMap, opLookup, mboxB, opUpdate, ↓reduceIte, Nat.reduceSub, Nat.reduceEqDiff, Nat.reduceAdd, Nat.reduceMul, Nat.reduceLT, Nat.reduceLeDiff, Int.reduceToNat, Int.reduceLE, Int.reduceLT, Int.reduceNeg, reduceCtorEq, notIn_cons, notIn_nil]) <;> simp [refsL, refsP, mem_refs_rowP]) (by repeat (first | exact noVar_none _ | refine noVar_row ?_ | refine noVar_map ?_ | refine noVar_rowH ?_ | refine noVar_var ?_ (by simp [refsL, refsP, mem_refs_rowP]))) (fgt_nil))
  · rw [List.map_nil, outP_nil]
    funext c
    simp (maxSteps := 20000000) only [Heap.drop_at, rowH_app, Heap.put_at, Heap.none_at, List.mem_cons, List.not_mem_nil, or_false]
    by_cases e0 : c = (0, 0) :: base
    · subst e0; simp []
    by_cases e1 : c = (1, 1) :: base
    · subst e1; simp []
    by_cases e2 : c = (1, 2) :: base
    · subst e2; simp []
    by_cases e3 : c = (0, 0) :: (2, 1) :: base
    · subst e3; simp []
    simp [e0, e1, e2, e3]
  · intro pre x hpl
    have i0 := x.1.2
    have e1 : ((pre ++ [x]).map (·.1.1)) = pre.map (·.1.1) ++ [x.1.1] := by rw [List.map_append]; rfl
    rw [e1, outP_snoc]
    generalize x.1.1 = i at i0
    have ol := outP_len z n (pre.map (·.1.1))
    have on := outP_nn z n hn.1 hn.2 (pre.map (·.1.1))
    generalize outP z n (pre.map (·.1.1)) = q at ol on
    obtain ⟨L, s⟩ := q
    unfold outS
    simp only at ol on ⊢
    have hp := set_byts L i (s % 256) (by omega)
    have lm : (L.map ib).length = m := by rw [List.length_map, ol, zl]
    have e2 : IntKind.u8.wrap s = s % 256 := by simp [IntKind.wrap, IntKind.bits, IntKind.signed]
    have i1 : i + 1 ≤ m := i0
    repeat (first | refine ⟨(by show drawK _ _ = true; kernel_rfl : drawX _ _ _), ?_⟩ | exact (by show drawK _ _ = true; kernel_rfl : drawX _ _ _) | simp -dsimp (maxSteps := 20000000) (disch := omega) only [simx, zzC, zzB, tys, ite_self, opnL, callB, readsB, stepOp, ofVal, opBuiltin, opLen, PV.sk, scalBin, scalUn, intBin, opLoad, natOf, opConvert, opField, cellsP, oneP, Value.oneCell', opStore, toIV, scalT, scalA, scalC, boxesA, boxesC, zipB_none, zipB_mx, isZ, opZip, zeroP, opAppendZ, opMakeMap, opLookup, mboxB, opUpdate, ↓reduceIte, Nat.reduceSub, Nat.reduceEqDiff, Nat.reduceAdd, Nat.reduceMul, Nat.reduceLT, Nat.reduceLeDiff, Int.reduceToNat, Int.reduceLE, Int.reduceLT, Int.reduceNeg, reduceCtorEq, gos, Int.reduceAdd, Int.reduceSub, Int.reduceMul, Int.reduceEq, i0, i1, hp, lm, e2, shr8])
    refine ⟨(fgt_nil), ?_⟩
    funext c
    simp (maxSteps := 20000000) only [Heap.drop_at, rowH_app, Heap.put_at, Heap.none_at, List.mem_cons, List.not_mem_nil, or_false]
    by_cases e0 : c = (0, 0) :: base
    · subst e0; simp []
    by_cases e1 : c = (1, 1) :: base
    · subst e1; simp []
    by_cases e2 : c = (1, 2) :: base
    · subst e2; simp []
    simp [e0, e1, e2]
  · intro xs hxs
    have e : (outP z n (List.range m).reverse).1 = numL n m := by
      have := outP_all m z [] n zl
      rw [List.append_nil, List.append_nil] at this
      exact this
    simp only [hxs, e]
  · have nl := numL_len n m
    have e2 : ((numL n m).map ib).take m = (numL n m).map ib := List.take_of_length_le (by rw [List.length_map, nl]; exact Nat.le_refl _)
    generalize numL n m = R at nl e2
    rw [lb, nl]
    repeat (first | refine ⟨(by show drawK _ _ = true; kernel_rfl : drawX _ _ _), ?_⟩ | exact (by show drawK _ _ = true; kernel_rfl : drawX _ _ _) | simp -dsimp (maxSteps := 20000000) (disch := omega) only [simx, zzC, zzB, tys, ite_self, opnL, callB, readsB, stepOp, ofVal, opBuiltin, opLen, PV.sk, scalBin, scalUn, intBin, opLoad, natOf, opConvert, opField, cellsP, oneP, Value.oneCell', opStore, toIV, scalT, scalA, scalC, boxesA, boxesC, zipB_none, zipB_mx, isZ, opZip, zeroP, opAppendZ, opMakeMap, opLookup, mboxB, opUpdate, ↓reduceIte, Nat.reduceSub, Nat.reduceEqDiff, Nat.reduceAdd, Nat.reduceMul, Nat.reduceLT, Nat.reduceLeDiff, Int.reduceToNat, Int.reduceLE, Int.reduceLT, Int.reduceNeg, reduceCtorEq, zzR, gos, Int.reduceAdd, Int.reduceSub, Int.reduceMul, Int.reduceEq, nl, e2, List.length_map])
end Go.Proofs.Ytkhjfphenflefaa.TM
