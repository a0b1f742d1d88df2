/- PermMatrix: the law, walked. -/
import Derived.Test.YtkhjfphenflefaaWPermI
import Derived.Test.YtkhjfphenflefaaWPermAw
namespace Go.Proofs.Ytkhjfphenflefaa.TM
open Go Go.RowKit
set_option linter.unusedVariables false
set_option linter.defProp false
set_option linter.unusedSimpArgs false
attribute [local irreducible] K W WOps Effs Xg Xo Xr Xdg Xdo Xdr Xif CallsP CallR

def mod101 (x : List Int) : List Int := x.map fun a => a % 101
theorem mod101_len (x : List Int) : (mod101 x).length = x.length := by simp [mod101]
theorem mod101_in (x : List Int) : ∀ a ∈ mod101 x, 0 ≤ a ∧ a < 101 := fun a ha => by
  obtain ⟨b, _, rfl⟩ := List.mem_map.1 ha
  omega
set_option maxHeartbeats 4000000 in
set_option maxRecDepth 20000 in
theorem permMatrix_true (a0 : List Int) (a1 : List Int) (w0 : (a0.length ≤ maxLen ∧ ∀ e22_ ∈ a0, (Lit.int .i64 e22_).wf = true)) (w1 : (a1.length ≤ maxLen ∧ ∀ e32_ ∈ a1, (Lit.int .u64 e32_).wf = true)) : CallsP Try.prog 6 [.i (IV.l a0.length (a0.map fun y => IV.v (.int .i64 y))), .i (IV.l a1.length (a1.map fun y => IV.v (.int .u64 y)))] (bl true) := by
  have aw := awake06_walk
  have q1 := pright_walk a0 w0.1
  change CallsP _ _ [li a0, lu a1] _
  cases h1 : orderB a0 with
  | false =>
    rw [h1] at q1
    refine X_startP (n := 128) (m := 2) (rs := [.tmp 4]) Try.func6 rfl rfl rfl rfl (by decide) fun base => ?_
    repeat (first | ((first | refine X_call_fn2 rfl (by simp only [tys]) ?_ | refine X_dcall_fn2 rfl (by simp only [tys]) ?_); apply Exists.intro; apply And.intro; (focus (simp -dsimp only [simx, zzC, zzB, tys, ite_self, opnL, callB, readsB, stepOp, ofVal, opBuiltin, opLen, PV.sk, scalBin, scalUn, intBin, opLoad, natOf, opConvert, opField, cellsP, oneP, Value.oneCell', opStore, toIV, scalT, scalA, scalC, boxesA, boxesC, zipB_none, zipB_mx, isZ, opZip, zeroP, opAppendZ, opMakeMap, opLookup, mboxB, opUpdate, ↓reduceIte, Nat.reduceSub, Nat.reduceEqDiff, Nat.reduceAdd, Nat.reduceMul, Nat.reduceLT, Nat.reduceLeDiff, Int.reduceToNat, Int.reduceLE, Int.reduceLT, Int.reduceNeg, reduceCtorEq, zzL, if_true, if_false] <;> rfl)); apply Exists.intro; apply And.intro; (focus (first | exact aw | exact q1))) | refine ⟨(by show drawK _ _ = true; kernel_rfl : drawX _ _ _), ?_⟩ | exact (by show drawK _ _ = true; kernel_rfl : drawX _ _ _) | simp -dsimp (maxSteps := 20000000) (disch := omega) only [simx, zzC, zzB, tys, ite_self, opnL, callB, readsB, stepOp, ofVal, opBuiltin, opLen, PV.sk, scalBin, scalUn, intBin, opLoad, natOf, opConvert, opField, cellsP, oneP, Value.oneCell', opStore, toIV, scalT, scalA, scalC, boxesA, boxesC, zipB_none, zipB_mx, isZ, opZip, zeroP, opAppendZ, opMakeMap, opLookup, mboxB, opUpdate, ↓reduceIte, Nat.reduceSub, Nat.reduceEqDiff, Nat.reduceAdd, Nat.reduceMul, Nat.reduceLT, Nat.reduceLeDiff, Int.reduceToNat, Int.reduceLE, Int.reduceLT, Int.reduceNeg, reduceCtorEq, zzR, gos, Int.reduceAdd, Int.reduceSub, Int.reduceMul, Int.reduceEq])
  | true =>
    rw [h1] at q1
    by_cases h3 : a1.length = a0.length
    · have e3 : (a1.length : Int) = a0.length := by omega
      have o1 := (orderB_iff a0).1 h1
      obtain ⟨o4, _⟩ := back_ord o1
      have n1 := o1.pos
      have n2 := o1.le
      have ml : ∀ l : List Int, l.length ≤ 64 → l.length ≤ maxLen := fun l o => by rw [mx_len]; omega
      have bd : a0.length * a0.length ≤ 4096 := rc_bd n2 n2
      have vl : (mod101 a1).length = a0.length := by rw [mod101_len, h3]
      have vin := mod101_in a1
      have d1 := one_walk (a0.length : Int)
      rw [show mOneR (a0.length : Int) = (((a0.length : Int), (a0.length : Int), oneJ a0.length a0.length), 0) by
        unfold mOneR; rw [(side_iff _).2 ⟨by omega, by omega⟩]; rfl] at d1
      have d2 := rows_walk a0 a0.length a0.length (oneJ a0.length a0.length) w0.1 (by rw [oneJ_len, mx_len]; omega)
      rw [show rowsR a0 a0.length a0.length (oneJ a0.length a0.length) = (((a0.length : Int), (a0.length : Int), rowsL a0 a0.length (oneJ a0.length a0.length)), 0) by
        unfold rowsR
        rw [h1, shape_iff.2 ⟨by omega, by omega, by omega, by omega, by rw [oneJ_len]; push_cast; rfl⟩, decide_eq_true rfl]; rfl] at d2
      have M := perm_mt o1
      have Pl : (rowsL a0 a0.length (oneJ a0.length a0.length)).length ≤ maxLen := by rw [rowsL_len o1.mem (oneJ_len _ _), mx_len]; omega
      have hv : HasB 101 (mod101 a1) = true := (has_iff _ _).2 ⟨fun a ha => (vin a ha).2, by omega, by omega⟩
      have wv : W64s (mod101 a1) := fun a ha => by have := vin a ha; unfold W64; omega
      have d3 := times_walk 101 a0.length a0.length _ (mod101 a1) Pl (ml _ (by omega)) perm_w64 wv
      rw [show timesR 101 a0.length a0.length (rowsL a0 a0.length (oneJ a0.length a0.length)) (mod101 a1) = (doneI a0 (mod101 a1), 0) by
        unfold timesR; rw [mat_mk M, hv, decide_eq_true (by rw [vl])]; simp only [Bool.and_self, if_true, Int.toNat_natCast]; rw [perm_times o1 vl vin]] at d3
      have d4 := left_walk 101 a0.length a0.length _ (mod101 a1) Pl (ml _ (by omega)) perm_w64 wv
      rw [show mlR 101 (mod101 a1) a0.length a0.length (rowsL a0 a0.length (oneJ a0.length a0.length)) = (doneI (tbl a0.length (backF a0 a0.length)) (mod101 a1), 0) by
        unfold mlR; rw [mat_mk M, hv, decide_eq_true (by rw [vl])]; simp only [Bool.and_self, if_true, Int.toNat_natCast]; rw [perm_left o1 vl vin]] at d4
      have dl : ∀ p x : List Int, Ord p → p.length = x.length → doR p x = (doneI p x, 0) := fun p x o h => by unfold doR; rw [(orderB_iff p).2 o, decide_eq_true h]; rfl
      have d5 := do_walk a0 (mod101 a1) w0.1 (ml _ (by omega))
      rw [dl _ _ o1 vl.symm] at d5
      have bl' : (tbl a0.length (backF a0 a0.length)).length = a0.length := tbl_len _ _
      have d6 := back_walk a0 w0.1
      rw [show backR a0 = (tbl a0.length (backF a0 a0.length), 0) by unfold backR; rw [h1]; rfl] at d6
      have d7 := do_walk (tbl a0.length (backF a0 a0.length)) (mod101 a1) (ml _ o4.le) (ml _ (by omega))
      rw [dl _ _ o4 (by rw [bl', vl])] at d7
      have d8 := back_walk (tbl a0.length (backF a0 a0.length)) (ml _ o4.le)
      rw [show backR (tbl a0.length (backF a0 a0.length)) = (a0, 0) by
        unfold backR; rw [(orderB_iff _).2 o4, if_pos rfl, bl', back_back o1]] at d8
      have s1 := same1_walk (doneI a0 (mod101 a1)) (doneI a0 (mod101 a1)) (ml _ (by rw [doneI_len]; omega))
      rw [decide_eq_true rfl] at s1
      have s2 := same1_walk (doneI (tbl a0.length (backF a0 a0.length)) (mod101 a1)) (doneI (tbl a0.length (backF a0 a0.length)) (mod101 a1)) (ml _ (by rw [doneI_len, bl']; omega))
      rw [decide_eq_true rfl] at s2
      have s3 := same6_walk a0 a0 w0.1
      rw [decide_eq_true rfl] at s3
      have hw := w64_all w1.2
      generalize doneI (tbl a0.length (backF a0 a0.length)) (mod101 a1) = D at d4 d7 s2
      generalize doneI a0 (mod101 a1) = B at d3 d5 s1
      generalize tbl a0.length (backF a0 a0.length) = U at d6 d7 d8
      generalize rowsL a0 a0.length (oneJ a0.length a0.length) = P at d2 d3 d4
      generalize oneJ a0.length a0.length = O at d1 d2
      clear M Pl hv wv dl bl' o4 o1 h1
      refine X_startP (n := 128) (m := 2) (rs := [.tmp 4]) Try.func6 rfl rfl rfl rfl (by decide) fun base => ?_
      repeat (first | ((first | refine X_call_fn2 rfl (by simp only [tys]) ?_ | refine X_dcall_fn2 rfl (by simp only [tys]) ?_); apply Exists.intro; apply And.intro; (focus (simp -dsimp only [simx, zzC, zzB, tys, ite_self, opnL, callB, readsB, stepOp, ofVal, opBuiltin, opLen, PV.sk, scalBin, scalUn, intBin, opLoad, natOf, opConvert, opField, cellsP, oneP, Value.oneCell', opStore, toIV, scalT, scalA, scalC, boxesA, boxesC, zipB_none, zipB_mx, isZ, opZip, zeroP, opAppendZ, opMakeMap, opLookup, mboxB, opUpdate, ↓reduceIte, Nat.reduceSub, Nat.reduceEqDiff, Nat.reduceAdd, Nat.reduceMul, Nat.reduceLT, Nat.reduceLeDiff, Int.reduceToNat, Int.reduceLE, Int.reduceLT, Int.reduceNeg, reduceCtorEq, zzL, if_true, if_false] <;> rfl)); apply Exists.intro; apply And.intro; (focus (first | exact aw | exact q1))) | refine ⟨(by show drawK _ _ = true; kernel_rfl : drawX _ _ _), ?_⟩ | exact (by show drawK _ _ = true; kernel_rfl : drawX _ _ _) | simp -dsimp (maxSteps := 20000000) (disch := omega) only [simx, zzC, zzB, tys, ite_self, opnL, callB, readsB, stepOp, ofVal, opBuiltin, opLen, PV.sk, scalBin, scalUn, intBin, opLoad, natOf, opConvert, opField, cellsP, oneP, Value.oneCell', opStore, toIV, scalT, scalA, scalC, boxesA, boxesC, zipB_none, zipB_mx, isZ, opZip, zeroP, opAppendZ, opMakeMap, opLookup, mboxB, opUpdate, ↓reduceIte, Nat.reduceSub, Nat.reduceEqDiff, Nat.reduceAdd, Nat.reduceMul, Nat.reduceLT, Nat.reduceLeDiff, Int.reduceToNat, Int.reduceLE, Int.reduceLT, Int.reduceNeg, reduceCtorEq, gos, Int.reduceAdd, Int.reduceSub, Int.reduceMul, Int.reduceEq, e3])
      refine X_loopH [0, 1, 5, 6] [(9, 6) :: base] (0) (a0.length) (fun j => True) (fun j => [(5, rowP ((9, 7) :: base) 1 j ((mod101 (a1.take j)).map iu)), (6, i64 j)]) (fun j => rowH Heap.none ((9, 7) :: base) j ((mod101 (a1.take j)).map iu)) ?_ ?_ ?_ ?_ ?_ (by decide) ?_
      · exact (fgt_cons (by simp only [Heap.none_at]) (by (simp -dsimp only [zzB, tys, ite_self, opnL, callB, readsB, stepOp, ofVal, opBuiltin, opLen, PV.sk, scalBin, scalUn, intBin, opLoad, natOf, opConvert, opField, cellsP, oneP, Value.oneCell', opStore, toIV, scalT, scalA, scalC, boxesA, boxesC, zipB_none, zipB_mx, isZ, opZip, zeroP, opAppendZ, opMakeMap, opLookup, mboxB, opUpdate, ↓reduceIte, Nat.reduceSub, Nat.reduceEqDiff, Nat.reduceAdd, Nat.reduceMul, Nat.reduceLT, Nat.reduceLeDiff, Int.reduceToNat, Int.reduceLE, Int.reduceLT, Int.reduceNeg, reduceCtorEq, notIn_cons, notIn_nil]) <;> simp [refsL, refsP, mem_refs_rowP]) (by repeat (first | exact noVar_none _ | refine noVar_row ?_ | refine noVar_map ?_ | refine noVar_rowH ?_ | refine noVar_var ?_ (by simp [refsL, refsP, mem_refs_rowP]))) (fgt_nil))
      · ((simp -dsimp (disch := omega) only [simx, zzB, tys, ite_self, opnL, callB, readsB, stepOp, ofVal, opBuiltin, opLen, PV.sk, scalBin, scalUn, intBin, opLoad, natOf, opConvert, opField, cellsP, oneP, Value.oneCell', opStore, toIV, scalT, scalA, scalC, boxesA, boxesC, zipB_none, zipB_mx, isZ, opZip, zeroP, opAppendZ, opMakeMap, opLookup, mboxB, opUpdate, ↓reduceIte, Nat.reduceSub, Nat.reduceEqDiff, Nat.reduceAdd, Nat.reduceMul, Nat.reduceLT, Nat.reduceLeDiff, Int.reduceToNat, Int.reduceLE, Int.reduceLT, Int.reduceNeg, reduceCtorEq, gos, Int.reduceAdd, Int.reduceSub, Int.reduceMul, Int.reduceEq]) <;> first | rfl | simp [rowP])
      · funext c
        simp (maxSteps := 20000000) only [Heap.drop_at, rowH_app, Heap.put_at, Heap.none_at, List.mem_cons, List.not_mem_nil, or_false]
        by_cases e0 : c = (9, 6) :: base
        · subst e0; simp []
        simp [e0]
      · omega
      · trivial
      · intro j hj _
        by_cases cj : j < a0.length
        · have cj1 : j < a1.length := by omega
          have g1 : a1[j]? = some a1[j] := List.getElem?_eq_getElem cj1
          have tk : mod101 (a1.take (j + 1)) = mod101 (a1.take j) ++ [a1[j] % 101] := by
            unfold mod101; rw [List.take_succ_eq_append_getElem cj1, List.map_append]; rfl
          have dl : (mod101 (a1.take j)).length = j := by rw [mod101_len, List.length_take]; omega
          have hb := hw _ (List.getElem_mem cj1)
          generalize a1[j] = b at g1 tk hb
          have b0 := hb.1
          repeat (first | refine ⟨(by show drawK _ _ = true; kernel_rfl : drawX _ _ _), ?_⟩ | exact (by show drawK _ _ = true; kernel_rfl : drawX _ _ _) | simp -dsimp (maxSteps := 20000000) (disch := omega) only [simx, zzC, zzB, tys, ite_self, opnL, callB, readsB, stepOp, ofVal, opBuiltin, opLen, PV.sk, scalBin, scalUn, intBin, opLoad, natOf, opConvert, opField, cellsP, oneP, Value.oneCell', opStore, toIV, scalT, scalA, scalC, boxesA, boxesC, zipB_none, zipB_mx, isZ, opZip, zeroP, opAppendZ, opMakeMap, opLookup, mboxB, opUpdate, ↓reduceIte, Nat.reduceSub, Nat.reduceEqDiff, Nat.reduceAdd, Nat.reduceMul, Nat.reduceLT, Nat.reduceLeDiff, Int.reduceToNat, Int.reduceLE, Int.reduceLT, Int.reduceNeg, reduceCtorEq, gos, Int.reduceAdd, Int.reduceSub, Int.reduceMul, Int.reduceEq, cj, cj1, g1, e3, tmod_nn b0])
          refine X_append_one 55 [.int .u64 0] [iu (b % 101)] (by simp only [tys]) (by simp only [tys]) rfl (by decide) (by simp [dl]) (by simp [Heap.put_at, Heap.none_at, rowH_app]) (by simp [Heap.put_at]; rfl) rfl (by simp only [tys]; omega) (by rw [mx_len]; omega) ?_
          repeat (first | refine ⟨(by show drawK _ _ = true; kernel_rfl : drawX _ _ _), ?_⟩ | exact (by show drawK _ _ = true; kernel_rfl : drawX _ _ _) | simp -dsimp (maxSteps := 20000000) (disch := omega) only [simx, zzC, zzB, tys, ite_self, opnL, callB, readsB, stepOp, ofVal, opBuiltin, opLen, PV.sk, scalBin, scalUn, intBin, opLoad, natOf, opConvert, opField, cellsP, oneP, Value.oneCell', opStore, toIV, scalT, scalA, scalC, boxesA, boxesC, zipB_none, zipB_mx, isZ, opZip, zeroP, opAppendZ, opMakeMap, opLookup, mboxB, opUpdate, ↓reduceIte, Nat.reduceSub, Nat.reduceEqDiff, Nat.reduceAdd, Nat.reduceMul, Nat.reduceLT, Nat.reduceLeDiff, Int.reduceToNat, Int.reduceLE, Int.reduceLT, Int.reduceNeg, reduceCtorEq, gos, Int.reduceAdd, Int.reduceSub, Int.reduceMul, Int.reduceEq, cj])
          refine ⟨cj, (fgt_cons (by simp only [Heap.none_at]) (by (simp -dsimp only [zzB, tys, ite_self, opnL, callB, readsB, stepOp, ofVal, opBuiltin, opLen, PV.sk, scalBin, scalUn, intBin, opLoad, natOf, opConvert, opField, cellsP, oneP, Value.oneCell', opStore, toIV, scalT, scalA, scalC, boxesA, boxesC, zipB_none, zipB_mx, isZ, opZip, zeroP, opAppendZ, opMakeMap, opLookup, mboxB, opUpdate, ↓reduceIte, Nat.reduceSub, Nat.reduceEqDiff, Nat.reduceAdd, Nat.reduceMul, Nat.reduceLT, Nat.reduceLeDiff, Int.reduceToNat, Int.reduceLE, Int.reduceLT, Int.reduceNeg, reduceCtorEq, notIn_cons, notIn_nil]) <;> simp [refsL, refsP, mem_refs_rowP]) (by repeat (first | exact noVar_none _ | refine noVar_row ?_ | refine noVar_map ?_ | refine noVar_rowH ?_ | refine noVar_var ?_ (by simp [refsL, refsP, mem_refs_rowP]))) (fgt_nil)), ⟨?_, rfl⟩, ?_⟩
          · rw [tk]; simp
          · funext c
            simp (maxSteps := 20000000) only [Heap.drop_at, rowH_app, Heap.put_at, Heap.none_at, List.mem_cons, List.not_mem_nil, or_false]
            by_cases e0 : c = (9, 6) :: base
            · subst e0; simp [tk]
            by_cases e1 : c = (9, 7) :: base
            · subst e1; simp [tk]
            simp [e0, e1, tk]
        · have hj : j = a0.length := by omega
          subst hj
          rw [List.take_of_length_le (by omega : a1.length ≤ a0.length)]
          generalize mod101 a1 = v at d3 d4 d5 d7 vl
          have hne : ¬ a0.length = 0 := by omega
          have ep : rowP ((9, 7) :: base) 1 a0.length (v.map iu) = .view ((9, 7) :: base) 0 1 a0.length (v.map iu).length := if_neg hne
          have e2 : (v.map iu).take a0.length = v.map iu := List.take_of_length_le (by simp [vl])
          have lv : lu v = .i (.l a0.length (v.map iu)) := by rw [lu, vl]
          rw [lv] at d3 d4 d5 d7
          repeat (first | ((first | refine X_call_fn2 rfl (by simp only [tys]) ?_ | refine X_dcall_fn2 rfl (by simp only [tys]) ?_); apply Exists.intro; apply And.intro; (focus (simp -dsimp only [simx, zzC, zzB, tys, ite_self, opnL, callB, readsB, stepOp, ofVal, opBuiltin, opLen, PV.sk, scalBin, scalUn, intBin, opLoad, natOf, opConvert, opField, cellsP, oneP, Value.oneCell', opStore, toIV, scalT, scalA, scalC, boxesA, boxesC, zipB_none, zipB_mx, isZ, opZip, zeroP, opAppendZ, opMakeMap, opLookup, mboxB, opUpdate, ↓reduceIte, Nat.reduceSub, Nat.reduceEqDiff, Nat.reduceAdd, Nat.reduceMul, Nat.reduceLT, Nat.reduceLeDiff, Int.reduceToNat, Int.reduceLE, Int.reduceLT, Int.reduceNeg, reduceCtorEq, zzL, if_true, if_false, hne, ep, e2, List.length_map, vl, Nat.zero_add, Nat.mul_one, Nat.le_refl, List.drop_zero] <;> rfl)); apply Exists.intro; apply And.intro; (focus (first | exact aw | exact q1 | exact d1 | exact d2 | exact d3 | exact d4 | exact d5 | exact d6 | exact d7 | exact d8 | exact s1 | exact s2 | exact s3))) | refine ⟨(by show drawK _ _ = true; kernel_rfl : drawX _ _ _), ?_⟩ | exact (by show drawK _ _ = true; kernel_rfl : drawX _ _ _) | simp -dsimp (maxSteps := 20000000) (disch := omega) only [simx, zzC, zzB, tys, ite_self, opnL, callB, readsB, stepOp, ofVal, opBuiltin, opLen, PV.sk, scalBin, scalUn, intBin, opLoad, natOf, opConvert, opField, cellsP, oneP, Value.oneCell', opStore, toIV, scalT, scalA, scalC, boxesA, boxesC, zipB_none, zipB_mx, isZ, opZip, zeroP, opAppendZ, opMakeMap, opLookup, mboxB, opUpdate, ↓reduceIte, Nat.reduceSub, Nat.reduceEqDiff, Nat.reduceAdd, Nat.reduceMul, Nat.reduceLT, Nat.reduceLeDiff, Int.reduceToNat, Int.reduceLE, Int.reduceLT, Int.reduceNeg, reduceCtorEq, zzR, gos, Int.reduceAdd, Int.reduceSub, Int.reduceMul, Int.reduceEq, e3, hne, ep])
    · have e3 : ¬ (a1.length : Int) = a0.length := by omega
      refine X_startP (n := 128) (m := 2) (rs := [.tmp 4]) Try.func6 rfl rfl rfl rfl (by decide) fun base => ?_
      repeat (first | ((first | refine X_call_fn2 rfl (by simp only [tys]) ?_ | refine X_dcall_fn2 rfl (by simp only [tys]) ?_); apply Exists.intro; apply And.intro; (focus (simp -dsimp only [simx, zzC, zzB, tys, ite_self, opnL, callB, readsB, stepOp, ofVal, opBuiltin, opLen, PV.sk, scalBin, scalUn, intBin, opLoad, natOf, opConvert, opField, cellsP, oneP, Value.oneCell', opStore, toIV, scalT, scalA, scalC, boxesA, boxesC, zipB_none, zipB_mx, isZ, opZip, zeroP, opAppendZ, opMakeMap, opLookup, mboxB, opUpdate, ↓reduceIte, Nat.reduceSub, Nat.reduceEqDiff, Nat.reduceAdd, Nat.reduceMul, Nat.reduceLT, Nat.reduceLeDiff, Int.reduceToNat, Int.reduceLE, Int.reduceLT, Int.reduceNeg, reduceCtorEq, zzL, if_true, if_false] <;> rfl)); apply Exists.intro; apply And.intro; (focus (first | exact aw | exact q1))) | refine ⟨(by show drawK _ _ = true; kernel_rfl : drawX _ _ _), ?_⟩ | exact (by show drawK _ _ = true; kernel_rfl : drawX _ _ _) | simp -dsimp (maxSteps := 20000000) (disch := omega) only [simx, zzC, zzB, tys, ite_self, opnL, callB, readsB, stepOp, ofVal, opBuiltin, opLen, PV.sk, scalBin, scalUn, intBin, opLoad, natOf, opConvert, opField, cellsP, oneP, Value.oneCell', opStore, toIV, scalT, scalA, scalC, boxesA, boxesC, zipB_none, zipB_mx, isZ, opZip, zeroP, opAppendZ, opMakeMap, opLookup, mboxB, opUpdate, ↓reduceIte, Nat.reduceSub, Nat.reduceEqDiff, Nat.reduceAdd, Nat.reduceMul, Nat.reduceLT, Nat.reduceLeDiff, Int.reduceToNat, Int.reduceLE, Int.reduceLT, Int.reduceNeg, reduceCtorEq, zzR, gos, Int.reduceAdd, Int.reduceSub, Int.reduceMul, Int.reduceEq, e3])
end Go.Proofs.Ytkhjfphenflefaa.TM
