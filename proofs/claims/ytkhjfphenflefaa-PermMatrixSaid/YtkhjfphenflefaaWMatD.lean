/- Layer 5: products of matrices, and One, walked. -/
import Derived.Test.YtkhjfphenflefaaWMatC
namespace Go.Proofs.Ytkhjfphenflefaa.TM
open Go Go.RowKit
set_option linter.unusedVariables false
set_option linter.defProp false
set_option linter.unusedSimpArgs false
attribute [local irreducible] K W WOps Effs Xg Xo Xr Xdg Xdo Xdr Xif CallsP CallR

theorem timesM_len (p : Int) (r c : Nat) (l x : List Int) : (timesM p r c l x).length = r := by simp [timesM]
def mulRow (p : Int) (ac : Nat) (al : List Int) (bc : Nat) (bl : List Int) (i : Nat) : List Int := timesM p bc ac (turnM ac bc bl) (rowM ac al i)
def mulM (p : Int) (ar ac : Nat) (al : List Int) (bc : Nat) (bl : List Int) : List Int := (List.range ar).flatMap (mulRow p ac al bc bl)
theorem mulM_next (p : Int) (j ac : Nat) (al : List Int) (bc : Nat) (bl : List Int) : mulM p (j + 1) ac al bc bl = mulM p j ac al bc bl ++ mulRow p ac al bc bl j := by
  unfold mulM; rw [List.range_succ, List.flatMap_append]; simp
theorem mulM_len (p : Int) (ac : Nat) (al : List Int) (bc : Nat) (bl : List Int) : ∀ j : Nat, (mulM p j ac al bc bl).length = j * bc
  | 0 => by simp [mulM]
  | j + 1 => by rw [mulM_next, List.length_append, mulM_len p ac al bc bl j, mulRow, timesM_len, Nat.succ_mul]
def mulR (p ar ac : Int) (al : List Int) (br bc : Int) (bl : List Int) : (Int × Int × List Int) × Int :=
  if MatB p ar ac al && (MatB p br bc bl && decide (ac = br)) then ((ar, bc, mulM p ar.toNat ac.toNat al bc.toNat bl), 0) else ((0, 0, []), 1)
/-! ### One -/
def oneJ (n j : Nat) : List Int := (List.range (n * n)).map fun q => if q / n = q % n ∧ q / n < j then 1 else 0
theorem oneJ_len (n j : Nat) : (oneJ n j).length = n * n := by simp [oneJ]
theorem oneJ_zero (n : Nat) : oneJ n 0 = List.replicate (n * n) 0 := by
  apply List.ext_getElem?
  intro i
  unfold oneJ
  rw [List.getElem?_map, List.getElem?_replicate]
  by_cases h : i < n * n
  · rw [if_pos h, List.getElem?_range h]; simp
  · rw [if_neg h, List.getElem?_eq_none (by simp; omega)]; rfl
theorem one_at {n j : Nat} (hj : j < n) : j * n + j < n * n ∧ (j * n + j) / n = j ∧ (j * n + j) % n = j := by
  have h := ic_bd (c := n) hj
  have hn : 0 < n := Nat.lt_of_le_of_lt (Nat.zero_le _) hj
  refine ⟨by omega, ?_, ?_⟩
  · rw [Nat.add_comm, Nat.add_mul_div_right _ _ hn, Nat.div_eq_of_lt hj, Nat.zero_add]
  · rw [Nat.add_comm, Nat.add_mul_mod_self_right, Nat.mod_eq_of_lt hj]
theorem oneJ_next {n j : Nat} (hj : j < n) : (oneJ n j).take (j * n + j) ++ [1] ++ (oneJ n j).drop (j * n + j + 1) = oneJ n (j + 1) := by
  obtain ⟨d1, d2, d3⟩ := one_at hj
  generalize hd : j * n + j = d at d1 d2 d3 ⊢
  have g : ∀ k i, i < n * n → (oneJ n k)[i]? = some (if i / n = i % n ∧ i / n < k then 1 else 0) := by
    intro k i hi; unfold oneJ; rw [List.getElem?_map, List.getElem?_range hi]; rfl
  have uq : ∀ i, i / n = i % n → i / n = j → i = d := by
    intro i h1 h2
    have := Nat.div_add_mod i n
    rw [← h1, h2] at this
    rw [← hd, ← this, Nat.mul_comm]
  apply List.ext_getElem?
  intro i
  have hlen : ((oneJ n j).take d).length = d := by rw [List.length_take, oneJ_len]; omega
  by_cases hi : i < n * n
  · rw [g _ _ hi, List.append_assoc, List.getElem?_append, hlen]
    have same : i ≠ d → (if i / n = i % n ∧ i / n < j then (1 : Int) else 0) = if i / n = i % n ∧ i / n < j + 1 then 1 else 0 := by
      intro hne
      congr 1
      simp only [eq_iff_iff]
      constructor
      · rintro ⟨h1, h2⟩; exact ⟨h1, Nat.lt_succ_of_lt h2⟩
      · rintro ⟨h1, h2⟩
        refine ⟨h1, ?_⟩
        rcases Nat.lt_or_ge (i / n) j with h3 | h3
        · exact h3
        · exact absurd (uq i h1 (Nat.le_antisymm (Nat.le_of_lt_succ h2) h3)) hne
    by_cases h1 : i < d
    · rw [if_pos h1, List.getElem?_take, if_pos h1, g _ _ hi, same (by omega)]
    · rw [if_neg h1, List.getElem?_append]
      by_cases h2 : i = d
      · subst h2
        rw [if_pos (by simp), d2, d3, if_pos ⟨rfl, Nat.lt_succ_self j⟩]
        simp
      · rw [if_neg (by simp; omega), List.getElem?_drop, List.length_singleton, show d + 1 + (i - d - 1) = i by omega, g _ _ hi, same h2]
  · rw [List.getElem?_eq_none (by simp [oneJ_len]; omega), List.getElem?_eq_none (by rw [oneJ_len]; omega)]
def mOneR (n : Int) : (Int × Int × List Int) × Int := if SideB n then ((n, n, oneJ n.toNat n.toNat), 0) else ((0, 0, []), 1)
set_option maxHeartbeats 2000000 in
theorem one_walk (n : Int) : CallsP Try.prog 31 [i64 n] (mat2 (mOneR n)) := by
  have q1 := side_walk n
  unfold mOneR
  cases h1 : SideB n with
  | false =>
    rw [h1] at q1
    refine X_startP (n := 31) (m := 1) (rs := [.cell 2 43, .tmp 3]) Try.func31 rfl rfl rfl rfl (by decide) fun base => ?_
    repeat (first | ((first | refine X_call_fn2 rfl (by simp only [tys]) ?_ | refine X_dcall_fn2 rfl (by simp only [tys]) ?_); apply Exists.intro; apply And.intro; (focus (simp -dsimp only [simx, zzC, zzB, tys, ite_self, opnL, callB, readsB, stepOp, ofVal, opBuiltin, opLen, PV.sk, scalBin, scalUn, intBin, opLoad, natOf, opConvert, opField, cellsP, oneP, Value.oneCell', opStore, toIV, scalT, scalA, scalC, boxesA, boxesC, zipB_none, zipB_mx, isZ, opZip, zeroP, opAppendZ, opMakeMap, opLookup, mboxB, opUpdate, ↓reduceIte, Nat.reduceSub, Nat.reduceEqDiff, Nat.reduceAdd, Nat.reduceMul, Nat.reduceLT, Nat.reduceLeDiff, Int.reduceToNat, Int.reduceLE, Int.reduceLT, Int.reduceNeg, reduceCtorEq, zzL, if_true, if_false] <;> rfl)); apply Exists.intro; apply And.intro; (focus (first | exact q1))) | refine ⟨(by show drawK _ _ = true; kernel_rfl : drawX _ _ _), ?_⟩ | exact (by show drawK _ _ = true; kernel_rfl : drawX _ _ _) | simp -dsimp (maxSteps := 20000000) (disch := omega) only [simx, zzC, zzB, tys, ite_self, opnL, callB, readsB, stepOp, ofVal, opBuiltin, opLen, PV.sk, scalBin, scalUn, intBin, opLoad, natOf, opConvert, opField, cellsP, oneP, Value.oneCell', opStore, toIV, scalT, scalA, scalC, boxesA, boxesC, zipB_none, zipB_mx, isZ, opZip, zeroP, opAppendZ, opMakeMap, opLookup, mboxB, opUpdate, ↓reduceIte, Nat.reduceSub, Nat.reduceEqDiff, Nat.reduceAdd, Nat.reduceMul, Nat.reduceLT, Nat.reduceLeDiff, Int.reduceToNat, Int.reduceLE, Int.reduceLT, Int.reduceNeg, reduceCtorEq, zzR, gos, Int.reduceAdd, Int.reduceSub, Int.reduceMul, Int.reduceEq])
    rfl
  | true =>
    rw [h1] at q1
    rw [side_iff] at h1
    obtain ⟨N, rfl⟩ := Int.eq_ofNat_of_zero_le (show 0 ≤ n by omega)
    have n1 : 1 ≤ N := by omega
    have n2 : N ≤ 64 := by omega
    have bd := rc_bd n2 n2
    simp only [if_true, Int.toNat_natCast]
    have e0 : IntKind.i64.wrap ((N : Int) * (N : Int)) = ((N * N : Nat) : Int) := by rw [← Int.natCast_mul]; exact iw_of (by omega) (by omega)
    have f1 : N * N * 8 ≤ 140737488355328 := by omega
    have f2 : N * N ≤ 140737488355328 := by omega
    have zf : List.map IV.v (zeroRow [Value.int .u64 0] (N * N)) = (oneJ N 0).map iu := by
      rw [oneJ_zero, List.map_replicate]
      induction N * N with
      | zero => rfl
      | succ n ih => rw [zeroRow_succ, List.map_append, ih]; rfl
    have tl := oneJ_len N
    clear h1
    refine X_startP (n := 31) (m := 1) (rs := [.cell 2 43, .tmp 3]) Try.func31 rfl rfl rfl rfl (by decide) fun base => ?_
    repeat (first | ((first | refine X_call_fn2 rfl (by simp only [tys]) ?_ | refine X_dcall_fn2 rfl (by simp only [tys]) ?_); apply Exists.intro; apply And.intro; (focus (simp -dsimp only [simx, zzC, zzB, tys, ite_self, opnL, callB, readsB, stepOp, ofVal, opBuiltin, opLen, PV.sk, scalBin, scalUn, intBin, opLoad, natOf, opConvert, opField, cellsP, oneP, Value.oneCell', opStore, toIV, scalT, scalA, scalC, boxesA, boxesC, zipB_none, zipB_mx, isZ, opZip, zeroP, opAppendZ, opMakeMap, opLookup, mboxB, opUpdate, ↓reduceIte, Nat.reduceSub, Nat.reduceEqDiff, Nat.reduceAdd, Nat.reduceMul, Nat.reduceLT, Nat.reduceLeDiff, Int.reduceToNat, Int.reduceLE, Int.reduceLT, Int.reduceNeg, reduceCtorEq, zzL, if_true, if_false] <;> rfl)); apply Exists.intro; apply And.intro; (focus (first | exact q1))) | refine ⟨(by show drawK _ _ = true; kernel_rfl : drawX _ _ _), ?_⟩ | exact (by show drawK _ _ = true; kernel_rfl : drawX _ _ _) | simp -dsimp (maxSteps := 20000000) (disch := omega) only [simx, zzC, zzB, tys, ite_self, opnL, callB, readsB, stepOp, ofVal, opBuiltin, opLen, PV.sk, scalBin, scalUn, intBin, opLoad, natOf, opConvert, opField, cellsP, oneP, Value.oneCell', opStore, toIV, scalT, scalA, scalC, boxesA, boxesC, zipB_none, zipB_mx, isZ, opZip, zeroP, opAppendZ, opMakeMap, opLookup, mboxB, opUpdate, ↓reduceIte, Nat.reduceSub, Nat.reduceEqDiff, Nat.reduceAdd, Nat.reduceMul, Nat.reduceLT, Nat.reduceLeDiff, Int.reduceToNat, Int.reduceLE, Int.reduceLT, Int.reduceNeg, reduceCtorEq, gos, Int.reduceAdd, Int.reduceSub, Int.reduceMul, Int.reduceEq, e0, zf, f1, f2, List.length_map, tl])
    refine X_loopH [0, 2, 4, 17, 18] [] (0) (N) (fun j => True) (fun j => [(18, i64 j)]) (fun j => (((Heap.none.put ((0, 0) :: base) (.var [i64 0, i64 0, nilP])).put ((3, 5) :: base) (.row false ((oneJ N j).map iu)))).put ((3, 7) :: base) (.var [i64 N, i64 N, .view ((3, 5) :: base) 0 1 (N * N) (N * N)])) ?_ ?_ ?_ ?_ ?_ (by decide) ?_
    · exact (fgt_nil)
    · ((simp -dsimp (disch := omega) only [simx, zzB, tys, ite_self, opnL, callB, readsB, stepOp, ofVal, opBuiltin, opLen, PV.sk, scalBin, scalUn, intBin, opLoad, natOf, opConvert, opField, cellsP, oneP, Value.oneCell', opStore, toIV, scalT, scalA, scalC, boxesA, boxesC, zipB_none, zipB_mx, isZ, opZip, zeroP, opAppendZ, opMakeMap, opLookup, mboxB, opUpdate, ↓reduceIte, Nat.reduceSub, Nat.reduceEqDiff, Nat.reduceAdd, Nat.reduceMul, Nat.reduceLT, Nat.reduceLeDiff, Int.reduceToNat, Int.reduceLE, Int.reduceLT, Int.reduceNeg, reduceCtorEq, gos, Int.reduceAdd, Int.reduceSub, Int.reduceMul, Int.reduceEq]) <;> first | rfl | simp)
    · funext c
      simp (maxSteps := 20000000) only [Heap.drop_at, rowH_app, Heap.put_at, Heap.none_at, List.mem_cons, List.not_mem_nil, or_false]
      by_cases e0 : c = (0, 0) :: base
      · subst e0; simp [zf]
      by_cases e1 : c = (3, 5) :: base
      · subst e1; simp [zf]
      by_cases e2 : c = (3, 7) :: base
      · subst e2; simp [zf]
      simp [e0, e1, e2, zf]
    · omega
    · trivial
    · intro j hj _
      by_cases cj : j < N
      · obtain ⟨d1, _, _⟩ := one_at cj
        have nx := oneJ_next cj
        have m2 := ic_bd (c := N) cj
        have e2 : IntKind.i64.wrap ((j : Int) * (N : Int)) = ((j * N : Nat) : Int) := by rw [← Int.natCast_mul]; exact iw_of (by omega) (by omega)
        have e4 : IntKind.i64.wrap (((j * N : Nat) : Int) + (j : Int)) = ((j * N + j : Nat) : Int) := by
          rw [← Int.natCast_add]
          exact iw_of (by omega) (by omega)
        have nx2 : ((oneJ N j).map iu).take (j * N + j) ++ [IV.v (.int .u64 1)] ++ ((oneJ N j).map iu).drop (j * N + j + 1) = (oneJ N (j + 1)).map iu := by
          rw [← nx]; simp
        have d4 : j * N + j + 1 ≤ N * N := d1
        clear nx m2 bd zf
        repeat (first | refine ⟨(by show drawK _ _ = true; kernel_rfl : drawX _ _ _), ?_⟩ | exact (by show drawK _ _ = true; kernel_rfl : drawX _ _ _) | simp -dsimp (maxSteps := 20000000) (disch := omega) only [simx, zzC, zzB, tys, ite_self, opnL, callB, readsB, stepOp, ofVal, opBuiltin, opLen, PV.sk, scalBin, scalUn, intBin, opLoad, natOf, opConvert, opField, cellsP, oneP, Value.oneCell', opStore, toIV, scalT, scalA, scalC, boxesA, boxesC, zipB_none, zipB_mx, isZ, opZip, zeroP, opAppendZ, opMakeMap, opLookup, mboxB, opUpdate, ↓reduceIte, Nat.reduceSub, Nat.reduceEqDiff, Nat.reduceAdd, Nat.reduceMul, Nat.reduceLT, Nat.reduceLeDiff, Int.reduceToNat, Int.reduceLE, Int.reduceLT, Int.reduceNeg, reduceCtorEq, gos, Int.reduceAdd, Int.reduceSub, Int.reduceMul, Int.reduceEq, cj, e2, e4, nx2, d1, d4, List.length_map, tl])
        refine ⟨cj, (fgt_nil), rfl, ?_⟩
        funext c
        simp (maxSteps := 20000000) only [Heap.drop_at, rowH_app, Heap.put_at, Heap.none_at, List.mem_cons, List.not_mem_nil, or_false]
        by_cases e0 : c = (0, 0) :: base
        · subst e0; simp []
        by_cases e1 : c = (3, 5) :: base
        · subst e1; simp []
        by_cases e2 : c = (3, 7) :: base
        · subst e2; simp []
        simp [e0, e1, e2]
      · have hj : j = N := by omega
        subst hj
        have e2 : ((oneJ j j).map iu).take (j * j) = (oneJ j j).map iu := List.take_of_length_le (by rw [List.length_map, tl]; exact Nat.le_refl _)
        repeat (first | refine ⟨(by show drawK _ _ = true; kernel_rfl : drawX _ _ _), ?_⟩ | exact (by show drawK _ _ = true; kernel_rfl : drawX _ _ _) | simp -dsimp (maxSteps := 20000000) (disch := omega) only [simx, zzC, zzB, tys, ite_self, opnL, callB, readsB, stepOp, ofVal, opBuiltin, opLen, PV.sk, scalBin, scalUn, intBin, opLoad, natOf, opConvert, opField, cellsP, oneP, Value.oneCell', opStore, toIV, scalT, scalA, scalC, boxesA, boxesC, zipB_none, zipB_mx, isZ, opZip, zeroP, opAppendZ, opMakeMap, opLookup, mboxB, opUpdate, ↓reduceIte, Nat.reduceSub, Nat.reduceEqDiff, Nat.reduceAdd, Nat.reduceMul, Nat.reduceLT, Nat.reduceLeDiff, Int.reduceToNat, Int.reduceLE, Int.reduceLT, Int.reduceNeg, reduceCtorEq, zzR, gos, Int.reduceAdd, Int.reduceSub, Int.reduceMul, Int.reduceEq, e2, tl, List.length_map, mat2])
        rw [← tl j]
end Go.Proofs.Ytkhjfphenflefaa.TM
