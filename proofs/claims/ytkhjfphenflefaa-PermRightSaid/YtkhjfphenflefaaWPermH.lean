/- perm: Rows. -/
import Derived.Test.YtkhjfphenflefaaWIterE
import Derived.Test.YtkhjfphenflefaaWPermF
import Derived.Test.YtkhjfphenflefaaWMatP
namespace Go.Proofs.Ytkhjfphenflefaa.TM
open Go Go.RowKit
set_option linter.unusedVariables false
set_option linter.defProp false
set_option linter.unusedSimpArgs false
attribute [local irreducible] K W WOps Effs Xg Xo Xr Xdg Xdo Xdr Xif CallsP CallR

/-- A list's elements at the places of p. -/
def doneL (p : List Int) (x : List IV) : List IV := p.map fun a => x.getD a.toNat (.l 0 [])
theorem doneL_len (p : List Int) (x : List IV) : (doneL p x).length = p.length := by simp [doneL]
theorem doneL_take {q : List Int} {x : List IV} {j : Nat} (h : j < q.length) : doneL (q.take (j + 1)) x = doneL (q.take j) x ++ [x.getD q[j].toNat (.l 0 [])] := by
  unfold doneL; rw [List.take_succ_eq_append_getElem h, List.map_append]; rfl
theorem done_l_walk (q : List Int) (x : List IV) (h1 : 1 ≤ q.length) (h2 : q.length ≤ 64) (hm : ∀ a ∈ q, 0 ≤ a ∧ a < x.length) (hr : ∀ (i : Nat) (y : IV), x[i]? = some y → ∃ (n : Nat) (cs : List IV), y = IV.l n cs) : CallsP Try.prog 53 [li q, llN x] (llN (doneL q x)) := by
  refine X_startP (n := 23) (m := 2) (rs := [.tmp 4]) Try.func53 rfl rfl rfl rfl (by decide) fun base => ?_
  repeat (first | refine ⟨(by show drawK _ _ = true; kernel_rfl : drawX _ _ _), ?_⟩ | exact (by show drawK _ _ = true; kernel_rfl : drawX _ _ _) | simp -dsimp (maxSteps := 20000000) (disch := omega) only [simx, zzC, zzB, tys, ite_self, opnL, callB, readsB, stepOp, ofVal, opBuiltin, opLen, PV.sk, scalBin, scalUn, intBin, opLoad, natOf, opConvert, opField, cellsP, oneP, Value.oneCell', opStore, toIV, scalT, scalA, scalC, boxesA, boxesC, zipB_none, zipB_mx, isZ, opZip, zeroP, opAppendZ, opMakeMap, opLookup, mboxB, opUpdate, ↓reduceIte, Nat.reduceSub, Nat.reduceEqDiff, Nat.reduceAdd, Nat.reduceMul, Nat.reduceLT, Nat.reduceLeDiff, Int.reduceToNat, Int.reduceLE, Int.reduceLT, Int.reduceNeg, reduceCtorEq, gos, Int.reduceAdd, Int.reduceSub, Int.reduceMul, Int.reduceEq])
  refine X_loopH [1, 5, 8, 9, 10] [(5, 5) :: base] (0) (q.length) (fun j => True) (fun j => [(5, rowP ((5, 6) :: base) 1 j (doneL (q.take j) x)), (10, i64 j)]) (fun j => rowH Heap.none ((5, 6) :: base) j (doneL (q.take j) x)) ?_ ?_ ?_ ?_ ?_ (by decide) ?_
  · exact (fgt_cons (by simp only [Heap.none_at]) (by (simp -dsimp only [zzB, tys, ite_self, opnL, callB, readsB, stepOp, ofVal, opBuiltin, opLen, PV.sk, scalBin, scalUn, intBin, opLoad, natOf, opConvert, opField, cellsP, oneP, Value.oneCell', opStore, toIV, scalT, scalA, scalC, boxesA, boxesC, zipB_none, zipB_mx, isZ, opZip, zeroP, opAppendZ, opMakeMap, opLookup, mboxB, opUpdate, ↓reduceIte, Nat.reduceSub, Nat.reduceEqDiff, Nat.reduceAdd, Nat.reduceMul, Nat.reduceLT, Nat.reduceLeDiff, Int.reduceToNat, Int.reduceLE, Int.reduceLT, Int.reduceNeg, reduceCtorEq, notIn_cons, notIn_nil]) <;> simp [refsL, refsP, mem_refs_rowP]) (by repeat (first | exact noVar_none _ | refine noVar_row ?_ | refine noVar_map ?_ | refine noVar_rowH ?_ | refine noVar_var ?_ (by simp [refsL, refsP, mem_refs_rowP]))) (fgt_nil))
  · ((simp -dsimp (disch := omega) only [simx, zzB, tys, ite_self, opnL, callB, readsB, stepOp, ofVal, opBuiltin, opLen, PV.sk, scalBin, scalUn, intBin, opLoad, natOf, opConvert, opField, cellsP, oneP, Value.oneCell', opStore, toIV, scalT, scalA, scalC, boxesA, boxesC, zipB_none, zipB_mx, isZ, opZip, zeroP, opAppendZ, opMakeMap, opLookup, mboxB, opUpdate, ↓reduceIte, Nat.reduceSub, Nat.reduceEqDiff, Nat.reduceAdd, Nat.reduceMul, Nat.reduceLT, Nat.reduceLeDiff, Int.reduceToNat, Int.reduceLE, Int.reduceLT, Int.reduceNeg, reduceCtorEq, gos, Int.reduceAdd, Int.reduceSub, Int.reduceMul, Int.reduceEq]) <;> first | rfl | simp [rowP])
  · funext c
    simp (maxSteps := 20000000) only [Heap.drop_at, rowH_app, Heap.put_at, Heap.none_at, List.mem_cons, List.not_mem_nil, or_false]
    by_cases e0 : c = (5, 5) :: base
    · subst e0; simp []
    simp [e0]
  · omega
  · trivial
  · intro j hj _
    by_cases cj : j < q.length
    · have g1 : q[j]? = some q[j] := List.getElem?_eq_getElem cj
      have tk := doneL_take (x := x) cj
      obtain ⟨a0, a1⟩ := hm q[j] (List.getElem_mem cj)
      have dl : (doneL (q.take j) x).length = j := by rw [doneL_len, List.length_take]; omega
      generalize q[j] = a at g1 tk a0 a1
      have a2 : a.toNat < x.length := by omega
      have g2 : x[a.toNat]? = some x[a.toNat] := List.getElem?_eq_getElem a2
      rw [show x.getD a.toNat (.l 0 []) = x[a.toNat] by rw [List.getD_eq_getElem?_getD, g2]; rfl] at tk
      obtain ⟨bn, bc, hb⟩ := hr _ _ g2
      rw [hb] at g2 tk
      repeat (first | refine ⟨(by show drawK _ _ = true; kernel_rfl : drawX _ _ _), ?_⟩ | exact (by show drawK _ _ = true; kernel_rfl : drawX _ _ _) | simp -dsimp (maxSteps := 20000000) (disch := omega) only [simx, zzC, zzB, tys, ite_self, opnL, callB, readsB, stepOp, ofVal, opBuiltin, opLen, PV.sk, scalBin, scalUn, intBin, opLoad, natOf, opConvert, opField, cellsP, oneP, Value.oneCell', opStore, toIV, scalT, scalA, scalC, boxesA, boxesC, zipB_none, zipB_mx, isZ, opZip, zeroP, opAppendZ, opMakeMap, opLookup, mboxB, opUpdate, ↓reduceIte, Nat.reduceSub, Nat.reduceEqDiff, Nat.reduceAdd, Nat.reduceMul, Nat.reduceLT, Nat.reduceLeDiff, Int.reduceToNat, Int.reduceLE, Int.reduceLT, Int.reduceNeg, reduceCtorEq, gos, Int.reduceAdd, Int.reduceSub, Int.reduceMul, Int.reduceEq, cj, g1, g2, a0, a2])
      refine X_append_one 32 [.slice none 0 0] [.l bn bc] (by simp only [tys]) (by simp only [tys]) rfl (by decide) (by simp [dl]) (by simp [Heap.put_at, Heap.none_at, rowH_app]) (by simp [Heap.put_at]; rfl) rfl (by simp only [tys]; omega) (by rw [mx_len]; omega) ?_
      repeat (first | refine ⟨(by show drawK _ _ = true; kernel_rfl : drawX _ _ _), ?_⟩ | exact (by show drawK _ _ = true; kernel_rfl : drawX _ _ _) | simp -dsimp (maxSteps := 20000000) (disch := omega) only [simx, zzC, zzB, tys, ite_self, opnL, callB, readsB, stepOp, ofVal, opBuiltin, opLen, PV.sk, scalBin, scalUn, intBin, opLoad, natOf, opConvert, opField, cellsP, oneP, Value.oneCell', opStore, toIV, scalT, scalA, scalC, boxesA, boxesC, zipB_none, zipB_mx, isZ, opZip, zeroP, opAppendZ, opMakeMap, opLookup, mboxB, opUpdate, ↓reduceIte, Nat.reduceSub, Nat.reduceEqDiff, Nat.reduceAdd, Nat.reduceMul, Nat.reduceLT, Nat.reduceLeDiff, Int.reduceToNat, Int.reduceLE, Int.reduceLT, Int.reduceNeg, reduceCtorEq, gos, Int.reduceAdd, Int.reduceSub, Int.reduceMul, Int.reduceEq, cj])
      refine ⟨cj, (fgt_cons (by simp only [Heap.none_at]) (by (simp -dsimp only [zzB, tys, ite_self, opnL, callB, readsB, stepOp, ofVal, opBuiltin, opLen, PV.sk, scalBin, scalUn, intBin, opLoad, natOf, opConvert, opField, cellsP, oneP, Value.oneCell', opStore, toIV, scalT, scalA, scalC, boxesA, boxesC, zipB_none, zipB_mx, isZ, opZip, zeroP, opAppendZ, opMakeMap, opLookup, mboxB, opUpdate, ↓reduceIte, Nat.reduceSub, Nat.reduceEqDiff, Nat.reduceAdd, Nat.reduceMul, Nat.reduceLT, Nat.reduceLeDiff, Int.reduceToNat, Int.reduceLE, Int.reduceLT, Int.reduceNeg, reduceCtorEq, notIn_cons, notIn_nil]) <;> simp [refsL, refsP, mem_refs_rowP]) (by repeat (first | exact noVar_none _ | refine noVar_row ?_ | refine noVar_map ?_ | refine noVar_rowH ?_ | refine noVar_var ?_ (by simp [refsL, refsP, mem_refs_rowP]))) (fgt_nil)), ⟨?_, rfl⟩, ?_⟩
      · rw [tk]
      · funext c
        simp (maxSteps := 20000000) only [Heap.drop_at, rowH_app, Heap.put_at, Heap.none_at, List.mem_cons, List.not_mem_nil, or_false]
        by_cases e0 : c = (5, 5) :: base
        · subst e0; simp [tk]
        by_cases e1 : c = (5, 6) :: base
        · subst e1; simp [tk]
        simp [e0, e1, tk]
    · have hj : j = q.length := by omega
      subst hj
      obtain ⟨s, hs⟩ : ∃ s, q.length = s + 1 := ⟨q.length - 1, by omega⟩
      rw [List.take_of_length_le (Nat.le_refl _)]
      have dl := doneL_len q x
      rw [llN]
      rw [hs] at dl ⊢
      have e2 : (doneL q x).take (s + 1) = doneL q x := List.take_of_length_le (by rw [dl]; exact Nat.le_refl _)
      repeat (first | refine ⟨(by show drawK _ _ = true; kernel_rfl : drawX _ _ _), ?_⟩ | exact (by show drawK _ _ = true; kernel_rfl : drawX _ _ _) | simp -dsimp (maxSteps := 20000000) (disch := omega) only [simx, zzC, zzB, tys, ite_self, opnL, callB, readsB, stepOp, ofVal, opBuiltin, opLen, PV.sk, scalBin, scalUn, intBin, opLoad, natOf, opConvert, opField, cellsP, oneP, Value.oneCell', opStore, toIV, scalT, scalA, scalC, boxesA, boxesC, zipB_none, zipB_mx, isZ, opZip, zeroP, opAppendZ, opMakeMap, opLookup, mboxB, opUpdate, ↓reduceIte, Nat.reduceSub, Nat.reduceEqDiff, Nat.reduceAdd, Nat.reduceMul, Nat.reduceLT, Nat.reduceLeDiff, Int.reduceToNat, Int.reduceLE, Int.reduceLT, Int.reduceNeg, reduceCtorEq, zzR, gos, Int.reduceAdd, Int.reduceSub, Int.reduceMul, Int.reduceEq, rowP_succ, rowH_succ, dl, e2])

/-! ### shaped -/
def shapeB (r c : Int) (l : List Int) : Bool := decide (1 ≤ r) && (decide (r ≤ 64) && (decide (1 ≤ c) && (decide (c ≤ 64) && decide ((l.length : Int) = r * c))))
theorem shaped_walk (r c : Int) (l : List Int) (hl : l.length ≤ maxLen) : CallsP Try.prog 49 [matP r c l] (bl (shapeB r c l)) := by
  rw [mx_len] at hl
  unfold shapeB
  by_cases h1 : 1 ≤ r
  · by_cases h2 : r ≤ 64
    · by_cases h3 : 1 ≤ c
      · by_cases h4 : c ≤ 64
        · have m := mul_bd (a := r) (b := c) (m := 64) (n := 64) (by omega) (by omega) h2 h4
          have e : IntKind.i64.wrap (r * c) = r * c := iw_of (by omega) (by omega)
          by_cases h5 : (l.length : Int) = r * c
          · rw [decide_eq_true h1, decide_eq_true h2, decide_eq_true h3, decide_eq_true h4, decide_eq_true h5]
            refine X_startP (n := 32) (m := 1) (rs := [.tmp 2]) Try.func49 rfl rfl rfl rfl (by decide) fun base => ?_
            repeat (first | refine ⟨(by show drawK _ _ = true; kernel_rfl : drawX _ _ _), ?_⟩ | exact (by show drawK _ _ = true; kernel_rfl : drawX _ _ _) | simp -dsimp (maxSteps := 20000000) (disch := omega) only [simx, zzC, zzB, tys, ite_self, opnL, callB, readsB, stepOp, ofVal, opBuiltin, opLen, PV.sk, scalBin, scalUn, intBin, opLoad, natOf, opConvert, opField, cellsP, oneP, Value.oneCell', opStore, toIV, scalT, scalA, scalC, boxesA, boxesC, zipB_none, zipB_mx, isZ, opZip, zeroP, opAppendZ, opMakeMap, opLookup, mboxB, opUpdate, ↓reduceIte, Nat.reduceSub, Nat.reduceEqDiff, Nat.reduceAdd, Nat.reduceMul, Nat.reduceLT, Nat.reduceLeDiff, Int.reduceToNat, Int.reduceLE, Int.reduceLT, Int.reduceNeg, reduceCtorEq, zzR, gos, Int.reduceAdd, Int.reduceSub, Int.reduceMul, Int.reduceEq, h1, h2, h3, h4, h5, e])
          · rw [decide_eq_true h1, decide_eq_true h2, decide_eq_true h3, decide_eq_true h4, decide_eq_false h5]
            refine X_startP (n := 32) (m := 1) (rs := [.tmp 2]) Try.func49 rfl rfl rfl rfl (by decide) fun base => ?_
            repeat (first | refine ⟨(by show drawK _ _ = true; kernel_rfl : drawX _ _ _), ?_⟩ | exact (by show drawK _ _ = true; kernel_rfl : drawX _ _ _) | simp -dsimp (maxSteps := 20000000) (disch := omega) only [simx, zzC, zzB, tys, ite_self, opnL, callB, readsB, stepOp, ofVal, opBuiltin, opLen, PV.sk, scalBin, scalUn, intBin, opLoad, natOf, opConvert, opField, cellsP, oneP, Value.oneCell', opStore, toIV, scalT, scalA, scalC, boxesA, boxesC, zipB_none, zipB_mx, isZ, opZip, zeroP, opAppendZ, opMakeMap, opLookup, mboxB, opUpdate, ↓reduceIte, Nat.reduceSub, Nat.reduceEqDiff, Nat.reduceAdd, Nat.reduceMul, Nat.reduceLT, Nat.reduceLeDiff, Int.reduceToNat, Int.reduceLE, Int.reduceLT, Int.reduceNeg, reduceCtorEq, zzR, gos, Int.reduceAdd, Int.reduceSub, Int.reduceMul, Int.reduceEq, h1, h2, h3, h4, h5, e])
        · rw [decide_eq_true h1, decide_eq_true h2, decide_eq_true h3, decide_eq_false h4]
          refine X_startP (n := 32) (m := 1) (rs := [.tmp 2]) Try.func49 rfl rfl rfl rfl (by decide) fun base => ?_
          repeat (first | refine ⟨(by show drawK _ _ = true; kernel_rfl : drawX _ _ _), ?_⟩ | exact (by show drawK _ _ = true; kernel_rfl : drawX _ _ _) | simp -dsimp (maxSteps := 20000000) (disch := omega) only [simx, zzC, zzB, tys, ite_self, opnL, callB, readsB, stepOp, ofVal, opBuiltin, opLen, PV.sk, scalBin, scalUn, intBin, opLoad, natOf, opConvert, opField, cellsP, oneP, Value.oneCell', opStore, toIV, scalT, scalA, scalC, boxesA, boxesC, zipB_none, zipB_mx, isZ, opZip, zeroP, opAppendZ, opMakeMap, opLookup, mboxB, opUpdate, ↓reduceIte, Nat.reduceSub, Nat.reduceEqDiff, Nat.reduceAdd, Nat.reduceMul, Nat.reduceLT, Nat.reduceLeDiff, Int.reduceToNat, Int.reduceLE, Int.reduceLT, Int.reduceNeg, reduceCtorEq, zzR, gos, Int.reduceAdd, Int.reduceSub, Int.reduceMul, Int.reduceEq, h1, h2, h3, h4])
      · rw [decide_eq_true h1, decide_eq_true h2, decide_eq_false h3]
        refine X_startP (n := 32) (m := 1) (rs := [.tmp 2]) Try.func49 rfl rfl rfl rfl (by decide) fun base => ?_
        repeat (first | refine ⟨(by show drawK _ _ = true; kernel_rfl : drawX _ _ _), ?_⟩ | exact (by show drawK _ _ = true; kernel_rfl : drawX _ _ _) | simp -dsimp (maxSteps := 20000000) (disch := omega) only [simx, zzC, zzB, tys, ite_self, opnL, callB, readsB, stepOp, ofVal, opBuiltin, opLen, PV.sk, scalBin, scalUn, intBin, opLoad, natOf, opConvert, opField, cellsP, oneP, Value.oneCell', opStore, toIV, scalT, scalA, scalC, boxesA, boxesC, zipB_none, zipB_mx, isZ, opZip, zeroP, opAppendZ, opMakeMap, opLookup, mboxB, opUpdate, ↓reduceIte, Nat.reduceSub, Nat.reduceEqDiff, Nat.reduceAdd, Nat.reduceMul, Nat.reduceLT, Nat.reduceLeDiff, Int.reduceToNat, Int.reduceLE, Int.reduceLT, Int.reduceNeg, reduceCtorEq, zzR, gos, Int.reduceAdd, Int.reduceSub, Int.reduceMul, Int.reduceEq, h1, h2, h3])
    · rw [decide_eq_true h1, decide_eq_false h2]
      refine X_startP (n := 32) (m := 1) (rs := [.tmp 2]) Try.func49 rfl rfl rfl rfl (by decide) fun base => ?_
      repeat (first | refine ⟨(by show drawK _ _ = true; kernel_rfl : drawX _ _ _), ?_⟩ | exact (by show drawK _ _ = true; kernel_rfl : drawX _ _ _) | simp -dsimp (maxSteps := 20000000) (disch := omega) only [simx, zzC, zzB, tys, ite_self, opnL, callB, readsB, stepOp, ofVal, opBuiltin, opLen, PV.sk, scalBin, scalUn, intBin, opLoad, natOf, opConvert, opField, cellsP, oneP, Value.oneCell', opStore, toIV, scalT, scalA, scalC, boxesA, boxesC, zipB_none, zipB_mx, isZ, opZip, zeroP, opAppendZ, opMakeMap, opLookup, mboxB, opUpdate, ↓reduceIte, Nat.reduceSub, Nat.reduceEqDiff, Nat.reduceAdd, Nat.reduceMul, Nat.reduceLT, Nat.reduceLeDiff, Int.reduceToNat, Int.reduceLE, Int.reduceLT, Int.reduceNeg, reduceCtorEq, zzR, gos, Int.reduceAdd, Int.reduceSub, Int.reduceMul, Int.reduceEq, h1, h2])
  · rw [decide_eq_false h1]
    refine X_startP (n := 32) (m := 1) (rs := [.tmp 2]) Try.func49 rfl rfl rfl rfl (by decide) fun base => ?_
    repeat (first | refine ⟨(by show drawK _ _ = true; kernel_rfl : drawX _ _ _), ?_⟩ | exact (by show drawK _ _ = true; kernel_rfl : drawX _ _ _) | simp -dsimp (maxSteps := 20000000) (disch := omega) only [simx, zzC, zzB, tys, ite_self, opnL, callB, readsB, stepOp, ofVal, opBuiltin, opLen, PV.sk, scalBin, scalUn, intBin, opLoad, natOf, opConvert, opField, cellsP, oneP, Value.oneCell', opStore, toIV, scalT, scalA, scalC, boxesA, boxesC, zipB_none, zipB_mx, isZ, opZip, zeroP, opAppendZ, opMakeMap, opLookup, mboxB, opUpdate, ↓reduceIte, Nat.reduceSub, Nat.reduceEqDiff, Nat.reduceAdd, Nat.reduceMul, Nat.reduceLT, Nat.reduceLeDiff, Int.reduceToNat, Int.reduceLE, Int.reduceLT, Int.reduceNeg, reduceCtorEq, zzR, gos, Int.reduceAdd, Int.reduceSub, Int.reduceMul, Int.reduceEq, h1])

/-! ### Rows -/
def rowsL (p : List Int) (c : Nat) (l : List Int) : List Int := p.flatMap fun a => (l.drop (a.toNat * c)).take c
theorem done_parts {p : List Int} {R c : Nat} {l : List Int} (hm : ∀ a ∈ p, 0 ≤ a ∧ a < R) (hl : l.length = R * c) :
    doneL p ((List.range R).map (part (l.map iu) c)) = (p.map fun a => ((l.drop (a.toNat * c)).take c).map iu).map ivN := by
  unfold doneL
  rw [List.map_map]
  refine List.map_congr_left fun a ha => ?_
  obtain ⟨h0, h1⟩ := hm a ha
  obtain ⟨k, rfl⟩ := Int.eq_ofNat_of_zero_le h0
  have hk : k < R := by omega
  have hkc : k * c + c ≤ R * c := by have := Nat.mul_le_mul_right c hk; rw [Nat.succ_mul] at this; exact this
  rw [Int.toNat_natCast, List.getD_eq_getElem?_getD, List.getElem?_map, List.getElem?_range hk]
  simp only [Option.map_some, Option.getD_some, Function.comp, part, ivN, Int.toNat_natCast, List.length_map, List.length_take, List.length_drop, List.map_take, List.map_drop]
  rw [show min c (l.length - k * c) = c by omega]
theorem flat_parts (p : List Int) (c : Nat) (l : List Int) : (p.map fun a => ((l.drop (a.toNat * c)).take c).map iu).flatten = (rowsL p c l).map iu := by
  unfold rowsL
  induction p with
  | nil => rfl
  | cons a p ih => simp only [List.map_cons, List.flatten_cons, List.flatMap_cons, List.map_append, ih]
theorem rowsL_len {p : List Int} {R c : Nat} {l : List Int} (hm : ∀ a ∈ p, 0 ≤ a ∧ a < R) (hl : l.length = R * c) : (rowsL p c l).length = p.length * c := by
  unfold rowsL
  induction p with
  | nil => simp
  | cons a p ih =>
    obtain ⟨h0, h1⟩ := hm a (by simp)
    have hk : a.toNat < R := by omega
    have hkc : a.toNat * c + c ≤ R * c := by have := Nat.mul_le_mul_right c hk; rw [Nat.succ_mul] at this; exact this
    rw [List.flatMap_cons, List.length_append, ih (fun b hb => hm b (by simp [hb])), List.length_take, List.length_drop, List.length_cons, Nat.succ_mul]
    omega
abbrev mat2P (q : (Int × Int × List Int) × Int) : PV := .tup [matP q.1.1 q.1.2.1 q.1.2.2, i64 q.2]
def rowsR (p : List Int) (r c : Int) (l : List Int) : (Int × Int × List Int) × Int :=
  if orderB p && (shapeB r c l && decide ((p.length : Int) = r)) then ((r, c, rowsL p c.toNat l), 0) else ((0, 0, []), 1)
theorem shape_iff {r c : Int} {l : List Int} : shapeB r c l = true ↔ 1 ≤ r ∧ r ≤ 64 ∧ 1 ≤ c ∧ c ≤ 64 ∧ (l.length : Int) = r * c := by simp [shapeB]
theorem rows_walk (p : List Int) (r c : Int) (l : List Int) (hp : p.length ≤ maxLen) (hl : l.length ≤ maxLen) : CallsP Try.prog 21 [li p, matP r c l] (mat2P (rowsR p r c l)) := by
  have q1 := pright_walk p hp
  have q2 := shaped_walk r c l hl
  unfold rowsR
  cases h1 : orderB p with
  | false =>
    rw [h1] at q1
    refine X_startP (n := 38) (m := 2) (rs := [.cell 4 43, .tmp 5]) Try.func21 rfl rfl rfl rfl (by decide) fun base => ?_
    repeat (first | ((first | refine X_call_fn2 rfl (by simp only [tys]) ?_ | refine X_dcall_fn2 rfl (by simp only [tys]) ?_); apply Exists.intro; apply And.intro; (focus (simp -dsimp only [simx, zzC, zzB, tys, ite_self, opnL, callB, readsB, stepOp, ofVal, opBuiltin, opLen, PV.sk, scalBin, scalUn, intBin, opLoad, natOf, opConvert, opField, cellsP, oneP, Value.oneCell', opStore, toIV, scalT, scalA, scalC, boxesA, boxesC, zipB_none, zipB_mx, isZ, opZip, zeroP, opAppendZ, opMakeMap, opLookup, mboxB, opUpdate, ↓reduceIte, Nat.reduceSub, Nat.reduceEqDiff, Nat.reduceAdd, Nat.reduceMul, Nat.reduceLT, Nat.reduceLeDiff, Int.reduceToNat, Int.reduceLE, Int.reduceLT, Int.reduceNeg, reduceCtorEq, zzL, if_true, if_false] <;> rfl)); apply Exists.intro; apply And.intro; (focus (first | exact q1 | exact q2))) | refine ⟨(by show drawK _ _ = true; kernel_rfl : drawX _ _ _), ?_⟩ | exact (by show drawK _ _ = true; kernel_rfl : drawX _ _ _) | simp -dsimp (maxSteps := 20000000) (disch := omega) only [simx, zzC, zzB, tys, ite_self, opnL, callB, readsB, stepOp, ofVal, opBuiltin, opLen, PV.sk, scalBin, scalUn, intBin, opLoad, natOf, opConvert, opField, cellsP, oneP, Value.oneCell', opStore, toIV, scalT, scalA, scalC, boxesA, boxesC, zipB_none, zipB_mx, isZ, opZip, zeroP, opAppendZ, opMakeMap, opLookup, mboxB, opUpdate, ↓reduceIte, Nat.reduceSub, Nat.reduceEqDiff, Nat.reduceAdd, Nat.reduceMul, Nat.reduceLT, Nat.reduceLeDiff, Int.reduceToNat, Int.reduceLE, Int.reduceLT, Int.reduceNeg, reduceCtorEq, zzR, gos, Int.reduceAdd, Int.reduceSub, Int.reduceMul, Int.reduceEq])
    rfl
  | true =>
    rw [h1] at q1
    cases h2 : shapeB r c l with
    | false =>
      rw [h2] at q2
      refine X_startP (n := 38) (m := 2) (rs := [.cell 4 43, .tmp 5]) Try.func21 rfl rfl rfl rfl (by decide) fun base => ?_
      repeat (first | ((first | refine X_call_fn2 rfl (by simp only [tys]) ?_ | refine X_dcall_fn2 rfl (by simp only [tys]) ?_); apply Exists.intro; apply And.intro; (focus (simp -dsimp only [simx, zzC, zzB, tys, ite_self, opnL, callB, readsB, stepOp, ofVal, opBuiltin, opLen, PV.sk, scalBin, scalUn, intBin, opLoad, natOf, opConvert, opField, cellsP, oneP, Value.oneCell', opStore, toIV, scalT, scalA, scalC, boxesA, boxesC, zipB_none, zipB_mx, isZ, opZip, zeroP, opAppendZ, opMakeMap, opLookup, mboxB, opUpdate, ↓reduceIte, Nat.reduceSub, Nat.reduceEqDiff, Nat.reduceAdd, Nat.reduceMul, Nat.reduceLT, Nat.reduceLeDiff, Int.reduceToNat, Int.reduceLE, Int.reduceLT, Int.reduceNeg, reduceCtorEq, zzL, if_true, if_false] <;> rfl)); apply Exists.intro; apply And.intro; (focus (first | exact q1 | exact q2))) | refine ⟨(by show drawK _ _ = true; kernel_rfl : drawX _ _ _), ?_⟩ | exact (by show drawK _ _ = true; kernel_rfl : drawX _ _ _) | simp -dsimp (maxSteps := 20000000) (disch := omega) only [simx, zzC, zzB, tys, ite_self, opnL, callB, readsB, stepOp, ofVal, opBuiltin, opLen, PV.sk, scalBin, scalUn, intBin, opLoad, natOf, opConvert, opField, cellsP, oneP, Value.oneCell', opStore, toIV, scalT, scalA, scalC, boxesA, boxesC, zipB_none, zipB_mx, isZ, opZip, zeroP, opAppendZ, opMakeMap, opLookup, mboxB, opUpdate, ↓reduceIte, Nat.reduceSub, Nat.reduceEqDiff, Nat.reduceAdd, Nat.reduceMul, Nat.reduceLT, Nat.reduceLeDiff, Int.reduceToNat, Int.reduceLE, Int.reduceLT, Int.reduceNeg, reduceCtorEq, zzR, gos, Int.reduceAdd, Int.reduceSub, Int.reduceMul, Int.reduceEq])
      rfl
    | true =>
      rw [h2] at q2
      by_cases h3 : (p.length : Int) = r
      · rw [decide_eq_true h3]
        simp only [Bool.and_self, if_true]
        have o1 := (orderB_iff p).1 h1
        obtain ⟨b1, b2, b3, b4, b5⟩ := shape_iff.1 h2
        obtain ⟨C, rfl⟩ := Int.eq_ofNat_of_zero_le (show 0 ≤ c by omega)
        subst h3
        have hlc : l.length = p.length * C := by omega
        have hC : 1 ≤ C := by omega
        have hb : p.length * C ≤ 64 * 64 := Nat.mul_le_mul (by omega) (by omega)
        have d1 := chunkU_walk l.length (l.map iu) C hC
        have d2 := collectU_walk p.length C (l.map iu) (by rw [List.length_map]; exact hlc) hC (by omega)
        rw [← hlc] at d2
        have dp := done_parts (c := C) o1.mem hlc
        have d3 := done_l_walk p ((List.range p.length).map (part (l.map iu) C)) o1.pos o1.le (fun a ha => by rw [List.length_map, List.length_range]; exact o1.mem a ha) (fun i y hy => by
          rw [List.getElem?_map] at hy
          cases hi : (List.range p.length)[i]? with
          | none => rw [hi] at hy; cases hy
          | some k => rw [hi] at hy; cases hy; exact ⟨_, _, rfl⟩)
        have rl := rowsL_len (c := C) o1.mem hlc
        have d4 := concatU_walk (p.map fun a => ((l.drop (a.toNat * C)).take C).map iu) (by rw [List.length_map]; have := o1.le; omega) (by rw [flat_parts, List.length_map, rl]; omega)
        rw [llL, ← dp, List.length_map, flat_parts] at d4
        simp only [ivN, List.length_map] at d4
        have d5 : CallsP Try.prog 52 [llN (doneL p ((List.range p.length).map (part (l.map iu) C)))] (lu (rowsL p C l)) := by rw [llN, doneL_len]; exact d4
        clear d4
        rw [Int.toNat_natCast]
        generalize rowsL p C l = Z at rl d5
        generalize doneL p ((List.range p.length).map (part (l.map iu) C)) = Y at d3 d5
        generalize (List.range p.length).map (part (l.map iu) C) = X at d2 d3
        refine X_startP (n := 38) (m := 2) (rs := [.cell 4 43, .tmp 5]) Try.func21 rfl rfl rfl rfl (by decide) fun base => ?_
        repeat (first | ((first | refine X_call_fn2 rfl (by simp only [tys]) ?_ | refine X_dcall_fn2 rfl (by simp only [tys]) ?_); apply Exists.intro; apply And.intro; (focus (simp -dsimp only [simx, zzC, zzB, tys, ite_self, opnL, callB, readsB, stepOp, ofVal, opBuiltin, opLen, PV.sk, scalBin, scalUn, intBin, opLoad, natOf, opConvert, opField, cellsP, oneP, Value.oneCell', opStore, toIV, scalT, scalA, scalC, boxesA, boxesC, zipB_none, zipB_mx, isZ, opZip, zeroP, opAppendZ, opMakeMap, opLookup, mboxB, opUpdate, ↓reduceIte, Nat.reduceSub, Nat.reduceEqDiff, Nat.reduceAdd, Nat.reduceMul, Nat.reduceLT, Nat.reduceLeDiff, Int.reduceToNat, Int.reduceLE, Int.reduceLT, Int.reduceNeg, reduceCtorEq, zzL, if_true, if_false] <;> rfl)); apply Exists.intro; apply And.intro; (focus (first | exact q1 | exact q2 | exact d1 | exact d2 | exact d3 | exact d5))) | refine ⟨(by show drawK _ _ = true; kernel_rfl : drawX _ _ _), ?_⟩ | exact (by show drawK _ _ = true; kernel_rfl : drawX _ _ _) | simp -dsimp (maxSteps := 20000000) (disch := omega) only [simx, zzC, zzB, tys, ite_self, opnL, callB, readsB, stepOp, ofVal, opBuiltin, opLen, PV.sk, scalBin, scalUn, intBin, opLoad, natOf, opConvert, opField, cellsP, oneP, Value.oneCell', opStore, toIV, scalT, scalA, scalC, boxesA, boxesC, zipB_none, zipB_mx, isZ, opZip, zeroP, opAppendZ, opMakeMap, opLookup, mboxB, opUpdate, ↓reduceIte, Nat.reduceSub, Nat.reduceEqDiff, Nat.reduceAdd, Nat.reduceMul, Nat.reduceLT, Nat.reduceLeDiff, Int.reduceToNat, Int.reduceLE, Int.reduceLT, Int.reduceNeg, reduceCtorEq, zzR, gos, Int.reduceAdd, Int.reduceSub, Int.reduceMul, Int.reduceEq])
      · rw [decide_eq_false h3]
        simp only [Bool.and_false, Bool.false_eq_true, if_false]
        refine X_startP (n := 38) (m := 2) (rs := [.cell 4 43, .tmp 5]) Try.func21 rfl rfl rfl rfl (by decide) fun base => ?_
        repeat (first | ((first | refine X_call_fn2 rfl (by simp only [tys]) ?_ | refine X_dcall_fn2 rfl (by simp only [tys]) ?_); apply Exists.intro; apply And.intro; (focus (simp -dsimp only [simx, zzC, zzB, tys, ite_self, opnL, callB, readsB, stepOp, ofVal, opBuiltin, opLen, PV.sk, scalBin, scalUn, intBin, opLoad, natOf, opConvert, opField, cellsP, oneP, Value.oneCell', opStore, toIV, scalT, scalA, scalC, boxesA, boxesC, zipB_none, zipB_mx, isZ, opZip, zeroP, opAppendZ, opMakeMap, opLookup, mboxB, opUpdate, ↓reduceIte, Nat.reduceSub, Nat.reduceEqDiff, Nat.reduceAdd, Nat.reduceMul, Nat.reduceLT, Nat.reduceLeDiff, Int.reduceToNat, Int.reduceLE, Int.reduceLT, Int.reduceNeg, reduceCtorEq, zzL, if_true, if_false] <;> rfl)); apply Exists.intro; apply And.intro; (focus (first | exact q1 | exact q2))) | refine ⟨(by show drawK _ _ = true; kernel_rfl : drawX _ _ _), ?_⟩ | exact (by show drawK _ _ = true; kernel_rfl : drawX _ _ _) | simp -dsimp (maxSteps := 20000000) (disch := omega) only [simx, zzC, zzB, tys, ite_self, opnL, callB, readsB, stepOp, ofVal, opBuiltin, opLen, PV.sk, scalBin, scalUn, intBin, opLoad, natOf, opConvert, opField, cellsP, oneP, Value.oneCell', opStore, toIV, scalT, scalA, scalC, boxesA, boxesC, zipB_none, zipB_mx, isZ, opZip, zeroP, opAppendZ, opMakeMap, opLookup, mboxB, opUpdate, ↓reduceIte, Nat.reduceSub, Nat.reduceEqDiff, Nat.reduceAdd, Nat.reduceMul, Nat.reduceLT, Nat.reduceLeDiff, Int.reduceToNat, Int.reduceLE, Int.reduceLT, Int.reduceNeg, reduceCtorEq, zzR, gos, Int.reduceAdd, Int.reduceSub, Int.reduceMul, Int.reduceEq, h3])
        rfl
end Go.Proofs.Ytkhjfphenflefaa.TM
