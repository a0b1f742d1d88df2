/- Layer 6's reference: rings. -/
import Derived.Test.YtkhjfphenflefaaWPermL
namespace Go.Proofs.Ytkhjfphenflefaa.TM
open Go Go.RowKit
set_option linter.unusedVariables false
set_option linter.defProp false
set_option linter.unusedSimpArgs false
attribute [local irreducible] K W WOps Effs Xg Xo Xr Xdg Xdo Xdr Xif CallsP CallR

theorem itn_add (l : List Int) (a : Int) (i : Nat) : ∀ k, itn l a (i + k) = itn l (itn l a i) k
  | 0 => rfl
  | k + 1 => by rw [← Nat.add_assoc, itn, itn_add l a i k, itn]
theorem itn_per {l : List Int} {a : Int} {m : Nat} (h : itn l a m = a) (r : Nat) : ∀ q, itn l a (m * q + r) = itn l a r
  | 0 => by rw [Nat.mul_zero, Nat.zero_add]
  | q + 1 => by rw [show m * (q + 1) + r = m + (m * q + r) by rw [Nat.mul_succ]; omega, itn_add, h, itn_per h r q]
/-- Are the next k all more? -/
def lstP (l : List Int) (n : Int) : Nat → Bool
  | 0 => true
  | k + 1 => lstP l n k && decide (n < itn l n (k + 1))
theorem lstP_iff (l : List Int) (n : Int) : ∀ k, lstP l n k = true ↔ ∀ t, 1 ≤ t → t ≤ k → n < itn l n t
  | 0 => by simp [lstP]; omega
  | k + 1 => by
    rw [lstP, Bool.and_eq_true, lstP_iff l n k, decide_eq_true_eq]
    constructor
    · rintro ⟨h1, h2⟩ t ht htk
      by_cases e : t = k + 1
      · rw [e]; exact h2
      · exact h1 t ht (by omega)
    · exact fun h => ⟨fun t h1 h2 => h t h1 (by omega), h (k + 1) (by omega) (by omega)⟩
def mN (l : List Int) (n : Int) : Nat := ringN l [] n
def refRg (l : List Int) : Nat → List (List Int)
  | 0 => []
  | j + 1 => if lstP l j (mN l j - 1) then refRg l j ++ [orb l j (mN l j)] else refRg l j
theorem mN_spec {l : List Int} (o : Ord l) {j : Nat} (hj : j < l.length) : 0 < mN l j ∧ itn l j (mN l j) = j ∧ (∀ i, i < mN l j → itn l j i ∉ orb l j i) ∧ mN l j ≤ l.length := by
  obtain ⟨n1, n2, n3⟩ := ringN_spec o [] (a := (j : Int)) (by omega) (by omega)
  have cl : Cl l [] := fun a _ _ => by simp
  obtain ⟨h1, h2⟩ := ring_back o cl (by omega) (by omega) (by simp) n1 n2
  exact ⟨h1, h2, fun i hi => by simpa using n2 i hi, n3⟩
theorem orb_zero_mem (l : List Int) (j : Int) {k : Nat} (hk : 0 < k) : j ∈ orb l j k := orb_mem.2 ⟨0, hk, rfl⟩
theorem rgs_from {l : List Int} : ∀ (j : Nat), ∀ a ∈ (rgs l j).2, ∃ i : Nat, i < j ∧ ∃ k, itn l i k = a
  | 0, a, ha => by simp [rgs] at ha
  | j + 1, a, ha => by
    rw [rgs] at ha
    split at ha
    · obtain ⟨i, hi, h⟩ := rgs_from j a ha
      exact ⟨i, by omega, h⟩
    · simp only at ha
      rcases List.mem_append.1 ha with h | h
      · obtain ⟨i, hi, h⟩ := rgs_from j a h
        exact ⟨i, by omega, h⟩
      · obtain ⟨k, _, e⟩ := orb_mem.1 h
        exact ⟨j, by omega, k, e⟩
theorem refRg_eq {l : List Int} (o : Ord l) : ∀ j, j ≤ l.length → refRg l j = (rgs l j).1
  | 0, _ => rfl
  | j + 1, hj => by
    have ih := refRg_eq o j (by omega)
    obtain ⟨cl, hlow, _⟩ := rgs_sgn o j (by omega)
    have hfrom := rgs_from (l := l) j
    obtain ⟨m0, m1, m2, m3⟩ := mN_spec o (j := j) (by omega)
    rw [refRg, rgs, ih]
    by_cases c : (j : Int) ∈ (rgs l j).2
    · rw [if_pos c, if_neg]
      intro hl
      rw [lstP_iff] at hl
      obtain ⟨i, hi, k, e⟩ := hfrom _ c
      obtain ⟨i0, i1, _, _⟩ := mN_spec o (j := i) (by omega)
      -- from j on to i
      have hk : k ≤ mN l i * k := by have := Nat.mul_le_mul_right k i0; rw [Nat.succ_mul, Nat.zero_mul, Nat.zero_add] at this; exact this
      have e2 : itn l j (mN l i * k - k) = i := by
        rw [← e, ← itn_add, show k + (mN l i * k - k) = mN l i * k + 0 by omega, itn_per i1 0 k]; rfl
      generalize mN l i * k - k = D at e2
      have e3 : itn l j (D % mN l j) = i := by
        have := itn_per m1 (D % mN l j) (D / mN l j)
        rw [Nat.div_add_mod] at this
        rw [← this]; exact e2
      have e4 := Nat.mod_lt D m0
      generalize D % mN l j = t at e3 e4
      by_cases t0 : t = 0
      · subst t0
        have : (j : Int) = i := e3
        omega
      · have := hl t (by omega) (by omega)
        rw [e3] at this
        omega
    · obtain ⟨n1, n2, n3⟩ := ringN_spec o (rgs l j).2 (a := (j : Int)) (by omega) (by omega)
      obtain ⟨b1, b2⟩ := ring_back o cl (by omega) (by omega) c n1 n2
      generalize ringN l (rgs l j).2 j = m at n1 n2 n3 b1 b2
      have em : m = mN l j := by
        rcases Nat.lt_trichotomy m (mN l j) with h | h | h
        · exact absurd (by rw [b2]; exact orb_zero_mem l j b1) (m2 m h)
        · exact h
        · exact absurd (List.mem_append.2 (.inr (by rw [m1]; exact orb_zero_mem l j m0))) (n2 _ h)
      rw [if_neg c, em, if_pos]
      rw [lstP_iff]
      intro t h1 h2
      have h3 := n2 t (by omega)
      have h4 := itn_in o (a := (j : Int)) (by omega) (by omega) t
      have h5 : itn l j t ∉ (rgs l j).2 := fun h => h3 (List.mem_append.2 (.inl h))
      have h6 : itn l j t ≠ j := fun h => h3 (List.mem_append.2 (.inr (by rw [h]; exact orb_zero_mem l j h1)))
      apply Classical.byContradiction
      intro h7
      have := hlow (itn l j t).toNat (by omega)
      rw [Int.toNat_of_nonneg h4.1] at this
      exact h5 this
set_option maxHeartbeats 2000000 in
theorem rrings_walk (l : List Int) (o : Ord l) : CallsP Try.prog 25 [li l] (lli (ringsI l)) := by
  have o1 := o.le
  have o2 := o.pos
  unfold ringsI
  rw [← refRg_eq o l.length (Nat.le_refl _)]
  refine X_startP (n := 43) (m := 1) (rs := [.tmp 2]) Try.func25 rfl rfl rfl rfl (by decide) fun base => ?_
  repeat (first | refine ⟨(by show drawK _ _ = true; kernel_rfl : drawX _ _ _), ?_⟩ | exact (by show drawK _ _ = true; kernel_rfl : drawX _ _ _) | simp -dsimp (maxSteps := 20000000) (disch := omega) only [simx, zzC, zzB, tys, ite_self, opnL, callB, readsB, stepOp, ofVal, opBuiltin, opLen, PV.sk, scalBin, scalUn, intBin, opLoad, natOf, opConvert, opField, cellsP, oneP, Value.oneCell', opStore, toIV, scalT, scalA, scalC, boxesA, boxesC, zipB_none, zipB_mx, isZ, opZip, zeroP, opAppendZ, opMakeMap, opLookup, mboxB, opUpdate, ↓reduceIte, Nat.reduceSub, Nat.reduceEqDiff, Nat.reduceAdd, Nat.reduceMul, Nat.reduceLT, Nat.reduceLeDiff, Int.reduceToNat, Int.reduceLE, Int.reduceLT, Int.reduceNeg, reduceCtorEq, gos, Int.reduceAdd, Int.reduceSub, Int.reduceMul, Int.reduceEq])
  refine X_loopH [0, 3, 4] [(5, 1) :: base, (10, 2) :: base, (13, 2) :: base] (0) (l.length) (fun j => True) (fun j => [(3, rowP ((13, 3) :: base) 1 (refRg l j).length ((refRg l j).map ivl)), (4, i64 j)]) (fun j => rowH Heap.none ((13, 3) :: base) (refRg l j).length ((refRg l j).map ivl)) ?_ ?_ ?_ ?_ ?_ (by decide) ?_
  · exact (fgt_cons (by simp only [Heap.none_at]) (by (simp -dsimp only [zzB, tys, ite_self, opnL, callB, readsB, stepOp, ofVal, opBuiltin, opLen, PV.sk, scalBin, scalUn, intBin, opLoad, natOf, opConvert, opField, cellsP, oneP, Value.oneCell', opStore, toIV, scalT, scalA, scalC, boxesA, boxesC, zipB_none, zipB_mx, isZ, opZip, zeroP, opAppendZ, opMakeMap, opLookup, mboxB, opUpdate, ↓reduceIte, Nat.reduceSub, Nat.reduceEqDiff, Nat.reduceAdd, Nat.reduceMul, Nat.reduceLT, Nat.reduceLeDiff, Int.reduceToNat, Int.reduceLE, Int.reduceLT, Int.reduceNeg, reduceCtorEq, notIn_cons, notIn_nil]) <;> simp [refsL, refsP, mem_refs_rowP]) (by repeat (first | exact noVar_none _ | refine noVar_row ?_ | refine noVar_map ?_ | refine noVar_rowH ?_ | refine noVar_var ?_ (by simp [refsL, refsP, mem_refs_rowP]))) (fgt_cons (by simp only [Heap.none_at]) (by (simp -dsimp only [zzB, tys, ite_self, opnL, callB, readsB, stepOp, ofVal, opBuiltin, opLen, PV.sk, scalBin, scalUn, intBin, opLoad, natOf, opConvert, opField, cellsP, oneP, Value.oneCell', opStore, toIV, scalT, scalA, scalC, boxesA, boxesC, zipB_none, zipB_mx, isZ, opZip, zeroP, opAppendZ, opMakeMap, opLookup, mboxB, opUpdate, ↓reduceIte, Nat.reduceSub, Nat.reduceEqDiff, Nat.reduceAdd, Nat.reduceMul, Nat.reduceLT, Nat.reduceLeDiff, Int.reduceToNat, Int.reduceLE, Int.reduceLT, Int.reduceNeg, reduceCtorEq, notIn_cons, notIn_nil]) <;> simp [refsL, refsP, mem_refs_rowP]) (by repeat (first | exact noVar_none _ | refine noVar_row ?_ | refine noVar_map ?_ | refine noVar_rowH ?_ | refine noVar_var ?_ (by simp [refsL, refsP, mem_refs_rowP]))) (fgt_cons (by simp only [Heap.none_at]) (by (simp -dsimp only [zzB, tys, ite_self, opnL, callB, readsB, stepOp, ofVal, opBuiltin, opLen, PV.sk, scalBin, scalUn, intBin, opLoad, natOf, opConvert, opField, cellsP, oneP, Value.oneCell', opStore, toIV, scalT, scalA, scalC, boxesA, boxesC, zipB_none, zipB_mx, isZ, opZip, zeroP, opAppendZ, opMakeMap, opLookup, mboxB, opUpdate, ↓reduceIte, Nat.reduceSub, Nat.reduceEqDiff, Nat.reduceAdd, Nat.reduceMul, Nat.reduceLT, Nat.reduceLeDiff, Int.reduceToNat, Int.reduceLE, Int.reduceLT, Int.reduceNeg, reduceCtorEq, notIn_cons, notIn_nil]) <;> simp [refsL, refsP, mem_refs_rowP]) (by repeat (first | exact noVar_none _ | refine noVar_row ?_ | refine noVar_map ?_ | refine noVar_rowH ?_ | refine noVar_var ?_ (by simp [refsL, refsP, mem_refs_rowP]))) (fgt_nil))))
  · ((simp -dsimp (disch := omega) only [simx, zzB, tys, ite_self, opnL, callB, readsB, stepOp, ofVal, opBuiltin, opLen, PV.sk, scalBin, scalUn, intBin, opLoad, natOf, opConvert, opField, cellsP, oneP, Value.oneCell', opStore, toIV, scalT, scalA, scalC, boxesA, boxesC, zipB_none, zipB_mx, isZ, opZip, zeroP, opAppendZ, opMakeMap, opLookup, mboxB, opUpdate, ↓reduceIte, Nat.reduceSub, Nat.reduceEqDiff, Nat.reduceAdd, Nat.reduceMul, Nat.reduceLT, Nat.reduceLeDiff, Int.reduceToNat, Int.reduceLE, Int.reduceLT, Int.reduceNeg, reduceCtorEq, gos, Int.reduceAdd, Int.reduceSub, Int.reduceMul, Int.reduceEq]) <;> first | rfl | simp [rowP, refRg])
  · funext c
    simp (maxSteps := 20000000) only [Heap.drop_at, rowH_app, Heap.put_at, Heap.none_at, List.mem_cons, List.not_mem_nil, or_false]
    by_cases e0 : c = (5, 1) :: base
    · subst e0; simp [refRg]
    by_cases e1 : c = (10, 2) :: base
    · subst e1; simp [refRg]
    by_cases e2 : c = (13, 2) :: base
    · subst e2; simp [refRg]
    simp [e0, e1, e2, refRg]
  · omega
  · trivial
  · intro J hJ _
    have gl : (refRg l J).length ≤ J := by rw [refRg_eq o J hJ]; exact rgs_len l J
    by_cases cj : J < l.length
    · have g1 : l[J]? = some (itn l J 1) := by
        rw [itn, itn, Int.toNat_natCast, List.getD_eq_getElem?_getD, List.getElem?_eq_getElem cj]; rfl
      obtain ⟨m0, m1, m2, m3⟩ := mN_spec o cj
      have rs : refRg l (J + 1) = if lstP l J (mN l J - 1) then refRg l J ++ [orb l J (mN l J)] else refRg l J := rfl
      have it := itn_in o (a := (J : Int)) (by omega) (by omega)
      generalize refRg l J = out at gl rs
      generalize hq' : refRg l (J + 1) = out' at rs
      generalize mN l J = m at m0 m1 m2 m3 rs
      obtain ⟨q, rfl⟩ : ∃ q, m = q + 1 := ⟨m - 1, by omega⟩
      rw [Nat.add_sub_cancel] at rs
      have o1e : orb l J 1 = [(J : Int)] := rfl
      repeat (first | refine ⟨(by show drawK _ _ = true; kernel_rfl : drawX _ _ _), ?_⟩ | exact (by show drawK _ _ = true; kernel_rfl : drawX _ _ _) | simp -dsimp (maxSteps := 20000000) (disch := omega) only [simx, zzC, zzB, tys, ite_self, opnL, callB, readsB, stepOp, ofVal, opBuiltin, opLen, PV.sk, scalBin, scalUn, intBin, opLoad, natOf, opConvert, opField, cellsP, oneP, Value.oneCell', opStore, toIV, scalT, scalA, scalC, boxesA, boxesC, zipB_none, zipB_mx, isZ, opZip, zeroP, opAppendZ, opMakeMap, opLookup, mboxB, opUpdate, ↓reduceIte, Nat.reduceSub, Nat.reduceEqDiff, Nat.reduceAdd, Nat.reduceMul, Nat.reduceLT, Nat.reduceLeDiff, Int.reduceToNat, Int.reduceLE, Int.reduceLT, Int.reduceNeg, reduceCtorEq, gos, Int.reduceAdd, Int.reduceSub, Int.reduceMul, Int.reduceEq, cj, g1])
      refine X_loopH [0, 3, 4, 5, 6, 7] [(10, 2) :: base] (0) (q) (fun j => True) (fun j => [(5, .view ((5, 1) :: base) 0 1 (j + 1) (j + 1)), (6, bl (lstP l J j)), (7, i64 (itn l J (j + 1)))]) (fun j => rowH (Heap.none.put ((5, 1) :: base) (.row false ((orb l J (j + 1)).map ii))) ((13, 3) :: base) out.length (out.map ivl)) ?_ ?_ ?_ ?_ ?_ (by decide) ?_
      · exact (fgt_cons (by simp only [Heap.none_at]) (by (simp -dsimp only [zzB, tys, ite_self, opnL, callB, readsB, stepOp, ofVal, opBuiltin, opLen, PV.sk, scalBin, scalUn, intBin, opLoad, natOf, opConvert, opField, cellsP, oneP, Value.oneCell', opStore, toIV, scalT, scalA, scalC, boxesA, boxesC, zipB_none, zipB_mx, isZ, opZip, zeroP, opAppendZ, opMakeMap, opLookup, mboxB, opUpdate, ↓reduceIte, Nat.reduceSub, Nat.reduceEqDiff, Nat.reduceAdd, Nat.reduceMul, Nat.reduceLT, Nat.reduceLeDiff, Int.reduceToNat, Int.reduceLE, Int.reduceLT, Int.reduceNeg, reduceCtorEq, notIn_cons, notIn_nil]) <;> simp [refsL, refsP, mem_refs_rowP]) (by repeat (first | exact noVar_none _ | refine noVar_row ?_ | refine noVar_map ?_ | refine noVar_rowH ?_ | refine noVar_var ?_ (by simp [refsL, refsP, mem_refs_rowP]))) (fgt_nil))
      · ((simp -dsimp (disch := omega) only [simx, zzB, tys, ite_self, opnL, callB, readsB, stepOp, ofVal, opBuiltin, opLen, PV.sk, scalBin, scalUn, intBin, opLoad, natOf, opConvert, opField, cellsP, oneP, Value.oneCell', opStore, toIV, scalT, scalA, scalC, boxesA, boxesC, zipB_none, zipB_mx, isZ, opZip, zeroP, opAppendZ, opMakeMap, opLookup, mboxB, opUpdate, ↓reduceIte, Nat.reduceSub, Nat.reduceEqDiff, Nat.reduceAdd, Nat.reduceMul, Nat.reduceLT, Nat.reduceLeDiff, Int.reduceToNat, Int.reduceLE, Int.reduceLT, Int.reduceNeg, reduceCtorEq, gos, Int.reduceAdd, Int.reduceSub, Int.reduceMul, Int.reduceEq]) <;> first | rfl | simp [lstP, Nat.zero_add])
      · funext c
        simp (maxSteps := 20000000) only [Heap.drop_at, rowH_app, Heap.put_at, Heap.none_at, List.mem_cons, List.not_mem_nil, or_false]
        by_cases e0 : c = (5, 1) :: base
        · subst e0; simp [Nat.zero_add, o1e, List.map_cons, List.map_nil]
        by_cases e1 : c = (10, 2) :: base
        · subst e1; simp [Nat.zero_add, o1e, List.map_cons, List.map_nil]
        by_cases e2 : c = (13, 3) :: base
        · subst e2; simp [Nat.zero_add, o1e, List.map_cons, List.map_nil]
        simp [e0, e1, e2, Nat.zero_add, o1e, List.map_cons, List.map_nil]
      · omega
      · trivial
      · intro k hk _
        have ol := orb_len l J (k + 1)
        by_cases ck : k < q
        · have nk := m2 (k + 1) (by omega)
          have hne : ¬ itn l J (k + 1) = (J : Int) := fun h => nk (by rw [h]; exact orb_zero_mem l J (by omega))
          have os := orb_succ l J (k + 1)
          have ls : lstP l J (k + 1) = (lstP l J k && decide ((J : Int) < itn l J (k + 1))) := rfl
          obtain ⟨a0, a1⟩ := it (k + 1)
          have a2 : (itn l J (k + 1)).toNat < l.length := by omega
          have g2 : l[(itn l J (k + 1)).toNat]? = some (itn l J (k + 1 + 1)) := by
            rw [itn.eq_2 (k := k + 1), List.getD_eq_getElem?_getD, List.getElem?_eq_getElem a2]; rfl
          generalize itn l J (k + 1) = a at nk hne os ls a0 a1 a2 g2 ⊢
          have ol' : ((orb l J (k + 1)).map ii).length = k + 1 := by rw [List.length_map, ol]
          have os' : (orb l J (k + 1 + 1)).map ii = (orb l J (k + 1)).map ii ++ [ii a] := by rw [os, List.map_append]; rfl
          generalize (orb l J (k + 1)).map ii = Z at ol' os' ⊢
          repeat (first | refine ⟨(by show drawK _ _ = true; kernel_rfl : drawX _ _ _), ?_⟩ | exact (by show drawK _ _ = true; kernel_rfl : drawX _ _ _) | simp -dsimp (maxSteps := 20000000) (disch := omega) only [simx, zzC, zzB, tys, ite_self, opnL, callB, readsB, stepOp, ofVal, opBuiltin, opLen, PV.sk, scalBin, scalUn, intBin, opLoad, natOf, opConvert, opField, cellsP, oneP, Value.oneCell', opStore, toIV, scalT, scalA, scalC, boxesA, boxesC, zipB_none, zipB_mx, isZ, opZip, zeroP, opAppendZ, opMakeMap, opLookup, mboxB, opUpdate, ↓reduceIte, Nat.reduceSub, Nat.reduceEqDiff, Nat.reduceAdd, Nat.reduceMul, Nat.reduceLT, Nat.reduceLeDiff, Int.reduceToNat, Int.reduceLE, Int.reduceLT, Int.reduceNeg, reduceCtorEq, gos, Int.reduceAdd, Int.reduceSub, Int.reduceMul, Int.reduceEq, hne])
          refine X_append_own (cs := Z) (n := k + 1) 3 [.int .i64 0] [ii a] (by simp only [tys]) (by simp only [tys]) rfl (by decide) (by simp [Heap.put_at, rowH_app]) ol'.symm (by rw [ol', Nat.mul_one]) (by simp [Heap.put_at]; rfl) rfl (by simp only [tys]; omega) (by rw [mx_len]; omega) ?_
          have zl : (Z ++ [ii a]).length = k + 1 + 1 := by rw [List.length_append, ol']; rfl
          rw [zl]
          cases hb : lstP l J k with
          | false =>
            rw [hb, Bool.false_and] at ls
            repeat (first | refine ⟨(by show drawK _ _ = true; kernel_rfl : drawX _ _ _), ?_⟩ | exact (by show drawK _ _ = true; kernel_rfl : drawX _ _ _) | simp -dsimp (maxSteps := 20000000) (disch := omega) only [simx, zzC, zzB, tys, ite_self, opnL, callB, readsB, stepOp, ofVal, opBuiltin, opLen, PV.sk, scalBin, scalUn, intBin, opLoad, natOf, opConvert, opField, cellsP, oneP, Value.oneCell', opStore, toIV, scalT, scalA, scalC, boxesA, boxesC, zipB_none, zipB_mx, isZ, opZip, zeroP, opAppendZ, opMakeMap, opLookup, mboxB, opUpdate, ↓reduceIte, Nat.reduceSub, Nat.reduceEqDiff, Nat.reduceAdd, Nat.reduceMul, Nat.reduceLT, Nat.reduceLeDiff, Int.reduceToNat, Int.reduceLE, Int.reduceLT, Int.reduceNeg, reduceCtorEq, gos, Int.reduceAdd, Int.reduceSub, Int.reduceMul, Int.reduceEq, a0, a2, g2])
            refine ⟨ck, (fgt_cons (by simp only [Heap.none_at]) (by (simp -dsimp only [zzB, tys, ite_self, opnL, callB, readsB, stepOp, ofVal, opBuiltin, opLen, PV.sk, scalBin, scalUn, intBin, opLoad, natOf, opConvert, opField, cellsP, oneP, Value.oneCell', opStore, toIV, scalT, scalA, scalC, boxesA, boxesC, zipB_none, zipB_mx, isZ, opZip, zeroP, opAppendZ, opMakeMap, opLookup, mboxB, opUpdate, ↓reduceIte, Nat.reduceSub, Nat.reduceEqDiff, Nat.reduceAdd, Nat.reduceMul, Nat.reduceLT, Nat.reduceLeDiff, Int.reduceToNat, Int.reduceLE, Int.reduceLT, Int.reduceNeg, reduceCtorEq, notIn_cons, notIn_nil]) <;> simp [refsL, refsP, mem_refs_rowP]) (by repeat (first | exact noVar_none _ | refine noVar_row ?_ | refine noVar_map ?_ | refine noVar_rowH ?_ | refine noVar_var ?_ (by simp [refsL, refsP, mem_refs_rowP]))) (fgt_nil)), ?_, ?_⟩
            · rw [ls]; try simp
            · rw [os']
              funext c
              simp (maxSteps := 20000000) only [Heap.drop_at, rowH_app, Heap.put_at, Heap.none_at, List.mem_cons, List.not_mem_nil, or_false]
              by_cases e0 : c = (5, 1) :: base
              · subst e0; simp []
              by_cases e1 : c = (10, 2) :: base
              · subst e1; simp []
              by_cases e2 : c = (13, 3) :: base
              · subst e2; simp []
              simp [e0, e1, e2]
          | true =>
            rw [hb, Bool.true_and] at ls
            by_cases cl : (J : Int) < a
            · rw [decide_eq_true cl] at ls
              repeat (first | refine ⟨(by show drawK _ _ = true; kernel_rfl : drawX _ _ _), ?_⟩ | exact (by show drawK _ _ = true; kernel_rfl : drawX _ _ _) | simp -dsimp (maxSteps := 20000000) (disch := omega) only [simx, zzC, zzB, tys, ite_self, opnL, callB, readsB, stepOp, ofVal, opBuiltin, opLen, PV.sk, scalBin, scalUn, intBin, opLoad, natOf, opConvert, opField, cellsP, oneP, Value.oneCell', opStore, toIV, scalT, scalA, scalC, boxesA, boxesC, zipB_none, zipB_mx, isZ, opZip, zeroP, opAppendZ, opMakeMap, opLookup, mboxB, opUpdate, ↓reduceIte, Nat.reduceSub, Nat.reduceEqDiff, Nat.reduceAdd, Nat.reduceMul, Nat.reduceLT, Nat.reduceLeDiff, Int.reduceToNat, Int.reduceLE, Int.reduceLT, Int.reduceNeg, reduceCtorEq, gos, Int.reduceAdd, Int.reduceSub, Int.reduceMul, Int.reduceEq, a0, a2, g2, cl])
              refine ⟨ck, (fgt_cons (by simp only [Heap.none_at]) (by (simp -dsimp only [zzB, tys, ite_self, opnL, callB, readsB, stepOp, ofVal, opBuiltin, opLen, PV.sk, scalBin, scalUn, intBin, opLoad, natOf, opConvert, opField, cellsP, oneP, Value.oneCell', opStore, toIV, scalT, scalA, scalC, boxesA, boxesC, zipB_none, zipB_mx, isZ, opZip, zeroP, opAppendZ, opMakeMap, opLookup, mboxB, opUpdate, ↓reduceIte, Nat.reduceSub, Nat.reduceEqDiff, Nat.reduceAdd, Nat.reduceMul, Nat.reduceLT, Nat.reduceLeDiff, Int.reduceToNat, Int.reduceLE, Int.reduceLT, Int.reduceNeg, reduceCtorEq, notIn_cons, notIn_nil]) <;> simp [refsL, refsP, mem_refs_rowP]) (by repeat (first | exact noVar_none _ | refine noVar_row ?_ | refine noVar_map ?_ | refine noVar_rowH ?_ | refine noVar_var ?_ (by simp [refsL, refsP, mem_refs_rowP]))) (fgt_nil)), ?_, ?_⟩
              · rw [ls]; try simp
              · rw [os']
                funext c
                simp (maxSteps := 20000000) only [Heap.drop_at, rowH_app, Heap.put_at, Heap.none_at, List.mem_cons, List.not_mem_nil, or_false]
                by_cases e0 : c = (5, 1) :: base
                · subst e0; simp []
                by_cases e1 : c = (10, 2) :: base
                · subst e1; simp []
                by_cases e2 : c = (13, 3) :: base
                · subst e2; simp []
                simp [e0, e1, e2]
            · rw [decide_eq_false cl] at ls
              repeat (first | refine ⟨(by show drawK _ _ = true; kernel_rfl : drawX _ _ _), ?_⟩ | exact (by show drawK _ _ = true; kernel_rfl : drawX _ _ _) | simp -dsimp (maxSteps := 20000000) (disch := omega) only [simx, zzC, zzB, tys, ite_self, opnL, callB, readsB, stepOp, ofVal, opBuiltin, opLen, PV.sk, scalBin, scalUn, intBin, opLoad, natOf, opConvert, opField, cellsP, oneP, Value.oneCell', opStore, toIV, scalT, scalA, scalC, boxesA, boxesC, zipB_none, zipB_mx, isZ, opZip, zeroP, opAppendZ, opMakeMap, opLookup, mboxB, opUpdate, ↓reduceIte, Nat.reduceSub, Nat.reduceEqDiff, Nat.reduceAdd, Nat.reduceMul, Nat.reduceLT, Nat.reduceLeDiff, Int.reduceToNat, Int.reduceLE, Int.reduceLT, Int.reduceNeg, reduceCtorEq, gos, Int.reduceAdd, Int.reduceSub, Int.reduceMul, Int.reduceEq, a0, a2, g2, cl])
              refine ⟨ck, (fgt_cons (by simp only [Heap.none_at]) (by (simp -dsimp only [zzB, tys, ite_self, opnL, callB, readsB, stepOp, ofVal, opBuiltin, opLen, PV.sk, scalBin, scalUn, intBin, opLoad, natOf, opConvert, opField, cellsP, oneP, Value.oneCell', opStore, toIV, scalT, scalA, scalC, boxesA, boxesC, zipB_none, zipB_mx, isZ, opZip, zeroP, opAppendZ, opMakeMap, opLookup, mboxB, opUpdate, ↓reduceIte, Nat.reduceSub, Nat.reduceEqDiff, Nat.reduceAdd, Nat.reduceMul, Nat.reduceLT, Nat.reduceLeDiff, Int.reduceToNat, Int.reduceLE, Int.reduceLT, Int.reduceNeg, reduceCtorEq, notIn_cons, notIn_nil]) <;> simp [refsL, refsP, mem_refs_rowP]) (by repeat (first | exact noVar_none _ | refine noVar_row ?_ | refine noVar_map ?_ | refine noVar_rowH ?_ | refine noVar_var ?_ (by simp [refsL, refsP, mem_refs_rowP]))) (fgt_nil)), ?_, ?_⟩
              · rw [ls]; try simp
              · rw [os']
                funext c
                simp (maxSteps := 20000000) only [Heap.drop_at, rowH_app, Heap.put_at, Heap.none_at, List.mem_cons, List.not_mem_nil, or_false]
                by_cases e0 : c = (5, 1) :: base
                · subst e0; simp []
                by_cases e1 : c = (10, 2) :: base
                · subst e1; simp []
                by_cases e2 : c = (13, 3) :: base
                · subst e2; simp []
                simp [e0, e1, e2]
        · have hkq : k = q := by omega
          subst hkq
          rw [m1]
          cases hb : lstP l J k with
          | false =>
            rw [hb, if_neg (by simp)] at rs
            subst rs
            repeat (first | refine ⟨(by show drawK _ _ = true; kernel_rfl : drawX _ _ _), ?_⟩ | exact (by show drawK _ _ = true; kernel_rfl : drawX _ _ _) | simp -dsimp (maxSteps := 20000000) (disch := omega) only [simx, zzC, zzB, tys, ite_self, opnL, callB, readsB, stepOp, ofVal, opBuiltin, opLen, PV.sk, scalBin, scalUn, intBin, opLoad, natOf, opConvert, opField, cellsP, oneP, Value.oneCell', opStore, toIV, scalT, scalA, scalC, boxesA, boxesC, zipB_none, zipB_mx, isZ, opZip, zeroP, opAppendZ, opMakeMap, opLookup, mboxB, opUpdate, ↓reduceIte, Nat.reduceSub, Nat.reduceEqDiff, Nat.reduceAdd, Nat.reduceMul, Nat.reduceLT, Nat.reduceLeDiff, Int.reduceToNat, Int.reduceLE, Int.reduceLT, Int.reduceNeg, reduceCtorEq, gos, Int.reduceAdd, Int.reduceSub, Int.reduceMul, Int.reduceEq, beq_self_eq_true, bne_self_eq_false])
            refine ⟨cj, (fgt_cons (by simp only [Heap.none_at]) (by (simp -dsimp only [zzB, tys, ite_self, opnL, callB, readsB, stepOp, ofVal, opBuiltin, opLen, PV.sk, scalBin, scalUn, intBin, opLoad, natOf, opConvert, opField, cellsP, oneP, Value.oneCell', opStore, toIV, scalT, scalA, scalC, boxesA, boxesC, zipB_none, zipB_mx, isZ, opZip, zeroP, opAppendZ, opMakeMap, opLookup, mboxB, opUpdate, ↓reduceIte, Nat.reduceSub, Nat.reduceEqDiff, Nat.reduceAdd, Nat.reduceMul, Nat.reduceLT, Nat.reduceLeDiff, Int.reduceToNat, Int.reduceLE, Int.reduceLT, Int.reduceNeg, reduceCtorEq, notIn_cons, notIn_nil]) <;> simp [refsL, refsP, mem_refs_rowP]) (by repeat (first | exact noVar_none _ | refine noVar_row ?_ | refine noVar_map ?_ | refine noVar_rowH ?_ | refine noVar_var ?_ (by simp [refsL, refsP, mem_refs_rowP]))) (fgt_cons (by simp only [Heap.none_at]) (by (simp -dsimp only [zzB, tys, ite_self, opnL, callB, readsB, stepOp, ofVal, opBuiltin, opLen, PV.sk, scalBin, scalUn, intBin, opLoad, natOf, opConvert, opField, cellsP, oneP, Value.oneCell', opStore, toIV, scalT, scalA, scalC, boxesA, boxesC, zipB_none, zipB_mx, isZ, opZip, zeroP, opAppendZ, opMakeMap, opLookup, mboxB, opUpdate, ↓reduceIte, Nat.reduceSub, Nat.reduceEqDiff, Nat.reduceAdd, Nat.reduceMul, Nat.reduceLT, Nat.reduceLeDiff, Int.reduceToNat, Int.reduceLE, Int.reduceLT, Int.reduceNeg, reduceCtorEq, notIn_cons, notIn_nil]) <;> simp [refsL, refsP, mem_refs_rowP]) (by repeat (first | exact noVar_none _ | refine noVar_row ?_ | refine noVar_map ?_ | refine noVar_rowH ?_ | refine noVar_var ?_ (by simp [refsL, refsP, mem_refs_rowP]))) (fgt_cons (by simp only [Heap.none_at]) (by (simp -dsimp only [zzB, tys, ite_self, opnL, callB, readsB, stepOp, ofVal, opBuiltin, opLen, PV.sk, scalBin, scalUn, intBin, opLoad, natOf, opConvert, opField, cellsP, oneP, Value.oneCell', opStore, toIV, scalT, scalA, scalC, boxesA, boxesC, zipB_none, zipB_mx, isZ, opZip, zeroP, opAppendZ, opMakeMap, opLookup, mboxB, opUpdate, ↓reduceIte, Nat.reduceSub, Nat.reduceEqDiff, Nat.reduceAdd, Nat.reduceMul, Nat.reduceLT, Nat.reduceLeDiff, Int.reduceToNat, Int.reduceLE, Int.reduceLT, Int.reduceNeg, reduceCtorEq, notIn_cons, notIn_nil]) <;> simp [refsL, refsP, mem_refs_rowP]) (by repeat (first | exact noVar_none _ | refine noVar_row ?_ | refine noVar_map ?_ | refine noVar_rowH ?_ | refine noVar_var ?_ (by simp [refsL, refsP, mem_refs_rowP]))) (fgt_nil)))), ⟨?_, rfl⟩, ?_⟩
            · rw [hq']
            · rw [hq']; try skip
              funext c
              simp (maxSteps := 20000000) only [Heap.drop_at, rowH_app, Heap.put_at, Heap.none_at, List.mem_cons, List.not_mem_nil, or_false]
              by_cases e0 : c = (5, 1) :: base
              · subst e0; simp []
              by_cases e1 : c = (10, 2) :: base
              · subst e1; simp []
              by_cases e2 : c = (13, 2) :: base
              · subst e2; simp []
              by_cases e3 : c = (13, 3) :: base
              · subst e3; simp []
              simp [e0, e1, e2, e3]
          | true =>
            rw [hb, if_pos rfl] at rs
            subst rs
            have e2 : ((orb l J (k + 1)).map ii).take (k + 1) = (orb l J (k + 1)).map ii := List.take_of_length_le (by simp [ol])
            repeat (first | refine ⟨(by show drawK _ _ = true; kernel_rfl : drawX _ _ _), ?_⟩ | exact (by show drawK _ _ = true; kernel_rfl : drawX _ _ _) | simp -dsimp (maxSteps := 20000000) (disch := omega) only [simx, zzC, zzB, tys, ite_self, opnL, callB, readsB, stepOp, ofVal, opBuiltin, opLen, PV.sk, scalBin, scalUn, intBin, opLoad, natOf, opConvert, opField, cellsP, oneP, Value.oneCell', opStore, toIV, scalT, scalA, scalC, boxesA, boxesC, zipB_none, zipB_mx, isZ, opZip, zeroP, opAppendZ, opMakeMap, opLookup, mboxB, opUpdate, ↓reduceIte, Nat.reduceSub, Nat.reduceEqDiff, Nat.reduceAdd, Nat.reduceMul, Nat.reduceLT, Nat.reduceLeDiff, Int.reduceToNat, Int.reduceLE, Int.reduceLT, Int.reduceNeg, reduceCtorEq, gos, Int.reduceAdd, Int.reduceSub, Int.reduceMul, Int.reduceEq, beq_self_eq_true, bne_self_eq_false, List.length_map, ol, e2])
            have e3 : ivl (orb l J (k + 1)) = IV.l (k + 1) ((orb l J (k + 1)).map ii) := by rw [ivl, ol]
            have e4 : (out.length + 1) * 24 ≤ 140737488355328 := by omega
            refine X_append_one 22 [.slice none 0 0] [IV.l (k + 1) ((orb l J (k + 1)).map ii)] (by simp only [tys]) (by simp only [tys]) rfl (by decide) (by simp) (by simp [Heap.put_at, Heap.none_at, rowH_app]) (by simp [Heap.put_at, rowH_app]; rfl) rfl (by simp only [tys]; exact e4) (by rw [mx_len]; omega) ?_
            rw [← e3]
            repeat (first | refine ⟨(by show drawK _ _ = true; kernel_rfl : drawX _ _ _), ?_⟩ | exact (by show drawK _ _ = true; kernel_rfl : drawX _ _ _) | simp -dsimp (maxSteps := 20000000) (disch := omega) only [simx, zzC, zzB, tys, ite_self, opnL, callB, readsB, stepOp, ofVal, opBuiltin, opLen, PV.sk, scalBin, scalUn, intBin, opLoad, natOf, opConvert, opField, cellsP, oneP, Value.oneCell', opStore, toIV, scalT, scalA, scalC, boxesA, boxesC, zipB_none, zipB_mx, isZ, opZip, zeroP, opAppendZ, opMakeMap, opLookup, mboxB, opUpdate, ↓reduceIte, Nat.reduceSub, Nat.reduceEqDiff, Nat.reduceAdd, Nat.reduceMul, Nat.reduceLT, Nat.reduceLeDiff, Int.reduceToNat, Int.reduceLE, Int.reduceLT, Int.reduceNeg, reduceCtorEq, gos, Int.reduceAdd, Int.reduceSub, Int.reduceMul, Int.reduceEq])
            refine ⟨cj, (fgt_cons (by simp only [Heap.none_at]) (by (simp -dsimp only [zzB, tys, ite_self, opnL, callB, readsB, stepOp, ofVal, opBuiltin, opLen, PV.sk, scalBin, scalUn, intBin, opLoad, natOf, opConvert, opField, cellsP, oneP, Value.oneCell', opStore, toIV, scalT, scalA, scalC, boxesA, boxesC, zipB_none, zipB_mx, isZ, opZip, zeroP, opAppendZ, opMakeMap, opLookup, mboxB, opUpdate, ↓reduceIte, Nat.reduceSub, Nat.reduceEqDiff, Nat.reduceAdd, Nat.reduceMul, Nat.reduceLT, Nat.reduceLeDiff, Int.reduceToNat, Int.reduceLE, Int.reduceLT, Int.reduceNeg, reduceCtorEq, notIn_cons, notIn_nil]) <;> simp [refsL, refsP, mem_refs_rowP]) (by repeat (first | exact noVar_none _ | refine noVar_row ?_ | refine noVar_map ?_ | refine noVar_rowH ?_ | refine noVar_var ?_ (by simp [refsL, refsP, mem_refs_rowP]))) (fgt_cons (by simp only [Heap.none_at]) (by (simp -dsimp only [zzB, tys, ite_self, opnL, callB, readsB, stepOp, ofVal, opBuiltin, opLen, PV.sk, scalBin, scalUn, intBin, opLoad, natOf, opConvert, opField, cellsP, oneP, Value.oneCell', opStore, toIV, scalT, scalA, scalC, boxesA, boxesC, zipB_none, zipB_mx, isZ, opZip, zeroP, opAppendZ, opMakeMap, opLookup, mboxB, opUpdate, ↓reduceIte, Nat.reduceSub, Nat.reduceEqDiff, Nat.reduceAdd, Nat.reduceMul, Nat.reduceLT, Nat.reduceLeDiff, Int.reduceToNat, Int.reduceLE, Int.reduceLT, Int.reduceNeg, reduceCtorEq, notIn_cons, notIn_nil]) <;> simp [refsL, refsP, mem_refs_rowP]) (by repeat (first | exact noVar_none _ | refine noVar_row ?_ | refine noVar_map ?_ | refine noVar_rowH ?_ | refine noVar_var ?_ (by simp [refsL, refsP, mem_refs_rowP]))) (fgt_cons (by simp only [Heap.none_at]) (by (simp -dsimp only [zzB, tys, ite_self, opnL, callB, readsB, stepOp, ofVal, opBuiltin, opLen, PV.sk, scalBin, scalUn, intBin, opLoad, natOf, opConvert, opField, cellsP, oneP, Value.oneCell', opStore, toIV, scalT, scalA, scalC, boxesA, boxesC, zipB_none, zipB_mx, isZ, opZip, zeroP, opAppendZ, opMakeMap, opLookup, mboxB, opUpdate, ↓reduceIte, Nat.reduceSub, Nat.reduceEqDiff, Nat.reduceAdd, Nat.reduceMul, Nat.reduceLT, Nat.reduceLeDiff, Int.reduceToNat, Int.reduceLE, Int.reduceLT, Int.reduceNeg, reduceCtorEq, notIn_cons, notIn_nil]) <;> simp [refsL, refsP, mem_refs_rowP]) (by repeat (first | exact noVar_none _ | refine noVar_row ?_ | refine noVar_map ?_ | refine noVar_rowH ?_ | refine noVar_var ?_ (by simp [refsL, refsP, mem_refs_rowP]))) (fgt_nil)))), ⟨?_, rfl⟩, ?_⟩
            · rw [hq']; try simp
            · rw [hq']; try skip
              funext c
              simp (maxSteps := 20000000) only [Heap.drop_at, rowH_app, Heap.put_at, Heap.none_at, List.mem_cons, List.not_mem_nil, or_false]
              by_cases e0 : c = (5, 1) :: base
              · subst e0; simp [List.length_append, List.length_singleton, List.map_append, List.map_cons, List.map_nil]
              by_cases e1 : c = (10, 2) :: base
              · subst e1; simp [List.length_append, List.length_singleton, List.map_append, List.map_cons, List.map_nil]
              by_cases e2 : c = (13, 2) :: base
              · subst e2; simp [List.length_append, List.length_singleton, List.map_append, List.map_cons, List.map_nil]
              by_cases e3 : c = (13, 3) :: base
              · subst e3; simp [List.length_append, List.length_singleton, List.map_append, List.map_cons, List.map_nil]
              simp [e0, e1, e2, e3, List.length_append, List.length_singleton, List.map_append, List.map_cons, List.map_nil]
    · have hj : J = l.length := by omega
      subst hj
      generalize refRg l l.length = out
      cases out with
      | nil =>
        repeat (first | refine ⟨(by show drawK _ _ = true; kernel_rfl : drawX _ _ _), ?_⟩ | exact (by show drawK _ _ = true; kernel_rfl : drawX _ _ _) | simp -dsimp (maxSteps := 20000000) (disch := omega) only [simx, zzC, zzB, tys, ite_self, opnL, callB, readsB, stepOp, ofVal, opBuiltin, opLen, PV.sk, scalBin, scalUn, intBin, opLoad, natOf, opConvert, opField, cellsP, oneP, Value.oneCell', opStore, toIV, scalT, scalA, scalC, boxesA, boxesC, zipB_none, zipB_mx, isZ, opZip, zeroP, opAppendZ, opMakeMap, opLookup, mboxB, opUpdate, ↓reduceIte, Nat.reduceSub, Nat.reduceEqDiff, Nat.reduceAdd, Nat.reduceMul, Nat.reduceLT, Nat.reduceLeDiff, Int.reduceToNat, Int.reduceLE, Int.reduceLT, Int.reduceNeg, reduceCtorEq, zzR, gos, Int.reduceAdd, Int.reduceSub, Int.reduceMul, Int.reduceEq, rowP_zero])
        rfl
      | cons r out =>
        have e1 : (r :: out).length = out.length + 1 := rfl
        have e2 : ((r :: out).map ivl).take (out.length + 1) = (r :: out).map ivl := List.take_of_length_le (by simp)
        have e3 : ((r :: out).map ivl).length = out.length + 1 := by simp
        rw [lli, e1]
        generalize (r :: out).map ivl = cs at e2 e3 ⊢
        repeat (first | refine ⟨(by show drawK _ _ = true; kernel_rfl : drawX _ _ _), ?_⟩ | exact (by show drawK _ _ = true; kernel_rfl : drawX _ _ _) | simp -dsimp (maxSteps := 20000000) (disch := omega) only [simx, zzC, zzB, tys, ite_self, opnL, callB, readsB, stepOp, ofVal, opBuiltin, opLen, PV.sk, scalBin, scalUn, intBin, opLoad, natOf, opConvert, opField, cellsP, oneP, Value.oneCell', opStore, toIV, scalT, scalA, scalC, boxesA, boxesC, zipB_none, zipB_mx, isZ, opZip, zeroP, opAppendZ, opMakeMap, opLookup, mboxB, opUpdate, ↓reduceIte, Nat.reduceSub, Nat.reduceEqDiff, Nat.reduceAdd, Nat.reduceMul, Nat.reduceLT, Nat.reduceLeDiff, Int.reduceToNat, Int.reduceLE, Int.reduceLT, Int.reduceNeg, reduceCtorEq, zzR, gos, Int.reduceAdd, Int.reduceSub, Int.reduceMul, Int.reduceEq, rowP_succ, rowH_succ, e2, e3])
end Go.Proofs.Ytkhjfphenflefaa.TM
