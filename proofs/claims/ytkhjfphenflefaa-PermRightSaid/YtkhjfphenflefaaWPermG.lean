/- perm: One; what a ring is; done and undone. -/
import Derived.Test.YtkhjfphenflefaaWSgnF
import Derived.Test.YtkhjfphenflefaaWPermF
namespace Go.Proofs.Ytkhjfphenflefaa.TM
open Go Go.RowKit
set_option linter.unusedVariables false
set_option linter.defProp false
set_option linter.unusedSimpArgs false
attribute [local irreducible] K W WOps Effs Xg Xo Xr Xdg Xdo Xdr Xif CallsP CallR

def idN (n : Nat) : List Int := tbl n (fun i => (i : Int))
def oneR (n : Int) : List Int × Int := if decide (n < 1) || decide (64 < n) then ([], 1) else (idN n.toNat, 0)
theorem pone_walk (n : Int) : CallsP Try.prog 17 [i64 n] (.tup [li (oneR n).1, i64 (oneR n).2]) := by
  unfold oneR
  by_cases h1 : n < 1
  · rw [decide_eq_true h1]
    simp only [Bool.true_or, if_true]
    refine X_startP (n := 22) (m := 1) (rs := [.tmp 2, .tmp 3]) Try.func17 rfl rfl rfl rfl (by decide) fun base => ?_
    repeat (first | refine ⟨(by show drawK _ _ = true; kernel_rfl : drawX _ _ _), ?_⟩ | exact (by show drawK _ _ = true; kernel_rfl : drawX _ _ _) | simp -dsimp (maxSteps := 20000000) (disch := omega) only [simx, zzC, zzB, tys, ite_self, opnL, callB, readsB, stepOp, ofVal, opBuiltin, opLen, PV.sk, scalBin, scalUn, intBin, opLoad, natOf, opConvert, opField, cellsP, oneP, Value.oneCell', opStore, toIV, scalT, scalA, scalC, boxesA, boxesC, zipB_none, zipB_mx, isZ, opZip, zeroP, opAppendZ, opMakeMap, opLookup, mboxB, opUpdate, ↓reduceIte, Nat.reduceSub, Nat.reduceEqDiff, Nat.reduceAdd, Nat.reduceMul, Nat.reduceLT, Nat.reduceLeDiff, Int.reduceToNat, Int.reduceLE, Int.reduceLT, Int.reduceNeg, reduceCtorEq, zzR, gos, Int.reduceAdd, Int.reduceSub, Int.reduceMul, Int.reduceEq, h1])
    rfl
  · by_cases h2 : 64 < n
    · rw [decide_eq_false h1, decide_eq_true h2]
      simp only [Bool.or_true, if_true]
      refine X_startP (n := 22) (m := 1) (rs := [.tmp 2, .tmp 3]) Try.func17 rfl rfl rfl rfl (by decide) fun base => ?_
      repeat (first | refine ⟨(by show drawK _ _ = true; kernel_rfl : drawX _ _ _), ?_⟩ | exact (by show drawK _ _ = true; kernel_rfl : drawX _ _ _) | simp -dsimp (maxSteps := 20000000) (disch := omega) only [simx, zzC, zzB, tys, ite_self, opnL, callB, readsB, stepOp, ofVal, opBuiltin, opLen, PV.sk, scalBin, scalUn, intBin, opLoad, natOf, opConvert, opField, cellsP, oneP, Value.oneCell', opStore, toIV, scalT, scalA, scalC, boxesA, boxesC, zipB_none, zipB_mx, isZ, opZip, zeroP, opAppendZ, opMakeMap, opLookup, mboxB, opUpdate, ↓reduceIte, Nat.reduceSub, Nat.reduceEqDiff, Nat.reduceAdd, Nat.reduceMul, Nat.reduceLT, Nat.reduceLeDiff, Int.reduceToNat, Int.reduceLE, Int.reduceLT, Int.reduceNeg, reduceCtorEq, zzR, gos, Int.reduceAdd, Int.reduceSub, Int.reduceMul, Int.reduceEq, h1, h2])
      rfl
    · rw [decide_eq_false h1, decide_eq_false h2]
      simp only [Bool.or_self, Bool.false_eq_true, if_false]
      obtain ⟨m, rfl⟩ := Int.eq_ofNat_of_zero_le (show 0 ≤ n by omega)
      rw [Int.toNat_natCast]
      refine X_startP (n := 22) (m := 1) (rs := [.tmp 2, .tmp 3]) Try.func17 rfl rfl rfl rfl (by decide) fun base => ?_
      repeat (first | refine ⟨(by show drawK _ _ = true; kernel_rfl : drawX _ _ _), ?_⟩ | exact (by show drawK _ _ = true; kernel_rfl : drawX _ _ _) | simp -dsimp (maxSteps := 20000000) (disch := omega) only [simx, zzC, zzB, tys, ite_self, opnL, callB, readsB, stepOp, ofVal, opBuiltin, opLen, PV.sk, scalBin, scalUn, intBin, opLoad, natOf, opConvert, opField, cellsP, oneP, Value.oneCell', opStore, toIV, scalT, scalA, scalC, boxesA, boxesC, zipB_none, zipB_mx, isZ, opZip, zeroP, opAppendZ, opMakeMap, opLookup, mboxB, opUpdate, ↓reduceIte, Nat.reduceSub, Nat.reduceEqDiff, Nat.reduceAdd, Nat.reduceMul, Nat.reduceLT, Nat.reduceLeDiff, Int.reduceToNat, Int.reduceLE, Int.reduceLT, Int.reduceNeg, reduceCtorEq, gos, Int.reduceAdd, Int.reduceSub, Int.reduceMul, Int.reduceEq, h1, h2])
      refine X_loopH [4, 12, 13] [(7, 2) :: base] (0) (m) (fun j => True) (fun j => [(4, rowP ((7, 3) :: base) 1 j ((idN j).map ii)), (13, i64 j)]) (fun j => rowH Heap.none ((7, 3) :: base) j ((idN j).map ii)) ?_ ?_ ?_ ?_ ?_ (by decide) ?_
      · exact (fgt_cons (by simp only [Heap.none_at]) (by (simp -dsimp only [zzB, tys, ite_self, opnL, callB, readsB, stepOp, ofVal, opBuiltin, opLen, PV.sk, scalBin, scalUn, intBin, opLoad, natOf, opConvert, opField, cellsP, oneP, Value.oneCell', opStore, toIV, scalT, scalA, scalC, boxesA, boxesC, zipB_none, zipB_mx, isZ, opZip, zeroP, opAppendZ, opMakeMap, opLookup, mboxB, opUpdate, ↓reduceIte, Nat.reduceSub, Nat.reduceEqDiff, Nat.reduceAdd, Nat.reduceMul, Nat.reduceLT, Nat.reduceLeDiff, Int.reduceToNat, Int.reduceLE, Int.reduceLT, Int.reduceNeg, reduceCtorEq, notIn_cons, notIn_nil]) <;> simp [refsL, refsP, mem_refs_rowP]) (by repeat (first | exact noVar_none _ | refine noVar_row ?_ | refine noVar_map ?_ | refine noVar_rowH ?_ | refine noVar_var ?_ (by simp [refsL, refsP, mem_refs_rowP]))) (fgt_nil))
      · ((simp -dsimp (disch := omega) only [simx, zzB, tys, ite_self, opnL, callB, readsB, stepOp, ofVal, opBuiltin, opLen, PV.sk, scalBin, scalUn, intBin, opLoad, natOf, opConvert, opField, cellsP, oneP, Value.oneCell', opStore, toIV, scalT, scalA, scalC, boxesA, boxesC, zipB_none, zipB_mx, isZ, opZip, zeroP, opAppendZ, opMakeMap, opLookup, mboxB, opUpdate, ↓reduceIte, Nat.reduceSub, Nat.reduceEqDiff, Nat.reduceAdd, Nat.reduceMul, Nat.reduceLT, Nat.reduceLeDiff, Int.reduceToNat, Int.reduceLE, Int.reduceLT, Int.reduceNeg, reduceCtorEq, gos, Int.reduceAdd, Int.reduceSub, Int.reduceMul, Int.reduceEq]) <;> first | rfl | simp [rowP])
      · funext c
        simp (maxSteps := 20000000) only [Heap.drop_at, rowH_app, Heap.put_at, Heap.none_at, List.mem_cons, List.not_mem_nil, or_false]
        by_cases e0 : c = (7, 2) :: base
        · subst e0; simp []
        simp [e0]
      · omega
      · trivial
      · intro j hj _
        have il : (idN j).length = j := tbl_len _ _
        by_cases cj : j < m
        · have tk : idN (j + 1) = idN j ++ [(j : Int)] := tbl_succ _ _
          repeat (first | refine ⟨(by show drawK _ _ = true; kernel_rfl : drawX _ _ _), ?_⟩ | exact (by show drawK _ _ = true; kernel_rfl : drawX _ _ _) | simp -dsimp (maxSteps := 20000000) (disch := omega) only [simx, zzC, zzB, tys, ite_self, opnL, callB, readsB, stepOp, ofVal, opBuiltin, opLen, PV.sk, scalBin, scalUn, intBin, opLoad, natOf, opConvert, opField, cellsP, oneP, Value.oneCell', opStore, toIV, scalT, scalA, scalC, boxesA, boxesC, zipB_none, zipB_mx, isZ, opZip, zeroP, opAppendZ, opMakeMap, opLookup, mboxB, opUpdate, ↓reduceIte, Nat.reduceSub, Nat.reduceEqDiff, Nat.reduceAdd, Nat.reduceMul, Nat.reduceLT, Nat.reduceLeDiff, Int.reduceToNat, Int.reduceLE, Int.reduceLT, Int.reduceNeg, reduceCtorEq, gos, Int.reduceAdd, Int.reduceSub, Int.reduceMul, Int.reduceEq, cj])
          refine X_append_one 3 [.int .i64 0] [ii (j : Int)] (by simp only [tys]) (by simp only [tys]) rfl (by decide) (by simp [il]) (by simp [Heap.put_at, Heap.none_at, rowH_app]) (by simp [Heap.put_at]; rfl) rfl (by simp only [tys]; omega) (by rw [mx_len]; omega) ?_
          repeat (first | refine ⟨(by show drawK _ _ = true; kernel_rfl : drawX _ _ _), ?_⟩ | exact (by show drawK _ _ = true; kernel_rfl : drawX _ _ _) | simp -dsimp (maxSteps := 20000000) (disch := omega) only [simx, zzC, zzB, tys, ite_self, opnL, callB, readsB, stepOp, ofVal, opBuiltin, opLen, PV.sk, scalBin, scalUn, intBin, opLoad, natOf, opConvert, opField, cellsP, oneP, Value.oneCell', opStore, toIV, scalT, scalA, scalC, boxesA, boxesC, zipB_none, zipB_mx, isZ, opZip, zeroP, opAppendZ, opMakeMap, opLookup, mboxB, opUpdate, ↓reduceIte, Nat.reduceSub, Nat.reduceEqDiff, Nat.reduceAdd, Nat.reduceMul, Nat.reduceLT, Nat.reduceLeDiff, Int.reduceToNat, Int.reduceLE, Int.reduceLT, Int.reduceNeg, reduceCtorEq, gos, Int.reduceAdd, Int.reduceSub, Int.reduceMul, Int.reduceEq, cj])
          refine ⟨cj, (fgt_cons (by simp only [Heap.none_at]) (by (simp -dsimp only [zzB, tys, ite_self, opnL, callB, readsB, stepOp, ofVal, opBuiltin, opLen, PV.sk, scalBin, scalUn, intBin, opLoad, natOf, opConvert, opField, cellsP, oneP, Value.oneCell', opStore, toIV, scalT, scalA, scalC, boxesA, boxesC, zipB_none, zipB_mx, isZ, opZip, zeroP, opAppendZ, opMakeMap, opLookup, mboxB, opUpdate, ↓reduceIte, Nat.reduceSub, Nat.reduceEqDiff, Nat.reduceAdd, Nat.reduceMul, Nat.reduceLT, Nat.reduceLeDiff, Int.reduceToNat, Int.reduceLE, Int.reduceLT, Int.reduceNeg, reduceCtorEq, notIn_cons, notIn_nil]) <;> simp [refsL, refsP, mem_refs_rowP]) (by repeat (first | exact noVar_none _ | refine noVar_row ?_ | refine noVar_map ?_ | refine noVar_rowH ?_ | refine noVar_var ?_ (by simp [refsL, refsP, mem_refs_rowP]))) (fgt_nil)), ⟨?_, rfl⟩, ?_⟩
          · rw [tk]; simp
          · funext c
            simp (maxSteps := 20000000) only [Heap.drop_at, rowH_app, Heap.put_at, Heap.none_at, List.mem_cons, List.not_mem_nil, or_false]
            by_cases e0 : c = (7, 2) :: base
            · subst e0; simp [tk]
            by_cases e1 : c = (7, 3) :: base
            · subst e1; simp [tk]
            simp [e0, e1, tk]
        · have hj : j = m := by omega
          subst hj
          obtain ⟨s, rfl⟩ : ∃ s, j = s + 1 := ⟨j - 1, by omega⟩
          have e2 : ((idN (s + 1)).map ii).take (s + 1) = (idN (s + 1)).map ii := List.take_of_length_le (by simp [il])
          repeat (first | refine ⟨(by show drawK _ _ = true; kernel_rfl : drawX _ _ _), ?_⟩ | exact (by show drawK _ _ = true; kernel_rfl : drawX _ _ _) | simp -dsimp (maxSteps := 20000000) (disch := omega) only [simx, zzC, zzB, tys, ite_self, opnL, callB, readsB, stepOp, ofVal, opBuiltin, opLen, PV.sk, scalBin, scalUn, intBin, opLoad, natOf, opConvert, opField, cellsP, oneP, Value.oneCell', opStore, toIV, scalT, scalA, scalC, boxesA, boxesC, zipB_none, zipB_mx, isZ, opZip, zeroP, opAppendZ, opMakeMap, opLookup, mboxB, opUpdate, ↓reduceIte, Nat.reduceSub, Nat.reduceEqDiff, Nat.reduceAdd, Nat.reduceMul, Nat.reduceLT, Nat.reduceLeDiff, Int.reduceToNat, Int.reduceLE, Int.reduceLT, Int.reduceNeg, reduceCtorEq, zzR, gos, Int.reduceAdd, Int.reduceSub, Int.reduceMul, Int.reduceEq, rowP_succ, rowH_succ, List.length_map, il, e2, li])

/-! ### Rings -/
def Ring (l r : List Int) : Prop := 0 < r.length ∧ ∀ k, k < r.length → 0 ≤ r.getD k 0 ∧ r.getD k 0 < l.length ∧ nx l (r.getD k 0) = r.getD ((k + 1) % r.length) 0 ∧ r.getD 0 0 ≤ r.getD k 0
theorem orb_getD {l : List Int} {a : Int} {m k : Nat} (h : k < m) : (orb l a m).getD k 0 = itn l a k := by
  unfold orb
  rw [List.getD_eq_getElem?_getD, List.getElem?_map, List.getElem?_range h]; rfl
theorem ring_of {l s : List Int} (o : Ord l) {J : Nat} (h1 : J < l.length) (hs : ∀ i : Nat, i < J → (i : Int) ∈ s) {m : Nat} (n2 : ∀ i, i < m → itn l J i ∉ s ++ orb l J i) (m0 : 0 < m) (mb : itn l J m = J) : Ring l (orb l J m) := by
  have j1 : (J : Int) < l.length := by omega
  have it := itn_in o (a := (J : Int)) (by omega) j1
  refine ⟨by rw [orb_len]; exact m0, fun k hk => ?_⟩
  rw [orb_len] at hk ⊢
  rw [orb_getD hk, orb_getD (Nat.mod_lt _ m0), orb_getD m0]
  refine ⟨(it k).1, (it k).2, ?_, ?_⟩
  · rw [← itn_nx]
    by_cases c : k + 1 < m
    · rw [Nat.mod_eq_of_lt c]
    · have : k + 1 = m := by omega
      rw [this, Nat.mod_self, mb]; rfl
  · show (J : Int) ≤ itn l J k
    have hk := n2 k hk
    have i0 := (it k).1
    generalize itn l J k = z at hk i0
    by_cases c : (J : Int) ≤ z
    · exact c
    · obtain ⟨q, rfl⟩ := Int.eq_ofNat_of_zero_le i0
      exact absurd (List.mem_append.2 (.inl (hs q (by omega)))) hk
theorem rgs_all {l : List Int} (o : Ord l) : ∀ j, j ≤ l.length → (rgs l j).1.flatten = (rgs l j).2 ∧ (rgs l j).2.Nodup ∧ (∀ a ∈ (rgs l j).2, 0 ≤ a ∧ a < l.length) ∧ ∀ r ∈ (rgs l j).1, Ring l r
  | 0, _ => ⟨rfl, List.nodup_nil, fun a h => by simp [rgs] at h, fun a h => by simp [rgs] at h⟩
  | j + 1, hj => by
    obtain ⟨h1, h2, h3, h4⟩ := rgs_all o j (by omega)
    obtain ⟨k1, k2, _⟩ := rgs_sgn o j (by omega)
    rw [rgs]
    generalize rgs l j = p at h1 h2 h3 h4 k1 k2 ⊢
    obtain ⟨out, s⟩ := p
    simp only at h1 h2 h3 h4 k1 k2 ⊢
    by_cases c : (j : Int) ∈ s
    · rw [if_pos c]; exact ⟨h1, h2, h3, h4⟩
    · rw [if_neg c]
      have j0 : (0 : Int) ≤ j := by omega
      have j1 : (j : Int) < l.length := by omega
      obtain ⟨n1, n2, n3⟩ := ringN_spec o s j0 j1
      generalize ringN l s j = m at n1 n2 n3 ⊢
      obtain ⟨m0, mb⟩ := ring_back o k1 j0 j1 c n1 n2
      have it := itn_in o j0 j1
      refine ⟨?_, ?_, ?_, ?_⟩
      · show (out ++ [orb l j m]).flatten = s ++ orb l j m
        rw [List.flatten_append, h1]; simp
      · show (s ++ orb l j m).Nodup
        rw [List.nodup_append]
        refine ⟨h2, orb_nodup m n2, fun x hx y hy e => ?_⟩
        subst e
        obtain ⟨i, hi, rfl⟩ := orb_mem.1 hy
        exact n2 i hi (List.mem_append.2 (.inl hx))
      · intro a ha
        rcases List.mem_append.1 ha with h | h
        · exact h3 a h
        · obtain ⟨i, hi, rfl⟩ := orb_mem.1 h
          exact it i
      · intro r hr
        rcases List.mem_append.1 hr with h | h
        · exact h4 r h
        · have : r = orb l j m := by simpa using h
          subst this
          exact ring_of o (by omega) k2 n2 m0 mb
theorem sub_len : ∀ {a b : List Int}, a.Nodup → (∀ x ∈ a, x ∈ b) → a.length ≤ b.length
  | [], b, _, _ => by simp
  | x :: a, b, hn, h => by
    have hx := h x (by simp)
    have h1 := List.length_erase_of_mem hx
    have h0 := List.length_pos_of_mem hx
    have h2 := sub_len (a := a) (b := b.erase x) (List.nodup_cons.1 hn).2 (fun y hy => by
      have hne : y ≠ x := fun e => (List.nodup_cons.1 hn).1 (e ▸ hy)
      exact (List.mem_erase_of_ne hne).2 (h y (by simp [hy])))
    simp only [List.length_cons]
    omega
theorem rings_ord {l : List Int} (o : Ord l) : Ord (ringsI l).flatten ∧ (ringsI l).flatten.length = l.length ∧ ∀ r ∈ ringsI l, Ring l r := by
  obtain ⟨h1, h2, h3, h4⟩ := rgs_all o l.length (Nat.le_refl _)
  obtain ⟨_, k2, _⟩ := rgs_sgn o l.length (Nat.le_refl _)
  have o1 := o.pos
  have o2 := o.le
  unfold ringsI
  rw [h1]
  have e1 : (rgs l l.length).2.length ≤ l.length := nodup_bound h2 h3
  have e2 : (idN l.length).length ≤ (rgs l l.length).2.length := sub_len (tbl_nodup (q := fun i => (i : Int)) fun i j hi hj e => Int.ofNat.inj e) fun x hx => by
    obtain ⟨i, hi, rfl⟩ := tbl_mem hx
    exact k2 i hi
  rw [idN, tbl_len] at e2
  have e : (rgs l l.length).2.length = l.length := by omega
  exact ⟨⟨by omega, by omega, fun a ha => by rw [e]; exact h3 a ha, h2⟩, e, h4⟩

/-! ### Done -/
theorem doneI_getD {q x : List Int} {i : Nat} (h : i < q.length) : (doneI q x).getD i 0 = x.getD (q.getD i 0).toNat 0 := by
  unfold doneI
  rw [List.getD_eq_getElem?_getD, List.getElem?_map, List.getElem?_eq_getElem h, List.getD_eq_getElem?_getD (l := q), List.getElem?_eq_getElem h]; rfl
theorem list_ext0 {a b : List Int} (h : a.length = b.length) (hh : ∀ i, i < a.length → a.getD i 0 = b.getD i 0) : a = b := by
  rw [tbl_of (l := a) rfl, tbl_of (l := b) h.symm]
  exact tbl_congr hh
theorem ord_at {l : List Int} (o : Ord l) {i : Nat} (h : i < l.length) : 0 ≤ l.getD i 0 ∧ l.getD i 0 < l.length := by
  rw [List.getD_eq_getElem?_getD, List.getElem?_eq_getElem h]
  exact o.mem _ (List.getElem_mem h)
theorem done_done {p q : List Int} (oq : Ord q) (h : p.length = q.length) (x : List Int) : doneI q (doneI p x) = doneI (doneI q p) x := by
  refine list_ext0 (by simp [doneI_len]) fun i hi => ?_
  rw [doneI_len] at hi
  have hq := ord_at oq hi
  rw [doneI_getD hi, doneI_getD (by omega), doneI_getD (by rw [doneI_len]; exact hi), doneI_getD hi]
theorem back_getD {l : List Int} (o : Ord l) {i : Nat} (h : i < l.length) : ∃ m : Nat, m < l.length ∧ (tbl l.length (backF l l.length)).getD i 0 = m ∧ l.getD m 0 = i := by
  obtain ⟨m, h1, h2, h3⟩ := back_spec o i h
  exact ⟨m, h1, by rw [tbl_getD _ h, h3], h2⟩
theorem done_back {p x : List Int} (o : Ord p) (h : x.length = p.length) : doneI (tbl p.length (backF p p.length)) (doneI p x) = x := by
  refine list_ext0 (by simp [doneI_len, tbl_len, h]) fun i hi => ?_
  rw [doneI_len, tbl_len] at hi
  obtain ⟨m, h1, h2, h3⟩ := back_getD o hi
  rw [doneI_getD (by rw [tbl_len]; exact hi), h2, Int.toNat_natCast, doneI_getD h1, h3, Int.toNat_natCast]
theorem then_back {p : List Int} (o : Ord p) : doneI (tbl p.length (backF p p.length)) p = idN p.length := by
  refine list_ext0 (by simp [doneI_len, tbl_len, idN]) fun i hi => ?_
  rw [doneI_len, tbl_len] at hi
  obtain ⟨m, h1, h2, h3⟩ := back_getD o hi
  rw [doneI_getD (by rw [tbl_len]; exact hi), h2, Int.toNat_natCast, h3, idN, tbl_getD _ hi]
end Go.Proofs.Ytkhjfphenflefaa.TM
