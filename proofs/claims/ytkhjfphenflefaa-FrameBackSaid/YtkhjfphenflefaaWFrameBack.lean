/- FrameBack: the law, walked. -/
import Derived.Test.YtkhjfphenflefaaWFrmI
namespace Go.Proofs.Ytkhjfphenflefaa.TM
open Go Go.RowKit
set_option linter.unusedVariables false
set_option linter.defProp false
set_option linter.unusedSimpArgs false
attribute [local irreducible] K W WOps Effs Xg Xo Xr Xdg Xdo Xdr Xif CallsP CallR

theorem ba_loop (bs : ByteArray) : ∀ (n i : Nat) (r : List UInt8), bs.size - i = n → ByteArray.toList.loop bs i r = r.reverse ++ bs.data.toList.drop i
  | 0, i, r, h => by
    rw [ByteArray.toList.loop, if_neg (by omega), List.drop_eq_nil_of_le (by show bs.data.size ≤ i; exact Nat.le_of_sub_eq_zero h), List.append_nil]
  | n + 1, i, r, h => by
    have hi : i < bs.size := by omega
    have hi2 : i < bs.data.toList.length := hi
    rw [ByteArray.toList.loop, if_pos hi, ba_loop bs n (i + 1) _ (by omega), List.drop_eq_getElem_cons hi2]
    have e : bs.get! i = bs.data.toList[i] := by
      show bs.data[i]! = _
      rw [getElem!_pos bs.data i hi, Array.getElem_toList]
    simp [e]
theorem ba_toList (bs : ByteArray) : bs.toList = bs.data.toList := by
  have h := ba_loop bs _ 0 [] rfl
  rw [List.reverse_nil, List.nil_append, List.drop_zero] at h
  exact h
theorem str_ne {a b : List Int} (ha : Byts a) (hb : Byts b) (hne : a ≠ b) {sa sb : ByteArray} (h1 : str a = .string sa) (h2 : str b = .string sb) : (sa.toList == sb.toList) = false := by
  unfold str at h1 h2
  cases h1
  cases h2
  rw [ba_toList, ba_toList]
  apply beq_eq_false_iff_ne.2
  intro h
  exact hne (str_inj ha hb h)
theorem opBytes_w {h : Heap} {b : Name} {fz : Bool} {cs : List IV} {off n top : Nat} {l : List Int} (hb : h b = some (.row fz cs)) (ht : cs.length = top) (hn : off + n ≤ cs.length) (hl : (cs.drop off).take n = l.map ib) :
    opBytes Try.prog h 5 (.view b off 1 n top) = some (.i (.v (str l))) := by
  have e : tkB Try.prog 5 = some (.int .u8) := by simp only [tys]
  unfold opBytes
  rw [e]
  simp [PV.sk, SK.cells, hb, ht ▸ hn, ht, hl, bytesOfIV_lb]
  rfl
theorem nextP {k r n : Int} {y : List Int} (t : List Int) (hm : mayB k r y = true) (hn : 0 ≤ n ∧ n < 4294967296) (hy : ∀ a ∈ y, W64 a) : nextR (putB k r n y ++ t) = ((k, r, n, y), ((12 + 8 * y.length : Nat) : Int), 0) := next_of (next_put hm hn hy)
set_option maxHeartbeats 8000000 in
set_option maxRecDepth 20000 in
theorem frameBack_true (a0 : Int × Int × Int × List Int) (a1 : Int × Int × Int × List Int) (a2 : Int) (a3 : Int) (w0 : ((Lit.int .i64 a0.1).wf = true ∧ (Lit.int .i64 a0.2.1).wf = true ∧ (Lit.int .u32 a0.2.2.1).wf = true ∧ (a0.2.2.2.length ≤ maxLen ∧ ∀ e32_ ∈ a0.2.2.2, (Lit.int .u64 e32_).wf = true))) (w1 : ((Lit.int .i64 a1.1).wf = true ∧ (Lit.int .i64 a1.2.1).wf = true ∧ (Lit.int .u32 a1.2.2.1).wf = true ∧ (a1.2.2.2.length ≤ maxLen ∧ ∀ e32_ ∈ a1.2.2.2, (Lit.int .u64 e32_).wf = true))) (w2 : (Lit.int .u16 a2).wf = true) (w3 : (Lit.int .u8 a3).wf = true) : CallsP Try.prog 8 [.agg [.i (IV.v (.int .i64 a0.1)), .i (IV.v (.int .i64 a0.2.1)), .i (IV.v (.int .u32 a0.2.2.1)), .i (IV.l a0.2.2.2.length (a0.2.2.2.map fun y => IV.v (.int .u64 y)))], .agg [.i (IV.v (.int .i64 a1.1)), .i (IV.v (.int .i64 a1.2.1)), .i (IV.v (.int .u32 a1.2.2.1)), .i (IV.l a1.2.2.2.length (a1.2.2.2.map fun y => IV.v (.int .u64 y)))], .i (IV.v (.int .u16 a2)), .i (IV.v (.int .u8 a3))] (bl true) := by
  have aw := awake11_walk
  obtain ⟨k, r, n, y⟩ := a0
  obtain ⟨k', r', n', y'⟩ := a1
  simp only at w0 w1
  have hn := u32_of w0.2.2.1
  have hn' := u32_of w1.2.2.1
  have hy := w64_all w0.2.2.2.2
  have hy' := w64_all w1.2.2.2.2
  have hc := u8_of w3
  have ha := u16_of w2
  change CallsP _ _ [frP k r n y, frP k' r' n' y', .i (.v (.int .u16 a2)), .i (ib a3)] _
  by_cases h1 : 300 < y.length
  · have h1' : (300 : Int) < y.length := by omega
    refine X_startP (n := 149) (m := 4) (rs := [.tmp 8]) Try.func8 rfl rfl rfl rfl (by decide) fun base => ?_
    repeat (first | ((first | refine X_call_fn2 rfl (by simp only [tys]) ?_ | refine X_dcall_fn2 rfl (by simp only [tys]) ?_); apply Exists.intro; apply And.intro; (focus (simp -dsimp only [simx, zzC, zzB, tys, ite_self, opnL, callB, readsB, stepOp, ofVal, opBuiltin, opLen, PV.sk, scalBin, scalUn, intBin, opLoad, natOf, opConvert, opField, cellsP, oneP, Value.oneCell', opStore, toIV, scalT, scalA, scalC, boxesA, boxesC, zipB_none, zipB_mx, isZ, opZip, zeroP, opAppendZ, opMakeMap, opLookup, mboxB, opUpdate, ↓reduceIte, Nat.reduceSub, Nat.reduceEqDiff, Nat.reduceAdd, Nat.reduceMul, Nat.reduceLT, Nat.reduceLeDiff, Int.reduceToNat, Int.reduceLE, Int.reduceLT, Int.reduceNeg, reduceCtorEq, zzL, if_true, if_false] <;> rfl)); apply Exists.intro; apply And.intro; (focus (first | exact aw))) | refine ⟨(by show drawK _ _ = true; kernel_rfl : drawX _ _ _), ?_⟩ | exact (by show drawK _ _ = true; kernel_rfl : drawX _ _ _) | simp -dsimp (maxSteps := 20000000) (disch := omega) only [simx, zzC, zzB, tys, ite_self, opnL, callB, readsB, stepOp, ofVal, opBuiltin, opLen, PV.sk, scalBin, scalUn, intBin, opLoad, natOf, opConvert, opField, cellsP, oneP, Value.oneCell', opStore, toIV, scalT, scalA, scalC, boxesA, boxesC, zipB_none, zipB_mx, isZ, opZip, zeroP, opAppendZ, opMakeMap, opLookup, mboxB, opUpdate, ↓reduceIte, Nat.reduceSub, Nat.reduceEqDiff, Nat.reduceAdd, Nat.reduceMul, Nat.reduceLT, Nat.reduceLeDiff, Int.reduceToNat, Int.reduceLE, Int.reduceLT, Int.reduceNeg, reduceCtorEq, zzR, gos, Int.reduceAdd, Int.reduceSub, Int.reduceMul, Int.reduceEq, h1'])
  have h1' : ¬ (300 : Int) < y.length := by omega
  by_cases h2 : 300 < y'.length
  · have h2' : (300 : Int) < y'.length := by omega
    refine X_startP (n := 149) (m := 4) (rs := [.tmp 8]) Try.func8 rfl rfl rfl rfl (by decide) fun base => ?_
    repeat (first | ((first | refine X_call_fn2 rfl (by simp only [tys]) ?_ | refine X_dcall_fn2 rfl (by simp only [tys]) ?_); apply Exists.intro; apply And.intro; (focus (simp -dsimp only [simx, zzC, zzB, tys, ite_self, opnL, callB, readsB, stepOp, ofVal, opBuiltin, opLen, PV.sk, scalBin, scalUn, intBin, opLoad, natOf, opConvert, opField, cellsP, oneP, Value.oneCell', opStore, toIV, scalT, scalA, scalC, boxesA, boxesC, zipB_none, zipB_mx, isZ, opZip, zeroP, opAppendZ, opMakeMap, opLookup, mboxB, opUpdate, ↓reduceIte, Nat.reduceSub, Nat.reduceEqDiff, Nat.reduceAdd, Nat.reduceMul, Nat.reduceLT, Nat.reduceLeDiff, Int.reduceToNat, Int.reduceLE, Int.reduceLT, Int.reduceNeg, reduceCtorEq, zzL, if_true, if_false] <;> rfl)); apply Exists.intro; apply And.intro; (focus (first | exact aw))) | refine ⟨(by show drawK _ _ = true; kernel_rfl : drawX _ _ _), ?_⟩ | exact (by show drawK _ _ = true; kernel_rfl : drawX _ _ _) | simp -dsimp (maxSteps := 20000000) (disch := omega) only [simx, zzC, zzB, tys, ite_self, opnL, callB, readsB, stepOp, ofVal, opBuiltin, opLen, PV.sk, scalBin, scalUn, intBin, opLoad, natOf, opConvert, opField, cellsP, oneP, Value.oneCell', opStore, toIV, scalT, scalA, scalC, boxesA, boxesC, zipB_none, zipB_mx, isZ, opZip, zeroP, opAppendZ, opMakeMap, opLookup, mboxB, opUpdate, ↓reduceIte, Nat.reduceSub, Nat.reduceEqDiff, Nat.reduceAdd, Nat.reduceMul, Nat.reduceLT, Nat.reduceLeDiff, Int.reduceToNat, Int.reduceLE, Int.reduceLT, Int.reduceNeg, reduceCtorEq, zzR, gos, Int.reduceAdd, Int.reduceSub, Int.reduceMul, Int.reduceEq, h1', h2'])
  have h2' : ¬ (300 : Int) < y'.length := by omega
  have m1 := may_walk k r n y
  have m2 := may_walk k' r' n' y'
  have d2 := put_walk k' r' n' y' hn' hy'
  unfold putR at d2
  cases hm : mayB k r y with
  | false =>
    rw [hm] at m1
    have d1 := put_walk k r n y hn hy
    unfold putR at d1
    rw [hm] at d1
    cases hm' : mayB k' r' y' with
    | false =>
      rw [hm'] at m2 d2
      refine X_startP (n := 149) (m := 4) (rs := [.tmp 8]) Try.func8 rfl rfl rfl rfl (by decide) fun base => ?_
      repeat (first | ((first | refine X_call_fn2 rfl (by simp only [tys]) ?_ | refine X_dcall_fn2 rfl (by simp only [tys]) ?_); apply Exists.intro; apply And.intro; (focus (simp -dsimp only [simx, zzC, zzB, tys, ite_self, opnL, callB, readsB, stepOp, ofVal, opBuiltin, opLen, PV.sk, scalBin, scalUn, intBin, opLoad, natOf, opConvert, opField, cellsP, oneP, Value.oneCell', opStore, toIV, scalT, scalA, scalC, boxesA, boxesC, zipB_none, zipB_mx, isZ, opZip, zeroP, opAppendZ, opMakeMap, opLookup, mboxB, opUpdate, ↓reduceIte, Nat.reduceSub, Nat.reduceEqDiff, Nat.reduceAdd, Nat.reduceMul, Nat.reduceLT, Nat.reduceLeDiff, Int.reduceToNat, Int.reduceLE, Int.reduceLT, Int.reduceNeg, reduceCtorEq, zzL, if_true, if_false] <;> rfl)); apply Exists.intro; apply And.intro; (focus (first | exact aw | exact d1 | exact d2 | exact m1 | exact m2))) | refine ⟨(by show drawK _ _ = true; kernel_rfl : drawX _ _ _), ?_⟩ | exact (by show drawK _ _ = true; kernel_rfl : drawX _ _ _) | simp -dsimp (maxSteps := 20000000) (disch := omega) only [simx, zzC, zzB, tys, ite_self, opnL, callB, readsB, stepOp, ofVal, opBuiltin, opLen, PV.sk, scalBin, scalUn, intBin, opLoad, natOf, opConvert, opField, cellsP, oneP, Value.oneCell', opStore, toIV, scalT, scalA, scalC, boxesA, boxesC, zipB_none, zipB_mx, isZ, opZip, zeroP, opAppendZ, opMakeMap, opLookup, mboxB, opUpdate, ↓reduceIte, Nat.reduceSub, Nat.reduceEqDiff, Nat.reduceAdd, Nat.reduceMul, Nat.reduceLT, Nat.reduceLeDiff, Int.reduceToNat, Int.reduceLE, Int.reduceLT, Int.reduceNeg, reduceCtorEq, zzR, gos, Int.reduceAdd, Int.reduceSub, Int.reduceMul, Int.reduceEq, h1', h2'])
    | true =>
      rw [hm'] at m2 d2
      refine X_startP (n := 149) (m := 4) (rs := [.tmp 8]) Try.func8 rfl rfl rfl rfl (by decide) fun base => ?_
      repeat (first | ((first | refine X_call_fn2 rfl (by simp only [tys]) ?_ | refine X_dcall_fn2 rfl (by simp only [tys]) ?_); apply Exists.intro; apply And.intro; (focus (simp -dsimp only [simx, zzC, zzB, tys, ite_self, opnL, callB, readsB, stepOp, ofVal, opBuiltin, opLen, PV.sk, scalBin, scalUn, intBin, opLoad, natOf, opConvert, opField, cellsP, oneP, Value.oneCell', opStore, toIV, scalT, scalA, scalC, boxesA, boxesC, zipB_none, zipB_mx, isZ, opZip, zeroP, opAppendZ, opMakeMap, opLookup, mboxB, opUpdate, ↓reduceIte, Nat.reduceSub, Nat.reduceEqDiff, Nat.reduceAdd, Nat.reduceMul, Nat.reduceLT, Nat.reduceLeDiff, Int.reduceToNat, Int.reduceLE, Int.reduceLT, Int.reduceNeg, reduceCtorEq, zzL, if_true, if_false] <;> rfl)); apply Exists.intro; apply And.intro; (focus (first | exact aw | exact d1 | exact d2 | exact m1 | exact m2))) | refine ⟨(by show drawK _ _ = true; kernel_rfl : drawX _ _ _), ?_⟩ | exact (by show drawK _ _ = true; kernel_rfl : drawX _ _ _) | simp -dsimp (maxSteps := 20000000) (disch := omega) only [simx, zzC, zzB, tys, ite_self, opnL, callB, readsB, stepOp, ofVal, opBuiltin, opLen, PV.sk, scalBin, scalUn, intBin, opLoad, natOf, opConvert, opField, cellsP, oneP, Value.oneCell', opStore, toIV, scalT, scalA, scalC, boxesA, boxesC, zipB_none, zipB_mx, isZ, opZip, zeroP, opAppendZ, opMakeMap, opLookup, mboxB, opUpdate, ↓reduceIte, Nat.reduceSub, Nat.reduceEqDiff, Nat.reduceAdd, Nat.reduceMul, Nat.reduceLT, Nat.reduceLeDiff, Int.reduceToNat, Int.reduceLE, Int.reduceLT, Int.reduceNeg, reduceCtorEq, zzR, gos, Int.reduceAdd, Int.reduceSub, Int.reduceMul, Int.reduceEq, h1', h2'])
  | true =>
    rw [hm] at m1
    have d1 := put_own k r n y hn hy hm
    cases hm' : mayB k' r' y' with
    | false =>
      rw [hm'] at m2 d2
      refine X_startP (n := 149) (m := 4) (rs := [.tmp 8]) Try.func8 rfl rfl rfl rfl (by decide) fun base => ?_
      repeat (first | ((first | refine X_call_fn2 rfl (by simp only [tys]) ?_ | refine X_dcall_fn2 rfl (by simp only [tys]) ?_); apply Exists.intro; apply And.intro; (focus (simp -dsimp only [simx, zzC, zzB, tys, ite_self, opnL, callB, readsB, stepOp, ofVal, opBuiltin, opLen, PV.sk, scalBin, scalUn, intBin, opLoad, natOf, opConvert, opField, cellsP, oneP, Value.oneCell', opStore, toIV, scalT, scalA, scalC, boxesA, boxesC, zipB_none, zipB_mx, isZ, opZip, zeroP, opAppendZ, opMakeMap, opLookup, mboxB, opUpdate, ↓reduceIte, Nat.reduceSub, Nat.reduceEqDiff, Nat.reduceAdd, Nat.reduceMul, Nat.reduceLT, Nat.reduceLeDiff, Int.reduceToNat, Int.reduceLE, Int.reduceLT, Int.reduceNeg, reduceCtorEq, zzL, if_true, if_false] <;> rfl)); apply Exists.intro; apply And.intro; (focus (first | exact aw))) | refine ⟨(by show drawK _ _ = true; kernel_rfl : drawX _ _ _), ?_⟩ | exact (by show drawK _ _ = true; kernel_rfl : drawX _ _ _) | simp -dsimp (maxSteps := 20000000) (disch := omega) only [simx, zzC, zzB, tys, ite_self, opnL, callB, readsB, stepOp, ofVal, opBuiltin, opLen, PV.sk, scalBin, scalUn, intBin, opLoad, natOf, opConvert, opField, cellsP, oneP, Value.oneCell', opStore, toIV, scalT, scalA, scalC, boxesA, boxesC, zipB_none, zipB_mx, isZ, opZip, zeroP, opAppendZ, opMakeMap, opLookup, mboxB, opUpdate, ↓reduceIte, Nat.reduceSub, Nat.reduceEqDiff, Nat.reduceAdd, Nat.reduceMul, Nat.reduceLT, Nat.reduceLeDiff, Int.reduceToNat, Int.reduceLE, Int.reduceLT, Int.reduceNeg, reduceCtorEq, gos, Int.reduceAdd, Int.reduceSub, Int.reduceMul, Int.reduceEq, h1', h2'])
      ((first | refine X_call_ad (d1) rfl (by simp only [tys]) (by (simp -dsimp only [simx, zzC, zzB, tys, ite_self, opnL, callB, readsB, stepOp, ofVal, opBuiltin, opLen, PV.sk, scalBin, scalUn, intBin, opLoad, natOf, opConvert, opField, cellsP, oneP, Value.oneCell', opStore, toIV, scalT, scalA, scalC, boxesA, boxesC, zipB_none, zipB_mx, isZ, opZip, zeroP, opAppendZ, opMakeMap, opLookup, mboxB, opUpdate, ↓reduceIte, Nat.reduceSub, Nat.reduceEqDiff, Nat.reduceAdd, Nat.reduceMul, Nat.reduceLT, Nat.reduceLeDiff, Int.reduceToNat, Int.reduceLE, Int.reduceLT, Int.reduceNeg, reduceCtorEq, zzL, if_true, if_false] <;> rfl)) (by simp [Heap.put_at, Heap.none_at, rowH_app]) ?_ | refine X_dcall_ad (d1) rfl (by simp only [tys]) (by (simp -dsimp only [simx, zzC, zzB, tys, ite_self, opnL, callB, readsB, stepOp, ofVal, opBuiltin, opLen, PV.sk, scalBin, scalUn, intBin, opLoad, natOf, opConvert, opField, cellsP, oneP, Value.oneCell', opStore, toIV, scalT, scalA, scalC, boxesA, boxesC, zipB_none, zipB_mx, isZ, opZip, zeroP, opAppendZ, opMakeMap, opLookup, mboxB, opUpdate, ↓reduceIte, Nat.reduceSub, Nat.reduceEqDiff, Nat.reduceAdd, Nat.reduceMul, Nat.reduceLT, Nat.reduceLeDiff, Int.reduceToNat, Int.reduceLE, Int.reduceLT, Int.reduceNeg, reduceCtorEq, zzL, if_true, if_false] <;> rfl)) (by simp [Heap.put_at, Heap.none_at, rowH_app]) ?_))
      repeat (first | ((first | refine X_call_fn2 rfl (by simp only [tys]) ?_ | refine X_dcall_fn2 rfl (by simp only [tys]) ?_); apply Exists.intro; apply And.intro; (focus (simp -dsimp only [simx, zzC, zzB, tys, ite_self, opnL, callB, readsB, stepOp, ofVal, opBuiltin, opLen, PV.sk, scalBin, scalUn, intBin, opLoad, natOf, opConvert, opField, cellsP, oneP, Value.oneCell', opStore, toIV, scalT, scalA, scalC, boxesA, boxesC, zipB_none, zipB_mx, isZ, opZip, zeroP, opAppendZ, opMakeMap, opLookup, mboxB, opUpdate, ↓reduceIte, Nat.reduceSub, Nat.reduceEqDiff, Nat.reduceAdd, Nat.reduceMul, Nat.reduceLT, Nat.reduceLeDiff, Int.reduceToNat, Int.reduceLE, Int.reduceLT, Int.reduceNeg, reduceCtorEq, zzL, if_true, if_false] <;> rfl)); apply Exists.intro; apply And.intro; (focus (first | exact aw | exact d2 | exact m1 | exact m2))) | refine ⟨(by show drawK _ _ = true; kernel_rfl : drawX _ _ _), ?_⟩ | exact (by show drawK _ _ = true; kernel_rfl : drawX _ _ _) | simp -dsimp (maxSteps := 20000000) (disch := omega) only [simx, zzC, zzB, tys, ite_self, opnL, callB, readsB, stepOp, ofVal, opBuiltin, opLen, PV.sk, scalBin, scalUn, intBin, opLoad, natOf, opConvert, opField, cellsP, oneP, Value.oneCell', opStore, toIV, scalT, scalA, scalC, boxesA, boxesC, zipB_none, zipB_mx, isZ, opZip, zeroP, opAppendZ, opMakeMap, opLookup, mboxB, opUpdate, ↓reduceIte, Nat.reduceSub, Nat.reduceEqDiff, Nat.reduceAdd, Nat.reduceMul, Nat.reduceLT, Nat.reduceLeDiff, Int.reduceToNat, Int.reduceLE, Int.reduceLT, Int.reduceNeg, reduceCtorEq, zzR, gos, Int.reduceAdd, Int.reduceSub, Int.reduceMul, Int.reduceEq, h1', h2'])
    | true =>
      rw [hm'] at m2 d2
      simp only [if_true] at d2
      have nB := nextP [] hm hn hy
      have nD := nextP [] hm' hn' hy'
      rw [List.append_nil] at nB nD
      have oB := next_put (t := []) hm hn hy
      rw [List.append_nil] at oB
      have nBD := nextP (putB k' r' n' y') hm hn hy
      obtain ⟨k1, k2, r1, r2, yl⟩ := may_iff.1 hm
      obtain ⟨k1', k2', r1', r2', yl'⟩ := may_iff.1 hm'
      have bB := putB_byts (n := n) (b := y) (k := k) (r := r) ⟨by omega, by omega⟩ ⟨by omega, by omega⟩
      have bD := putB_byts (n := n') (b := y') (k := k') (r := r') ⟨by omega, by omega⟩ ⟨by omega, by omega⟩
      have lB := putB_len k r n y
      have lD := putB_len k' r' n' y'
      have hinj : putB k r n y = putB k' r' n' y' ↔ (k, r, n, y) = (k', r', n', y') := ⟨fun h => by rw [h, nD] at nB; exact (Prod.mk.inj nB).1.symm, fun h => by cases h; rfl⟩
      generalize putB k r n y = B at *
      generalize putB k' r' n' y' = D at *
      generalize hm0 : 12 + 8 * y.length = m at *
      generalize hm0' : 12 + 8 * y'.length = m' at *
      rw [lb, lD] at d2
      have e1 := next_walk (B ++ D) (by rw [List.length_append, mx_len]; omega) (bB.app bD)
      rw [nBD, lb, List.length_append, lB, lD] at e1
      have e2 := read_walk D (by rw [mx_len]; omega) bD
      rw [show readR D = ((k', r', n', y'), 0) by unfold readR; rw [nD]; simp [lD], lb, lD] at e2
      have e3 := read_walk (B ++ D) (by rw [List.length_append, mx_len]; omega) (bB.app bD)
      rw [show readR (B ++ D) = (fr0, 2) by unfold readR; rw [nBD, List.length_append, lB, lD]; simp; omega, lb, List.length_append, lB, lD] at e3
      have s1 := samef_walk (k, r, n, y) (k, r, n, y) (by rw [mx_len]; show y.length ≤ _; omega)
      have s2 := samef_walk (k', r', n', y') (k', r', n', y') (by rw [mx_len]; show y'.length ≤ _; omega)
      have s3 := samef_walk (k, r, n, y) (k', r', n', y') (by rw [mx_len]; show y.length ≤ _; omega)
      have s4 := samef_walk fr0 fr0 (by decide)
      rw [decide_eq_true rfl] at s1 s2 s4
      have b1 : (B.map ib).length = m := by rw [List.length_map, lB]
      have b2 : (D.map ib).length = m' := by rw [List.length_map, lD]
      refine X_startP (n := 149) (m := 4) (rs := [.tmp 8]) Try.func8 rfl rfl rfl rfl (by decide) fun base => ?_
      repeat (first | ((first | refine X_call_fn2 rfl (by simp only [tys]) ?_ | refine X_dcall_fn2 rfl (by simp only [tys]) ?_); apply Exists.intro; apply And.intro; (focus (simp -dsimp only [simx, zzC, zzB, tys, ite_self, opnL, callB, readsB, stepOp, ofVal, opBuiltin, opLen, PV.sk, scalBin, scalUn, intBin, opLoad, natOf, opConvert, opField, cellsP, oneP, Value.oneCell', opStore, toIV, scalT, scalA, scalC, boxesA, boxesC, zipB_none, zipB_mx, isZ, opZip, zeroP, opAppendZ, opMakeMap, opLookup, mboxB, opUpdate, ↓reduceIte, Nat.reduceSub, Nat.reduceEqDiff, Nat.reduceAdd, Nat.reduceMul, Nat.reduceLT, Nat.reduceLeDiff, Int.reduceToNat, Int.reduceLE, Int.reduceLT, Int.reduceNeg, reduceCtorEq, zzL, if_true, if_false] <;> rfl)); apply Exists.intro; apply And.intro; (focus (first | exact aw))) | refine ⟨(by show drawK _ _ = true; kernel_rfl : drawX _ _ _), ?_⟩ | exact (by show drawK _ _ = true; kernel_rfl : drawX _ _ _) | simp -dsimp (maxSteps := 20000000) (disch := omega) only [simx, zzC, zzB, tys, ite_self, opnL, callB, readsB, stepOp, ofVal, opBuiltin, opLen, PV.sk, scalBin, scalUn, intBin, opLoad, natOf, opConvert, opField, cellsP, oneP, Value.oneCell', opStore, toIV, scalT, scalA, scalC, boxesA, boxesC, zipB_none, zipB_mx, isZ, opZip, zeroP, opAppendZ, opMakeMap, opLookup, mboxB, opUpdate, ↓reduceIte, Nat.reduceSub, Nat.reduceEqDiff, Nat.reduceAdd, Nat.reduceMul, Nat.reduceLT, Nat.reduceLeDiff, Int.reduceToNat, Int.reduceLE, Int.reduceLT, Int.reduceNeg, reduceCtorEq, gos, Int.reduceAdd, Int.reduceSub, Int.reduceMul, Int.reduceEq, h1', h2'])
      ((first | refine X_call_ad (d1) rfl (by simp only [tys]) (by (simp -dsimp only [simx, zzC, zzB, tys, ite_self, opnL, callB, readsB, stepOp, ofVal, opBuiltin, opLen, PV.sk, scalBin, scalUn, intBin, opLoad, natOf, opConvert, opField, cellsP, oneP, Value.oneCell', opStore, toIV, scalT, scalA, scalC, boxesA, boxesC, zipB_none, zipB_mx, isZ, opZip, zeroP, opAppendZ, opMakeMap, opLookup, mboxB, opUpdate, ↓reduceIte, Nat.reduceSub, Nat.reduceEqDiff, Nat.reduceAdd, Nat.reduceMul, Nat.reduceLT, Nat.reduceLeDiff, Int.reduceToNat, Int.reduceLE, Int.reduceLT, Int.reduceNeg, reduceCtorEq, zzL, if_true, if_false] <;> rfl)) (by simp [Heap.put_at, Heap.none_at, rowH_app]) ?_ | refine X_dcall_ad (d1) rfl (by simp only [tys]) (by (simp -dsimp only [simx, zzC, zzB, tys, ite_self, opnL, callB, readsB, stepOp, ofVal, opBuiltin, opLen, PV.sk, scalBin, scalUn, intBin, opLoad, natOf, opConvert, opField, cellsP, oneP, Value.oneCell', opStore, toIV, scalT, scalA, scalC, boxesA, boxesC, zipB_none, zipB_mx, isZ, opZip, zeroP, opAppendZ, opMakeMap, opLookup, mboxB, opUpdate, ↓reduceIte, Nat.reduceSub, Nat.reduceEqDiff, Nat.reduceAdd, Nat.reduceMul, Nat.reduceLT, Nat.reduceLeDiff, Int.reduceToNat, Int.reduceLE, Int.reduceLT, Int.reduceNeg, reduceCtorEq, zzL, if_true, if_false] <;> rfl)) (by simp [Heap.put_at, Heap.none_at, rowH_app]) ?_))
      repeat (first | ((first | refine X_call_fn2 rfl (by simp only [tys]) ?_ | refine X_dcall_fn2 rfl (by simp only [tys]) ?_); apply Exists.intro; apply And.intro; (focus (simp -dsimp only [simx, zzC, zzB, tys, ite_self, opnL, callB, readsB, stepOp, ofVal, opBuiltin, opLen, PV.sk, scalBin, scalUn, intBin, opLoad, natOf, opConvert, opField, cellsP, oneP, Value.oneCell', opStore, toIV, scalT, scalA, scalC, boxesA, boxesC, zipB_none, zipB_mx, isZ, opZip, zeroP, opAppendZ, opMakeMap, opLookup, mboxB, opUpdate, ↓reduceIte, Nat.reduceSub, Nat.reduceEqDiff, Nat.reduceAdd, Nat.reduceMul, Nat.reduceLT, Nat.reduceLeDiff, Int.reduceToNat, Int.reduceLE, Int.reduceLT, Int.reduceNeg, reduceCtorEq, zzL, if_true, if_false] <;> rfl)); apply Exists.intro; apply And.intro; (focus (first | exact d2))) | refine ⟨(by show drawK _ _ = true; kernel_rfl : drawX _ _ _), ?_⟩ | exact (by show drawK _ _ = true; kernel_rfl : drawX _ _ _) | simp -dsimp (maxSteps := 20000000) (disch := omega) only [simx, zzC, zzB, tys, ite_self, opnL, callB, readsB, stepOp, ofVal, opBuiltin, opLen, PV.sk, scalBin, scalUn, intBin, opLoad, natOf, opConvert, opField, cellsP, oneP, Value.oneCell', opStore, toIV, scalT, scalA, scalC, boxesA, boxesC, zipB_none, zipB_mx, isZ, opZip, zeroP, opAppendZ, opMakeMap, opLookup, mboxB, opUpdate, ↓reduceIte, Nat.reduceSub, Nat.reduceEqDiff, Nat.reduceAdd, Nat.reduceMul, Nat.reduceLT, Nat.reduceLeDiff, Int.reduceToNat, Int.reduceLE, Int.reduceLT, Int.reduceNeg, reduceCtorEq, gos, Int.reduceAdd, Int.reduceSub, Int.reduceMul, Int.reduceEq, h1', h2'])
      have b3 : (B.map ib).take m = B.map ib := List.take_of_length_le (by omega)
      refine X_append_fullY (n := 0) (m := m) (cs := []) (k2 := .own ((5, 1) :: base) 0 1 m m) 5 [.int .u8 0] (B.map ib) (by simp only [tys]) (by simp only [tys]) rfl rfl rfl (by simp [SK.cells, Heap.put_at, b1, b3]) (by simp [Heap.put_at]) rfl (by omega) (by simp only [tys]; omega) (by rw [mx_len]; omega) b1 ?_
      rw [Nat.zero_add m, List.nil_append]
      repeat (first | refine ⟨(by show drawK _ _ = true; kernel_rfl : drawX _ _ _), ?_⟩ | exact (by show drawK _ _ = true; kernel_rfl : drawX _ _ _) | simp -dsimp (maxSteps := 20000000) (disch := omega) only [simx, zzC, zzB, tys, ite_self, opnL, callB, readsB, stepOp, ofVal, opBuiltin, opLen, PV.sk, scalBin, scalUn, intBin, opLoad, natOf, opConvert, opField, cellsP, oneP, Value.oneCell', opStore, toIV, scalT, scalA, scalC, boxesA, boxesC, zipB_none, zipB_mx, isZ, opZip, zeroP, opAppendZ, opMakeMap, opLookup, mboxB, opUpdate, ↓reduceIte, Nat.reduceSub, Nat.reduceEqDiff, Nat.reduceAdd, Nat.reduceMul, Nat.reduceLT, Nat.reduceLeDiff, Int.reduceToNat, Int.reduceLE, Int.reduceLT, Int.reduceNeg, reduceCtorEq, gos, Int.reduceAdd, Int.reduceSub, Int.reduceMul, Int.reduceEq])
      refine X_append_full 5 [.int .u8 0] (D.map ib) (by simp only [tys]) (by simp only [tys]) rfl (by simp [Heap.put_at]) b1 (by omega) b2 (by simp only [tys]; omega) (by rw [mx_len]; omega) ?_
      rw [← List.map_append]
      have b4 : ((B ++ D).map ib).length = m + m' := by rw [List.length_map, List.length_append, lB, lD]
      have b5 : ((B ++ D).map ib).take (m + m') = (B ++ D).map ib := List.take_of_length_le (by omega)
      have b6 : ((B ++ D).map ib).drop m = D.map ib := by rw [List.map_append, ← b1, List.drop_left' rfl]
      have b7 : (D.map ib).take m' = D.map ib := List.take_of_length_le (by omega)
      have g1 : m + m' - m = m' := by omega
      have g2 : m ≤ m + m' := by omega
      repeat (first | ((first | refine X_call_fn2 rfl (by simp only [tys]) ?_ | refine X_dcall_fn2 rfl (by simp only [tys]) ?_); apply Exists.intro; apply And.intro; (focus (simp -dsimp only [simx, zzC, zzB, tys, ite_self, opnL, callB, readsB, stepOp, ofVal, opBuiltin, opLen, PV.sk, scalBin, scalUn, intBin, opLoad, natOf, opConvert, opField, cellsP, oneP, Value.oneCell', opStore, toIV, scalT, scalA, scalC, boxesA, boxesC, zipB_none, zipB_mx, isZ, opZip, zeroP, opAppendZ, opMakeMap, opLookup, mboxB, opUpdate, ↓reduceIte, Nat.reduceSub, Nat.reduceEqDiff, Nat.reduceAdd, Nat.reduceMul, Nat.reduceLT, Nat.reduceLeDiff, Int.reduceToNat, Int.reduceLE, Int.reduceLT, Int.reduceNeg, reduceCtorEq, zzL, if_true, if_false, b4, b5, b6, b7, g1, Nat.le_refl, Nat.mul_one, Nat.zero_add, List.drop_zero] <;> rfl)); apply Exists.intro; apply And.intro; (focus (first | exact e1 | exact e2 | exact e3 | exact s1 | exact s2))) | refine ⟨(by show drawK _ _ = true; kernel_rfl : drawX _ _ _), ?_⟩ | exact (by show drawK _ _ = true; kernel_rfl : drawX _ _ _) | simp -dsimp (maxSteps := 20000000) (disch := omega) only [simx, zzC, zzB, tys, ite_self, opnL, callB, readsB, stepOp, ofVal, opBuiltin, opLen, PV.sk, scalBin, scalUn, intBin, opLoad, natOf, opConvert, opField, cellsP, oneP, Value.oneCell', opStore, toIV, scalT, scalA, scalC, boxesA, boxesC, zipB_none, zipB_mx, isZ, opZip, zeroP, opAppendZ, opMakeMap, opLookup, mboxB, opUpdate, ↓reduceIte, Nat.reduceSub, Nat.reduceEqDiff, Nat.reduceAdd, Nat.reduceMul, Nat.reduceLT, Nat.reduceLeDiff, Int.reduceToNat, Int.reduceLE, Int.reduceLT, Int.reduceNeg, reduceCtorEq, gos, Int.reduceAdd, Int.reduceSub, Int.reduceMul, Int.reduceEq, beq_self_eq_true, g1, g2, Nat.zero_add, SK.len, Option.isNone_none, Option.map_some, Nat.mul_one])
      rw [opBytes_w (fz := false) (cs := B.map ib) (l := B) (by simp [Heap.put_at]) (by omega) (by omega) (by simp [b3])]
      obtain ⟨sB, hsB⟩ : ∃ sv, str B = .string sv := ⟨_, rfl⟩
      obtain ⟨sD, hsD⟩ : ∃ sv, str D = .string sv := ⟨_, rfl⟩
      have s5 : ∀ h, opBytes Try.prog h 5 (.i (.l m' (D.map ib))) = some (.i (.v (.string sD))) := fun h => by rw [← hsD]; exact opBytes_lb lD
      have hse : (sB.toList == sD.toList) = decide ((k, r, n, y) = (k', r', n', y')) := by
        by_cases h : (k, r, n, y) = (k', r', n', y')
        · rw [decide_eq_true h]
          have := hinj.2 h
          rw [this, hsD] at hsB
          cases hsB
          exact beq_self_eq_true _
        · rw [decide_eq_false h]
          exact str_ne bB bD (fun e => h (hinj.1 e)) hsB hsD
      rw [hsB]
      generalize decide ((k, r, n, y) = (k', r', n', y')) = q at s3 hse
      repeat (first | ((first | refine X_call_fn2 rfl (by simp only [tys]) ?_ | refine X_dcall_fn2 rfl (by simp only [tys]) ?_); apply Exists.intro; apply And.intro; (focus (simp -dsimp only [simx, zzC, zzB, tys, ite_self, opnL, callB, readsB, stepOp, ofVal, opBuiltin, opLen, PV.sk, scalBin, scalUn, intBin, opLoad, natOf, opConvert, opField, cellsP, oneP, Value.oneCell', opStore, toIV, scalT, scalA, scalC, boxesA, boxesC, zipB_none, zipB_mx, isZ, opZip, zeroP, opAppendZ, opMakeMap, opLookup, mboxB, opUpdate, ↓reduceIte, Nat.reduceSub, Nat.reduceEqDiff, Nat.reduceAdd, Nat.reduceMul, Nat.reduceLT, Nat.reduceLeDiff, Int.reduceToNat, Int.reduceLE, Int.reduceLT, Int.reduceNeg, reduceCtorEq, zzL, if_true, if_false] <;> rfl)); apply Exists.intro; apply And.intro; (focus (first | exact s3))) | refine ⟨(by show drawK _ _ = true; kernel_rfl : drawX _ _ _), ?_⟩ | exact (by show drawK _ _ = true; kernel_rfl : drawX _ _ _) | simp -dsimp (maxSteps := 20000000) (disch := omega) only [simx, zzC, zzB, tys, ite_self, opnL, callB, readsB, stepOp, ofVal, opBuiltin, opLen, PV.sk, scalBin, scalUn, intBin, opLoad, natOf, opConvert, opField, cellsP, oneP, Value.oneCell', opStore, toIV, scalT, scalA, scalC, boxesA, boxesC, zipB_none, zipB_mx, isZ, opZip, zeroP, opAppendZ, opMakeMap, opLookup, mboxB, opUpdate, ↓reduceIte, Nat.reduceSub, Nat.reduceEqDiff, Nat.reduceAdd, Nat.reduceMul, Nat.reduceLT, Nat.reduceLeDiff, Int.reduceToNat, Int.reduceLE, Int.reduceLT, Int.reduceNeg, reduceCtorEq, gos, Int.reduceAdd, Int.reduceSub, Int.reduceMul, Int.reduceEq, beq_self_eq_true, s5, hse])
      have q0 : ((m : Int) - 9) = ((m - 9 : Nat) : Int) := by omega
      have q1 : IntKind.i64.wrap ((m - 9 : Nat) : Int) = ((m - 9 : Nat) : Int) := iw_of (by omega) (by omega)
      have q2 : ¬ ((m - 9 : Nat) : Int) = 0 := by omega
      obtain ⟨A, rfl⟩ := Int.eq_ofNat_of_zero_le ha.1
      have q3 : (A : Int) % ((m - 9 : Nat) : Int) = ((A % (m - 9) : Nat) : Int) := rfl
      obtain ⟨p, hp⟩ : ∃ p, p = 9 + A % (m - 9) := ⟨_, rfl⟩
      have q4 : (9 : Int) + ((A % (m - 9) : Nat) : Int) = (p : Int) := by omega
      have q5 : p < m := by have := Nat.mod_lt A (show 0 < m - 9 by omega); omega
      have q6 : (B.map ib)[p]? = some (ib (B.getD p 0)) := by rw [List.getElem?_map, getD_at (by omega)]; rfl
      have q8 : IntKind.i64.wrap (A : Int) = A := iw_of (by omega) (by omega)
      repeat (first | refine ⟨(by show drawK _ _ = true; kernel_rfl : drawX _ _ _), ?_⟩ | exact (by show drawK _ _ = true; kernel_rfl : drawX _ _ _) | simp -dsimp (maxSteps := 20000000) (disch := omega) only [simx, zzC, zzB, tys, ite_self, opnL, callB, readsB, stepOp, ofVal, opBuiltin, opLen, PV.sk, scalBin, scalUn, intBin, opLoad, natOf, opConvert, opField, cellsP, oneP, Value.oneCell', opStore, toIV, scalT, scalA, scalC, boxesA, boxesC, zipB_none, zipB_mx, isZ, opZip, zeroP, opAppendZ, opMakeMap, opLookup, mboxB, opUpdate, ↓reduceIte, Nat.reduceSub, Nat.reduceEqDiff, Nat.reduceAdd, Nat.reduceMul, Nat.reduceLT, Nat.reduceLeDiff, Int.reduceToNat, Int.reduceLE, Int.reduceLT, Int.reduceNeg, reduceCtorEq, gos, Int.reduceAdd, Int.reduceSub, Int.reduceMul, Int.reduceEq, SK.len, b1, q0, q1, q2, q3, q4, q5, q6, q8])
      by_cases hx : B.getD p 0 = a3
      · repeat (first | refine ⟨(by show drawK _ _ = true; kernel_rfl : drawX _ _ _), ?_⟩ | exact (by show drawK _ _ = true; kernel_rfl : drawX _ _ _) | simp -dsimp (maxSteps := 20000000) (disch := omega) only [simx, zzC, zzB, tys, ite_self, opnL, callB, readsB, stepOp, ofVal, opBuiltin, opLen, PV.sk, scalBin, scalUn, intBin, opLoad, natOf, opConvert, opField, cellsP, oneP, Value.oneCell', opStore, toIV, scalT, scalA, scalC, boxesA, boxesC, zipB_none, zipB_mx, isZ, opZip, zeroP, opAppendZ, opMakeMap, opLookup, mboxB, opUpdate, ↓reduceIte, Nat.reduceSub, Nat.reduceEqDiff, Nat.reduceAdd, Nat.reduceMul, Nat.reduceLT, Nat.reduceLeDiff, Int.reduceToNat, Int.reduceLE, Int.reduceLT, Int.reduceNeg, reduceCtorEq, zzR, gos, Int.reduceAdd, Int.reduceSub, Int.reduceMul, Int.reduceEq, hx, beq_self_eq_true])
      · have e5 := read_walk (B.set p a3) (by rw [List.length_set, mx_len]; omega) (byts_set bB hc)
        have nz := next_set bB oB lB.symm (by have := oB.m1; omega) (p := p) (by omega) (by omega) hc hx
        rw [show readR (B.set p a3) = (fr0, 4) by unfold readR; rw [nz]; rfl, lb, List.length_set, lB, List.map_set] at e5
        have b8 : ((B.map ib).set p (ib a3)).length = m := by rw [List.length_set, b1]
        have b9 : ((B.map ib).set p (ib a3)).take m = (B.map ib).set p (ib a3) := List.take_of_length_le (by omega)
        have q7 : p + 1 ≤ m := by omega
        have qs : (B.map ib).take p ++ [ib a3] ++ (B.map ib).drop (p + 1) = (B.map ib).set p (ib a3) := by
          rw [List.set_eq_take_append_cons_drop, if_pos (by omega)]; simp
        repeat (first | ((first | refine X_call_fn2 rfl (by simp only [tys]) ?_ | refine X_dcall_fn2 rfl (by simp only [tys]) ?_); apply Exists.intro; apply And.intro; (focus (simp -dsimp only [simx, zzC, zzB, tys, ite_self, opnL, callB, readsB, stepOp, ofVal, opBuiltin, opLen, PV.sk, scalBin, scalUn, intBin, opLoad, natOf, opConvert, opField, cellsP, oneP, Value.oneCell', opStore, toIV, scalT, scalA, scalC, boxesA, boxesC, zipB_none, zipB_mx, isZ, opZip, zeroP, opAppendZ, opMakeMap, opLookup, mboxB, opUpdate, ↓reduceIte, Nat.reduceSub, Nat.reduceEqDiff, Nat.reduceAdd, Nat.reduceMul, Nat.reduceLT, Nat.reduceLeDiff, Int.reduceToNat, Int.reduceLE, Int.reduceLT, Int.reduceNeg, reduceCtorEq, zzL, if_true, if_false, b8, b9, Nat.zero_add, Nat.mul_one, Nat.le_refl, List.drop_zero] <;> rfl)); apply Exists.intro; apply And.intro; (focus (first | exact e5 | exact s4))) | refine ⟨(by show drawK _ _ = true; kernel_rfl : drawX _ _ _), ?_⟩ | exact (by show drawK _ _ = true; kernel_rfl : drawX _ _ _) | simp -dsimp (maxSteps := 20000000) (disch := omega) only [simx, zzC, zzB, tys, ite_self, opnL, callB, readsB, stepOp, ofVal, opBuiltin, opLen, PV.sk, scalBin, scalUn, intBin, opLoad, natOf, opConvert, opField, cellsP, oneP, Value.oneCell', opStore, toIV, scalT, scalA, scalC, boxesA, boxesC, zipB_none, zipB_mx, isZ, opZip, zeroP, opAppendZ, opMakeMap, opLookup, mboxB, opUpdate, ↓reduceIte, Nat.reduceSub, Nat.reduceEqDiff, Nat.reduceAdd, Nat.reduceMul, Nat.reduceLT, Nat.reduceLeDiff, Int.reduceToNat, Int.reduceLE, Int.reduceLT, Int.reduceNeg, reduceCtorEq, zzR, gos, Int.reduceAdd, Int.reduceSub, Int.reduceMul, Int.reduceEq, hx, beq_self_eq_true, q5, q7, qs, b1])
end Go.Proofs.Ytkhjfphenflefaa.TM
