/- Layer 11: a frame is put. -/
import Derived.Test.YtkhjfphenflefaaWFrmB
import Derived.Test.YtkhjfphenflefaaWIterG
namespace Go.Proofs.Ytkhjfphenflefaa.TM
open Go Go.RowKit
set_option linter.unusedVariables false
set_option linter.defProp false
set_option linter.unusedSimpArgs false
attribute [local irreducible] K W WOps Effs Xg Xo Xr Xdg Xdo Xdr Xif CallsP CallR

theorem X_append_full {P : Program} {C : CallRel} {h h0 : Heap} {base : Name} {Qf : Ex → List PV → Heap → Prop} {k : List It} {t : List PV} {R : It} {d : Option Tmp} {s b : Name} {ty : TypeId} (e : TypeId) (zs : List Value) {n m : Nat} {cs : List IV} (xs : List IV)
    (he : elemB P ty = some e) (hz : zeroB P e = some zs) (hzl : zs.length = 1) (hb : h b = some (.row false cs)) (hl : cs.length = n) (hm : 0 < m) (hx : xs.length = m)
    (hby : (n + m) * P.bytesOf e ≤ 140737488355328) (hmx : n + m ≤ maxLen)
    (hk : K P C h0 base Qf (R :: k) .normal (putT t d (.view b 0 1 (n + m) (n + m))) (h.put b (.row false (cs ++ xs)))) :
    Xr P C h0 base Qf (opAppend P h s ty (.view b 0 1 n n) (.i (.l m xs))) d R k t h := by
  refine Xr_eq (out := ⟨.view b 0 1 (n + m) (n + m), [(b, .row false (cs ++ xs))]⟩) ?_ hk
  have h1 : ¬ m = 0 := by omega
  subst hl
  simp only [opAppend, he, hz, hzl, PV.sk, SK.cells, SK.len, hx, hb, Nat.mul_one, if_true, h1, if_false, hby, hmx, Nat.zero_lt_one, and_self, true_and, List.length_append]
def headB (k r n : Int) (m : Nat) : List Int := [163, k, r] ++ numL n 4 ++ numL m 2
def bodyB (b : List Int) : List Int := b.flatMap fun x => numL x 8
def allB (k r n : Int) (b : List Int) : List Int := headB k r n b.length ++ bodyB b
def putB (k r n : Int) (b : List Int) : List Int := allB k r n b ++ numL (sumS (allB k r n b)) 3
def putR (k r n : Int) (b : List Int) : List Int × Int := if mayB k r b then (putB k r n b, 0) else ([], 1)
theorem headB_len (k r n : Int) (m : Nat) : (headB k r n m).length = 9 := by simp [headB, numL_len]
theorem bodyB_len (b : List Int) : (bodyB b).length = 8 * b.length := by
  unfold bodyB
  induction b with
  | nil => rfl
  | cons x b ih => rw [List.flatMap_cons, List.length_append, ih, numL_len, List.length_cons]; omega
theorem bodyB_take {b : List Int} {j : Nat} (h : j < b.length) : bodyB (b.take (j + 1)) = bodyB (b.take j) ++ numL b[j] 8 := by
  unfold bodyB; rw [List.take_succ_eq_append_getElem h, List.flatMap_append]; simp
theorem bodyB_byts (b : List Int) : Byts (bodyB b) := fun x hx => by
  obtain ⟨a, _, ha⟩ := List.mem_flatMap.1 hx
  exact numL_byts a 8 x ha
theorem headB_byts {k r n : Int} {m : Nat} (hk : Byt k) (hr : Byt r) : Byts (headB k r n m) := by
  unfold headB
  refine Byts.app (Byts.app (fun x hx => ?_) (numL_byts _ _)) (numL_byts _ _)
  simp at hx
  rcases hx with rfl | rfl | rfl
  · exact ⟨by omega, by omega⟩
  · exact hk
  · exact hr
theorem allB_len (k r n : Int) (b : List Int) : (allB k r n b).length = 9 + 8 * b.length := by rw [allB, List.length_append, headB_len, bodyB_len]
theorem allB_byts {k r n : Int} {b : List Int} (hk : Byt k) (hr : Byt r) : Byts (allB k r n b) := (headB_byts hk hr).app (bodyB_byts b)
theorem putB_len (k r n : Int) (b : List Int) : (putB k r n b).length = 12 + 8 * b.length := by rw [putB, List.length_append, allB_len, numL_len]; omega
theorem putB_byts {k r n : Int} {b : List Int} (hk : Byt k) (hr : Byt r) : Byts (putB k r n b) := (allB_byts hk hr).app (numL_byts _ _)
theorem head_own {k r n : Int} {m : Nat} : CallsO Try.prog 61 [.i (.l 3 [.l 3 [ib 163, ib k, ib r], .l 4 ((numL n 4).map ib), .l 2 ((numL m 2).map ib)])] 1 9 9 ((headB k r n m).map ib) := by
  have e : [[ib 163, ib k, ib r], (numL n 4).map ib, (numL m 2).map ib].flatten = (headB k r n m).map ib := by simp [headB]
  have d := concatB_own [[ib 163, ib k, ib r], (numL n 4).map ib, (numL m 2).map ib] (by show 3 ≤ 4398046511104; decide) (by rw [e, List.length_map, headB_len]; decide) (by rw [e, List.length_map, headB_len]; decide)
  rw [e, List.length_map, headB_len] at d
  simpa [llL, ivN, numL_len] using d
theorem put_walk (k r n : Int) (b : List Int) (hn : 0 ≤ n ∧ n < 4294967296) (hb : ∀ a ∈ b, W64 a) : CallsP Try.prog 35 [frP k r n b] (.tup [lb (putR k r n b).1, i64 (putR k r n b).2]) := by
  have q1 := may_walk k r n b
  unfold putR
  cases h1 : mayB k r b with
  | false =>
    rw [h1] at q1
    refine X_startP (n := 46) (m := 1) (rs := [.tmp 2, .tmp 3]) Try.func35 rfl rfl rfl rfl (by decide) fun base => ?_
    repeat (first | ((first | refine X_call_fn2 rfl (by simp only [tys]) ?_ | refine X_dcall_fn2 rfl (by simp only [tys]) ?_); apply Exists.intro; apply And.intro; (focus (simp -dsimp only [simx, zzC, zzB, tys, ite_self, opnL, callB, readsB, stepOp, ofVal, opBuiltin, opLen, PV.sk, scalBin, scalUn, intBin, opLoad, natOf, opConvert, opField, cellsP, oneP, Value.oneCell', opStore, toIV, scalT, scalA, scalC, boxesA, boxesC, zipB_none, zipB_mx, isZ, opZip, zeroP, opAppendZ, opMakeMap, opLookup, mboxB, opUpdate, ↓reduceIte, Nat.reduceSub, Nat.reduceEqDiff, Nat.reduceAdd, Nat.reduceMul, Nat.reduceLT, Nat.reduceLeDiff, Int.reduceToNat, Int.reduceLE, Int.reduceLT, Int.reduceNeg, reduceCtorEq, zzL, if_true, if_false] <;> rfl)); apply Exists.intro; apply And.intro; (focus (first | exact q1))) | refine ⟨(by show drawK _ _ = true; kernel_rfl : drawX _ _ _), ?_⟩ | exact (by show drawK _ _ = true; kernel_rfl : drawX _ _ _) | simp -dsimp (maxSteps := 20000000) (disch := omega) only [simx, zzC, zzB, tys, ite_self, opnL, callB, readsB, stepOp, ofVal, opBuiltin, opLen, PV.sk, scalBin, scalUn, intBin, opLoad, natOf, opConvert, opField, cellsP, oneP, Value.oneCell', opStore, toIV, scalT, scalA, scalC, boxesA, boxesC, zipB_none, zipB_mx, isZ, opZip, zeroP, opAppendZ, opMakeMap, opLookup, mboxB, opUpdate, ↓reduceIte, Nat.reduceSub, Nat.reduceEqDiff, Nat.reduceAdd, Nat.reduceMul, Nat.reduceLT, Nat.reduceLeDiff, Int.reduceToNat, Int.reduceLE, Int.reduceLT, Int.reduceNeg, reduceCtorEq, zzR, gos, Int.reduceAdd, Int.reduceSub, Int.reduceMul, Int.reduceEq])
    rfl
  | true =>
    rw [h1] at q1
    obtain ⟨k1, k2, r1, r2, b1⟩ := may_iff.1 h1
    have e1 : IntKind.u8.wrap k = k := by rw [show IntKind.u8.wrap k = k % 256 by simp [IntKind.wrap, IntKind.bits, IntKind.signed]]; omega
    have e2 : IntKind.u8.wrap r = r := by rw [show IntKind.u8.wrap r = r % 256 by simp [IntKind.wrap, IntKind.bits, IntKind.signed]]; omega
    have e3 : IntKind.u64.wrap n = n := uw_of (by omega) (by omega)
    have e4 : IntKind.u64.wrap (b.length : Int) = b.length := uw_of (by omega) (by omega)
    have d1 := number_walk n 4 ⟨by omega, by omega⟩ (by omega) (by omega)
    have d2 := number_walk b.length 2 ⟨by omega, by omega⟩ (by omega) (by omega)
    rw [lb, numL_len] at d1 d2
    have dh := head_own (k := k) (r := r) (n := n) (m := b.length)
    have hl := headB_len k r n b.length
    simp only [if_true]
    have hs : sumS (allB k r n b) = sumS (allB k r n b) := rfl
    have ae : allB k r n b = headB k r n b.length ++ bodyB b := rfl
    have pe : putB k r n b = allB k r n b ++ numL (sumS (allB k r n b)) 3 := rfl
    have hal := allB_len k r n b
    have d3 := sum_walk (allB k r n b) (by rw [hal, mx_len]; omega) (allB_byts ⟨by omega, by omega⟩ ⟨by omega, by omega⟩)
    have sb := sumS_bd (allB k r n b)
    have d4 := number_walk (sumS (allB k r n b)) 3 ⟨by omega, by omega⟩ (by omega) (by omega)
    rw [lb, numL_len] at d4
    have tl3 := numL_len (sumS (allB k r n b)) 3
    have e5 : IntKind.u64.wrap (sumS (allB k r n b)) = sumS (allB k r n b) := uw_of (by omega) (by omega)
    generalize numL (sumS (allB k r n b)) 3 = S3 at pe d4 tl3
    generalize sumS (allB k r n b) = S at d3 d4 e5 sb
    generalize headB k r n b.length = Hd at dh hl ae
    generalize numL n 4 = N4 at d1 dh
    generalize numL b.length 2 = N2 at d2 dh
    refine X_startP (n := 46) (m := 1) (rs := [.tmp 2, .tmp 3]) Try.func35 rfl rfl rfl rfl (by decide) fun base => ?_
    repeat (first | ((first | refine X_call_fn2 rfl (by simp only [tys]) ?_ | refine X_dcall_fn2 rfl (by simp only [tys]) ?_); apply Exists.intro; apply And.intro; (focus (simp -dsimp only [simx, zzC, zzB, tys, ite_self, opnL, callB, readsB, stepOp, ofVal, opBuiltin, opLen, PV.sk, scalBin, scalUn, intBin, opLoad, natOf, opConvert, opField, cellsP, oneP, Value.oneCell', opStore, toIV, scalT, scalA, scalC, boxesA, boxesC, zipB_none, zipB_mx, isZ, opZip, zeroP, opAppendZ, opMakeMap, opLookup, mboxB, opUpdate, ↓reduceIte, Nat.reduceSub, Nat.reduceEqDiff, Nat.reduceAdd, Nat.reduceMul, Nat.reduceLT, Nat.reduceLeDiff, Int.reduceToNat, Int.reduceLE, Int.reduceLT, Int.reduceNeg, reduceCtorEq, zzL, if_true, if_false] <;> rfl)); apply Exists.intro; apply And.intro; (focus (first | exact q1 | exact d1 | exact d2))) | refine ⟨(by show drawK _ _ = true; kernel_rfl : drawX _ _ _), ?_⟩ | exact (by show drawK _ _ = true; kernel_rfl : drawX _ _ _) | simp -dsimp (maxSteps := 20000000) (disch := omega) only [simx, zzC, zzB, tys, ite_self, opnL, callB, readsB, stepOp, ofVal, opBuiltin, opLen, PV.sk, scalBin, scalUn, intBin, opLoad, natOf, opConvert, opField, cellsP, oneP, Value.oneCell', opStore, toIV, scalT, scalA, scalC, boxesA, boxesC, zipB_none, zipB_mx, isZ, opZip, zeroP, opAppendZ, opMakeMap, opLookup, mboxB, opUpdate, ↓reduceIte, Nat.reduceSub, Nat.reduceEqDiff, Nat.reduceAdd, Nat.reduceMul, Nat.reduceLT, Nat.reduceLeDiff, Int.reduceToNat, Int.reduceLE, Int.reduceLT, Int.reduceNeg, reduceCtorEq, gos, Int.reduceAdd, Int.reduceSub, Int.reduceMul, Int.reduceEq, e1, e2, e3, e4])
    ((first | refine X_call_ad (dh.toA) rfl (by simp only [tys]) (by (simp -dsimp only [simx, zzC, zzB, tys, ite_self, opnL, callB, readsB, stepOp, ofVal, opBuiltin, opLen, PV.sk, scalBin, scalUn, intBin, opLoad, natOf, opConvert, opField, cellsP, oneP, Value.oneCell', opStore, toIV, scalT, scalA, scalC, boxesA, boxesC, zipB_none, zipB_mx, isZ, opZip, zeroP, opAppendZ, opMakeMap, opLookup, mboxB, opUpdate, ↓reduceIte, Nat.reduceSub, Nat.reduceEqDiff, Nat.reduceAdd, Nat.reduceMul, Nat.reduceLT, Nat.reduceLeDiff, Int.reduceToNat, Int.reduceLE, Int.reduceLT, Int.reduceNeg, reduceCtorEq, zzL, if_true, if_false] <;> rfl)) (by simp [Heap.put_at, Heap.none_at, rowH_app]) ?_ | refine X_dcall_ad (dh.toA) rfl (by simp only [tys]) (by (simp -dsimp only [simx, zzC, zzB, tys, ite_self, opnL, callB, readsB, stepOp, ofVal, opBuiltin, opLen, PV.sk, scalBin, scalUn, intBin, opLoad, natOf, opConvert, opField, cellsP, oneP, Value.oneCell', opStore, toIV, scalT, scalA, scalC, boxesA, boxesC, zipB_none, zipB_mx, isZ, opZip, zeroP, opAppendZ, opMakeMap, opLookup, mboxB, opUpdate, ↓reduceIte, Nat.reduceSub, Nat.reduceEqDiff, Nat.reduceAdd, Nat.reduceMul, Nat.reduceLT, Nat.reduceLeDiff, Int.reduceToNat, Int.reduceLE, Int.reduceLT, Int.reduceNeg, reduceCtorEq, zzL, if_true, if_false] <;> rfl)) (by simp [Heap.put_at, Heap.none_at, rowH_app]) ?_))
    repeat (first | refine ⟨(by show drawK _ _ = true; kernel_rfl : drawX _ _ _), ?_⟩ | exact (by show drawK _ _ = true; kernel_rfl : drawX _ _ _) | simp -dsimp (maxSteps := 20000000) (disch := omega) only [simx, zzC, zzB, tys, ite_self, opnL, callB, readsB, stepOp, ofVal, opBuiltin, opLen, PV.sk, scalBin, scalUn, intBin, opLoad, natOf, opConvert, opField, cellsP, oneP, Value.oneCell', opStore, toIV, scalT, scalA, scalC, boxesA, boxesC, zipB_none, zipB_mx, isZ, opZip, zeroP, opAppendZ, opMakeMap, opLookup, mboxB, opUpdate, ↓reduceIte, Nat.reduceSub, Nat.reduceEqDiff, Nat.reduceAdd, Nat.reduceMul, Nat.reduceLT, Nat.reduceLeDiff, Int.reduceToNat, Int.reduceLE, Int.reduceLT, Int.reduceNeg, reduceCtorEq, gos, Int.reduceAdd, Int.reduceSub, Int.reduceMul, Int.reduceEq])
    refine X_loopH [4, 29, 30, 31] [(0, 0) :: base, (3, 6) :: base, (3, 16) :: base] (0) (b.length) (fun j => True) (fun j => [(4, .view ((3, 17) :: base) 0 1 (9 + 8 * j) (9 + 8 * j)), (31, i64 j)]) (fun j => Heap.none.put ((3, 17) :: base) (.row false ((Hd ++ bodyB (b.take j)).map ib))) ?_ ?_ ?_ ?_ ?_ (by decide) ?_
    · exact (fgt_cons (by simp only [Heap.none_at]) (by (simp -dsimp only [zzB, tys, ite_self, opnL, callB, readsB, stepOp, ofVal, opBuiltin, opLen, PV.sk, scalBin, scalUn, intBin, opLoad, natOf, opConvert, opField, cellsP, oneP, Value.oneCell', opStore, toIV, scalT, scalA, scalC, boxesA, boxesC, zipB_none, zipB_mx, isZ, opZip, zeroP, opAppendZ, opMakeMap, opLookup, mboxB, opUpdate, ↓reduceIte, Nat.reduceSub, Nat.reduceEqDiff, Nat.reduceAdd, Nat.reduceMul, Nat.reduceLT, Nat.reduceLeDiff, Int.reduceToNat, Int.reduceLE, Int.reduceLT, Int.reduceNeg, reduceCtorEq, notIn_cons, notIn_nil]) <;> simp [refsL, refsP, mem_refs_rowP]) (by repeat (first | exact noVar_none _ | refine noVar_row ?_ | refine noVar_map ?_ | refine noVar_rowH ?_ | refine noVar_var ?_ (by simp [refsL, refsP, mem_refs_rowP]))) (fgt_cons (by simp only [Heap.none_at]) (by (simp -dsimp only [zzB, tys, ite_self, opnL, callB, readsB, stepOp, ofVal, opBuiltin, opLen, PV.sk, scalBin, scalUn, intBin, opLoad, natOf, opConvert, opField, cellsP, oneP, Value.oneCell', opStore, toIV, scalT, scalA, scalC, boxesA, boxesC, zipB_none, zipB_mx, isZ, opZip, zeroP, opAppendZ, opMakeMap, opLookup, mboxB, opUpdate, ↓reduceIte, Nat.reduceSub, Nat.reduceEqDiff, Nat.reduceAdd, Nat.reduceMul, Nat.reduceLT, Nat.reduceLeDiff, Int.reduceToNat, Int.reduceLE, Int.reduceLT, Int.reduceNeg, reduceCtorEq, notIn_cons, notIn_nil]) <;> simp [refsL, refsP, mem_refs_rowP]) (by repeat (first | exact noVar_none _ | refine noVar_row ?_ | refine noVar_map ?_ | refine noVar_rowH ?_ | refine noVar_var ?_ (by simp [refsL, refsP, mem_refs_rowP]))) (fgt_cons (by simp only [Heap.none_at]) (by (simp -dsimp only [zzB, tys, ite_self, opnL, callB, readsB, stepOp, ofVal, opBuiltin, opLen, PV.sk, scalBin, scalUn, intBin, opLoad, natOf, opConvert, opField, cellsP, oneP, Value.oneCell', opStore, toIV, scalT, scalA, scalC, boxesA, boxesC, zipB_none, zipB_mx, isZ, opZip, zeroP, opAppendZ, opMakeMap, opLookup, mboxB, opUpdate, ↓reduceIte, Nat.reduceSub, Nat.reduceEqDiff, Nat.reduceAdd, Nat.reduceMul, Nat.reduceLT, Nat.reduceLeDiff, Int.reduceToNat, Int.reduceLE, Int.reduceLT, Int.reduceNeg, reduceCtorEq, notIn_cons, notIn_nil]) <;> simp [refsL, refsP, mem_refs_rowP]) (by repeat (first | exact noVar_none _ | refine noVar_row ?_ | refine noVar_map ?_ | refine noVar_rowH ?_ | refine noVar_var ?_ (by simp [refsL, refsP, mem_refs_rowP]))) (fgt_nil))))
    · ((simp -dsimp (disch := omega) only [simx, zzB, tys, ite_self, opnL, callB, readsB, stepOp, ofVal, opBuiltin, opLen, PV.sk, scalBin, scalUn, intBin, opLoad, natOf, opConvert, opField, cellsP, oneP, Value.oneCell', opStore, toIV, scalT, scalA, scalC, boxesA, boxesC, zipB_none, zipB_mx, isZ, opZip, zeroP, opAppendZ, opMakeMap, opLookup, mboxB, opUpdate, ↓reduceIte, Nat.reduceSub, Nat.reduceEqDiff, Nat.reduceAdd, Nat.reduceMul, Nat.reduceLT, Nat.reduceLeDiff, Int.reduceToNat, Int.reduceLE, Int.reduceLT, Int.reduceNeg, reduceCtorEq, gos, Int.reduceAdd, Int.reduceSub, Int.reduceMul, Int.reduceEq]) <;> first | rfl | simp [rowP])
    · funext c
      simp (maxSteps := 20000000) only [Heap.drop_at, rowH_app, Heap.put_at, Heap.none_at, List.mem_cons, List.not_mem_nil, or_false]
      by_cases e0 : c = (0, 0) :: base
      · subst e0; simp [bodyB]
      by_cases e1 : c = (3, 6) :: base
      · subst e1; simp [bodyB]
      by_cases e2 : c = (3, 16) :: base
      · subst e2; simp [bodyB]
      by_cases e3 : c = (3, 17) :: base
      · subst e3; simp [bodyB]
      simp [e0, e1, e2, e3, bodyB]
    · omega
    · trivial
    · intro j hj _
      by_cases cj : j < b.length
      · have g1 : b[j]? = some b[j] := List.getElem?_eq_getElem cj
        have fx := bodyB_take cj
        have bl1 := bodyB_len (b.take j)
        rw [List.length_take, Nat.min_eq_left (Nat.le_of_lt cj)] at bl1
        have d5 := number_walk b[j] 8 (hb _ (List.getElem_mem cj)) (by omega) (by omega)
        rw [lb, numL_len] at d5
        have n8 := numL_len b[j] 8
        generalize hn8 : numL b[j] 8 = N8 at fx d5 n8
        generalize b[j] = c at g1 d5
        generalize bodyB (b.take j) = G at fx bl1
        have gl : ((Hd ++ G).map ib).length = 9 + 8 * j := by rw [List.length_map, List.length_append, hl, bl1]
        have nl8 : (N8.map ib).length = 8 := by rw [List.length_map, n8]
        have s8 : 9 + 8 * (j + 1) = 9 + 8 * j + 8 := by omega
        repeat (first | ((first | refine X_call_fn2 rfl (by simp only [tys]) ?_ | refine X_dcall_fn2 rfl (by simp only [tys]) ?_); apply Exists.intro; apply And.intro; (focus (simp -dsimp only [simx, zzC, zzB, tys, ite_self, opnL, callB, readsB, stepOp, ofVal, opBuiltin, opLen, PV.sk, scalBin, scalUn, intBin, opLoad, natOf, opConvert, opField, cellsP, oneP, Value.oneCell', opStore, toIV, scalT, scalA, scalC, boxesA, boxesC, zipB_none, zipB_mx, isZ, opZip, zeroP, opAppendZ, opMakeMap, opLookup, mboxB, opUpdate, ↓reduceIte, Nat.reduceSub, Nat.reduceEqDiff, Nat.reduceAdd, Nat.reduceMul, Nat.reduceLT, Nat.reduceLeDiff, Int.reduceToNat, Int.reduceLE, Int.reduceLT, Int.reduceNeg, reduceCtorEq, zzL, if_true, if_false] <;> rfl)); apply Exists.intro; apply And.intro; (focus (first | exact d5))) | refine ⟨(by show drawK _ _ = true; kernel_rfl : drawX _ _ _), ?_⟩ | exact (by show drawK _ _ = true; kernel_rfl : drawX _ _ _) | simp -dsimp (maxSteps := 20000000) (disch := omega) only [simx, zzC, zzB, tys, ite_self, opnL, callB, readsB, stepOp, ofVal, opBuiltin, opLen, PV.sk, scalBin, scalUn, intBin, opLoad, natOf, opConvert, opField, cellsP, oneP, Value.oneCell', opStore, toIV, scalT, scalA, scalC, boxesA, boxesC, zipB_none, zipB_mx, isZ, opZip, zeroP, opAppendZ, opMakeMap, opLookup, mboxB, opUpdate, ↓reduceIte, Nat.reduceSub, Nat.reduceEqDiff, Nat.reduceAdd, Nat.reduceMul, Nat.reduceLT, Nat.reduceLeDiff, Int.reduceToNat, Int.reduceLE, Int.reduceLT, Int.reduceNeg, reduceCtorEq, gos, Int.reduceAdd, Int.reduceSub, Int.reduceMul, Int.reduceEq, cj, g1])
        refine X_append_full 5 [.int .u8 0] (N8.map ib) (by simp only [tys]) (by simp only [tys]) rfl (by simp [Heap.put_at]) gl (by omega) nl8 (by simp only [tys]; omega) (by rw [mx_len]; omega) ?_
        repeat (first | refine ⟨(by show drawK _ _ = true; kernel_rfl : drawX _ _ _), ?_⟩ | exact (by show drawK _ _ = true; kernel_rfl : drawX _ _ _) | simp -dsimp (maxSteps := 20000000) (disch := omega) only [simx, zzC, zzB, tys, ite_self, opnL, callB, readsB, stepOp, ofVal, opBuiltin, opLen, PV.sk, scalBin, scalUn, intBin, opLoad, natOf, opConvert, opField, cellsP, oneP, Value.oneCell', opStore, toIV, scalT, scalA, scalC, boxesA, boxesC, zipB_none, zipB_mx, isZ, opZip, zeroP, opAppendZ, opMakeMap, opLookup, mboxB, opUpdate, ↓reduceIte, Nat.reduceSub, Nat.reduceEqDiff, Nat.reduceAdd, Nat.reduceMul, Nat.reduceLT, Nat.reduceLeDiff, Int.reduceToNat, Int.reduceLE, Int.reduceLT, Int.reduceNeg, reduceCtorEq, gos, Int.reduceAdd, Int.reduceSub, Int.reduceMul, Int.reduceEq, cj])
        refine ⟨cj, (fgt_cons (by simp only [Heap.none_at]) (by (simp -dsimp only [zzB, tys, ite_self, opnL, callB, readsB, stepOp, ofVal, opBuiltin, opLen, PV.sk, scalBin, scalUn, intBin, opLoad, natOf, opConvert, opField, cellsP, oneP, Value.oneCell', opStore, toIV, scalT, scalA, scalC, boxesA, boxesC, zipB_none, zipB_mx, isZ, opZip, zeroP, opAppendZ, opMakeMap, opLookup, mboxB, opUpdate, ↓reduceIte, Nat.reduceSub, Nat.reduceEqDiff, Nat.reduceAdd, Nat.reduceMul, Nat.reduceLT, Nat.reduceLeDiff, Int.reduceToNat, Int.reduceLE, Int.reduceLT, Int.reduceNeg, reduceCtorEq, notIn_cons, notIn_nil]) <;> simp [refsL, refsP, mem_refs_rowP]) (by repeat (first | exact noVar_none _ | refine noVar_row ?_ | refine noVar_map ?_ | refine noVar_rowH ?_ | refine noVar_var ?_ (by simp [refsL, refsP, mem_refs_rowP]))) (fgt_cons (by simp only [Heap.none_at]) (by (simp -dsimp only [zzB, tys, ite_self, opnL, callB, readsB, stepOp, ofVal, opBuiltin, opLen, PV.sk, scalBin, scalUn, intBin, opLoad, natOf, opConvert, opField, cellsP, oneP, Value.oneCell', opStore, toIV, scalT, scalA, scalC, boxesA, boxesC, zipB_none, zipB_mx, isZ, opZip, zeroP, opAppendZ, opMakeMap, opLookup, mboxB, opUpdate, ↓reduceIte, Nat.reduceSub, Nat.reduceEqDiff, Nat.reduceAdd, Nat.reduceMul, Nat.reduceLT, Nat.reduceLeDiff, Int.reduceToNat, Int.reduceLE, Int.reduceLT, Int.reduceNeg, reduceCtorEq, notIn_cons, notIn_nil]) <;> simp [refsL, refsP, mem_refs_rowP]) (by repeat (first | exact noVar_none _ | refine noVar_row ?_ | refine noVar_map ?_ | refine noVar_rowH ?_ | refine noVar_var ?_ (by simp [refsL, refsP, mem_refs_rowP]))) (fgt_cons (by simp only [Heap.none_at]) (by (simp -dsimp only [zzB, tys, ite_self, opnL, callB, readsB, stepOp, ofVal, opBuiltin, opLen, PV.sk, scalBin, scalUn, intBin, opLoad, natOf, opConvert, opField, cellsP, oneP, Value.oneCell', opStore, toIV, scalT, scalA, scalC, boxesA, boxesC, zipB_none, zipB_mx, isZ, opZip, zeroP, opAppendZ, opMakeMap, opLookup, mboxB, opUpdate, ↓reduceIte, Nat.reduceSub, Nat.reduceEqDiff, Nat.reduceAdd, Nat.reduceMul, Nat.reduceLT, Nat.reduceLeDiff, Int.reduceToNat, Int.reduceLE, Int.reduceLT, Int.reduceNeg, reduceCtorEq, notIn_cons, notIn_nil]) <;> simp [refsL, refsP, mem_refs_rowP]) (by repeat (first | exact noVar_none _ | refine noVar_row ?_ | refine noVar_map ?_ | refine noVar_rowH ?_ | refine noVar_var ?_ (by simp [refsL, refsP, mem_refs_rowP]))) (fgt_nil)))), ⟨by rw [s8], rfl⟩, ?_⟩
        rw [fx, ← List.append_assoc, List.map_append (l₁ := Hd ++ G)]
        funext c
        simp (maxSteps := 20000000) only [Heap.drop_at, rowH_app, Heap.put_at, Heap.none_at, List.mem_cons, List.not_mem_nil, or_false]
        by_cases e0 : c = (0, 0) :: base
        · subst e0; simp []
        by_cases e1 : c = (3, 6) :: base
        · subst e1; simp []
        by_cases e2 : c = (3, 16) :: base
        · subst e2; simp []
        by_cases e3 : c = (3, 17) :: base
        · subst e3; simp []
        simp [e0, e1, e2, e3]
      · have hj : j = b.length := by omega
        subst hj
        rw [List.take_length, ← ae]
        have gl : ((allB k r n b).map ib).length = 9 + 8 * b.length := by rw [List.length_map, hal]
        have gl0 : ((allB k r n b).map ib).take (9 + 8 * b.length) = (allB k r n b).map ib := List.take_of_length_le (by omega)
        have sl3 : (S3.map ib).length = 3 := by rw [List.length_map, tl3]
        rw [pe]
        generalize allB k r n b = A at d3 gl hal gl0
        have lA : lb A = .i (.l (9 + 8 * b.length) (A.map ib)) := by rw [lb, hal]
        rw [lA] at d3
        repeat (first | ((first | refine X_call_fn2 rfl (by simp only [tys]) ?_ | refine X_dcall_fn2 rfl (by simp only [tys]) ?_); apply Exists.intro; apply And.intro; (focus (simp -dsimp only [simx, zzC, zzB, tys, ite_self, opnL, callB, readsB, stepOp, ofVal, opBuiltin, opLen, PV.sk, scalBin, scalUn, intBin, opLoad, natOf, opConvert, opField, cellsP, oneP, Value.oneCell', opStore, toIV, scalT, scalA, scalC, boxesA, boxesC, zipB_none, zipB_mx, isZ, opZip, zeroP, opAppendZ, opMakeMap, opLookup, mboxB, opUpdate, ↓reduceIte, Nat.reduceSub, Nat.reduceEqDiff, Nat.reduceAdd, Nat.reduceMul, Nat.reduceLT, Nat.reduceLeDiff, Int.reduceToNat, Int.reduceLE, Int.reduceLT, Int.reduceNeg, reduceCtorEq, zzL, if_true, if_false, gl, gl0, List.length_map, hal, Nat.zero_add, Nat.mul_one, Nat.le_refl, List.drop_zero] <;> rfl)); apply Exists.intro; apply And.intro; (focus (first | exact d3 | exact d4))) | refine ⟨(by show drawK _ _ = true; kernel_rfl : drawX _ _ _), ?_⟩ | exact (by show drawK _ _ = true; kernel_rfl : drawX _ _ _) | simp -dsimp (maxSteps := 20000000) (disch := omega) only [simx, zzC, zzB, tys, ite_self, opnL, callB, readsB, stepOp, ofVal, opBuiltin, opLen, PV.sk, scalBin, scalUn, intBin, opLoad, natOf, opConvert, opField, cellsP, oneP, Value.oneCell', opStore, toIV, scalT, scalA, scalC, boxesA, boxesC, zipB_none, zipB_mx, isZ, opZip, zeroP, opAppendZ, opMakeMap, opLookup, mboxB, opUpdate, ↓reduceIte, Nat.reduceSub, Nat.reduceEqDiff, Nat.reduceAdd, Nat.reduceMul, Nat.reduceLT, Nat.reduceLeDiff, Int.reduceToNat, Int.reduceLE, Int.reduceLT, Int.reduceNeg, reduceCtorEq, gos, Int.reduceAdd, Int.reduceSub, Int.reduceMul, Int.reduceEq, e5])
        refine X_append_full 5 [.int .u8 0] (S3.map ib) (by simp only [tys]) (by simp only [tys]) rfl (by simp [Heap.put_at]) gl (by omega) sl3 (by simp only [tys]; omega) (by rw [mx_len]; omega) ?_
        have pl : (A ++ S3).length = 9 + 8 * b.length + 3 := by rw [List.length_append, hal, tl3]
        have gl4 : ((A ++ S3).map ib).take (9 + 8 * b.length + 3) = (A ++ S3).map ib := List.take_of_length_le (by rw [List.length_map, pl]; exact Nat.le_refl _)
        rw [← List.map_append, lb, pl]
        repeat (first | refine ⟨(by show drawK _ _ = true; kernel_rfl : drawX _ _ _), ?_⟩ | exact (by show drawK _ _ = true; kernel_rfl : drawX _ _ _) | simp -dsimp (maxSteps := 20000000) (disch := omega) only [simx, zzC, zzB, tys, ite_self, opnL, callB, readsB, stepOp, ofVal, opBuiltin, opLen, PV.sk, scalBin, scalUn, intBin, opLoad, natOf, opConvert, opField, cellsP, oneP, Value.oneCell', opStore, toIV, scalT, scalA, scalC, boxesA, boxesC, zipB_none, zipB_mx, isZ, opZip, zeroP, opAppendZ, opMakeMap, opLookup, mboxB, opUpdate, ↓reduceIte, Nat.reduceSub, Nat.reduceEqDiff, Nat.reduceAdd, Nat.reduceMul, Nat.reduceLT, Nat.reduceLeDiff, Int.reduceToNat, Int.reduceLE, Int.reduceLT, Int.reduceNeg, reduceCtorEq, zzR, gos, Int.reduceAdd, Int.reduceSub, Int.reduceMul, Int.reduceEq, pl, List.length_map, gl4])
end Go.Proofs.Ytkhjfphenflefaa.TM
