/- Layer 11's reference: the next frame. -/
import Derived.Test.YtkhjfphenflefaaWFrmK
namespace Go.Proofs.Ytkhjfphenflefaa.TM
open Go Go.RowKit
set_option linter.unusedVariables false
set_option linter.defProp false
set_option linter.unusedSimpArgs false
attribute [local irreducible] K W WOps Effs Xg Xo Xr Xdg Xdo Xdr Xif CallsP CallR

theorem many_bytes {b : List Int} (h : 9 ≤ b.length) : ofL (slc b 7 2) = b.getD 7 0 * 256 + b.getD 8 0 := by
  have e : slc b 7 2 = [b.getD 7 0, b.getD 8 0] := by
    unfold slc
    rw [List.drop_eq_getElem_cons (show 7 < b.length by omega), List.drop_eq_getElem_cons (show 8 < b.length by omega), List.take_succ_cons, List.take_succ_cons, List.take_zero]
    simp [List.getD_eq_getElem?_getD, List.getElem?_eq_getElem (show 7 < b.length by omega), List.getElem?_eq_getElem (show 8 < b.length by omega)]
  rw [e]
  simp [ofL]
theorem bodyN_succ (b : List Int) (n : Nat) : bodyN b (n + 1) = bodyN b n ++ [ofL (slc b (9 + 8 * n) 8)] := by unfold bodyN; rw [List.range_succ, List.map_append]; rfl
theorem bodyN_len (b : List Int) (n : Nat) : (bodyN b n).length = n := by simp [bodyN]
set_option maxHeartbeats 2000000 in
theorem rnext_walk (b : List Int) (hl : b.length ≤ maxLen) (hb : Byts b) : CallsP Try.prog 38 [lb b] (.tup [frQ (nextR b).1, i64 (nextR b).2.1, i64 (nextR b).2.2]) := by
  rw [mx_len] at hl
  unfold nextR
  by_cases cA : b.length < 12
  · have c1 : (b.length : Int) < 12 := by omega
    rw [if_pos cA]
    refine X_startP (n := 104) (m := 1) (rs := [.cell 2 62, .tmp 3, .tmp 4]) Try.func38 rfl rfl rfl rfl (by decide) fun base => ?_
    repeat (first | refine ⟨(by show drawK _ _ = true; kernel_rfl : drawX _ _ _), ?_⟩ | exact (by show drawK _ _ = true; kernel_rfl : drawX _ _ _) | simp -dsimp (maxSteps := 20000000) (disch := omega) only [simx, zzC, zzB, tys, ite_self, opnL, callB, readsB, stepOp, ofVal, opBuiltin, opLen, PV.sk, scalBin, scalUn, intBin, opLoad, natOf, opConvert, opField, cellsP, oneP, Value.oneCell', opStore, toIV, scalT, scalA, scalC, boxesA, boxesC, zipB_none, zipB_mx, isZ, opZip, zeroP, opAppendZ, opMakeMap, opLookup, mboxB, opUpdate, ↓reduceIte, Nat.reduceSub, Nat.reduceEqDiff, Nat.reduceAdd, Nat.reduceMul, Nat.reduceLT, Nat.reduceLeDiff, Int.reduceToNat, Int.reduceLE, Int.reduceLT, Int.reduceNeg, reduceCtorEq, zzR, gos, Int.reduceAdd, Int.reduceSub, Int.reduceMul, Int.reduceEq, c1])
    rfl
  · have c1 : ¬ (b.length : Int) < 12 := by omega
    rw [if_neg cA]
    have g0 := getD_at (b := b) (i := 0) (by omega)
    have g1 := getD_at (b := b) (i := 1) (by omega)
    have g2 := getD_at (b := b) (i := 2) (by omega)
    have g7 := getD_at (b := b) (i := 7) (by omega)
    have g8 := getD_at (b := b) (i := 8) (by omega)
    have b0 := byt_at hb (i := 0) (by omega)
    have b1 := byt_at hb (i := 1) (by omega)
    have b2 := byt_at hb (i := 2) (by omega)
    have b7 := byt_at hb (i := 7) (by omega)
    have b8 := byt_at hb (i := 8) (by omega)
    have l3 := slc_len (b := b) (i := 3) (n := 4) (by omega)
    have f3 := rof_walk _ (slc b 3 4) l3 (by omega) (slc_byts hb _ _)
    have o3 := ofL_bd 4 l3 (slc_byts hb _ _)
    rw [show p256 4 = 4294967296 by decide] at o3
    rw [lb, l3, ← slc_map] at f3
    have hm : b.getD 7 0 * 256 + b.getD 8 0 = (manyN b : Int) := by
      unfold Byt at b7 b8
      unfold manyN; rw [many_bytes (by omega)]; omega
    have hM2 : manyN b < 65536 := by unfold Byt at b7 b8; omega
    have hmay : mayB (b.getD 1 0) (b.getD 2 0) [] = (decide (1 ≤ b.getD 1 0) && decide (b.getD 1 0 ≤ 4)) := by
      unfold Byt at b2
      unfold mayB
      rw [decide_eq_true b2.1, decide_eq_true (show b.getD 2 0 ≤ 255 by omega)]
      simp
    rw [hmay]
    generalize ofL (slc b 3 4) = K at f3 o3 ⊢
    generalize hMM : manyN b = M at hm hM2 ⊢
    generalize hB0 : b.getD 0 0 = B0 at g0 b0 ⊢
    generalize hB1 : b.getD 1 0 = B1 at g1 b1 ⊢
    generalize hB2 : b.getD 2 0 = B2 at g2 b2 ⊢
    generalize b.getD 7 0 = B7 at g7 b7 hm
    generalize b.getD 8 0 = B8 at g8 b8 hm
    unfold Byt at b0 b1 b2 b7 b8
    have e1 : IntKind.i64.wrap B1 = B1 := iw_of (by omega) (by omega)
    have e2 : IntKind.i64.wrap B2 = B2 := iw_of (by omega) (by omega)
    have e7 : IntKind.i64.wrap B7 = B7 := iw_of (by omega) (by omega)
    have e8 : IntKind.i64.wrap B8 = B8 := iw_of (by omega) (by omega)
    have e77 : IntKind.i64.wrap (B7 * 256) = B7 * 256 := iw_of (by omega) (by omega)
    have e3 : IntKind.u32.wrap K = K := by rw [show IntKind.u32.wrap K = K % 4294967296 by simp [IntKind.wrap, IntKind.bits, IntKind.signed]]; omega
    have i0 : 0 < b.length := by omega
    have i1 : 1 < b.length := by omega
    have i2 : 2 < b.length := by omega
    have i7 : 7 < b.length := by omega
    have i8 : 8 < b.length := by omega
    have i77 : 7 ≤ b.length := by omega
    by_cases d0 : B0 = 163
    · by_cases d1 : B1 = 0
      · rw [if_neg (by simp [d1])]
        refine X_startP (n := 104) (m := 1) (rs := [.cell 2 62, .tmp 3, .tmp 4]) Try.func38 rfl rfl rfl rfl (by decide) fun base => ?_
        repeat (first | refine ⟨(by show drawK _ _ = true; kernel_rfl : drawX _ _ _), ?_⟩ | exact (by show drawK _ _ = true; kernel_rfl : drawX _ _ _) | simp -dsimp (maxSteps := 20000000) (disch := omega) only [simx, zzC, zzB, tys, ite_self, opnL, callB, readsB, stepOp, ofVal, opBuiltin, opLen, PV.sk, scalBin, scalUn, intBin, opLoad, natOf, opConvert, opField, cellsP, oneP, Value.oneCell', opStore, toIV, scalT, scalA, scalC, boxesA, boxesC, zipB_none, zipB_mx, isZ, opZip, zeroP, opAppendZ, opMakeMap, opLookup, mboxB, opUpdate, ↓reduceIte, Nat.reduceSub, Nat.reduceEqDiff, Nat.reduceAdd, Nat.reduceMul, Nat.reduceLT, Nat.reduceLeDiff, Int.reduceToNat, Int.reduceLE, Int.reduceLT, Int.reduceNeg, reduceCtorEq, zzR, gos, Int.reduceAdd, Int.reduceSub, Int.reduceMul, Int.reduceEq, c1, List.length_map, g0, g1, g2, g7, g8, i0, i1, i2, i7, i8, e7, e8, e77, hm, d0, d1])
        rfl
      by_cases d4 : 4 < B1
      · rw [if_neg (by simp; omega)]
        refine X_startP (n := 104) (m := 1) (rs := [.cell 2 62, .tmp 3, .tmp 4]) Try.func38 rfl rfl rfl rfl (by decide) fun base => ?_
        repeat (first | refine ⟨(by show drawK _ _ = true; kernel_rfl : drawX _ _ _), ?_⟩ | exact (by show drawK _ _ = true; kernel_rfl : drawX _ _ _) | simp -dsimp (maxSteps := 20000000) (disch := omega) only [simx, zzC, zzB, tys, ite_self, opnL, callB, readsB, stepOp, ofVal, opBuiltin, opLen, PV.sk, scalBin, scalUn, intBin, opLoad, natOf, opConvert, opField, cellsP, oneP, Value.oneCell', opStore, toIV, scalT, scalA, scalC, boxesA, boxesC, zipB_none, zipB_mx, isZ, opZip, zeroP, opAppendZ, opMakeMap, opLookup, mboxB, opUpdate, ↓reduceIte, Nat.reduceSub, Nat.reduceEqDiff, Nat.reduceAdd, Nat.reduceMul, Nat.reduceLT, Nat.reduceLeDiff, Int.reduceToNat, Int.reduceLE, Int.reduceLT, Int.reduceNeg, reduceCtorEq, zzR, gos, Int.reduceAdd, Int.reduceSub, Int.reduceMul, Int.reduceEq, c1, List.length_map, g0, g1, g2, g7, g8, i0, i1, i2, i7, i8, e7, e8, e77, hm, d0, d1, d4])
        rfl
      by_cases d2 : M ≤ 9000
      · rw [if_pos ⟨d0, by simp; omega, d2⟩]
        have d3 : ¬ (9000 : Int) < M := by omega
        obtain ⟨E, hE⟩ : ∃ E : Nat, E = 9 + 8 * M := ⟨_, rfl⟩
        have h12 : 12 + 8 * M = E + 3 := by omega
        have h12' : (12 : Int) + 8 * (M : Int) = ((E + 3 : Nat) : Int) := by omega
        have eE : (9 : Int) + 8 * (M : Int) = (E : Int) := by omega
        have E9 : 9 ≤ E := by omega
        rw [h12, h12', ← hE]
        by_cases cB : b.length < E + 3
        · have c2 : (b.length : Int) < ((E + 3 : Nat) : Int) := by omega
          rw [if_pos cB]
          refine X_startP (n := 104) (m := 1) (rs := [.cell 2 62, .tmp 3, .tmp 4]) Try.func38 rfl rfl rfl rfl (by decide) fun base => ?_
          repeat (first | refine ⟨(by show drawK _ _ = true; kernel_rfl : drawX _ _ _), ?_⟩ | exact (by show drawK _ _ = true; kernel_rfl : drawX _ _ _) | simp -dsimp (maxSteps := 20000000) (disch := omega) only [simx, zzC, zzB, tys, ite_self, opnL, callB, readsB, stepOp, ofVal, opBuiltin, opLen, PV.sk, scalBin, scalUn, intBin, opLoad, natOf, opConvert, opField, cellsP, oneP, Value.oneCell', opStore, toIV, scalT, scalA, scalC, boxesA, boxesC, zipB_none, zipB_mx, isZ, opZip, zeroP, opAppendZ, opMakeMap, opLookup, mboxB, opUpdate, ↓reduceIte, Nat.reduceSub, Nat.reduceEqDiff, Nat.reduceAdd, Nat.reduceMul, Nat.reduceLT, Nat.reduceLeDiff, Int.reduceToNat, Int.reduceLE, Int.reduceLT, Int.reduceNeg, reduceCtorEq, zzR, gos, Int.reduceAdd, Int.reduceSub, Int.reduceMul, Int.reduceEq, c1, List.length_map, g0, g1, g2, g7, g8, i0, i1, i2, i7, i8, e7, e8, e77, hm, d0, d1, d4, d3, h12', c2])
          rfl
        · have c2 : ¬ (b.length : Int) < ((E + 3 : Nat) : Int) := by omega
          rw [if_neg cB]
          have lE := slc_len (b := b) (i := E) (n := 3) (by omega)
          have fE := rof_walk _ (slc b E 3) lE (by omega) (slc_byts hb _ _)
          have oE := ofL_bd 3 lE (slc_byts hb _ _)
          rw [show p256 3 = 16777216 by decide] at oE
          rw [lb, lE, ← slc_map] at fE
          have tl : (b.take E).length = E := by rw [List.length_take]; omega
          have fS := rsum_walk (b.take E) (by rw [tl, mx_len]; omega) (hb.take E)
          have sb := sumS_bd (b.take E)
          rw [lb, tl, List.map_take] at fS
          have eS : IntKind.u64.wrap (sumS (b.take E)) = sumS (b.take E) := uw_of (by omega) (by omega)
          have iE : E ≤ b.length := by omega
          have iE3 : E + 3 ≤ b.length := by omega
          have a1 : E + 3 - E = 3 := by omega
          have a2 : E ≤ E + 3 := by omega
          clear lE tl
          generalize hU : ofL (slc b E 3) = U at fE oE ⊢
          generalize hV : sumS (b.take E) = V at fS sb eS ⊢
          by_cases cC : U = V
          · rw [if_pos cC]
            refine X_startP (n := 104) (m := 1) (rs := [.cell 2 62, .tmp 3, .tmp 4]) Try.func38 rfl rfl rfl rfl (by decide) fun base => ?_
            repeat (first | ((first | refine X_call_fn2 rfl (by simp only [tys]) ?_ | refine X_dcall_fn2 rfl (by simp only [tys]) ?_); apply Exists.intro; apply And.intro; (focus (simp -dsimp only [simx, zzC, zzB, tys, ite_self, opnL, callB, readsB, stepOp, ofVal, opBuiltin, opLen, PV.sk, scalBin, scalUn, intBin, opLoad, natOf, opConvert, opField, cellsP, oneP, Value.oneCell', opStore, toIV, scalT, scalA, scalC, boxesA, boxesC, zipB_none, zipB_mx, isZ, opZip, zeroP, opAppendZ, opMakeMap, opLookup, mboxB, opUpdate, ↓reduceIte, Nat.reduceSub, Nat.reduceEqDiff, Nat.reduceAdd, Nat.reduceMul, Nat.reduceLT, Nat.reduceLeDiff, Int.reduceToNat, Int.reduceLE, Int.reduceLT, Int.reduceNeg, reduceCtorEq, zzL, if_true, if_false] <;> rfl)); apply Exists.intro; apply And.intro; (focus (first | exact f3 | exact fE | exact fS))) | refine ⟨(by show drawK _ _ = true; kernel_rfl : drawX _ _ _), ?_⟩ | exact (by show drawK _ _ = true; kernel_rfl : drawX _ _ _) | simp -dsimp (maxSteps := 20000000) (disch := omega) only [simx, zzC, zzB, tys, ite_self, opnL, callB, readsB, stepOp, ofVal, opBuiltin, opLen, PV.sk, scalBin, scalUn, intBin, opLoad, natOf, opConvert, opField, cellsP, oneP, Value.oneCell', opStore, toIV, scalT, scalA, scalC, boxesA, boxesC, zipB_none, zipB_mx, isZ, opZip, zeroP, opAppendZ, opMakeMap, opLookup, mboxB, opUpdate, ↓reduceIte, Nat.reduceSub, Nat.reduceEqDiff, Nat.reduceAdd, Nat.reduceMul, Nat.reduceLT, Nat.reduceLeDiff, Int.reduceToNat, Int.reduceLE, Int.reduceLT, Int.reduceNeg, reduceCtorEq, gos, Int.reduceAdd, Int.reduceSub, Int.reduceMul, Int.reduceEq, c1, List.length_map, g0, g1, g2, g7, g8, i0, i1, i2, i7, i8, i77, e1, e2, e3, e7, e8, e77, hm, d0, d1, d4, d3, h12', c2, eE, iE, iE3, a1, a2, Nat.zero_le, Nat.sub_zero, List.drop_zero, E9, cC, eS])
            refine X_loopH [0, 2, 5, 6, 7] [(14, 11) :: base] (0) (M) (fun j => True) (fun j => [(7, i64 j)]) (fun j => rowH ((Heap.none.put ((0, 0) :: base) (.var [i64 0, i64 0, u32 0, .i (.v (.slice none 0 0))])).put ((10, 13) :: base) (.var [i64 B1, i64 B2, u32 K, rowP ((14, 12) :: base) 1 j ((bodyN b j).map iu)])) ((14, 12) :: base) j ((bodyN b j).map iu)) ?_ ?_ ?_ ?_ ?_ (by decide) ?_
            · exact (fgt_cons (by simp only [Heap.none_at]) (by (simp -dsimp only [zzB, tys, ite_self, opnL, callB, readsB, stepOp, ofVal, opBuiltin, opLen, PV.sk, scalBin, scalUn, intBin, opLoad, natOf, opConvert, opField, cellsP, oneP, Value.oneCell', opStore, toIV, scalT, scalA, scalC, boxesA, boxesC, zipB_none, zipB_mx, isZ, opZip, zeroP, opAppendZ, opMakeMap, opLookup, mboxB, opUpdate, ↓reduceIte, Nat.reduceSub, Nat.reduceEqDiff, Nat.reduceAdd, Nat.reduceMul, Nat.reduceLT, Nat.reduceLeDiff, Int.reduceToNat, Int.reduceLE, Int.reduceLT, Int.reduceNeg, reduceCtorEq, notIn_cons, notIn_nil]) <;> simp [refsL, refsP, mem_refs_rowP]) (by repeat (first | exact noVar_none _ | refine noVar_row ?_ | refine noVar_map ?_ | refine noVar_rowH ?_ | refine noVar_var ?_ (by simp [refsL, refsP, mem_refs_rowP]))) (fgt_nil))
            · ((simp -dsimp (disch := omega) only [simx, zzB, tys, ite_self, opnL, callB, readsB, stepOp, ofVal, opBuiltin, opLen, PV.sk, scalBin, scalUn, intBin, opLoad, natOf, opConvert, opField, cellsP, oneP, Value.oneCell', opStore, toIV, scalT, scalA, scalC, boxesA, boxesC, zipB_none, zipB_mx, isZ, opZip, zeroP, opAppendZ, opMakeMap, opLookup, mboxB, opUpdate, ↓reduceIte, Nat.reduceSub, Nat.reduceEqDiff, Nat.reduceAdd, Nat.reduceMul, Nat.reduceLT, Nat.reduceLeDiff, Int.reduceToNat, Int.reduceLE, Int.reduceLT, Int.reduceNeg, reduceCtorEq, gos, Int.reduceAdd, Int.reduceSub, Int.reduceMul, Int.reduceEq]) <;> first | rfl | simp [rowP])
            · funext c
              simp (maxSteps := 20000000) only [Heap.drop_at, rowH_app, Heap.put_at, Heap.none_at, List.mem_cons, List.not_mem_nil, or_false]
              by_cases e0 : c = (0, 0) :: base
              · subst e0; simp [rowP, bodyN]
              by_cases e1 : c = (10, 13) :: base
              · subst e1; simp [rowP, bodyN]
              by_cases e2 : c = (14, 11) :: base
              · subst e2; simp [rowP, bodyN]
              by_cases e3 : c = (14, 12) :: base
              · subst e3; simp [rowP, bodyN]
              simp [e0, e1, e2, e3, rowP, bodyN]
            · omega
            · trivial
            · intro j hj _
              by_cases cj : j < M
              · have l8 := slc_len (b := b) (i := 9 + 8 * j) (n := 8) (by omega)
                have f8 := rof_walk _ (slc b (9 + 8 * j) 8) l8 (by omega) (slc_byts hb _ _)
                rw [lb, l8, ← slc_map] at f8
                have hnx := bodyN_succ b j
                have hnl := bodyN_len b j
                generalize ofL (slc b (9 + 8 * j) 8) = y at f8 hnx
                generalize hcs : (bodyN b j).map iu = ps
                have hnx' : (bodyN b (j + 1)).map iu = ps ++ [iu y] := by rw [hnx, List.map_append, hcs]; rfl
                have hps : ps.length = j := by rw [← hcs, List.length_map, hnl]
                have s9 : (9 : Int) + 8 * (j : Int) = ((9 + 8 * j : Nat) : Int) := by omega
                have s17 : (17 : Int) + 8 * (j : Int) = ((9 + 8 * j + 8 : Nat) : Int) := by omega
                have t1 : 9 + 8 * j + 8 - (9 + 8 * j) = 8 := by omega
                have t2 : 9 + 8 * j ≤ 9 + 8 * j + 8 := by omega
                have t3 : 9 + 8 * j + 8 ≤ b.length := by omega
                have t4 : 9 + 8 * j ≤ b.length := by omega
                clear hnx hnl
                have jM : j ≤ 9000 := by omega
                generalize 9 + 8 * j = W at f8 s9 s17 t1 t2 t3 t4
                cases j with
                | zero =>
                  have : ps = [] := List.eq_nil_of_length_eq_zero hps
                  subst this
                  repeat (first | ((first | refine X_call_fn2 rfl (by simp only [tys]) ?_ | refine X_dcall_fn2 rfl (by simp only [tys]) ?_); apply Exists.intro; apply And.intro; (focus (simp -dsimp only [simx, zzC, zzB, tys, ite_self, opnL, callB, readsB, stepOp, ofVal, opBuiltin, opLen, PV.sk, scalBin, scalUn, intBin, opLoad, natOf, opConvert, opField, cellsP, oneP, Value.oneCell', opStore, toIV, scalT, scalA, scalC, boxesA, boxesC, zipB_none, zipB_mx, isZ, opZip, zeroP, opAppendZ, opMakeMap, opLookup, mboxB, opUpdate, ↓reduceIte, Nat.reduceSub, Nat.reduceEqDiff, Nat.reduceAdd, Nat.reduceMul, Nat.reduceLT, Nat.reduceLeDiff, Int.reduceToNat, Int.reduceLE, Int.reduceLT, Int.reduceNeg, reduceCtorEq, zzL, if_true, if_false] <;> rfl)); apply Exists.intro; apply And.intro; (focus (first | exact f8))) | refine ⟨(by show drawK _ _ = true; kernel_rfl : drawX _ _ _), ?_⟩ | exact (by show drawK _ _ = true; kernel_rfl : drawX _ _ _) | simp -dsimp (maxSteps := 20000000) (disch := omega) only [simx, zzC, zzB, tys, ite_self, opnL, callB, readsB, stepOp, ofVal, opBuiltin, opLen, PV.sk, scalBin, scalUn, intBin, opLoad, natOf, opConvert, opField, cellsP, oneP, Value.oneCell', opStore, toIV, scalT, scalA, scalC, boxesA, boxesC, zipB_none, zipB_mx, isZ, opZip, zeroP, opAppendZ, opMakeMap, opLookup, mboxB, opUpdate, ↓reduceIte, Nat.reduceSub, Nat.reduceEqDiff, Nat.reduceAdd, Nat.reduceMul, Nat.reduceLT, Nat.reduceLeDiff, Int.reduceToNat, Int.reduceLE, Int.reduceLT, Int.reduceNeg, reduceCtorEq, gos, Int.reduceAdd, Int.reduceSub, Int.reduceMul, Int.reduceEq, cj, s9, s17, t1, t2, t3, t4, List.length_map, keysL_row0, keysL_rowS])
                  refine X_dappend_one 55 [.int .u64 0] [iu y] (by simp only [tys]) (by simp only [tys]) rfl (by decide) (by simp) (by simp [Heap.put_at, Heap.none_at, rowH_app]) (by simp [Heap.put_at]; rfl) rfl (by simp only [tys]; omega) (by rw [mx_len]; omega) ?_
                  repeat (first | refine ⟨(by show drawK _ _ = true; kernel_rfl : drawX _ _ _), ?_⟩ | exact (by show drawK _ _ = true; kernel_rfl : drawX _ _ _) | simp -dsimp (maxSteps := 20000000) (disch := omega) only [simx, zzC, zzB, tys, ite_self, opnL, callB, readsB, stepOp, ofVal, opBuiltin, opLen, PV.sk, scalBin, scalUn, intBin, opLoad, natOf, opConvert, opField, cellsP, oneP, Value.oneCell', opStore, toIV, scalT, scalA, scalC, boxesA, boxesC, zipB_none, zipB_mx, isZ, opZip, zeroP, opAppendZ, opMakeMap, opLookup, mboxB, opUpdate, ↓reduceIte, Nat.reduceSub, Nat.reduceEqDiff, Nat.reduceAdd, Nat.reduceMul, Nat.reduceLT, Nat.reduceLeDiff, Int.reduceToNat, Int.reduceLE, Int.reduceLT, Int.reduceNeg, reduceCtorEq, gos, Int.reduceAdd, Int.reduceSub, Int.reduceMul, Int.reduceEq, keysL_row0, keysL_rowS, rowP_succ, rowH_succ])
                  refine ⟨cj, (fgt_cons (by simp only [Heap.none_at]) (by (simp -dsimp only [zzB, tys, ite_self, opnL, callB, readsB, stepOp, ofVal, opBuiltin, opLen, PV.sk, scalBin, scalUn, intBin, opLoad, natOf, opConvert, opField, cellsP, oneP, Value.oneCell', opStore, toIV, scalT, scalA, scalC, boxesA, boxesC, zipB_none, zipB_mx, isZ, opZip, zeroP, opAppendZ, opMakeMap, opLookup, mboxB, opUpdate, ↓reduceIte, Nat.reduceSub, Nat.reduceEqDiff, Nat.reduceAdd, Nat.reduceMul, Nat.reduceLT, Nat.reduceLeDiff, Int.reduceToNat, Int.reduceLE, Int.reduceLT, Int.reduceNeg, reduceCtorEq, notIn_cons, notIn_nil]) <;> simp [refsL, refsP, mem_refs_rowP]) (by repeat (first | exact noVar_none _ | refine noVar_row ?_ | refine noVar_map ?_ | refine noVar_rowH ?_ | refine noVar_var ?_ (by simp [refsL, refsP, mem_refs_rowP]))) (fgt_nil)), rfl, ?_⟩
                  rw [hnx']
                  funext c
                  simp (maxSteps := 20000000) only [Heap.drop_at, rowH_app, Heap.put_at, Heap.none_at, List.mem_cons, List.not_mem_nil, or_false]
                  by_cases e0 : c = (0, 0) :: base
                  · subst e0; simp [rowP]
                  by_cases e1 : c = (10, 13) :: base
                  · subst e1; simp [rowP]
                  by_cases e2 : c = (14, 11) :: base
                  · subst e2; simp [rowP]
                  by_cases e3 : c = (14, 12) :: base
                  · subst e3; simp [rowP]
                  simp [e0, e1, e2, e3, rowP]
                | succ m =>
                  repeat (first | ((first | refine X_call_fn2 rfl (by simp only [tys]) ?_ | refine X_dcall_fn2 rfl (by simp only [tys]) ?_); apply Exists.intro; apply And.intro; (focus (simp -dsimp only [simx, zzC, zzB, tys, ite_self, opnL, callB, readsB, stepOp, ofVal, opBuiltin, opLen, PV.sk, scalBin, scalUn, intBin, opLoad, natOf, opConvert, opField, cellsP, oneP, Value.oneCell', opStore, toIV, scalT, scalA, scalC, boxesA, boxesC, zipB_none, zipB_mx, isZ, opZip, zeroP, opAppendZ, opMakeMap, opLookup, mboxB, opUpdate, ↓reduceIte, Nat.reduceSub, Nat.reduceEqDiff, Nat.reduceAdd, Nat.reduceMul, Nat.reduceLT, Nat.reduceLeDiff, Int.reduceToNat, Int.reduceLE, Int.reduceLT, Int.reduceNeg, reduceCtorEq, zzL, if_true, if_false] <;> rfl)); apply Exists.intro; apply And.intro; (focus (first | exact f8))) | refine ⟨(by show drawK _ _ = true; kernel_rfl : drawX _ _ _), ?_⟩ | exact (by show drawK _ _ = true; kernel_rfl : drawX _ _ _) | simp -dsimp (maxSteps := 20000000) (disch := omega) only [simx, zzC, zzB, tys, ite_self, opnL, callB, readsB, stepOp, ofVal, opBuiltin, opLen, PV.sk, scalBin, scalUn, intBin, opLoad, natOf, opConvert, opField, cellsP, oneP, Value.oneCell', opStore, toIV, scalT, scalA, scalC, boxesA, boxesC, zipB_none, zipB_mx, isZ, opZip, zeroP, opAppendZ, opMakeMap, opLookup, mboxB, opUpdate, ↓reduceIte, Nat.reduceSub, Nat.reduceEqDiff, Nat.reduceAdd, Nat.reduceMul, Nat.reduceLT, Nat.reduceLeDiff, Int.reduceToNat, Int.reduceLE, Int.reduceLT, Int.reduceNeg, reduceCtorEq, gos, Int.reduceAdd, Int.reduceSub, Int.reduceMul, Int.reduceEq, cj, s9, s17, t1, t2, t3, t4, List.length_map, keysL_row0, keysL_rowS])
                  refine X_dappend_one 55 [.int .u64 0] [iu y] (by simp only [tys]) (by simp only [tys]) rfl (by decide) (by simp [hps]) (by simp [Heap.put_at, Heap.none_at, rowH_app]) (by simp [Heap.put_at]; rfl) rfl (by simp only [tys]; omega) (by rw [mx_len]; omega) ?_
                  repeat (first | refine ⟨(by show drawK _ _ = true; kernel_rfl : drawX _ _ _), ?_⟩ | exact (by show drawK _ _ = true; kernel_rfl : drawX _ _ _) | simp -dsimp (maxSteps := 20000000) (disch := omega) only [simx, zzC, zzB, tys, ite_self, opnL, callB, readsB, stepOp, ofVal, opBuiltin, opLen, PV.sk, scalBin, scalUn, intBin, opLoad, natOf, opConvert, opField, cellsP, oneP, Value.oneCell', opStore, toIV, scalT, scalA, scalC, boxesA, boxesC, zipB_none, zipB_mx, isZ, opZip, zeroP, opAppendZ, opMakeMap, opLookup, mboxB, opUpdate, ↓reduceIte, Nat.reduceSub, Nat.reduceEqDiff, Nat.reduceAdd, Nat.reduceMul, Nat.reduceLT, Nat.reduceLeDiff, Int.reduceToNat, Int.reduceLE, Int.reduceLT, Int.reduceNeg, reduceCtorEq, gos, Int.reduceAdd, Int.reduceSub, Int.reduceMul, Int.reduceEq, keysL_row0, keysL_rowS, rowP_succ, rowH_succ])
                  refine ⟨cj, (fgt_cons (by simp only [Heap.none_at]) (by (simp -dsimp only [zzB, tys, ite_self, opnL, callB, readsB, stepOp, ofVal, opBuiltin, opLen, PV.sk, scalBin, scalUn, intBin, opLoad, natOf, opConvert, opField, cellsP, oneP, Value.oneCell', opStore, toIV, scalT, scalA, scalC, boxesA, boxesC, zipB_none, zipB_mx, isZ, opZip, zeroP, opAppendZ, opMakeMap, opLookup, mboxB, opUpdate, ↓reduceIte, Nat.reduceSub, Nat.reduceEqDiff, Nat.reduceAdd, Nat.reduceMul, Nat.reduceLT, Nat.reduceLeDiff, Int.reduceToNat, Int.reduceLE, Int.reduceLT, Int.reduceNeg, reduceCtorEq, notIn_cons, notIn_nil]) <;> simp [refsL, refsP, mem_refs_rowP]) (by repeat (first | exact noVar_none _ | refine noVar_row ?_ | refine noVar_map ?_ | refine noVar_rowH ?_ | refine noVar_var ?_ (by simp [refsL, refsP, mem_refs_rowP]))) (fgt_nil)), rfl, ?_⟩
                  rw [hnx']
                  funext c
                  simp (maxSteps := 20000000) only [Heap.drop_at, rowH_app, Heap.put_at, Heap.none_at, List.mem_cons, List.not_mem_nil, or_false]
                  by_cases e0 : c = (0, 0) :: base
                  · subst e0; simp [rowP]
                  by_cases e1 : c = (10, 13) :: base
                  · subst e1; simp [rowP]
                  by_cases e2 : c = (14, 11) :: base
                  · subst e2; simp [rowP]
                  by_cases e3 : c = (14, 12) :: base
                  · subst e3; simp [rowP]
                  simp [e0, e1, e2, e3, rowP]
              · have hj : j = M := by omega
                subst hj
                have nl := bodyN_len b j
                generalize bodyN b j = Z at nl ⊢
                clear hE h12 eE d2 d3 hm hM2 hMM
                cases j with
                | zero =>
                  have : Z = [] := List.eq_nil_of_length_eq_zero nl
                  subst this
                  repeat (first | refine ⟨(by show drawK _ _ = true; kernel_rfl : drawX _ _ _), ?_⟩ | exact (by show drawK _ _ = true; kernel_rfl : drawX _ _ _) | simp -dsimp (maxSteps := 20000000) (disch := omega) only [simx, zzC, zzB, tys, ite_self, opnL, callB, readsB, stepOp, ofVal, opBuiltin, opLen, PV.sk, scalBin, scalUn, intBin, opLoad, natOf, opConvert, opField, cellsP, oneP, Value.oneCell', opStore, toIV, scalT, scalA, scalC, boxesA, boxesC, zipB_none, zipB_mx, isZ, opZip, zeroP, opAppendZ, opMakeMap, opLookup, mboxB, opUpdate, ↓reduceIte, Nat.reduceSub, Nat.reduceEqDiff, Nat.reduceAdd, Nat.reduceMul, Nat.reduceLT, Nat.reduceLeDiff, Int.reduceToNat, Int.reduceLE, Int.reduceLT, Int.reduceNeg, reduceCtorEq, zzR, gos, Int.reduceAdd, Int.reduceSub, Int.reduceMul, Int.reduceEq, h12', rowP_zero, rowH_zero, cj])
                  rfl
                | succ m =>
                  have e2 : (Z.map iu).take (m + 1) = Z.map iu := List.take_of_length_le (by rw [List.length_map, nl]; exact Nat.le_refl _)
                  rw [frQ, frP, lu, nl]
                  repeat (first | refine ⟨(by show drawK _ _ = true; kernel_rfl : drawX _ _ _), ?_⟩ | exact (by show drawK _ _ = true; kernel_rfl : drawX _ _ _) | simp -dsimp (maxSteps := 20000000) (disch := omega) only [simx, zzC, zzB, tys, ite_self, opnL, callB, readsB, stepOp, ofVal, opBuiltin, opLen, PV.sk, scalBin, scalUn, intBin, opLoad, natOf, opConvert, opField, cellsP, oneP, Value.oneCell', opStore, toIV, scalT, scalA, scalC, boxesA, boxesC, zipB_none, zipB_mx, isZ, opZip, zeroP, opAppendZ, opMakeMap, opLookup, mboxB, opUpdate, ↓reduceIte, Nat.reduceSub, Nat.reduceEqDiff, Nat.reduceAdd, Nat.reduceMul, Nat.reduceLT, Nat.reduceLeDiff, Int.reduceToNat, Int.reduceLE, Int.reduceLT, Int.reduceNeg, reduceCtorEq, zzR, gos, Int.reduceAdd, Int.reduceSub, Int.reduceMul, Int.reduceEq, h12', rowP_succ, rowH_succ, List.length_map, nl, e2, cj])
          · rw [if_neg cC]
            refine X_startP (n := 104) (m := 1) (rs := [.cell 2 62, .tmp 3, .tmp 4]) Try.func38 rfl rfl rfl rfl (by decide) fun base => ?_
            repeat (first | ((first | refine X_call_fn2 rfl (by simp only [tys]) ?_ | refine X_dcall_fn2 rfl (by simp only [tys]) ?_); apply Exists.intro; apply And.intro; (focus (simp -dsimp only [simx, zzC, zzB, tys, ite_self, opnL, callB, readsB, stepOp, ofVal, opBuiltin, opLen, PV.sk, scalBin, scalUn, intBin, opLoad, natOf, opConvert, opField, cellsP, oneP, Value.oneCell', opStore, toIV, scalT, scalA, scalC, boxesA, boxesC, zipB_none, zipB_mx, isZ, opZip, zeroP, opAppendZ, opMakeMap, opLookup, mboxB, opUpdate, ↓reduceIte, Nat.reduceSub, Nat.reduceEqDiff, Nat.reduceAdd, Nat.reduceMul, Nat.reduceLT, Nat.reduceLeDiff, Int.reduceToNat, Int.reduceLE, Int.reduceLT, Int.reduceNeg, reduceCtorEq, zzL, if_true, if_false] <;> rfl)); apply Exists.intro; apply And.intro; (focus (first | exact f3 | exact fE | exact fS))) | refine ⟨(by show drawK _ _ = true; kernel_rfl : drawX _ _ _), ?_⟩ | exact (by show drawK _ _ = true; kernel_rfl : drawX _ _ _) | simp -dsimp (maxSteps := 20000000) (disch := omega) only [simx, zzC, zzB, tys, ite_self, opnL, callB, readsB, stepOp, ofVal, opBuiltin, opLen, PV.sk, scalBin, scalUn, intBin, opLoad, natOf, opConvert, opField, cellsP, oneP, Value.oneCell', opStore, toIV, scalT, scalA, scalC, boxesA, boxesC, zipB_none, zipB_mx, isZ, opZip, zeroP, opAppendZ, opMakeMap, opLookup, mboxB, opUpdate, ↓reduceIte, Nat.reduceSub, Nat.reduceEqDiff, Nat.reduceAdd, Nat.reduceMul, Nat.reduceLT, Nat.reduceLeDiff, Int.reduceToNat, Int.reduceLE, Int.reduceLT, Int.reduceNeg, reduceCtorEq, zzR, gos, Int.reduceAdd, Int.reduceSub, Int.reduceMul, Int.reduceEq, c1, List.length_map, g0, g1, g2, g7, g8, i0, i1, i2, i7, i8, e7, e8, e77, hm, d0, d1, d4, d3, h12', c2, eE, iE, iE3, a1, a2, Nat.zero_le, Nat.sub_zero, List.drop_zero, cC, eS])
            rfl
      · rw [if_neg (by simp [d2])]
        have d3 : (9000 : Int) < M := by omega
        refine X_startP (n := 104) (m := 1) (rs := [.cell 2 62, .tmp 3, .tmp 4]) Try.func38 rfl rfl rfl rfl (by decide) fun base => ?_
        repeat (first | refine ⟨(by show drawK _ _ = true; kernel_rfl : drawX _ _ _), ?_⟩ | exact (by show drawK _ _ = true; kernel_rfl : drawX _ _ _) | simp -dsimp (maxSteps := 20000000) (disch := omega) only [simx, zzC, zzB, tys, ite_self, opnL, callB, readsB, stepOp, ofVal, opBuiltin, opLen, PV.sk, scalBin, scalUn, intBin, opLoad, natOf, opConvert, opField, cellsP, oneP, Value.oneCell', opStore, toIV, scalT, scalA, scalC, boxesA, boxesC, zipB_none, zipB_mx, isZ, opZip, zeroP, opAppendZ, opMakeMap, opLookup, mboxB, opUpdate, ↓reduceIte, Nat.reduceSub, Nat.reduceEqDiff, Nat.reduceAdd, Nat.reduceMul, Nat.reduceLT, Nat.reduceLeDiff, Int.reduceToNat, Int.reduceLE, Int.reduceLT, Int.reduceNeg, reduceCtorEq, zzR, gos, Int.reduceAdd, Int.reduceSub, Int.reduceMul, Int.reduceEq, c1, List.length_map, g0, g1, g2, g7, g8, i0, i1, i2, i7, i8, e7, e8, e77, hm, d0, d1, d4, d3])
        rfl
    · rw [if_neg (by simp [d0])]
      refine X_startP (n := 104) (m := 1) (rs := [.cell 2 62, .tmp 3, .tmp 4]) Try.func38 rfl rfl rfl rfl (by decide) fun base => ?_
      repeat (first | refine ⟨(by show drawK _ _ = true; kernel_rfl : drawX _ _ _), ?_⟩ | exact (by show drawK _ _ = true; kernel_rfl : drawX _ _ _) | simp -dsimp (maxSteps := 20000000) (disch := omega) only [simx, zzC, zzB, tys, ite_self, opnL, callB, readsB, stepOp, ofVal, opBuiltin, opLen, PV.sk, scalBin, scalUn, intBin, opLoad, natOf, opConvert, opField, cellsP, oneP, Value.oneCell', opStore, toIV, scalT, scalA, scalC, boxesA, boxesC, zipB_none, zipB_mx, isZ, opZip, zeroP, opAppendZ, opMakeMap, opLookup, mboxB, opUpdate, ↓reduceIte, Nat.reduceSub, Nat.reduceEqDiff, Nat.reduceAdd, Nat.reduceMul, Nat.reduceLT, Nat.reduceLeDiff, Int.reduceToNat, Int.reduceLE, Int.reduceLT, Int.reduceNeg, reduceCtorEq, zzR, gos, Int.reduceAdd, Int.reduceSub, Int.reduceMul, Int.reduceEq, c1, List.length_map, g0, g1, g2, g7, g8, i0, i1, i2, i7, i8, e7, e8, e77, hm, d0])
      rfl
end Go.Proofs.Ytkhjfphenflefaa.TM
