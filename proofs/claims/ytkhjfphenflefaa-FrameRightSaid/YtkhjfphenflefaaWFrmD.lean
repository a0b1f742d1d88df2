/- Layer 11: the next frame. -/
import Derived.Test.YtkhjfphenflefaaWFrmC
import Derived.Test.YtkhjfphenflefaaWDApp
namespace Go.Proofs.Ytkhjfphenflefaa.TM
open Go Go.RowKit
set_option linter.unusedVariables false
set_option linter.defProp false
set_option linter.unusedSimpArgs false
attribute [local irreducible] K W WOps Effs Xg Xo Xr Xdg Xdo Xdr Xif CallsP CallR

def slc (b : List Int) (i n : Nat) : List Int := (b.drop i).take n
theorem slc_len {b : List Int} {i n : Nat} (h : i + n ≤ b.length) : (slc b i n).length = n := by
  unfold slc; rw [List.length_take, List.length_drop]; omega
theorem slc_byts {b : List Int} (h : Byts b) (i n : Nat) : Byts (slc b i n) := (h.drop i).take n
theorem slc_map (b : List Int) (i n : Nat) : ((b.map ib).drop i).take n = (slc b i n).map ib := by unfold slc; rw [List.map_take, List.map_drop]
abbrev frQ (f : Int × Int × Int × List Int) : PV := frP f.1 f.2.1 f.2.2.1 f.2.2.2
/-- How many numbers are said to be in a frame. -/
def manyN (b : List Int) : Nat := (ofL (slc b 7 2)).toNat
def bodyN (b : List Int) (n : Nat) : List Int := (List.range n).map fun i => ofL (slc b (9 + 8 * i) 8)
def nextR (b : List Int) : (Int × Int × Int × List Int) × Int × Int :=
  if b.length < 12 then ((0, 0, 0, []), 0, 3) else
  if b.getD 0 0 = 163 ∧ mayB (b.getD 1 0) (b.getD 2 0) [] = true ∧ manyN b ≤ 9000 then
    if b.length < 12 + 8 * manyN b then ((0, 0, 0, []), 0, 3) else
    if ofL (slc b (9 + 8 * manyN b) 3) = sumS (b.take (9 + 8 * manyN b)) then ((b.getD 1 0, b.getD 2 0, ofL (slc b 3 4), bodyN b (manyN b)), 12 + 8 * manyN b, 0) else ((0, 0, 0, []), 0, 4)
  else ((0, 0, 0, []), 0, 2)
theorem getD_at {b : List Int} {i : Nat} (h : i < b.length) : b[i]? = some (b.getD i 0) := by rw [List.getD_eq_getElem?_getD, List.getElem?_eq_getElem h]; rfl
theorem byt_at {b : List Int} (hb : Byts b) {i : Nat} (h : i < b.length) : Byt (b.getD i 0) := by
  rw [List.getD_eq_getElem?_getD, List.getElem?_eq_getElem h]; exact hb _ (List.getElem_mem h)
abbrev cloB (m : Nat) (cs : List IV) (q : Nat) : PV := .clo 75 [.iref [.l m cs] 0, .iref [.v (.int .i64 q)] 0]
theorem chunkB_walk (m : Nat) (cs : List IV) (q : Nat) (hq : 1 ≤ q) : CallsP Try.prog 65 [.i (.l m cs), i64 q] (cloB m cs q) := by
  have h1 : ¬ (q : Int) < 1 := by omega
  refine X_startP (n := 9) (m := 2) (rs := [.tmp 4]) Try.func65 rfl rfl rfl rfl (by decide) fun base => ?_
  repeat (first | refine ⟨(by show drawK _ _ = true; kernel_rfl : drawX _ _ _), ?_⟩ | exact (by show drawK _ _ = true; kernel_rfl : drawX _ _ _) | simp -dsimp (maxSteps := 20000000) (disch := omega) only [simx, zzC, zzB, tys, ite_self, opnL, callB, readsB, stepOp, ofVal, opBuiltin, opLen, PV.sk, scalBin, scalUn, intBin, opLoad, natOf, opConvert, opField, cellsP, oneP, Value.oneCell', opStore, toIV, scalT, scalA, scalC, boxesA, boxesC, zipB_none, zipB_mx, isZ, opZip, zeroP, opAppendZ, opMakeMap, opLookup, mboxB, opUpdate, ↓reduceIte, Nat.reduceSub, Nat.reduceEqDiff, Nat.reduceAdd, Nat.reduceMul, Nat.reduceLT, Nat.reduceLeDiff, Int.reduceToNat, Int.reduceLE, Int.reduceLT, Int.reduceNeg, reduceCtorEq, zzR, gos, Int.reduceAdd, Int.reduceSub, Int.reduceMul, Int.reduceEq, h1])
set_option maxHeartbeats 2000000 in
theorem next_walk (b : List Int) (hl : b.length ≤ maxLen) (hb : Byts b) : CallsP Try.prog 37 [lb b] (.tup [frQ (nextR b).1, i64 (nextR b).2.1, i64 (nextR b).2.2]) := by
  rw [mx_len] at hl
  unfold nextR
  by_cases cA : b.length < 12
  · have c1 : (b.length : Int) < 12 := by omega
    rw [if_pos cA]
    refine X_startP (n := 83) (m := 1) (rs := [.cell 2 62, .tmp 3, .tmp 4]) Try.func37 rfl rfl rfl rfl (by decide) fun base => ?_
    repeat (first | refine ⟨(by show drawK _ _ = true; kernel_rfl : drawX _ _ _), ?_⟩ | exact (by show drawK _ _ = true; kernel_rfl : drawX _ _ _) | simp -dsimp (maxSteps := 20000000) (disch := omega) only [simx, zzC, zzB, tys, ite_self, opnL, callB, readsB, stepOp, ofVal, opBuiltin, opLen, PV.sk, scalBin, scalUn, intBin, opLoad, natOf, opConvert, opField, cellsP, oneP, Value.oneCell', opStore, toIV, scalT, scalA, scalC, boxesA, boxesC, zipB_none, zipB_mx, isZ, opZip, zeroP, opAppendZ, opMakeMap, opLookup, mboxB, opUpdate, ↓reduceIte, Nat.reduceSub, Nat.reduceEqDiff, Nat.reduceAdd, Nat.reduceMul, Nat.reduceLT, Nat.reduceLeDiff, Int.reduceToNat, Int.reduceLE, Int.reduceLT, Int.reduceNeg, reduceCtorEq, zzR, gos, Int.reduceAdd, Int.reduceSub, Int.reduceMul, Int.reduceEq, c1])
    rfl
  · have c1 : ¬ (b.length : Int) < 12 := by omega
    rw [if_neg cA]
    have g0 := getD_at (b := b) (i := 0) (by omega)
    have g1 := getD_at (b := b) (i := 1) (by omega)
    have g2 := getD_at (b := b) (i := 2) (by omega)
    have b0 := byt_at hb (i := 0) (by omega)
    have b1 := byt_at hb (i := 1) (by omega)
    have b2 := byt_at hb (i := 2) (by omega)
    have l3 := slc_len (b := b) (i := 3) (n := 4) (by omega)
    have l7 := slc_len (b := b) (i := 7) (n := 2) (by omega)
    have f3 := of_walk (slc b 3 4) (by omega) (slc_byts hb _ _)
    have f7 := of_walk (slc b 7 2) (by omega) (slc_byts hb _ _)
    have o3 := ofL_bd 4 l3 (slc_byts hb _ _)
    have o7 := ofL_bd 2 l7 (slc_byts hb _ _)
    rw [show p256 4 = 4294967296 by decide] at o3
    rw [show p256 2 = 65536 by decide] at o7
    rw [lb, l3, ← slc_map] at f3
    rw [lb, l7, ← slc_map] at f7
    have hm : ofL (slc b 7 2) = (manyN b : Int) := by unfold manyN; omega
    rw [hm] at f7 o7
    have q1 := may_walk (b.getD 1 0) (b.getD 2 0) (ofL (slc b 3 4)) []
    generalize ofL (slc b 3 4) = K at f3 o3 q1 ⊢
    generalize manyN b = M at f7 o7 hm ⊢
    generalize hB0 : b.getD 0 0 = B0 at g0 b0 ⊢
    generalize hB1 : b.getD 1 0 = B1 at g1 b1 q1 ⊢
    generalize hB2 : b.getD 2 0 = B2 at g2 b2 q1 ⊢
    unfold Byt at b0 b1 b2
    have e1 : IntKind.i64.wrap B1 = B1 := iw_of (by omega) (by omega)
    have e2 : IntKind.i64.wrap B2 = B2 := iw_of (by omega) (by omega)
    have e3 : IntKind.u32.wrap K = K := by rw [show IntKind.u32.wrap K = K % 4294967296 by simp [IntKind.wrap, IntKind.bits, IntKind.signed]]; omega
    have e4 : IntKind.i64.wrap (M : Int) = M := iw_of (by omega) (by omega)
    have i0 : 0 < b.length := by omega
    have i1 : 1 < b.length := by omega
    have i2 : 2 < b.length := by omega
    have i7 : 7 ≤ b.length := by omega
    have i9 : 9 ≤ b.length := by omega
    clear l3 l7
    by_cases d0 : B0 = 163
    · cases d1 : mayB B1 B2 [] with
      | false =>
        rw [d1] at q1
        rw [if_neg (by simp)]
        refine X_startP (n := 83) (m := 1) (rs := [.cell 2 62, .tmp 3, .tmp 4]) Try.func37 rfl rfl rfl rfl (by decide) fun base => ?_
        repeat (first | ((first | refine X_call_fn2 rfl (by simp only [tys]) ?_ | refine X_dcall_fn2 rfl (by simp only [tys]) ?_); apply Exists.intro; apply And.intro; (focus (simp -dsimp only [simx, zzC, zzB, tys, ite_self, opnL, callB, readsB, stepOp, ofVal, opBuiltin, opLen, PV.sk, scalBin, scalUn, intBin, opLoad, natOf, opConvert, opField, cellsP, oneP, Value.oneCell', opStore, toIV, scalT, scalA, scalC, boxesA, boxesC, zipB_none, zipB_mx, isZ, opZip, zeroP, opAppendZ, opMakeMap, opLookup, mboxB, opUpdate, ↓reduceIte, Nat.reduceSub, Nat.reduceEqDiff, Nat.reduceAdd, Nat.reduceMul, Nat.reduceLT, Nat.reduceLeDiff, Int.reduceToNat, Int.reduceLE, Int.reduceLT, Int.reduceNeg, reduceCtorEq, zzL, if_true, if_false] <;> rfl)); apply Exists.intro; apply And.intro; (focus (first | exact f3 | exact f7 | exact q1))) | refine ⟨(by show drawK _ _ = true; kernel_rfl : drawX _ _ _), ?_⟩ | exact (by show drawK _ _ = true; kernel_rfl : drawX _ _ _) | simp -dsimp (maxSteps := 20000000) (disch := omega) only [simx, zzC, zzB, tys, ite_self, opnL, callB, readsB, stepOp, ofVal, opBuiltin, opLen, PV.sk, scalBin, scalUn, intBin, opLoad, natOf, opConvert, opField, cellsP, oneP, Value.oneCell', opStore, toIV, scalT, scalA, scalC, boxesA, boxesC, zipB_none, zipB_mx, isZ, opZip, zeroP, opAppendZ, opMakeMap, opLookup, mboxB, opUpdate, ↓reduceIte, Nat.reduceSub, Nat.reduceEqDiff, Nat.reduceAdd, Nat.reduceMul, Nat.reduceLT, Nat.reduceLeDiff, Int.reduceToNat, Int.reduceLE, Int.reduceLT, Int.reduceNeg, reduceCtorEq, zzR, gos, Int.reduceAdd, Int.reduceSub, Int.reduceMul, Int.reduceEq, c1, List.length_map, g0, g1, g2, i0, i1, i2, i7, i9, e1, e2, e3, e4, d0])
        rfl
      | true =>
        rw [d1] at q1
        by_cases d2 : M ≤ 9000
        · rw [if_pos ⟨d0, rfl, d2⟩]
          have d3 : ¬ (9000 : Int) < M := by omega
          obtain ⟨E, hE⟩ : ∃ E : Nat, E = 9 + 8 * M := ⟨_, rfl⟩
          have h12 : 12 + 8 * M = E + 3 := by omega
          have h12' : (12 : Int) + 8 * (M : Int) = ((E + 3 : Nat) : Int) := by omega
          have eE : (9 : Int) + 8 * (M : Int) = (E : Int) := by omega
          have eE3 : (E : Int) + 3 = ((E + 3 : Nat) : Int) := by omega
          have E9 : 9 ≤ E := by omega
          rw [h12, h12', ← hE]
          by_cases cB : b.length < E + 3
          · have c2 : (b.length : Int) < ((E + 3 : Nat) : Int) := by omega
            rw [if_pos cB]
            refine X_startP (n := 83) (m := 1) (rs := [.cell 2 62, .tmp 3, .tmp 4]) Try.func37 rfl rfl rfl rfl (by decide) fun base => ?_
            repeat (first | ((first | refine X_call_fn2 rfl (by simp only [tys]) ?_ | refine X_dcall_fn2 rfl (by simp only [tys]) ?_); apply Exists.intro; apply And.intro; (focus (simp -dsimp only [simx, zzC, zzB, tys, ite_self, opnL, callB, readsB, stepOp, ofVal, opBuiltin, opLen, PV.sk, scalBin, scalUn, intBin, opLoad, natOf, opConvert, opField, cellsP, oneP, Value.oneCell', opStore, toIV, scalT, scalA, scalC, boxesA, boxesC, zipB_none, zipB_mx, isZ, opZip, zeroP, opAppendZ, opMakeMap, opLookup, mboxB, opUpdate, ↓reduceIte, Nat.reduceSub, Nat.reduceEqDiff, Nat.reduceAdd, Nat.reduceMul, Nat.reduceLT, Nat.reduceLeDiff, Int.reduceToNat, Int.reduceLE, Int.reduceLT, Int.reduceNeg, reduceCtorEq, zzL, if_true, if_false] <;> rfl)); apply Exists.intro; apply And.intro; (focus (first | exact f3 | exact f7 | exact q1))) | refine ⟨(by show drawK _ _ = true; kernel_rfl : drawX _ _ _), ?_⟩ | exact (by show drawK _ _ = true; kernel_rfl : drawX _ _ _) | simp -dsimp (maxSteps := 20000000) (disch := omega) only [simx, zzC, zzB, tys, ite_self, opnL, callB, readsB, stepOp, ofVal, opBuiltin, opLen, PV.sk, scalBin, scalUn, intBin, opLoad, natOf, opConvert, opField, cellsP, oneP, Value.oneCell', opStore, toIV, scalT, scalA, scalC, boxesA, boxesC, zipB_none, zipB_mx, isZ, opZip, zeroP, opAppendZ, opMakeMap, opLookup, mboxB, opUpdate, ↓reduceIte, Nat.reduceSub, Nat.reduceEqDiff, Nat.reduceAdd, Nat.reduceMul, Nat.reduceLT, Nat.reduceLeDiff, Int.reduceToNat, Int.reduceLE, Int.reduceLT, Int.reduceNeg, reduceCtorEq, zzR, gos, Int.reduceAdd, Int.reduceSub, Int.reduceMul, Int.reduceEq, c1, List.length_map, g0, g1, g2, i0, i1, i2, i7, i9, e1, e2, e3, e4, d0, d3, eE, eE3, c2])
            rfl
          · have c2 : ¬ (b.length : Int) < ((E + 3 : Nat) : Int) := by omega
            rw [if_neg cB]
            have lE := slc_len (b := b) (i := E) (n := 3) (by omega)
            have fE := of_walk (slc b E 3) (by omega) (slc_byts hb _ _)
            have oE := ofL_bd 3 lE (slc_byts hb _ _)
            rw [show p256 3 = 16777216 by decide] at oE
            rw [lb, lE, ← slc_map] at fE
            have tl : (b.take E).length = E := by rw [List.length_take]; omega
            have fS := sum_walk (b.take E) (by rw [tl, mx_len]; omega) (hb.take E)
            have sb := sumS_bd (b.take E)
            rw [lb, tl, List.map_take] at fS
            have eS : IntKind.u64.wrap (sumS (b.take E)) = sumS (b.take E) := uw_of (by omega) (by omega)
            have iE : E ≤ b.length := by omega
            have iE3 : E + 3 ≤ b.length := by omega
            have a1 : E + 3 - E = 3 := by omega
            have a2 : E ≤ E + 3 := by omega
            clear lE tl
            generalize hU : ofL (slc b E 3) = U at fE oE ⊢
            generalize hV : sumS (b.take E) = V at fS sb eS ⊢
            by_cases cC : U = V
            · rw [if_pos cC]
              have dk := chunkB_walk (M * 8) (((b.map ib).drop 9).take (M * 8)) 8 (by omega)
              have a3 : E - 9 = M * 8 := by omega
              have kl : (((b.map ib).drop 9).take (M * 8)).length = M * 8 := by rw [List.length_take, List.length_drop, List.length_map]; omega
              refine X_startP (n := 83) (m := 1) (rs := [.cell 2 62, .tmp 3, .tmp 4]) Try.func37 rfl rfl rfl rfl (by decide) fun base => ?_
              repeat (first | ((first | refine X_call_fn2 rfl (by simp only [tys]) ?_ | refine X_dcall_fn2 rfl (by simp only [tys]) ?_); apply Exists.intro; apply And.intro; (focus (simp -dsimp only [simx, zzC, zzB, tys, ite_self, opnL, callB, readsB, stepOp, ofVal, opBuiltin, opLen, PV.sk, scalBin, scalUn, intBin, opLoad, natOf, opConvert, opField, cellsP, oneP, Value.oneCell', opStore, toIV, scalT, scalA, scalC, boxesA, boxesC, zipB_none, zipB_mx, isZ, opZip, zeroP, opAppendZ, opMakeMap, opLookup, mboxB, opUpdate, ↓reduceIte, Nat.reduceSub, Nat.reduceEqDiff, Nat.reduceAdd, Nat.reduceMul, Nat.reduceLT, Nat.reduceLeDiff, Int.reduceToNat, Int.reduceLE, Int.reduceLT, Int.reduceNeg, reduceCtorEq, zzL, if_true, if_false] <;> rfl)); apply Exists.intro; apply And.intro; (focus (first | exact f3 | exact f7 | exact q1 | exact fE | exact fS | exact dk))) | refine ⟨(by show drawK _ _ = true; kernel_rfl : drawX _ _ _), ?_⟩ | exact (by show drawK _ _ = true; kernel_rfl : drawX _ _ _) | simp -dsimp (maxSteps := 20000000) (disch := omega) only [simx, zzC, zzB, tys, ite_self, opnL, callB, readsB, stepOp, ofVal, opBuiltin, opLen, PV.sk, scalBin, scalUn, intBin, opLoad, natOf, opConvert, opField, cellsP, oneP, Value.oneCell', opStore, toIV, scalT, scalA, scalC, boxesA, boxesC, zipB_none, zipB_mx, isZ, opZip, zeroP, opAppendZ, opMakeMap, opLookup, mboxB, opUpdate, ↓reduceIte, Nat.reduceSub, Nat.reduceEqDiff, Nat.reduceAdd, Nat.reduceMul, Nat.reduceLT, Nat.reduceLeDiff, Int.reduceToNat, Int.reduceLE, Int.reduceLT, Int.reduceNeg, reduceCtorEq, gos, Int.reduceAdd, Int.reduceSub, Int.reduceMul, Int.reduceEq, c1, List.length_map, g0, g1, g2, i0, i1, i2, i7, i9, e1, e2, e3, e4, d0, d3, eE, eE3, c2, iE, iE3, a1, a2, Nat.zero_le, Nat.sub_zero, a3, E9, cC, eS])
              have kc : ∀ x : {k : Nat // k < M}, (((b.map ib).drop 9).take (M * 8)).drop (x.1 * 8) = ((b.map ib).drop (9 + 8 * x.1)).take (M * 8 - x.1 * 8) := fun x => by
                rw [List.drop_take, List.drop_drop]; congr 2; omega
              have kp : ∀ x : {k : Nat // k < M}, ((((b.map ib).drop 9).take (M * 8)).drop (x.1 * 8)).take 8 = (slc b (9 + 8 * x.1) 8).map ib := fun x => by
                rw [kc x, List.take_take, Nat.min_eq_left (by have := x.2; omega), slc_map]
              refine X_range [2, 5, 7] [] [(14, 4) :: base] (fun x : {k : Nat // k < M} => [.i (.l 8 ((slc b (9 + 8 * x.1) 8).map ib))]) (fun xs => xs.map (·.1) = List.range M) M _
                (fun pre => rowH ((Heap.none.put ((0, 0) :: base) (.var [i64 0, i64 0, u32 0, .i (.v (.slice none 0 0))])).put ((3, 13) :: base) (.var [i64 B1, i64 B2, u32 K, rowP ((14, 5) :: base) 1 pre.length (pre.map fun x => iu (ofL (slc b (9 + 8 * x.1) 8)))])) ((14, 5) :: base) pre.length (pre.map fun x => iu (ofL (slc b (9 + 8 * x.1) 8))))
                (rowH ((Heap.none.put ((0, 0) :: base) (.var [i64 0, i64 0, u32 0, .i (.v (.slice none 0 0))])).put ((3, 13) :: base) (.var [i64 B1, i64 B2, u32 K, rowP ((14, 5) :: base) 1 M ((bodyN b M).map iu)])) ((14, 5) :: base) M ((bodyN b M).map iu))
                (by decide) rfl rfl (by simp only [tys]) (by have := chunkB_iterD (N := M) (q := 8) (cs := ((b.map ib).drop 9).take (M * 8)) (h := (((Heap.none.put ((0, 0) :: base) (.var [i64 0, i64 0, u32 0, .i (.v (.slice none 0 0))])).put ((3, 13) :: base) (.var [i64 0, i64 0, u32 0, .i (.v (.slice none 0 0))])).put ((3, 13) :: base) (.var [i64 B1, i64 B2, u32 K, .i (.v (.slice none 0 0))]))) kl (by omega) (by omega); simp only [kp] at this; exact this) fgt_nil ?_ (fun x => ⟨rfl, assign1 _ (by decide)⟩)
                (fun pre => noMapH_row (noMapH_put (noMapH_put noMapH_none _ rfl) _ rfl) _ _ _) ?_ ?_ ?_
              · rw [drop_nil]
                funext c
                simp (maxSteps := 20000000) only [Heap.drop_at, rowH_app, Heap.put_at, Heap.none_at, List.mem_cons, List.not_mem_nil, or_false]
                by_cases e0 : c = (0, 0) :: base
                · subst e0; simp [rowP]
                by_cases e1 : c = (3, 13) :: base
                · subst e1; simp [rowP]
                simp [e0, e1, rowP]
              · intro pre x hpl
                have l8 := slc_len (b := b) (i := 9 + 8 * x.1) (n := 8) (by have := x.2; omega)
                have f8 := of_walk (slc b (9 + 8 * x.1) 8) (by omega) (slc_byts hb _ _)
                rw [lb, l8] at f8
                have hnx : ((pre ++ [x]).map fun x => iu (ofL (slc b (9 + 8 * x.1) 8))) = (pre.map fun x => iu (ofL (slc b (9 + 8 * x.1) 8))) ++ [iu (ofL (slc b (9 + 8 * x.1) 8))] := by rw [List.map_append]; rfl
                have hnl : (pre ++ [x]).length = pre.length + 1 := by simp
                rw [hnx, hnl]
                generalize ofL (slc b (9 + 8 * x.1) 8) = y at f8 ⊢
                generalize (slc b (9 + 8 * x.1) 8).map ib = yc at f8 ⊢
                generalize hcs : (pre.map fun x => iu (ofL (slc b (9 + 8 * x.1) 8))) = ps
                have hps : ps.length = pre.length := by rw [← hcs, List.length_map]
                generalize pre.length = m at hpl hps
                cases m with
                | zero =>
                  have : ps = [] := List.eq_nil_of_length_eq_zero hps
                  subst this
                  repeat (first | ((first | refine X_call_fn2 rfl (by simp only [tys]) ?_ | refine X_dcall_fn2 rfl (by simp only [tys]) ?_); apply Exists.intro; apply And.intro; (focus (simp -dsimp only [simx, zzC, zzB, tys, ite_self, opnL, callB, readsB, stepOp, ofVal, opBuiltin, opLen, PV.sk, scalBin, scalUn, intBin, opLoad, natOf, opConvert, opField, cellsP, oneP, Value.oneCell', opStore, toIV, scalT, scalA, scalC, boxesA, boxesC, zipB_none, zipB_mx, isZ, opZip, zeroP, opAppendZ, opMakeMap, opLookup, mboxB, opUpdate, ↓reduceIte, Nat.reduceSub, Nat.reduceEqDiff, Nat.reduceAdd, Nat.reduceMul, Nat.reduceLT, Nat.reduceLeDiff, Int.reduceToNat, Int.reduceLE, Int.reduceLT, Int.reduceNeg, reduceCtorEq, zzL, if_true, if_false] <;> rfl)); apply Exists.intro; apply And.intro; (focus (first | exact f8))) | refine ⟨(by show drawK _ _ = true; kernel_rfl : drawX _ _ _), ?_⟩ | exact (by show drawK _ _ = true; kernel_rfl : drawX _ _ _) | simp -dsimp (maxSteps := 20000000) (disch := omega) only [simx, zzC, zzB, tys, ite_self, opnL, callB, readsB, stepOp, ofVal, opBuiltin, opLen, PV.sk, scalBin, scalUn, intBin, opLoad, natOf, opConvert, opField, cellsP, oneP, Value.oneCell', opStore, toIV, scalT, scalA, scalC, boxesA, boxesC, zipB_none, zipB_mx, isZ, opZip, zeroP, opAppendZ, opMakeMap, opLookup, mboxB, opUpdate, ↓reduceIte, Nat.reduceSub, Nat.reduceEqDiff, Nat.reduceAdd, Nat.reduceMul, Nat.reduceLT, Nat.reduceLeDiff, Int.reduceToNat, Int.reduceLE, Int.reduceLT, Int.reduceNeg, reduceCtorEq, gos, Int.reduceAdd, Int.reduceSub, Int.reduceMul, Int.reduceEq, keysL_row0, keysL_rowS])
                  refine X_dappend_one 55 [.int .u64 0] [iu y] (by simp only [tys]) (by simp only [tys]) rfl (by decide) (by simp) (by simp [Heap.put_at, Heap.none_at, rowH_app]) (by simp [Heap.put_at]; rfl) rfl (by simp only [tys]; omega) (by rw [mx_len]; omega) ?_
                  repeat (first | refine ⟨(by show drawK _ _ = true; kernel_rfl : drawX _ _ _), ?_⟩ | exact (by show drawK _ _ = true; kernel_rfl : drawX _ _ _) | simp -dsimp (maxSteps := 20000000) (disch := omega) only [simx, zzC, zzB, tys, ite_self, opnL, callB, readsB, stepOp, ofVal, opBuiltin, opLen, PV.sk, scalBin, scalUn, intBin, opLoad, natOf, opConvert, opField, cellsP, oneP, Value.oneCell', opStore, toIV, scalT, scalA, scalC, boxesA, boxesC, zipB_none, zipB_mx, isZ, opZip, zeroP, opAppendZ, opMakeMap, opLookup, mboxB, opUpdate, ↓reduceIte, Nat.reduceSub, Nat.reduceEqDiff, Nat.reduceAdd, Nat.reduceMul, Nat.reduceLT, Nat.reduceLeDiff, Int.reduceToNat, Int.reduceLE, Int.reduceLT, Int.reduceNeg, reduceCtorEq, gos, Int.reduceAdd, Int.reduceSub, Int.reduceMul, Int.reduceEq, keysL_row0, keysL_rowS, rowP_succ, rowH_succ])
                  refine ⟨(fgt_cons (by simp [rowH_app, Heap.put_at, Heap.none_at]) (by rw [notIn_nil]; trivial) (by repeat (first | exact noVar_none _ | refine noVar_row ?_ | refine noVar_map ?_ | refine noVar_rowH ?_ | refine noVar_var ?_ (by simp [refsL, refsP, mem_refs_rowP]))) (fgt_nil)), ?_⟩
                  funext c
                  simp (maxSteps := 20000000) only [Heap.drop_at, rowH_app, Heap.put_at, Heap.none_at, List.mem_cons, List.not_mem_nil, or_false]
                  by_cases e0 : c = (0, 0) :: base
                  · subst e0; simp [rowP]
                  by_cases e1 : c = (3, 13) :: base
                  · subst e1; simp [rowP]
                  by_cases e2 : c = (14, 4) :: base
                  · subst e2; simp [rowP]
                  by_cases e3 : c = (14, 5) :: base
                  · subst e3; simp [rowP]
                  simp [e0, e1, e2, e3, rowP]
                | succ m =>
                  repeat (first | ((first | refine X_call_fn2 rfl (by simp only [tys]) ?_ | refine X_dcall_fn2 rfl (by simp only [tys]) ?_); apply Exists.intro; apply And.intro; (focus (simp -dsimp only [simx, zzC, zzB, tys, ite_self, opnL, callB, readsB, stepOp, ofVal, opBuiltin, opLen, PV.sk, scalBin, scalUn, intBin, opLoad, natOf, opConvert, opField, cellsP, oneP, Value.oneCell', opStore, toIV, scalT, scalA, scalC, boxesA, boxesC, zipB_none, zipB_mx, isZ, opZip, zeroP, opAppendZ, opMakeMap, opLookup, mboxB, opUpdate, ↓reduceIte, Nat.reduceSub, Nat.reduceEqDiff, Nat.reduceAdd, Nat.reduceMul, Nat.reduceLT, Nat.reduceLeDiff, Int.reduceToNat, Int.reduceLE, Int.reduceLT, Int.reduceNeg, reduceCtorEq, zzL, if_true, if_false] <;> rfl)); apply Exists.intro; apply And.intro; (focus (first | exact f8))) | refine ⟨(by show drawK _ _ = true; kernel_rfl : drawX _ _ _), ?_⟩ | exact (by show drawK _ _ = true; kernel_rfl : drawX _ _ _) | simp -dsimp (maxSteps := 20000000) (disch := omega) only [simx, zzC, zzB, tys, ite_self, opnL, callB, readsB, stepOp, ofVal, opBuiltin, opLen, PV.sk, scalBin, scalUn, intBin, opLoad, natOf, opConvert, opField, cellsP, oneP, Value.oneCell', opStore, toIV, scalT, scalA, scalC, boxesA, boxesC, zipB_none, zipB_mx, isZ, opZip, zeroP, opAppendZ, opMakeMap, opLookup, mboxB, opUpdate, ↓reduceIte, Nat.reduceSub, Nat.reduceEqDiff, Nat.reduceAdd, Nat.reduceMul, Nat.reduceLT, Nat.reduceLeDiff, Int.reduceToNat, Int.reduceLE, Int.reduceLT, Int.reduceNeg, reduceCtorEq, gos, Int.reduceAdd, Int.reduceSub, Int.reduceMul, Int.reduceEq, keysL_row0, keysL_rowS])
                  refine X_dappend_one 55 [.int .u64 0] [iu y] (by simp only [tys]) (by simp only [tys]) rfl (by decide) (by simp [hps]) (by simp [Heap.put_at, Heap.none_at, rowH_app]) (by simp [Heap.put_at]; rfl) rfl (by simp only [tys]; omega) (by rw [mx_len]; omega) ?_
                  repeat (first | refine ⟨(by show drawK _ _ = true; kernel_rfl : drawX _ _ _), ?_⟩ | exact (by show drawK _ _ = true; kernel_rfl : drawX _ _ _) | simp -dsimp (maxSteps := 20000000) (disch := omega) only [simx, zzC, zzB, tys, ite_self, opnL, callB, readsB, stepOp, ofVal, opBuiltin, opLen, PV.sk, scalBin, scalUn, intBin, opLoad, natOf, opConvert, opField, cellsP, oneP, Value.oneCell', opStore, toIV, scalT, scalA, scalC, boxesA, boxesC, zipB_none, zipB_mx, isZ, opZip, zeroP, opAppendZ, opMakeMap, opLookup, mboxB, opUpdate, ↓reduceIte, Nat.reduceSub, Nat.reduceEqDiff, Nat.reduceAdd, Nat.reduceMul, Nat.reduceLT, Nat.reduceLeDiff, Int.reduceToNat, Int.reduceLE, Int.reduceLT, Int.reduceNeg, reduceCtorEq, gos, Int.reduceAdd, Int.reduceSub, Int.reduceMul, Int.reduceEq, keysL_row0, keysL_rowS, rowP_succ, rowH_succ])
                  refine ⟨(fgt_cons (by simp [rowH_app, Heap.put_at, Heap.none_at]) (by rw [notIn_nil]; trivial) (by repeat (first | exact noVar_none _ | refine noVar_row ?_ | refine noVar_map ?_ | refine noVar_rowH ?_ | refine noVar_var ?_ (by simp [refsL, refsP, mem_refs_rowP]))) (fgt_nil)), ?_⟩
                  funext c
                  simp (maxSteps := 20000000) only [Heap.drop_at, rowH_app, Heap.put_at, Heap.none_at, List.mem_cons, List.not_mem_nil, or_false]
                  by_cases e0 : c = (0, 0) :: base
                  · subst e0; simp [rowP]
                  by_cases e1 : c = (3, 13) :: base
                  · subst e1; simp [rowP]
                  by_cases e2 : c = (14, 4) :: base
                  · subst e2; simp [rowP]
                  by_cases e3 : c = (14, 5) :: base
                  · subst e3; simp [rowP]
                  simp [e0, e1, e2, e3, rowP]
              · intro xs hxs
                have h1 : xs.length = M := by have := congrArg List.length hxs; simpa using this
                have h2 : (xs.map fun x => iu (ofL (slc b (9 + 8 * x.1) 8))) = (bodyN b M).map iu := by
                  unfold bodyN
                  rw [← hxs, List.map_map, List.map_map]; rfl
                simp only [h1, h2]
              · have nl : (bodyN b M).length = M := by simp [bodyN]
                have hd : ((E + 3 : Nat) : Int) = (E : Int) + 3 := by omega
                generalize bodyN b M = Z at nl ⊢
                clear hE h12 h12' eE d2 d3 a3 kl kc kp dk f7 hm o7
                cases M with
                | zero =>
                  have : Z = [] := List.eq_nil_of_length_eq_zero nl
                  subst this
                  repeat (first | refine ⟨(by show drawK _ _ = true; kernel_rfl : drawX _ _ _), ?_⟩ | exact (by show drawK _ _ = true; kernel_rfl : drawX _ _ _) | simp -dsimp (maxSteps := 20000000) (disch := omega) only [simx, zzC, zzB, tys, ite_self, opnL, callB, readsB, stepOp, ofVal, opBuiltin, opLen, PV.sk, scalBin, scalUn, intBin, opLoad, natOf, opConvert, opField, cellsP, oneP, Value.oneCell', opStore, toIV, scalT, scalA, scalC, boxesA, boxesC, zipB_none, zipB_mx, isZ, opZip, zeroP, opAppendZ, opMakeMap, opLookup, mboxB, opUpdate, ↓reduceIte, Nat.reduceSub, Nat.reduceEqDiff, Nat.reduceAdd, Nat.reduceMul, Nat.reduceLT, Nat.reduceLeDiff, Int.reduceToNat, Int.reduceLE, Int.reduceLT, Int.reduceNeg, reduceCtorEq, zzR, gos, Int.reduceAdd, Int.reduceSub, Int.reduceMul, Int.reduceEq, eE3, rowP_zero, rowH_zero])
                  rfl
                | succ M =>
                  have e2 : (Z.map iu).take (M + 1) = Z.map iu := List.take_of_length_le (by rw [List.length_map, nl]; exact Nat.le_refl _)
                  rw [frQ, frP, lu, nl]
                  repeat (first | refine ⟨(by show drawK _ _ = true; kernel_rfl : drawX _ _ _), ?_⟩ | exact (by show drawK _ _ = true; kernel_rfl : drawX _ _ _) | simp -dsimp (maxSteps := 20000000) (disch := omega) only [simx, zzC, zzB, tys, ite_self, opnL, callB, readsB, stepOp, ofVal, opBuiltin, opLen, PV.sk, scalBin, scalUn, intBin, opLoad, natOf, opConvert, opField, cellsP, oneP, Value.oneCell', opStore, toIV, scalT, scalA, scalC, boxesA, boxesC, zipB_none, zipB_mx, isZ, opZip, zeroP, opAppendZ, opMakeMap, opLookup, mboxB, opUpdate, ↓reduceIte, Nat.reduceSub, Nat.reduceEqDiff, Nat.reduceAdd, Nat.reduceMul, Nat.reduceLT, Nat.reduceLeDiff, Int.reduceToNat, Int.reduceLE, Int.reduceLT, Int.reduceNeg, reduceCtorEq, zzR, gos, Int.reduceAdd, Int.reduceSub, Int.reduceMul, Int.reduceEq, eE3, rowP_succ, rowH_succ, List.length_map, nl, e2])
            · rw [if_neg cC]
              refine X_startP (n := 83) (m := 1) (rs := [.cell 2 62, .tmp 3, .tmp 4]) Try.func37 rfl rfl rfl rfl (by decide) fun base => ?_
              repeat (first | ((first | refine X_call_fn2 rfl (by simp only [tys]) ?_ | refine X_dcall_fn2 rfl (by simp only [tys]) ?_); apply Exists.intro; apply And.intro; (focus (simp -dsimp only [simx, zzC, zzB, tys, ite_self, opnL, callB, readsB, stepOp, ofVal, opBuiltin, opLen, PV.sk, scalBin, scalUn, intBin, opLoad, natOf, opConvert, opField, cellsP, oneP, Value.oneCell', opStore, toIV, scalT, scalA, scalC, boxesA, boxesC, zipB_none, zipB_mx, isZ, opZip, zeroP, opAppendZ, opMakeMap, opLookup, mboxB, opUpdate, ↓reduceIte, Nat.reduceSub, Nat.reduceEqDiff, Nat.reduceAdd, Nat.reduceMul, Nat.reduceLT, Nat.reduceLeDiff, Int.reduceToNat, Int.reduceLE, Int.reduceLT, Int.reduceNeg, reduceCtorEq, zzL, if_true, if_false] <;> rfl)); apply Exists.intro; apply And.intro; (focus (first | exact f3 | exact f7 | exact q1 | exact fE | exact fS))) | refine ⟨(by show drawK _ _ = true; kernel_rfl : drawX _ _ _), ?_⟩ | exact (by show drawK _ _ = true; kernel_rfl : drawX _ _ _) | simp -dsimp (maxSteps := 20000000) (disch := omega) only [simx, zzC, zzB, tys, ite_self, opnL, callB, readsB, stepOp, ofVal, opBuiltin, opLen, PV.sk, scalBin, scalUn, intBin, opLoad, natOf, opConvert, opField, cellsP, oneP, Value.oneCell', opStore, toIV, scalT, scalA, scalC, boxesA, boxesC, zipB_none, zipB_mx, isZ, opZip, zeroP, opAppendZ, opMakeMap, opLookup, mboxB, opUpdate, ↓reduceIte, Nat.reduceSub, Nat.reduceEqDiff, Nat.reduceAdd, Nat.reduceMul, Nat.reduceLT, Nat.reduceLeDiff, Int.reduceToNat, Int.reduceLE, Int.reduceLT, Int.reduceNeg, reduceCtorEq, zzR, gos, Int.reduceAdd, Int.reduceSub, Int.reduceMul, Int.reduceEq, c1, List.length_map, g0, g1, g2, i0, i1, i2, i7, i9, e1, e2, e3, e4, d0, d3, eE, eE3, c2, iE, iE3, a1, a2, Nat.zero_le, Nat.sub_zero, cC, eS])
              rfl
        · rw [if_neg (by simp [d2])]
          have d3 : (9000 : Int) < M := by omega
          refine X_startP (n := 83) (m := 1) (rs := [.cell 2 62, .tmp 3, .tmp 4]) Try.func37 rfl rfl rfl rfl (by decide) fun base => ?_
          repeat (first | ((first | refine X_call_fn2 rfl (by simp only [tys]) ?_ | refine X_dcall_fn2 rfl (by simp only [tys]) ?_); apply Exists.intro; apply And.intro; (focus (simp -dsimp only [simx, zzC, zzB, tys, ite_self, opnL, callB, readsB, stepOp, ofVal, opBuiltin, opLen, PV.sk, scalBin, scalUn, intBin, opLoad, natOf, opConvert, opField, cellsP, oneP, Value.oneCell', opStore, toIV, scalT, scalA, scalC, boxesA, boxesC, zipB_none, zipB_mx, isZ, opZip, zeroP, opAppendZ, opMakeMap, opLookup, mboxB, opUpdate, ↓reduceIte, Nat.reduceSub, Nat.reduceEqDiff, Nat.reduceAdd, Nat.reduceMul, Nat.reduceLT, Nat.reduceLeDiff, Int.reduceToNat, Int.reduceLE, Int.reduceLT, Int.reduceNeg, reduceCtorEq, zzL, if_true, if_false] <;> rfl)); apply Exists.intro; apply And.intro; (focus (first | exact f3 | exact f7 | exact q1))) | refine ⟨(by show drawK _ _ = true; kernel_rfl : drawX _ _ _), ?_⟩ | exact (by show drawK _ _ = true; kernel_rfl : drawX _ _ _) | simp -dsimp (maxSteps := 20000000) (disch := omega) only [simx, zzC, zzB, tys, ite_self, opnL, callB, readsB, stepOp, ofVal, opBuiltin, opLen, PV.sk, scalBin, scalUn, intBin, opLoad, natOf, opConvert, opField, cellsP, oneP, Value.oneCell', opStore, toIV, scalT, scalA, scalC, boxesA, boxesC, zipB_none, zipB_mx, isZ, opZip, zeroP, opAppendZ, opMakeMap, opLookup, mboxB, opUpdate, ↓reduceIte, Nat.reduceSub, Nat.reduceEqDiff, Nat.reduceAdd, Nat.reduceMul, Nat.reduceLT, Nat.reduceLeDiff, Int.reduceToNat, Int.reduceLE, Int.reduceLT, Int.reduceNeg, reduceCtorEq, zzR, gos, Int.reduceAdd, Int.reduceSub, Int.reduceMul, Int.reduceEq, c1, List.length_map, g0, g1, g2, i0, i1, i2, i7, i9, e1, e2, e3, e4, d0, d3])
          rfl
    · rw [if_neg (by simp [d0])]
      refine X_startP (n := 83) (m := 1) (rs := [.cell 2 62, .tmp 3, .tmp 4]) Try.func37 rfl rfl rfl rfl (by decide) fun base => ?_
      repeat (first | ((first | refine X_call_fn2 rfl (by simp only [tys]) ?_ | refine X_dcall_fn2 rfl (by simp only [tys]) ?_); apply Exists.intro; apply And.intro; (focus (simp -dsimp only [simx, zzC, zzB, tys, ite_self, opnL, callB, readsB, stepOp, ofVal, opBuiltin, opLen, PV.sk, scalBin, scalUn, intBin, opLoad, natOf, opConvert, opField, cellsP, oneP, Value.oneCell', opStore, toIV, scalT, scalA, scalC, boxesA, boxesC, zipB_none, zipB_mx, isZ, opZip, zeroP, opAppendZ, opMakeMap, opLookup, mboxB, opUpdate, ↓reduceIte, Nat.reduceSub, Nat.reduceEqDiff, Nat.reduceAdd, Nat.reduceMul, Nat.reduceLT, Nat.reduceLeDiff, Int.reduceToNat, Int.reduceLE, Int.reduceLT, Int.reduceNeg, reduceCtorEq, zzL, if_true, if_false] <;> rfl)); apply Exists.intro; apply And.intro; (focus (first | exact f3 | exact f7 | exact q1))) | refine ⟨(by show drawK _ _ = true; kernel_rfl : drawX _ _ _), ?_⟩ | exact (by show drawK _ _ = true; kernel_rfl : drawX _ _ _) | simp -dsimp (maxSteps := 20000000) (disch := omega) only [simx, zzC, zzB, tys, ite_self, opnL, callB, readsB, stepOp, ofVal, opBuiltin, opLen, PV.sk, scalBin, scalUn, intBin, opLoad, natOf, opConvert, opField, cellsP, oneP, Value.oneCell', opStore, toIV, scalT, scalA, scalC, boxesA, boxesC, zipB_none, zipB_mx, isZ, opZip, zeroP, opAppendZ, opMakeMap, opLookup, mboxB, opUpdate, ↓reduceIte, Nat.reduceSub, Nat.reduceEqDiff, Nat.reduceAdd, Nat.reduceMul, Nat.reduceLT, Nat.reduceLeDiff, Int.reduceToNat, Int.reduceLE, Int.reduceLT, Int.reduceNeg, reduceCtorEq, zzR, gos, Int.reduceAdd, Int.reduceSub, Int.reduceMul, Int.reduceEq, c1, List.length_map, g0, g1, g2, i0, i1, i2, i7, i9, e1, e2, e3, e4, d0])
      rfl
end Go.Proofs.Ytkhjfphenflefaa.TM
