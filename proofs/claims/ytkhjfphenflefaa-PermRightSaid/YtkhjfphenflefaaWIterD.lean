/- slices.Chunk, AppendSeq, Collect. -/
import Derived.Test.YtkhjfphenflefaaWIterC
namespace Go.Proofs.Ytkhjfphenflefaa.TM
open Go Go.RowKit
set_option linter.unusedVariables false
set_option linter.defProp false
set_option linter.unusedSimpArgs false
attribute [local irreducible] K W WOps Effs Xg Xo Xr Xdg Xdo Xdr Xif CallsP CallR

theorem assign1 {id n p d : Nat} {ty : TypeId} {ps : String} {af : Array Edge} {g : Nat → PV} (v : PV) (hp : p < n) :
    assignB (.region id #[{ dst := some d, op := .assign (.tmp p), type := ty, pos := ps, after := af, guard := none }] false) (setsT [p] [v] (toL n g)) = some (toL n (upd (upd g p v) d v)) := by
  simp only [setsT, assignB, movesB, toL_set, putT, St.opnd, toL_getD, if_pos hp, upd_at, if_true]
theorem assign2 {id n p p' d : Nat} {ty : TypeId} {ps : String} {af : Array Edge} {g : Nat → PV} (v v' : PV) (hp : p < n) (hpp : p ≠ p') :
    assignB (.region id #[{ dst := some d, op := .assign (.tmp p), type := ty, pos := ps, after := af, guard := none }] false) (setsT [p, p'] [v, v'] (toL n g)) = some (toL n (upd (upd (upd g p v) p' v') d v)) := by
  simp only [setsT, assignB, movesB, toL_set, putT, St.opnd, toL_getD, if_pos hp, upd_at, if_true, if_neg hpp]
theorem noMapH_none : noMapH Heap.none := fun b x h => by cases h
theorem noMapH_put {h : Heap} (hn : noMapH h) (b : Name) {x : Box} (hx : x.isMap = false) : noMapH (h.put b x) := fun c y hc => by
  unfold Heap.put at hc
  split at hc
  · cases hc; exact hx
  · exact hn c y hc
theorem noMapH_row {h : Heap} (hn : noMapH h) (b : Name) (n : Nat) (cs : List IV) : noMapH (rowH h b n cs) := by
  unfold rowH
  split
  · exact hn
  · exact noMapH_put hn b rfl
/-- A list's cells in parts of q. -/
def part (cs : List IV) (q k : Nat) : IV := .l q ((cs.drop (k * q)).take q)
abbrev cloU (m : Nat) (cs : List IV) (q : Nat) : PV := .clo 68 [.iref [.l m cs] 0, .iref [.v (.int .i64 q)] 0]
theorem chunkU_walk (m : Nat) (cs : List IV) (q : Nat) (hq : 1 ≤ q) : CallsP Try.prog 51 [.i (.l m cs), i64 q] (cloU m cs q) := by
  have h1 : ¬ (q : Int) < 1 := by omega
  refine X_startP (n := 9) (m := 2) (rs := [.tmp 4]) Try.func51 rfl rfl rfl rfl (by decide) fun base => ?_
  repeat (first | refine ⟨(by show drawK _ _ = true; kernel_rfl : drawX _ _ _), ?_⟩ | exact (by show drawK _ _ = true; kernel_rfl : drawX _ _ _) | simp -dsimp (maxSteps := 20000000) (disch := omega) only [simx, zzC, zzB, tys, ite_self, opnL, callB, readsB, stepOp, ofVal, opBuiltin, opLen, PV.sk, scalBin, scalUn, intBin, opLoad, natOf, opConvert, opField, cellsP, oneP, Value.oneCell', opStore, toIV, scalT, scalA, scalC, boxesA, boxesC, zipB_none, zipB_mx, isZ, opZip, zeroP, opAppendZ, opMakeMap, opLookup, mboxB, opUpdate, ↓reduceIte, Nat.reduceSub, Nat.reduceEqDiff, Nat.reduceAdd, Nat.reduceMul, Nat.reduceLT, Nat.reduceLeDiff, Int.reduceToNat, Int.reduceLE, Int.reduceLT, Int.reduceNeg, reduceCtorEq, zzR, gos, Int.reduceAdd, Int.reduceSub, Int.reduceMul, Int.reduceEq, h1])
abbrev llN (l : List IV) : PV := .i (.l l.length l)
theorem appendSeqU_walk (N q : Nat) (cs : List IV) (hl : cs.length = N * q) (hq : 1 ≤ q) (hb : N * q ≤ 4398046511104) : CallsP Try.prog 67 [.i (.v (.slice none 0 0)), cloU (N * q) cs q] (llN ((List.range N).map (part cs q))) := by
  refine X_startP (n := 13) (m := 2) (rs := [.tmp 4]) Try.func67 rfl rfl rfl rfl (by decide) fun base => ?_
  repeat (first | refine ⟨(by show drawK _ _ = true; kernel_rfl : drawX _ _ _), ?_⟩ | exact (by show drawK _ _ = true; kernel_rfl : drawX _ _ _) | simp -dsimp (maxSteps := 20000000) (disch := omega) only [simx, zzC, zzB, tys, ite_self, opnL, callB, readsB, stepOp, ofVal, opBuiltin, opLen, PV.sk, scalBin, scalUn, intBin, opLoad, natOf, opConvert, opField, cellsP, oneP, Value.oneCell', opStore, toIV, scalT, scalA, scalC, boxesA, boxesC, zipB_none, zipB_mx, isZ, opZip, zeroP, opAppendZ, opMakeMap, opLookup, mboxB, opUpdate, ↓reduceIte, Nat.reduceSub, Nat.reduceEqDiff, Nat.reduceAdd, Nat.reduceMul, Nat.reduceLT, Nat.reduceLeDiff, Int.reduceToNat, Int.reduceLE, Int.reduceLT, Int.reduceNeg, reduceCtorEq, gos, Int.reduceAdd, Int.reduceSub, Int.reduceMul, Int.reduceEq])
  refine X_range [2] [] [(3, 2) :: base] (fun k : {k : Nat // k < N} => [.i (part cs q k.1)]) (fun xs => xs.map (·.1) = List.range N) N _ (fun pre => rowH (Heap.none.put ((0, 0) :: base) (.var [rowP ((3, 3) :: base) 1 pre.length (pre.map fun k => part cs q k.1)])) ((3, 3) :: base) pre.length (pre.map fun k => part cs q k.1))
    (rowH (Heap.none.put ((0, 0) :: base) (.var [rowP ((3, 3) :: base) 1 N ((List.range N).map (part cs q))])) ((3, 3) :: base) N ((List.range N).map (part cs q))) (by decide) rfl rfl (by simp only [tys]) (chunkU_iterD hl hq (by omega)) fgt_nil (drop_nil _) (fun x => ⟨rfl, assign1 _ (by decide)⟩)
    (fun pre => noMapH_row (noMapH_put noMapH_none _ rfl) _ _ _) ?_ ?_ ?_
  · intro pre x hpl
    obtain ⟨pc, hpc⟩ : ∃ pc, part cs q x.1 = .l q pc := ⟨_, rfl⟩
    have hnx : ((pre ++ [x]).map fun k => part cs q k.1) = (pre.map fun k => part cs q k.1) ++ [.l q pc] := by rw [List.map_append, ← hpc]; rfl
    have hnl : (pre ++ [x]).length = pre.length + 1 := by simp
    rw [hnx, hnl, hpc]
    generalize hcs : (pre.map fun k => part cs q k.1) = ps
    have hps : ps.length = pre.length := by rw [← hcs, List.length_map]
    generalize pre.length = m at hpl hps
    have hNq : N ≤ N * q := Nat.le_mul_of_pos_right N hq
    repeat (first | refine ⟨(by show drawK _ _ = true; kernel_rfl : drawX _ _ _), ?_⟩ | exact (by show drawK _ _ = true; kernel_rfl : drawX _ _ _) | simp -dsimp (maxSteps := 20000000) (disch := omega) only [simx, zzC, zzB, tys, ite_self, opnL, callB, readsB, stepOp, ofVal, opBuiltin, opLen, PV.sk, scalBin, scalUn, intBin, opLoad, natOf, opConvert, opField, cellsP, oneP, Value.oneCell', opStore, toIV, scalT, scalA, scalC, boxesA, boxesC, zipB_none, zipB_mx, isZ, opZip, zeroP, opAppendZ, opMakeMap, opLookup, mboxB, opUpdate, ↓reduceIte, Nat.reduceSub, Nat.reduceEqDiff, Nat.reduceAdd, Nat.reduceMul, Nat.reduceLT, Nat.reduceLeDiff, Int.reduceToNat, Int.reduceLE, Int.reduceLT, Int.reduceNeg, reduceCtorEq, gos, Int.reduceAdd, Int.reduceSub, Int.reduceMul, Int.reduceEq])
    refine X_append_one 32 [.slice none 0 0] [.l q pc] (by simp only [tys]) (by simp only [tys]) rfl (by decide) (by simp [hps]) (by simp [Heap.put_at, Heap.none_at, rowH_app]) (by simp [Heap.put_at]; rfl) rfl (by simp only [tys]; omega) (by rw [mx_len]; omega) ?_
    repeat (first | refine ⟨(by show drawK _ _ = true; kernel_rfl : drawX _ _ _), ?_⟩ | exact (by show drawK _ _ = true; kernel_rfl : drawX _ _ _) | simp -dsimp (maxSteps := 20000000) (disch := omega) only [simx, zzC, zzB, tys, ite_self, opnL, callB, readsB, stepOp, ofVal, opBuiltin, opLen, PV.sk, scalBin, scalUn, intBin, opLoad, natOf, opConvert, opField, cellsP, oneP, Value.oneCell', opStore, toIV, scalT, scalA, scalC, boxesA, boxesC, zipB_none, zipB_mx, isZ, opZip, zeroP, opAppendZ, opMakeMap, opLookup, mboxB, opUpdate, ↓reduceIte, Nat.reduceSub, Nat.reduceEqDiff, Nat.reduceAdd, Nat.reduceMul, Nat.reduceLT, Nat.reduceLeDiff, Int.reduceToNat, Int.reduceLE, Int.reduceLT, Int.reduceNeg, reduceCtorEq, gos, Int.reduceAdd, Int.reduceSub, Int.reduceMul, Int.reduceEq, rowP_succ, rowH_succ])
    refine ⟨(fgt_cons (by simp [rowH_app, Heap.put_at, Heap.none_at]) (by rw [notIn_nil]; trivial) (by repeat (first | exact noVar_none _ | refine noVar_row ?_ | refine noVar_map ?_ | refine noVar_rowH ?_ | refine noVar_var ?_ (by simp [refsL, refsP, mem_refs_rowP]))) (fgt_nil)), ?_⟩
    funext c
    simp (maxSteps := 20000000) only [Heap.drop_at, rowH_app, Heap.put_at, Heap.none_at, List.mem_cons, List.not_mem_nil, or_false]
    by_cases e0 : c = (0, 0) :: base
    · subst e0; simp []
    by_cases e1 : c = (3, 2) :: base
    · subst e1; simp []
    by_cases e2 : c = (3, 3) :: base
    · subst e2; simp []
    simp [e0, e1, e2]
  · intro xs hxs
    have h1 : xs.length = N := by have := congrArg List.length hxs; simpa using this
    have h2 : (xs.map fun k => part cs q k.1) = (List.range N).map (part cs q) := by rw [← hxs, List.map_map]; rfl
    simp only [h1, h2]
  · obtain ⟨ps, hps⟩ : ∃ ps, (List.range N).map (part cs q) = ps := ⟨_, rfl⟩
    have hpl : ps.length = N := by rw [← hps]; simp
    rw [hps]
    subst hpl
    by_cases h0 : ps.length = 0
    · have : ps = [] := List.eq_nil_of_length_eq_zero h0
      subst this
      repeat (first | refine ⟨(by show drawK _ _ = true; kernel_rfl : drawX _ _ _), ?_⟩ | exact (by show drawK _ _ = true; kernel_rfl : drawX _ _ _) | simp -dsimp (maxSteps := 20000000) (disch := omega) only [simx, zzC, zzB, tys, ite_self, opnL, callB, readsB, stepOp, ofVal, opBuiltin, opLen, PV.sk, scalBin, scalUn, intBin, opLoad, natOf, opConvert, opField, cellsP, oneP, Value.oneCell', opStore, toIV, scalT, scalA, scalC, boxesA, boxesC, zipB_none, zipB_mx, isZ, opZip, zeroP, opAppendZ, opMakeMap, opLookup, mboxB, opUpdate, ↓reduceIte, Nat.reduceSub, Nat.reduceEqDiff, Nat.reduceAdd, Nat.reduceMul, Nat.reduceLT, Nat.reduceLeDiff, Int.reduceToNat, Int.reduceLE, Int.reduceLT, Int.reduceNeg, reduceCtorEq, zzR, gos, Int.reduceAdd, Int.reduceSub, Int.reduceMul, Int.reduceEq, rowP_zero, rowH_zero])
      rfl
    · obtain ⟨s, hs⟩ : ∃ s, ps.length = s + 1 := ⟨ps.length - 1, by omega⟩
      have e2 : ps.take (s + 1) = ps := List.take_of_length_le (by omega)
      rw [llN, hs]
      repeat (first | refine ⟨(by show drawK _ _ = true; kernel_rfl : drawX _ _ _), ?_⟩ | exact (by show drawK _ _ = true; kernel_rfl : drawX _ _ _) | simp -dsimp (maxSteps := 20000000) (disch := omega) only [simx, zzC, zzB, tys, ite_self, opnL, callB, readsB, stepOp, ofVal, opBuiltin, opLen, PV.sk, scalBin, scalUn, intBin, opLoad, natOf, opConvert, opField, cellsP, oneP, Value.oneCell', opStore, toIV, scalT, scalA, scalC, boxesA, boxesC, zipB_none, zipB_mx, isZ, opZip, zeroP, opAppendZ, opMakeMap, opLookup, mboxB, opUpdate, ↓reduceIte, Nat.reduceSub, Nat.reduceEqDiff, Nat.reduceAdd, Nat.reduceMul, Nat.reduceLT, Nat.reduceLeDiff, Int.reduceToNat, Int.reduceLE, Int.reduceLT, Int.reduceNeg, reduceCtorEq, zzR, gos, Int.reduceAdd, Int.reduceSub, Int.reduceMul, Int.reduceEq, rowP_succ, rowH_succ, hs, e2])
theorem collectU_walk (N q : Nat) (cs : List IV) (hl : cs.length = N * q) (hq : 1 ≤ q) (hb : N * q ≤ 4398046511104) : CallsP Try.prog 50 [cloU (N * q) cs q] (llN ((List.range N).map (part cs q))) := by
  have d := appendSeqU_walk N q cs hl hq hb
  refine X_startP (n := 5) (m := 1) (rs := [.tmp 2]) Try.func50 rfl rfl rfl rfl (by decide) fun base => ?_
  repeat (first | refine ⟨(by show drawK _ _ = true; kernel_rfl : drawX _ _ _), ?_⟩ | exact (by show drawK _ _ = true; kernel_rfl : drawX _ _ _) | simp -dsimp (maxSteps := 20000000) (disch := omega) only [simx, zzC, zzB, tys, ite_self, opnL, callB, readsB, stepOp, ofVal, opBuiltin, opLen, PV.sk, scalBin, scalUn, intBin, opLoad, natOf, opConvert, opField, cellsP, oneP, Value.oneCell', opStore, toIV, scalT, scalA, scalC, boxesA, boxesC, zipB_none, zipB_mx, isZ, opZip, zeroP, opAppendZ, opMakeMap, opLookup, mboxB, opUpdate, ↓reduceIte, Nat.reduceSub, Nat.reduceEqDiff, Nat.reduceAdd, Nat.reduceMul, Nat.reduceLT, Nat.reduceLeDiff, Int.reduceToNat, Int.reduceLE, Int.reduceLT, Int.reduceNeg, reduceCtorEq, gos, Int.reduceAdd, Int.reduceSub, Int.reduceMul, Int.reduceEq])
  obtain ⟨u, hu, hc, hlow⟩ := d.get ((1, 1) :: base)
  refine X_call_sh rfl (by simp only [tys]) rfl hc ?_
  repeat (first | refine ⟨(by show drawK _ _ = true; kernel_rfl : drawX _ _ _), ?_⟩ | exact (by show drawK _ _ = true; kernel_rfl : drawX _ _ _) | simp -dsimp (maxSteps := 20000000) (disch := omega) only [simx, zzC, zzB, tys, ite_self, opnL, callB, readsB, stepOp, ofVal, opBuiltin, opLen, PV.sk, scalBin, scalUn, intBin, opLoad, natOf, opConvert, opField, cellsP, oneP, Value.oneCell', opStore, toIV, scalT, scalA, scalC, boxesA, boxesC, zipB_none, zipB_mx, isZ, opZip, zeroP, opAppendZ, opMakeMap, opLookup, mboxB, opUpdate, ↓reduceIte, Nat.reduceSub, Nat.reduceEqDiff, Nat.reduceAdd, Nat.reduceMul, Nat.reduceLT, Nat.reduceLeDiff, Int.reduceToNat, Int.reduceLE, Int.reduceLT, Int.reduceNeg, reduceCtorEq, zzR, gos, Int.reduceAdd, Int.reduceSub, Int.reduceMul, Int.reduceEq, hlow])
end Go.Proofs.Ytkhjfphenflefaa.TM
