/- Tapes: many numbers at once, walked. -/
import Derived.Test.YtdfhkdddlfmceaaWTape
namespace Go.Proofs.Ytdfhkdddlfmceaa.TM
open Go Go.RowKit
set_option linter.unusedVariables false
set_option linter.defProp false
set_option linter.unusedSimpArgs false

def tkl (p : Int) (z : Bool) (n : Nat) (ws : List Int) : List Int := ((tk p z n ws).getD ([], 0)).1
def tkc (p : Int) (z : Bool) (n : Nat) (ws : List Int) : Nat := ((tk p z n ws).getD ([], 0)).2
def tke (p : Int) (z : Bool) (n : Nat) (ws : List Int) : Prop := (tk p z n ws).isSome = true
theorem tke_eq {p : Int} {z : Bool} {n : Nat} {ws : List Int} (h : tke p z n ws) : tk p z n ws = some (tkl p z n ws, tkc p z n ws) := by
  unfold tke at h; unfold tkl tkc
  cases g : tk p z n ws with
  | none => rw [g] at h; cases h
  | some q => rfl
theorem tke_len {p : Int} {z : Bool} {n : Nat} {ws : List Int} (h : tke p z n ws) : (tkl p z n ws).length = n ∧ tkc p z n ws ≤ ws.length := by
  have h1 := tke_eq h
  obtain ⟨c, h2, h3, _⟩ := tk_some n ws (tk_cnt h1)
  rw [h1] at h2
  simp only [Option.some.injEq, Prod.mk.injEq] at h2
  rw [h2.1, List.length_take, vals_len, h2.2]
  exact ⟨Nat.min_eq_left (tk_cnt h1), h3⟩
theorem tk_next {p : Int} {z : Bool} {j : Nat} {ws : List Int} {a : Nat} (h : tke p z j (ws.drop a)) :
    (∃ x c, fnd p z ws (a + tkc p z j (ws.drop a)) = (x, ((a + tkc p z (j + 1) (ws.drop a) : Nat) : Int), true) ∧ tke p z (j + 1) (ws.drop a) ∧ tkl p z (j + 1) (ws.drop a) = tkl p z j (ws.drop a) ++ [x] ∧ c = 0) ∨
    ((fnd p z ws (a + tkc p z j (ws.drop a))) = (0, (ws.length : Int), false) ∧ ∀ n, j < n → tk p z n (ws.drop a) = none) := by
  have h1 := tke_eq h
  have hd : ws.drop (a + tkc p z j (ws.drop a)) = (ws.drop a).drop (tkc p z j (ws.drop a)) := by rw [List.drop_drop]
  by_cases g : j + 1 ≤ cnt p z (ws.drop a)
  · left
    obtain ⟨c, h2, h3, h4⟩ := tk_some (p := p) (z := z) j (ws.drop a) (by omega)
    rw [h1] at h2
    simp only [Option.some.injEq, Prod.mk.injEq] at h2
    obtain ⟨g1, g2⟩ := h2
    have g3 : 1 ≤ cnt p z ((ws.drop a).drop (tkc p z j (ws.drop a))) := by rw [g2, ← vals_len, h4, List.length_drop, vals_len]; omega
    obtain ⟨c2, h5, h6, h7⟩ := tk_some 1 _ g3
    obtain ⟨x, hx⟩ : ∃ x, (vals p z ((ws.drop a).drop (tkc p z j (ws.drop a)))).take 1 = [x] := by
      have : ((vals p z ((ws.drop a).drop (tkc p z j (ws.drop a)))).take 1).length = 1 := by rw [List.length_take, vals_len]; omega
      match hh : (vals p z ((ws.drop a).drop (tkc p z j (ws.drop a)))).take 1, this with
      | [x], _ => exact ⟨x, rfl⟩
    rw [hx] at h5
    have h8 := tk_split j 1 _ _ _ _ _ h1 h5
    refine ⟨x, 0, ?_, ?_, ?_, rfl⟩
    · unfold fnd
      rw [hd, h5]
      simp only [tkc, h8, Option.getD_some]
      simp only [Prod.mk.injEq, true_and, and_true]
      have : tkc p z j (ws.drop a) = ((tk p z j (ws.drop a)).getD ([], 0)).2 := rfl
      omega
    · unfold tke; rw [h8]; rfl
    · unfold tkl; rw [h8]; rfl
  · right
    have g0 : cnt p z ((ws.drop a).drop (tkc p z j (ws.drop a))) < 1 := by
      obtain ⟨c, h2, h3, h4⟩ := tk_some j (ws.drop a) (tk_cnt h1)
      rw [h1] at h2
      simp only [Option.some.injEq, Prod.mk.injEq] at h2
      rw [h2.2, ← vals_len, h4, List.length_drop, vals_len]; omega
    refine ⟨?_, fun n hn => tk_none n _ (by omega)⟩
    unfold fnd
    rw [hd, tk_none 1 _ g0]
abbrev sevP (r : List Int × List Int × Int × Int) : PV := .tup [lu r.1, tapeP r.2.1 r.2.2.1, i64 r.2.2.2]
theorem several_walk (p : Int) (ws : List Int) (a n : Int) (hw : ∀ x ∈ ws, W64 x) (z : Bool) : CallsP Try.prog 49 [u64 p, tapeP ws a, i64 n, fnc (such z)] (sevP (severalR p z ws a n)) := by
  have r := may_walk p ws a
  unfold severalR
  cases hm : RightB p && TapeB ws a with
  | false =>
    rw [hm] at r
    simp only [Bool.false_and, Bool.false_eq_true, if_false]
    refine CallsP.start (n := 51) (rs := [.tmp 8, .cell 9 25, .tmp 10]) Try.func49 rfl rfl rfl fun base => ?_
    simp (maxSteps := 20000000) only [List.length_cons, List.length_nil, Nat.reduceAdd, Nat.reduceSub, List.replicate, List.cons_append, List.nil_append]
    simp (maxSteps := 20000000) (disch := omega) only [↓reduceIte, Nat.reduceSub, sims, sim5, sim6, List.filterMap_cons, imp_self, false_imp_iff, true_imp_iff, zeroRow, List.flatten_cons, List.flatten_nil, List.replicate_succ, List.replicate_zero, Nat.le_refl, ite_self, rowH_app, Kdres_keys, opnL, tys, RoundG_normal, RoundG_exit, RoundG_ret, callB, guardB, stepOp, just, St.opnd, ofVal, putT, undefP, opBuiltin, opLen, PV.sk, SK.len, SK.pv, scalBin, scalUn, intBin, opIndexAddr, opLoad, natOf, opConvert, opFieldAddr, opField, partP, opBox, opAlloc, opBuild, opBuildSlice, fillP, Places.get, cellsP, oneP, Value.oneCell', newBox, Heap.none_at, Heap.put_at, List.cons.injEq, Prod.mk.injEq, Nat.succ_ne_zero, Nat.reduceEqDiff, and_false, false_and, Bool.false_and, Bool.and_false, Bool.or_true, Bool.true_or, Bool.false_or, Bool.or_false, Bool.not_true, Bool.not_false, keepT_t, keepT_f, keepT_nil, sets_nil, sets_cons, spliceL, opStore, toIV, toIVs, optNat, opSlice, List.replicate, scalT, scalA, scalC, boxesA, boxesC, freezeOf_nil, freezeOf_row, frz_row, Nat.reduceAdd, Nat.reduceMul, Nat.reduceLT, Nat.reduceLeDiff, Nat.reduceEqDiff, Int.reduceToNat, Int.reduceLE, Int.reduceLT, Int.reduceNeg, reduceCtorEq, gos, Int.reduceAdd, Int.reduceSub, Int.reduceMul, Int.reduceEq]
    refine K_call_pure (r) rfl rfl (by simp only [tys]) (by first | rfl | simp [St.opnd, ofVal, undefP, mapO, lowerT, lowerA, lowerC, Heap.put_at, Heap.none_at, rowH_app, List.cons.injEq, Prod.mk.injEq, Nat.reduceEqDiff, Nat.succ_ne_zero, and_false, false_and, and_true, and_self, if_true, if_false, Nat.reduceMul, Nat.reduceAdd, Nat.zero_add, Nat.mul_one, List.length_cons, List.length_nil, Nat.le_refl, List.drop_zero, List.take_succ_cons, List.take_zero, Option.map_some, List.map_cons, List.map_nil, reduceCtorEq, ite_self]) ?_
    simp (maxSteps := 20000000) (disch := omega) only [↓reduceIte, Nat.reduceSub, sims, sim5, sim6, List.filterMap_cons, imp_self, false_imp_iff, true_imp_iff, zeroRow, List.flatten_cons, List.flatten_nil, List.replicate_succ, List.replicate_zero, Nat.le_refl, ite_self, rowH_app, Kdres_keys, opnL, tys, RoundG_normal, RoundG_exit, RoundG_ret, callB, guardB, stepOp, just, St.opnd, ofVal, putT, undefP, opBuiltin, opLen, PV.sk, SK.len, SK.pv, scalBin, scalUn, intBin, opIndexAddr, opLoad, natOf, opConvert, opFieldAddr, opField, partP, opBox, opAlloc, opBuild, opBuildSlice, fillP, Places.get, cellsP, oneP, Value.oneCell', newBox, Heap.none_at, Heap.put_at, List.cons.injEq, Prod.mk.injEq, Nat.succ_ne_zero, Nat.reduceEqDiff, and_false, false_and, Bool.false_and, Bool.and_false, Bool.or_true, Bool.true_or, Bool.false_or, Bool.or_false, Bool.not_true, Bool.not_false, keepT_t, keepT_f, keepT_nil, sets_nil, sets_cons, spliceL, opStore, toIV, toIVs, optNat, opSlice, List.replicate, scalT, scalA, scalC, boxesA, boxesC, freezeOf_nil, freezeOf_row, frz_row, Nat.reduceAdd, Nat.reduceMul, Nat.reduceLT, Nat.reduceLeDiff, Nat.reduceEqDiff, Int.reduceToNat, Int.reduceLE, Int.reduceLT, Int.reduceNeg, reduceCtorEq, resB, mapO, resVar, lowerT, lowerA, lowerC, or_true, true_or, false_or, or_false, gos, Int.reduceAdd, Int.reduceSub, Int.reduceMul, Int.reduceEq]
    first | (refine ⟨by kernel_rfl, ?_⟩; rfl) | (show drawK _ _ = true; kernel_rfl)
  | true =>
    rw [hm] at r
    by_cases c1 : 0 ≤ n
    · by_cases c2 : n ≤ 8192
      · simp only [c1, c2, decide_true, Bool.and_self, if_true]
        rw [Bool.and_eq_true, right_iff, tape_iff] at hm
        obtain ⟨⟨h1, h2⟩, h3, h4, h5⟩ := hm
        obtain ⟨A, rfl⟩ := Int.eq_ofNat_of_zero_le h4
        obtain ⟨m, rfl⟩ := Int.eq_ofNat_of_zero_le c1
        have hA : A ≤ ws.length := by omega
        simp only [Int.toNat_natCast]
        refine CallsP.start (n := 51) (rs := [.tmp 8, .cell 9 25, .tmp 10]) Try.func49 rfl rfl rfl fun base => ?_
        simp (maxSteps := 20000000) only [List.length_cons, List.length_nil, Nat.reduceAdd, Nat.reduceSub, List.replicate, List.cons_append, List.nil_append]
        simp (maxSteps := 20000000) (disch := omega) only [↓reduceIte, Nat.reduceSub, sims, sim5, sim6, List.filterMap_cons, imp_self, false_imp_iff, true_imp_iff, zeroRow, List.flatten_cons, List.flatten_nil, List.replicate_succ, List.replicate_zero, Nat.le_refl, ite_self, rowH_app, Kdres_keys, opnL, tys, RoundG_normal, RoundG_exit, RoundG_ret, callB, guardB, stepOp, just, St.opnd, ofVal, putT, undefP, opBuiltin, opLen, PV.sk, SK.len, SK.pv, scalBin, scalUn, intBin, opIndexAddr, opLoad, natOf, opConvert, opFieldAddr, opField, partP, opBox, opAlloc, opBuild, opBuildSlice, fillP, Places.get, cellsP, oneP, Value.oneCell', newBox, Heap.none_at, Heap.put_at, List.cons.injEq, Prod.mk.injEq, Nat.succ_ne_zero, Nat.reduceEqDiff, and_false, false_and, Bool.false_and, Bool.and_false, Bool.or_true, Bool.true_or, Bool.false_or, Bool.or_false, Bool.not_true, Bool.not_false, keepT_t, keepT_f, keepT_nil, sets_nil, sets_cons, spliceL, opStore, toIV, toIVs, optNat, opSlice, List.replicate, scalT, scalA, scalC, boxesA, boxesC, freezeOf_nil, freezeOf_row, frz_row, Nat.reduceAdd, Nat.reduceMul, Nat.reduceLT, Nat.reduceLeDiff, Nat.reduceEqDiff, Int.reduceToNat, Int.reduceLE, Int.reduceLT, Int.reduceNeg, reduceCtorEq, gos, Int.reduceAdd, Int.reduceSub, Int.reduceMul, Int.reduceEq]
        refine K_call_pure (r) rfl rfl (by simp only [tys]) (by first | rfl | simp [St.opnd, ofVal, undefP, mapO, lowerT, lowerA, lowerC, Heap.put_at, Heap.none_at, rowH_app, List.cons.injEq, Prod.mk.injEq, Nat.reduceEqDiff, Nat.succ_ne_zero, and_false, false_and, and_true, and_self, if_true, if_false, Nat.reduceMul, Nat.reduceAdd, Nat.zero_add, Nat.mul_one, List.length_cons, List.length_nil, Nat.le_refl, List.drop_zero, List.take_succ_cons, List.take_zero, Option.map_some, List.map_cons, List.map_nil, reduceCtorEq, ite_self]) ?_
        simp (maxSteps := 20000000) (disch := omega) only [↓reduceIte, Nat.reduceSub, sims, sim5, sim6, List.filterMap_cons, imp_self, false_imp_iff, true_imp_iff, zeroRow, List.flatten_cons, List.flatten_nil, List.replicate_succ, List.replicate_zero, Nat.le_refl, ite_self, rowH_app, Kdres_keys, opnL, tys, RoundG_normal, RoundG_exit, RoundG_ret, callB, guardB, stepOp, just, St.opnd, ofVal, putT, undefP, opBuiltin, opLen, PV.sk, SK.len, SK.pv, scalBin, scalUn, intBin, opIndexAddr, opLoad, natOf, opConvert, opFieldAddr, opField, partP, opBox, opAlloc, opBuild, opBuildSlice, fillP, Places.get, cellsP, oneP, Value.oneCell', newBox, Heap.none_at, Heap.put_at, List.cons.injEq, Prod.mk.injEq, Nat.succ_ne_zero, Nat.reduceEqDiff, and_false, false_and, Bool.false_and, Bool.and_false, Bool.or_true, Bool.true_or, Bool.false_or, Bool.or_false, Bool.not_true, Bool.not_false, keepT_t, keepT_f, keepT_nil, sets_nil, sets_cons, spliceL, opStore, toIV, toIVs, optNat, opSlice, List.replicate, scalT, scalA, scalC, boxesA, boxesC, freezeOf_nil, freezeOf_row, frz_row, Nat.reduceAdd, Nat.reduceMul, Nat.reduceLT, Nat.reduceLeDiff, Nat.reduceEqDiff, Int.reduceToNat, Int.reduceLE, Int.reduceLT, Int.reduceNeg, reduceCtorEq, gos, Int.reduceAdd, Int.reduceSub, Int.reduceMul, Int.reduceEq]
        refine K_loopG (true :: false :: false :: true :: false :: true :: false :: false :: false :: true :: false :: true :: false :: false :: false :: false :: false :: false :: false :: false :: false :: false :: false :: false :: false :: false :: false :: false :: true :: true :: false :: false :: false :: false :: false :: false :: false :: false :: false :: [false, false, false, false, false, false, false, false, false, false, false, false]) [(10, 2) :: base] (0) (m) (fun j => tke p z j (ws.drop A)) (fun j => [(11, rowP ((10, 3) :: base) 1 j ((tkl p z j (ws.drop A)).map iu)), (29, i64 j)]) (fun j => rowH ((Heap.none.put ((0, 2) :: base) (.var [nilP, i64 0])).put ((0, 0) :: base) (.var [lu ws, i64 (A + tkc p z j (ws.drop A) : Nat)])) ((10, 3) :: base) j ((tkl p z j (ws.drop A)).map iu)) ?_ ?_ ?_ ?_ ?_ ?_
        · exact forget_of rfl (fg_cons (by simp only [Heap.none_at]) (by simp [keepT_t, keepT_f, keepT_nil, refsL, refsP, mem_refs_rowP]) (by repeat (first | exact noVar_none _ | refine noVar_row ?_ | refine noVar_rowH ?_ | refine noVar_var ?_ (by simp [refsL, refsP, mem_refs_rowP]))) (fg_nil _ _ _ _))
        · rfl
        · funext c
          simp (maxSteps := 20000000) only [Heap.drop_at, rowH_app, Heap.put_at, Heap.none_at, List.mem_cons, List.not_mem_nil, or_false]
          by_cases e0 : c = (0, 0) :: base
          · subst e0; simp [tkc, tk_zero]
          by_cases e1 : c = (0, 2) :: base
          · subst e1; simp [tkc, tk_zero]
          by_cases e2 : c = (10, 2) :: base
          · subst e2; simp [tkc, tk_zero]
          simp [e0, e1, e2, tkc, tk_zero]
        · omega
        · unfold tke; rw [tk_zero]; rfl
        · intro j hj hf
          obtain ⟨l1, l2⟩ := tke_len hf
          rw [List.length_drop] at l2
          by_cases c : j < m
          · have nx := next_walk p h1 h2 ws hw h3 (A + tkc p z j (ws.drop A)) (by omega) z
            rcases tk_next hf with ⟨x, cc, g1, g2, g3, _⟩ | ⟨g1, g2⟩
            · rw [g1] at nx
              simp (maxSteps := 20000000) (disch := omega) only [↓reduceIte, Nat.reduceSub, sims, sim5, sim6, List.filterMap_cons, imp_self, false_imp_iff, true_imp_iff, zeroRow, List.flatten_cons, List.flatten_nil, List.replicate_succ, List.replicate_zero, Nat.le_refl, ite_self, rowH_app, Kdres_keys, opnL, tys, RoundG_normal, RoundG_exit, RoundG_ret, callB, guardB, stepOp, just, St.opnd, ofVal, putT, undefP, opBuiltin, opLen, PV.sk, SK.len, SK.pv, scalBin, scalUn, intBin, opIndexAddr, opLoad, natOf, opConvert, opFieldAddr, opField, partP, opBox, opAlloc, opBuild, opBuildSlice, fillP, Places.get, cellsP, oneP, Value.oneCell', newBox, Heap.none_at, Heap.put_at, List.cons.injEq, Prod.mk.injEq, Nat.succ_ne_zero, Nat.reduceEqDiff, and_false, false_and, Bool.false_and, Bool.and_false, Bool.or_true, Bool.true_or, Bool.false_or, Bool.or_false, Bool.not_true, Bool.not_false, keepT_t, keepT_f, keepT_nil, sets_nil, sets_cons, spliceL, opStore, toIV, toIVs, optNat, opSlice, List.replicate, scalT, scalA, scalC, boxesA, boxesC, freezeOf_nil, freezeOf_row, frz_row, Nat.reduceAdd, Nat.reduceMul, Nat.reduceLT, Nat.reduceLeDiff, Nat.reduceEqDiff, Int.reduceToNat, Int.reduceLE, Int.reduceLT, Int.reduceNeg, reduceCtorEq, gos, Int.reduceAdd, Int.reduceSub, Int.reduceMul, Int.reduceEq]
              refine K_call_pure (nx) rfl rfl (by simp only [tys]) (by first | rfl | simp [St.opnd, ofVal, undefP, mapO, lowerT, lowerA, lowerC, Heap.put_at, Heap.none_at, rowH_app, List.cons.injEq, Prod.mk.injEq, Nat.reduceEqDiff, Nat.succ_ne_zero, and_false, false_and, and_true, and_self, if_true, if_false, Nat.reduceMul, Nat.reduceAdd, Nat.zero_add, Nat.mul_one, List.length_cons, List.length_nil, Nat.le_refl, List.drop_zero, List.take_succ_cons, List.take_zero, Option.map_some, List.map_cons, List.map_nil, reduceCtorEq, ite_self]) ?_
              simp (maxSteps := 20000000) (disch := omega) only [↓reduceIte, Nat.reduceSub, sims, sim5, sim6, List.filterMap_cons, imp_self, false_imp_iff, true_imp_iff, zeroRow, List.flatten_cons, List.flatten_nil, List.replicate_succ, List.replicate_zero, Nat.le_refl, ite_self, rowH_app, Kdres_keys, opnL, tys, RoundG_normal, RoundG_exit, RoundG_ret, callB, guardB, stepOp, just, St.opnd, ofVal, putT, undefP, opBuiltin, opLen, PV.sk, SK.len, SK.pv, scalBin, scalUn, intBin, opIndexAddr, opLoad, natOf, opConvert, opFieldAddr, opField, partP, opBox, opAlloc, opBuild, opBuildSlice, fillP, Places.get, cellsP, oneP, Value.oneCell', newBox, Heap.none_at, Heap.put_at, List.cons.injEq, Prod.mk.injEq, Nat.succ_ne_zero, Nat.reduceEqDiff, and_false, false_and, Bool.false_and, Bool.and_false, Bool.or_true, Bool.true_or, Bool.false_or, Bool.or_false, Bool.not_true, Bool.not_false, keepT_t, keepT_f, keepT_nil, sets_nil, sets_cons, spliceL, opStore, toIV, toIVs, optNat, opSlice, List.replicate, scalT, scalA, scalC, boxesA, boxesC, freezeOf_nil, freezeOf_row, frz_row, Nat.reduceAdd, Nat.reduceMul, Nat.reduceLT, Nat.reduceLeDiff, Nat.reduceEqDiff, Int.reduceToNat, Int.reduceLE, Int.reduceLT, Int.reduceNeg, reduceCtorEq, gos, Int.reduceAdd, Int.reduceSub, Int.reduceMul, Int.reduceEq]
              refine K_append_one 22 [.int .u64 0] [iu x] (by simp only [tys]) (by simp only [tys]) rfl (by decide) (by simp [l1]) (by simp [Heap.put_at, Heap.none_at, rowH_app]) (by simp [Heap.put_at]; rfl) rfl (by simp only [tys]; omega) (by rw [mx_len]; omega) ?_
              simp (maxSteps := 20000000) (disch := omega) only [↓reduceIte, Nat.reduceSub, sims, sim5, sim6, List.filterMap_cons, imp_self, false_imp_iff, true_imp_iff, zeroRow, List.flatten_cons, List.flatten_nil, List.replicate_succ, List.replicate_zero, Nat.le_refl, ite_self, rowH_app, Kdres_keys, opnL, tys, RoundG_normal, RoundG_exit, RoundG_ret, callB, guardB, stepOp, just, St.opnd, ofVal, putT, undefP, opBuiltin, opLen, PV.sk, SK.len, SK.pv, scalBin, scalUn, intBin, opIndexAddr, opLoad, natOf, opConvert, opFieldAddr, opField, partP, opBox, opAlloc, opBuild, opBuildSlice, fillP, Places.get, cellsP, oneP, Value.oneCell', newBox, Heap.none_at, Heap.put_at, List.cons.injEq, Prod.mk.injEq, Nat.succ_ne_zero, Nat.reduceEqDiff, and_false, false_and, Bool.false_and, Bool.and_false, Bool.or_true, Bool.true_or, Bool.false_or, Bool.or_false, Bool.not_true, Bool.not_false, keepT_t, keepT_f, keepT_nil, sets_nil, sets_cons, spliceL, opStore, toIV, toIVs, optNat, opSlice, List.replicate, scalT, scalA, scalC, boxesA, boxesC, freezeOf_nil, freezeOf_row, frz_row, Nat.reduceAdd, Nat.reduceMul, Nat.reduceLT, Nat.reduceLeDiff, Nat.reduceEqDiff, Int.reduceToNat, Int.reduceLE, Int.reduceLT, Int.reduceNeg, reduceCtorEq, gos, Int.reduceAdd, Int.reduceSub, Int.reduceMul, Int.reduceEq]
              refine ⟨c, forget_of rfl (fg_cons (by simp only [Heap.none_at]) (by simp [keepT_t, keepT_f, keepT_nil, refsL, refsP, mem_refs_rowP]) (by repeat (first | exact noVar_none _ | refine noVar_row ?_ | refine noVar_rowH ?_ | refine noVar_var ?_ (by simp [refsL, refsP, mem_refs_rowP]))) (fg_nil _ _ _ _)), g2, ?_, ?_⟩
              · rw [g3]; simp
              · funext c
                simp (maxSteps := 20000000) only [Heap.drop_at, rowH_app, Heap.put_at, Heap.none_at, List.mem_cons, List.not_mem_nil, or_false]
                by_cases e0 : c = (0, 0) :: base
                · subst e0; simp [g3]
                by_cases e1 : c = (0, 2) :: base
                · subst e1; simp [g3]
                by_cases e2 : c = (10, 2) :: base
                · subst e2; simp [g3]
                by_cases e3 : c = (10, 3) :: base
                · subst e3; simp [g3]
                simp [e0, e1, e2, e3, g3]
            · rw [g1] at nx
              unfold manyR
              rw [g2 m c]
              simp (maxSteps := 20000000) (disch := omega) only [↓reduceIte, Nat.reduceSub, sims, sim5, sim6, List.filterMap_cons, imp_self, false_imp_iff, true_imp_iff, zeroRow, List.flatten_cons, List.flatten_nil, List.replicate_succ, List.replicate_zero, Nat.le_refl, ite_self, rowH_app, Kdres_keys, opnL, tys, RoundG_normal, RoundG_exit, RoundG_ret, callB, guardB, stepOp, just, St.opnd, ofVal, putT, undefP, opBuiltin, opLen, PV.sk, SK.len, SK.pv, scalBin, scalUn, intBin, opIndexAddr, opLoad, natOf, opConvert, opFieldAddr, opField, partP, opBox, opAlloc, opBuild, opBuildSlice, fillP, Places.get, cellsP, oneP, Value.oneCell', newBox, Heap.none_at, Heap.put_at, List.cons.injEq, Prod.mk.injEq, Nat.succ_ne_zero, Nat.reduceEqDiff, and_false, false_and, Bool.false_and, Bool.and_false, Bool.or_true, Bool.true_or, Bool.false_or, Bool.or_false, Bool.not_true, Bool.not_false, keepT_t, keepT_f, keepT_nil, sets_nil, sets_cons, spliceL, opStore, toIV, toIVs, optNat, opSlice, List.replicate, scalT, scalA, scalC, boxesA, boxesC, freezeOf_nil, freezeOf_row, frz_row, Nat.reduceAdd, Nat.reduceMul, Nat.reduceLT, Nat.reduceLeDiff, Nat.reduceEqDiff, Int.reduceToNat, Int.reduceLE, Int.reduceLT, Int.reduceNeg, reduceCtorEq, gos, Int.reduceAdd, Int.reduceSub, Int.reduceMul, Int.reduceEq]
              refine K_call_pure (nx) rfl rfl (by simp only [tys]) (by first | rfl | simp [St.opnd, ofVal, undefP, mapO, lowerT, lowerA, lowerC, Heap.put_at, Heap.none_at, rowH_app, List.cons.injEq, Prod.mk.injEq, Nat.reduceEqDiff, Nat.succ_ne_zero, and_false, false_and, and_true, and_self, if_true, if_false, Nat.reduceMul, Nat.reduceAdd, Nat.zero_add, Nat.mul_one, List.length_cons, List.length_nil, Nat.le_refl, List.drop_zero, List.take_succ_cons, List.take_zero, Option.map_some, List.map_cons, List.map_nil, reduceCtorEq, ite_self]) ?_
              simp (maxSteps := 20000000) (disch := omega) only [↓reduceIte, Nat.reduceSub, sims, sim5, sim6, List.filterMap_cons, imp_self, false_imp_iff, true_imp_iff, zeroRow, List.flatten_cons, List.flatten_nil, List.replicate_succ, List.replicate_zero, Nat.le_refl, ite_self, rowH_app, Kdres_keys, opnL, tys, RoundG_normal, RoundG_exit, RoundG_ret, callB, guardB, stepOp, just, St.opnd, ofVal, putT, undefP, opBuiltin, opLen, PV.sk, SK.len, SK.pv, scalBin, scalUn, intBin, opIndexAddr, opLoad, natOf, opConvert, opFieldAddr, opField, partP, opBox, opAlloc, opBuild, opBuildSlice, fillP, Places.get, cellsP, oneP, Value.oneCell', newBox, Heap.none_at, Heap.put_at, List.cons.injEq, Prod.mk.injEq, Nat.succ_ne_zero, Nat.reduceEqDiff, and_false, false_and, Bool.false_and, Bool.and_false, Bool.or_true, Bool.true_or, Bool.false_or, Bool.or_false, Bool.not_true, Bool.not_false, keepT_t, keepT_f, keepT_nil, sets_nil, sets_cons, spliceL, opStore, toIV, toIVs, optNat, opSlice, List.replicate, scalT, scalA, scalC, boxesA, boxesC, freezeOf_nil, freezeOf_row, frz_row, Nat.reduceAdd, Nat.reduceMul, Nat.reduceLT, Nat.reduceLeDiff, Nat.reduceEqDiff, Int.reduceToNat, Int.reduceLE, Int.reduceLT, Int.reduceNeg, reduceCtorEq, resB, mapO, resVar, lowerT, lowerA, lowerC, or_true, true_or, false_or, or_false, gos, Int.reduceAdd, Int.reduceSub, Int.reduceMul, Int.reduceEq]
              first | (refine ⟨by kernel_rfl, ?_⟩; rfl) | (show drawK _ _ = true; kernel_rfl)
          · have hj : j = m := by omega
            subst hj
            unfold manyR
            rw [tke_eq hf]
            have e2 : ((tkl p z j (ws.drop A)).map iu).take j = (tkl p z j (ws.drop A)).map iu := List.take_of_length_le (by simp [l1])
            cases j with
            | zero =>
              have e3 : tkl p z 0 (ws.drop A) = [] := by simp [tkl, tk_zero]
              simp (maxSteps := 20000000) (disch := omega) only [↓reduceIte, Nat.reduceSub, sims, sim5, sim6, List.filterMap_cons, imp_self, false_imp_iff, true_imp_iff, zeroRow, List.flatten_cons, List.flatten_nil, List.replicate_succ, List.replicate_zero, Nat.le_refl, ite_self, rowH_app, Kdres_keys, opnL, tys, RoundG_normal, RoundG_exit, RoundG_ret, callB, guardB, stepOp, just, St.opnd, ofVal, putT, undefP, opBuiltin, opLen, PV.sk, SK.len, SK.pv, scalBin, scalUn, intBin, opIndexAddr, opLoad, natOf, opConvert, opFieldAddr, opField, partP, opBox, opAlloc, opBuild, opBuildSlice, fillP, Places.get, cellsP, oneP, Value.oneCell', newBox, Heap.none_at, Heap.put_at, List.cons.injEq, Prod.mk.injEq, Nat.succ_ne_zero, Nat.reduceEqDiff, and_false, false_and, Bool.false_and, Bool.and_false, Bool.or_true, Bool.true_or, Bool.false_or, Bool.or_false, Bool.not_true, Bool.not_false, keepT_t, keepT_f, keepT_nil, sets_nil, sets_cons, spliceL, opStore, toIV, toIVs, optNat, opSlice, List.replicate, scalT, scalA, scalC, boxesA, boxesC, freezeOf_nil, freezeOf_row, frz_row, Nat.reduceAdd, Nat.reduceMul, Nat.reduceLT, Nat.reduceLeDiff, Nat.reduceEqDiff, Int.reduceToNat, Int.reduceLE, Int.reduceLT, Int.reduceNeg, reduceCtorEq, resB, mapO, resVar, lowerT, lowerA, lowerC, or_true, true_or, false_or, or_false, gos, Int.reduceAdd, Int.reduceSub, Int.reduceMul, Int.reduceEq, rowP_zero, rowH_zero, e3]
              first | (refine ⟨by kernel_rfl, ?_⟩; rfl) | (show drawK _ _ = true; kernel_rfl)
            | succ j =>
              simp (maxSteps := 20000000) (disch := omega) only [↓reduceIte, Nat.reduceSub, sims, sim5, sim6, List.filterMap_cons, imp_self, false_imp_iff, true_imp_iff, zeroRow, List.flatten_cons, List.flatten_nil, List.replicate_succ, List.replicate_zero, Nat.le_refl, ite_self, rowH_app, Kdres_keys, opnL, tys, RoundG_normal, RoundG_exit, RoundG_ret, callB, guardB, stepOp, just, St.opnd, ofVal, putT, undefP, opBuiltin, opLen, PV.sk, SK.len, SK.pv, scalBin, scalUn, intBin, opIndexAddr, opLoad, natOf, opConvert, opFieldAddr, opField, partP, opBox, opAlloc, opBuild, opBuildSlice, fillP, Places.get, cellsP, oneP, Value.oneCell', newBox, Heap.none_at, Heap.put_at, List.cons.injEq, Prod.mk.injEq, Nat.succ_ne_zero, Nat.reduceEqDiff, and_false, false_and, Bool.false_and, Bool.and_false, Bool.or_true, Bool.true_or, Bool.false_or, Bool.or_false, Bool.not_true, Bool.not_false, keepT_t, keepT_f, keepT_nil, sets_nil, sets_cons, spliceL, opStore, toIV, toIVs, optNat, opSlice, List.replicate, scalT, scalA, scalC, boxesA, boxesC, freezeOf_nil, freezeOf_row, frz_row, Nat.reduceAdd, Nat.reduceMul, Nat.reduceLT, Nat.reduceLeDiff, Nat.reduceEqDiff, Int.reduceToNat, Int.reduceLE, Int.reduceLT, Int.reduceNeg, reduceCtorEq, resB, mapO, resVar, lowerT, lowerA, lowerC, or_true, true_or, false_or, or_false, gos, Int.reduceAdd, Int.reduceSub, Int.reduceMul, Int.reduceEq, rowP_succ, rowH_succ, List.length_map, l1, e2, sevP, lu]
              first | (refine ⟨by kernel_rfl, ?_⟩; rfl) | (show drawK _ _ = true; kernel_rfl)
      · simp only [c2, decide_false, Bool.and_false, Bool.false_eq_true, if_false]
        refine CallsP.start (n := 51) (rs := [.tmp 8, .cell 9 25, .tmp 10]) Try.func49 rfl rfl rfl fun base => ?_
        simp (maxSteps := 20000000) only [List.length_cons, List.length_nil, Nat.reduceAdd, Nat.reduceSub, List.replicate, List.cons_append, List.nil_append]
        simp (maxSteps := 20000000) (disch := omega) only [↓reduceIte, Nat.reduceSub, sims, sim5, sim6, List.filterMap_cons, imp_self, false_imp_iff, true_imp_iff, zeroRow, List.flatten_cons, List.flatten_nil, List.replicate_succ, List.replicate_zero, Nat.le_refl, ite_self, rowH_app, Kdres_keys, opnL, tys, RoundG_normal, RoundG_exit, RoundG_ret, callB, guardB, stepOp, just, St.opnd, ofVal, putT, undefP, opBuiltin, opLen, PV.sk, SK.len, SK.pv, scalBin, scalUn, intBin, opIndexAddr, opLoad, natOf, opConvert, opFieldAddr, opField, partP, opBox, opAlloc, opBuild, opBuildSlice, fillP, Places.get, cellsP, oneP, Value.oneCell', newBox, Heap.none_at, Heap.put_at, List.cons.injEq, Prod.mk.injEq, Nat.succ_ne_zero, Nat.reduceEqDiff, and_false, false_and, Bool.false_and, Bool.and_false, Bool.or_true, Bool.true_or, Bool.false_or, Bool.or_false, Bool.not_true, Bool.not_false, keepT_t, keepT_f, keepT_nil, sets_nil, sets_cons, spliceL, opStore, toIV, toIVs, optNat, opSlice, List.replicate, scalT, scalA, scalC, boxesA, boxesC, freezeOf_nil, freezeOf_row, frz_row, Nat.reduceAdd, Nat.reduceMul, Nat.reduceLT, Nat.reduceLeDiff, Nat.reduceEqDiff, Int.reduceToNat, Int.reduceLE, Int.reduceLT, Int.reduceNeg, reduceCtorEq, gos, Int.reduceAdd, Int.reduceSub, Int.reduceMul, Int.reduceEq]
        refine K_call_pure (r) rfl rfl (by simp only [tys]) (by first | rfl | simp [St.opnd, ofVal, undefP, mapO, lowerT, lowerA, lowerC, Heap.put_at, Heap.none_at, rowH_app, List.cons.injEq, Prod.mk.injEq, Nat.reduceEqDiff, Nat.succ_ne_zero, and_false, false_and, and_true, and_self, if_true, if_false, Nat.reduceMul, Nat.reduceAdd, Nat.zero_add, Nat.mul_one, List.length_cons, List.length_nil, Nat.le_refl, List.drop_zero, List.take_succ_cons, List.take_zero, Option.map_some, List.map_cons, List.map_nil, reduceCtorEq, ite_self]) ?_
        simp (maxSteps := 20000000) (disch := omega) only [↓reduceIte, Nat.reduceSub, sims, sim5, sim6, List.filterMap_cons, imp_self, false_imp_iff, true_imp_iff, zeroRow, List.flatten_cons, List.flatten_nil, List.replicate_succ, List.replicate_zero, Nat.le_refl, ite_self, rowH_app, Kdres_keys, opnL, tys, RoundG_normal, RoundG_exit, RoundG_ret, callB, guardB, stepOp, just, St.opnd, ofVal, putT, undefP, opBuiltin, opLen, PV.sk, SK.len, SK.pv, scalBin, scalUn, intBin, opIndexAddr, opLoad, natOf, opConvert, opFieldAddr, opField, partP, opBox, opAlloc, opBuild, opBuildSlice, fillP, Places.get, cellsP, oneP, Value.oneCell', newBox, Heap.none_at, Heap.put_at, List.cons.injEq, Prod.mk.injEq, Nat.succ_ne_zero, Nat.reduceEqDiff, and_false, false_and, Bool.false_and, Bool.and_false, Bool.or_true, Bool.true_or, Bool.false_or, Bool.or_false, Bool.not_true, Bool.not_false, keepT_t, keepT_f, keepT_nil, sets_nil, sets_cons, spliceL, opStore, toIV, toIVs, optNat, opSlice, List.replicate, scalT, scalA, scalC, boxesA, boxesC, freezeOf_nil, freezeOf_row, frz_row, Nat.reduceAdd, Nat.reduceMul, Nat.reduceLT, Nat.reduceLeDiff, Nat.reduceEqDiff, Int.reduceToNat, Int.reduceLE, Int.reduceLT, Int.reduceNeg, reduceCtorEq, resB, mapO, resVar, lowerT, lowerA, lowerC, or_true, true_or, false_or, or_false, gos, Int.reduceAdd, Int.reduceSub, Int.reduceMul, Int.reduceEq]
        first | (refine ⟨by kernel_rfl, ?_⟩; rfl) | (show drawK _ _ = true; kernel_rfl)
    · simp only [c1, decide_false, Bool.false_and, Bool.and_false, Bool.false_eq_true, if_false]
      refine CallsP.start (n := 51) (rs := [.tmp 8, .cell 9 25, .tmp 10]) Try.func49 rfl rfl rfl fun base => ?_
      simp (maxSteps := 20000000) only [List.length_cons, List.length_nil, Nat.reduceAdd, Nat.reduceSub, List.replicate, List.cons_append, List.nil_append]
      simp (maxSteps := 20000000) (disch := omega) only [↓reduceIte, Nat.reduceSub, sims, sim5, sim6, List.filterMap_cons, imp_self, false_imp_iff, true_imp_iff, zeroRow, List.flatten_cons, List.flatten_nil, List.replicate_succ, List.replicate_zero, Nat.le_refl, ite_self, rowH_app, Kdres_keys, opnL, tys, RoundG_normal, RoundG_exit, RoundG_ret, callB, guardB, stepOp, just, St.opnd, ofVal, putT, undefP, opBuiltin, opLen, PV.sk, SK.len, SK.pv, scalBin, scalUn, intBin, opIndexAddr, opLoad, natOf, opConvert, opFieldAddr, opField, partP, opBox, opAlloc, opBuild, opBuildSlice, fillP, Places.get, cellsP, oneP, Value.oneCell', newBox, Heap.none_at, Heap.put_at, List.cons.injEq, Prod.mk.injEq, Nat.succ_ne_zero, Nat.reduceEqDiff, and_false, false_and, Bool.false_and, Bool.and_false, Bool.or_true, Bool.true_or, Bool.false_or, Bool.or_false, Bool.not_true, Bool.not_false, keepT_t, keepT_f, keepT_nil, sets_nil, sets_cons, spliceL, opStore, toIV, toIVs, optNat, opSlice, List.replicate, scalT, scalA, scalC, boxesA, boxesC, freezeOf_nil, freezeOf_row, frz_row, Nat.reduceAdd, Nat.reduceMul, Nat.reduceLT, Nat.reduceLeDiff, Nat.reduceEqDiff, Int.reduceToNat, Int.reduceLE, Int.reduceLT, Int.reduceNeg, reduceCtorEq, gos, Int.reduceAdd, Int.reduceSub, Int.reduceMul, Int.reduceEq]
      refine K_call_pure (r) rfl rfl (by simp only [tys]) (by first | rfl | simp [St.opnd, ofVal, undefP, mapO, lowerT, lowerA, lowerC, Heap.put_at, Heap.none_at, rowH_app, List.cons.injEq, Prod.mk.injEq, Nat.reduceEqDiff, Nat.succ_ne_zero, and_false, false_and, and_true, and_self, if_true, if_false, Nat.reduceMul, Nat.reduceAdd, Nat.zero_add, Nat.mul_one, List.length_cons, List.length_nil, Nat.le_refl, List.drop_zero, List.take_succ_cons, List.take_zero, Option.map_some, List.map_cons, List.map_nil, reduceCtorEq, ite_self]) ?_
      simp (maxSteps := 20000000) (disch := omega) only [↓reduceIte, Nat.reduceSub, sims, sim5, sim6, List.filterMap_cons, imp_self, false_imp_iff, true_imp_iff, zeroRow, List.flatten_cons, List.flatten_nil, List.replicate_succ, List.replicate_zero, Nat.le_refl, ite_self, rowH_app, Kdres_keys, opnL, tys, RoundG_normal, RoundG_exit, RoundG_ret, callB, guardB, stepOp, just, St.opnd, ofVal, putT, undefP, opBuiltin, opLen, PV.sk, SK.len, SK.pv, scalBin, scalUn, intBin, opIndexAddr, opLoad, natOf, opConvert, opFieldAddr, opField, partP, opBox, opAlloc, opBuild, opBuildSlice, fillP, Places.get, cellsP, oneP, Value.oneCell', newBox, Heap.none_at, Heap.put_at, List.cons.injEq, Prod.mk.injEq, Nat.succ_ne_zero, Nat.reduceEqDiff, and_false, false_and, Bool.false_and, Bool.and_false, Bool.or_true, Bool.true_or, Bool.false_or, Bool.or_false, Bool.not_true, Bool.not_false, keepT_t, keepT_f, keepT_nil, sets_nil, sets_cons, spliceL, opStore, toIV, toIVs, optNat, opSlice, List.replicate, scalT, scalA, scalC, boxesA, boxesC, freezeOf_nil, freezeOf_row, frz_row, Nat.reduceAdd, Nat.reduceMul, Nat.reduceLT, Nat.reduceLeDiff, Nat.reduceEqDiff, Int.reduceToNat, Int.reduceLE, Int.reduceLT, Int.reduceNeg, reduceCtorEq, resB, mapO, resVar, lowerT, lowerA, lowerC, or_true, true_or, false_or, or_false, gos, Int.reduceAdd, Int.reduceSub, Int.reduceMul, Int.reduceEq]
      first | (refine ⟨by kernel_rfl, ?_⟩; rfl) | (show drawK _ _ = true; kernel_rfl)
end Go.Proofs.Ytdfhkdddlfmceaa.TM
