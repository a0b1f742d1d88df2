/- What is proved of functions, and plain facts, part 7. Conditions: none. -/
import Derived.Test.YthnfphgjfpcpbaaSSolveMore6
namespace Go.Proofs.Ythnfphgjfpcpbaa.TM
open Go Go.RowKit
set_option linter.unusedVariables false
set_option linter.defProp false
set_option linter.unusedSimpArgs false
attribute [local irreducible] K W WOps Effs Xg Xo Xr Xdg Xdo Xdr Xif CallsP CallR
def rwLJ (p : Int) (c : CupT) (k : Nat) (x : List Int) (j : Nat) : List Int := tbl c.1.length (fun m => if m < j then (x.getD m 0 - x.getD k 0 * (c.2.2.1.getD (c.1.getD k 0).toNat []).getD m 0 % p) % p else x.getD m 0)
def rwYK (p : Int) (R : Nat) (c : CupT) (k : Nat) (x y : List Int) : List Int := tbl R (fun m => if m = (c.1.getD k 0).toNat then (0 - x.getD k 0) % p else y.getD m 0)
def rwS (p : Int) (R : Nat) (c : CupT) (i : Nat) : Nat → List Int × List Int
  | 0 => (c.2.2.1.getD i [], tbl R (fun m => if m = i then 1 else 0))
  | d + 1 => (rwLJ p c (c.1.length - 1 - d) (rwS p R c i d).1 (c.1.length - 1 - d), rwYK p R c (c.1.length - 1 - d) (rwS p R c i d).1 (rwS p R c i d).2)
def rowsV (p : Int) (R : Nat) (c : CupT) (i : Nat) : List Int := (rwS p R c i c.1.length).2
theorem rwS_len {p : Int} {R C : Nat} {c : CupT} (hw : CupW p R C c) {i : Nat} (hi : i < R) : ∀ d, (rwS p R c i d).1.length = c.1.length ∧ (rwS p R c i d).2.length = R
  | 0 => ⟨(hw.cr _ (getD_mm (by rw [hw.cl]; exact hi))).1, tbl_len ..⟩
  | d + 1 => ⟨tbl_len .., tbl_len ..⟩
theorem rwS_in {p : Int} {R C : Nat} {c : CupT} (hp : Md p) (hw : CupW p R C c) {i : Nat} (hi : i < R) : ∀ d, (∀ a ∈ (rwS p R c i d).1, In p a) ∧ ∀ a ∈ (rwS p R c i d).2, In p a
  | 0 => ⟨(hw.cr _ (getD_mm (by rw [hw.cl]; exact hi))).2, fun a ha => by
    obtain ⟨m, _, rfl⟩ := tbl_mem ha
    (try simp only)
    split
    · exact ⟨by decide, by have := hp.1; omega⟩
    · exact ⟨by decide, by have := hp.1; omega⟩⟩
  | d + 1 => by
    obtain ⟨h1, h2⟩ := rwS_in hp hw hi d
    obtain ⟨l1, l2⟩ := rwS_len hw hi d
    refine ⟨fun a ha => ?_, fun a ha => ?_⟩
    · obtain ⟨m, hm, rfl⟩ := tbl_mem ha
      (try simp only)
      split
      · exact in_emod hp _
      · exact getD_of h1 (by omega)
    · obtain ⟨m, hm, rfl⟩ := tbl_mem ha
      (try simp only)
      split
      · exact in_emod hp _
      · exact getD_of h2 (by omega)
theorem rwLJ_zero {p : Int} {c : CupT} {k : Nat} {x : List Int} (hx : x.length = c.1.length) : rwLJ p c k x 0 = x := by
  unfold rwLJ
  simp only [Nat.not_lt_zero, if_false]
  exact (tbl_of hx).symm
set_option maxHeartbeats 4000000 in
theorem rows0_walk {p : Int} {R C : Nat} {l : List Int} {c : CupT} {vs : List Int} {i : Nat} (hp : Md p) (hw : CupW p R C c) (hR : R ≤ 64) (hi : i < R) (hr : c.1.length = 0) :
    CallsP Try.prog 65 [takenP p R C l c vs, i64 i] (lu (rowsV p R c i)) := by
  have e : rowsV p R c i = tbl R (fun m => if m = i then 1 else 0) := by unfold rowsV; rw [hr]; rfl
  rw [e]
  obtain ⟨rw0, cw, cc, uu⟩ := c
  have ccl := hw.cl
  obtain ⟨x1, x2⟩ := hw.cr (cc.getD i []) (getD_mm (by rw [ccl]; exact hi))
  simp only at ccl x1 hr
  have e0 : cc.getD i [] = [] := List.eq_nil_of_length_eq_zero (by omega)
  have g3 : (cc.map fun u => IV.l u.length (u.map iu))[i]? = some (.l 0 []) := by rw [List.getElem?_map, getD_at' (d := []) (by omega), Option.map_some, e0]; rfl
  have cl := cloneE_walk
  have rl : ((zeroRow [Value.int .u64 0] R).map IV.v).length = R := by rw [List.length_map, zeroRow_len]; simp
  have px := tbl_put_iu (fun _ => 0) 1 hi
  have i1 : i + 1 ≤ R := hi
  have b1 : R * 8 ≤ 140737488355328 := by omega
  have b2 : R ≤ 140737488355328 := by omega
  rw [← zero_tbl R] at px
  refine X_startP (n := 78) (m := 2) (rs := [.tmp 4]) Try.func65 rfl rfl rfl rfl (by decide) fun base => ?_
  repeat (first | ((first | refine X_call_fn2 rfl (by simp only [tys]) ?_ | refine X_dcall_fn2 rfl (by simp only [tys]) ?_); apply Exists.intro; apply And.intro; (focus (simp -dsimp only [simx, zzC, zzB, tys, ite_self, opnL, callB, callX, readsB, stepOp, nilCmp, ofVal, opBuiltin, opLen, PV.sk, scalBin, scalUn, intBin, opLoad, natOf, opConvert, opField, cellsP, oneP, Value.oneCell', opStore, toIV, scalT, scalA, scalC, boxesA, boxesC, zipB_none, zipB_mx, isZ, opZip, zeroP, opAppendZ, opMakeMap, opLookup, mboxB, opUpdate, ↓reduceIte, Nat.reduceSub, Nat.reduceEqDiff, Nat.reduceAdd, Nat.reduceMul, Nat.reduceLT, Nat.reduceLeDiff, Int.reduceToNat, Int.reduceLE, Int.reduceLT, Int.reduceNeg, reduceCtorEq, zzL, if_true, if_false] <;> rfl)); apply Exists.intro; apply And.intro; (focus (first | exact cl))) | refine X_opc rfl ?_ | refine X_dopc rfl ?_ | refine ⟨(by show drawK _ _ = true; kernel_rfl : drawX _ _ _), ?_⟩ | exact (by show drawK _ _ = true; kernel_rfl : drawX _ _ _) | simp -dsimp (maxSteps := 20000000) (disch := omega) only [simx, zzC, zzB, tys, ite_self, opnL, callB, callX, readsB, stepOp, nilCmp, ofVal, opBuiltin, opLen, PV.sk, scalBin, scalUn, intBin, opLoad, natOf, opConvert, opField, cellsP, oneP, Value.oneCell', opStore, toIV, scalT, scalA, scalC, boxesA, boxesC, zipB_none, zipB_mx, isZ, opZip, zeroP, opAppendZ, opMakeMap, opLookup, mboxB, opUpdate, ↓reduceIte, Nat.reduceSub, Nat.reduceEqDiff, Nat.reduceAdd, Nat.reduceMul, Nat.reduceLT, Nat.reduceLeDiff, Int.reduceToNat, Int.reduceLE, Int.reduceLT, Int.reduceNeg, reduceCtorEq, gos, Int.reduceAdd, Int.reduceSub, Int.reduceMul, Int.reduceEq, g3, ccl, hi, i1, List.length_map, hr, b1, b2, rl, px])
  refine X_loopH [2, 5, 6, 7] [] (0) (0) (fun j => True) (fun j => [(7, i64 (-1))]) (fun j => (Heap.none.put ((0, 0) :: base) (.var [li rw0, li cw, llP cc, llP uu, u64 p, i64 R, i64 C, lu l, lu vs])).put ((2, 3) :: base) (.row false ((tbl R (fun m => if m = i then 1 else 0)).map iu))) ?_ ?_ ?_ ?_ ?_ (by decide) ?_
  · exact (fgt_nil)
  · repeat (first | refine X_opc rfl ?_ | refine X_dopc rfl ?_ | refine ⟨(by show drawK _ _ = true; kernel_rfl : drawX _ _ _), ?_⟩ | exact (by show drawK _ _ = true; kernel_rfl : drawX _ _ _) | simp -dsimp (maxSteps := 20000000) (disch := omega) only [simx, zzC, zzB, tys, ite_self, opnL, callB, callX, readsB, stepOp, nilCmp, ofVal, opBuiltin, opLen, PV.sk, scalBin, scalUn, intBin, opLoad, natOf, opConvert, opField, cellsP, oneP, Value.oneCell', opStore, toIV, scalT, scalA, scalC, boxesA, boxesC, zipB_none, zipB_mx, isZ, opZip, zeroP, opAppendZ, opMakeMap, opLookup, mboxB, opUpdate, ↓reduceIte, Nat.reduceSub, Nat.reduceEqDiff, Nat.reduceAdd, Nat.reduceMul, Nat.reduceLT, Nat.reduceLeDiff, Int.reduceToNat, Int.reduceLE, Int.reduceLT, Int.reduceNeg, reduceCtorEq, gos, Int.reduceAdd, Int.reduceSub, Int.reduceMul, Int.reduceEq])
    rfl
  · funext c
    simp (maxSteps := 20000000) only [Heap.drop_at, rowH_app, Heap.put_at, Heap.none_at, List.mem_cons, List.not_mem_nil, or_false]
    by_cases e0 : c = (0, 0) :: base
    · subst e0; simp []
    by_cases e1 : c = (2, 3) :: base
    · subst e1; simp []
    simp [e0, e1]
  · omega
  · trivial
  · intro j hj _
    have tl := tbl_len R (fun m => if m = i then 1 else 0)
    generalize tbl R (fun m => if m = i then 1 else 0) = Y at tl ⊢
    have nt : (Y.map iu).take R = Y.map iu := List.take_of_length_le (by simp [tl])
    repeat (first | refine X_opc rfl ?_ | refine X_dopc rfl ?_ | refine ⟨(by show drawK _ _ = true; kernel_rfl : drawX _ _ _), ?_⟩ | exact (by show drawK _ _ = true; kernel_rfl : drawX _ _ _) | simp -dsimp (maxSteps := 20000000) (disch := omega) only [simx, zzC, zzB, tys, ite_self, opnL, callB, callX, readsB, stepOp, nilCmp, ofVal, opBuiltin, opLen, PV.sk, scalBin, scalUn, intBin, opLoad, natOf, opConvert, opField, cellsP, oneP, Value.oneCell', opStore, toIV, scalT, scalA, scalC, boxesA, boxesC, zipB_none, zipB_mx, isZ, opZip, zeroP, opAppendZ, opMakeMap, opLookup, mboxB, opUpdate, ↓reduceIte, Nat.reduceSub, Nat.reduceEqDiff, Nat.reduceAdd, Nat.reduceMul, Nat.reduceLT, Nat.reduceLeDiff, Int.reduceToNat, Int.reduceLE, Int.reduceLT, Int.reduceNeg, reduceCtorEq, zzR, gos, Int.reduceAdd, Int.reduceSub, Int.reduceMul, Int.reduceEq, List.length_map, tl, nt])
    simp [tl]
theorem rwLJ_next {p : Int} {c : CupT} {k j : Nat} {x : List Int} (hx : x.length = c.1.length) (hj : j < c.1.length) : ((rwLJ p c k x j).map iu).take j ++ [iu ((x.getD j 0 - x.getD k 0 * (c.2.2.1.getD (c.1.getD k 0).toNat []).getD j 0 % p) % p)] ++ ((rwLJ p c k x j).map iu).drop (j + 1) = (rwLJ p c k x (j + 1)).map iu := by
  rw [rwLJ, tbl_put_iu _ _ hj]
  congr 1
  apply tbl_congr
  intro m _
  by_cases e : m = j
  · subst e; rw [if_pos rfl, if_pos (by omega)]
  · rw [if_neg e]
    by_cases d : m < j
    · rw [if_pos d, if_pos (by omega)]
    · rw [if_neg d, if_neg (by omega)]
theorem rwLJ_at {p : Int} {c : CupT} {k j m n : Nat} {x : List Int} (hn : c.1.length = n) (hm : m < n) (h : j ≤ m) : ((rwLJ p c k x j).map iu)[m]? = some (iu (x.getD m 0)) := by
  rw [List.getElem?_map, rwLJ, tbl_get? _ (by omega), if_neg (by omega)]; rfl
set_option maxHeartbeats 8000000 in
theorem rows1_walk {p : Int} {R C : Nat} {l : List Int} {c : CupT} {vs : List Int} {i n : Nat} (hp : Md p) (hw : CupW p R C c) (hR : R ≤ 64) (hi : i < R) (hr : c.1.length = n) (h0 : 0 < n) :
    CallsP Try.prog 65 [takenP p R C l c vs, i64 i] (lu (rowsV p R c i)) := by
  obtain ⟨rw0, cw, cc, uu⟩ := c
  have ccl := hw.cl
  have rle := hw.rle
  obtain ⟨x1, x2⟩ := hw.cr (cc.getD i []) (getD_mm (by rw [ccl]; exact hi))
  simp only at ccl x1 hr rle
  have g3 : (cc.map fun u => IV.l u.length (u.map iu))[i]? = some (.l n ((cc.getD i []).map iu)) := by rw [List.getElem?_map, getD_at' (d := []) (by omega), Option.map_some, x1, hr]
  have dc := (cloneU_own (l := cc.getD i []) (n := n) (by omega) h0 (by omega)).toA
  have rl : ((zeroRow [Value.int .u64 0] R).map IV.v).length = R := by rw [List.length_map, zeroRow_len]; simp
  have px := tbl_put_iu (fun _ => 0) 1 hi
  have i1 : i + 1 ≤ R := hi
  have b1 : R * 8 ≤ 140737488355328 := by omega
  have b2 : R ≤ 140737488355328 := by omega
  rw [← zero_tbl R] at px
  refine X_startP (n := 78) (m := 2) (rs := [.tmp 4]) Try.func65 rfl rfl rfl rfl (by decide) fun base => ?_
  repeat (first | refine X_opc rfl ?_ | refine X_dopc rfl ?_ | refine ⟨(by show drawK _ _ = true; kernel_rfl : drawX _ _ _), ?_⟩ | exact (by show drawK _ _ = true; kernel_rfl : drawX _ _ _) | simp -dsimp (maxSteps := 20000000) (disch := omega) only [simx, zzC, zzB, tys, ite_self, opnL, callB, callX, readsB, stepOp, nilCmp, ofVal, opBuiltin, opLen, PV.sk, scalBin, scalUn, intBin, opLoad, natOf, opConvert, opField, cellsP, oneP, Value.oneCell', opStore, toIV, scalT, scalA, scalC, boxesA, boxesC, zipB_none, zipB_mx, isZ, opZip, zeroP, opAppendZ, opMakeMap, opLookup, mboxB, opUpdate, ↓reduceIte, Nat.reduceSub, Nat.reduceEqDiff, Nat.reduceAdd, Nat.reduceMul, Nat.reduceLT, Nat.reduceLeDiff, Int.reduceToNat, Int.reduceLE, Int.reduceLT, Int.reduceNeg, reduceCtorEq, gos, Int.reduceAdd, Int.reduceSub, Int.reduceMul, Int.reduceEq, g3, ccl, hi, i1, List.length_map, hr, b1, b2, rl, px])
  ((first | refine X_call_ad (dc) rfl (by simp only [tys]) (by (simp -dsimp only [simx, zzC, zzB, tys, ite_self, opnL, callB, callX, readsB, stepOp, nilCmp, ofVal, opBuiltin, opLen, PV.sk, scalBin, scalUn, intBin, opLoad, natOf, opConvert, opField, cellsP, oneP, Value.oneCell', opStore, toIV, scalT, scalA, scalC, boxesA, boxesC, zipB_none, zipB_mx, isZ, opZip, zeroP, opAppendZ, opMakeMap, opLookup, mboxB, opUpdate, ↓reduceIte, Nat.reduceSub, Nat.reduceEqDiff, Nat.reduceAdd, Nat.reduceMul, Nat.reduceLT, Nat.reduceLeDiff, Int.reduceToNat, Int.reduceLE, Int.reduceLT, Int.reduceNeg, reduceCtorEq, zzL, if_true, if_false] <;> rfl)) (by simp [Heap.put_at, Heap.none_at, rowH_app]) ?_ | refine X_dcall_ad (dc) rfl (by simp only [tys]) (by (simp -dsimp only [simx, zzC, zzB, tys, ite_self, opnL, callB, callX, readsB, stepOp, nilCmp, ofVal, opBuiltin, opLen, PV.sk, scalBin, scalUn, intBin, opLoad, natOf, opConvert, opField, cellsP, oneP, Value.oneCell', opStore, toIV, scalT, scalA, scalC, boxesA, boxesC, zipB_none, zipB_mx, isZ, opZip, zeroP, opAppendZ, opMakeMap, opLookup, mboxB, opUpdate, ↓reduceIte, Nat.reduceSub, Nat.reduceEqDiff, Nat.reduceAdd, Nat.reduceMul, Nat.reduceLT, Nat.reduceLeDiff, Int.reduceToNat, Int.reduceLE, Int.reduceLT, Int.reduceNeg, reduceCtorEq, zzL, if_true, if_false] <;> rfl)) (by simp [Heap.put_at, Heap.none_at, rowH_app]) ?_))
  repeat (first | refine X_opc rfl ?_ | refine X_dopc rfl ?_ | refine ⟨(by show drawK _ _ = true; kernel_rfl : drawX _ _ _), ?_⟩ | exact (by show drawK _ _ = true; kernel_rfl : drawX _ _ _) | simp -dsimp (maxSteps := 20000000) (disch := omega) only [simx, zzC, zzB, tys, ite_self, opnL, callB, callX, readsB, stepOp, nilCmp, ofVal, opBuiltin, opLen, PV.sk, scalBin, scalUn, intBin, opLoad, natOf, opConvert, opField, cellsP, oneP, Value.oneCell', opStore, toIV, scalT, scalA, scalC, boxesA, boxesC, zipB_none, zipB_mx, isZ, opZip, zeroP, opAppendZ, opMakeMap, opLookup, mboxB, opUpdate, ↓reduceIte, Nat.reduceSub, Nat.reduceEqDiff, Nat.reduceAdd, Nat.reduceMul, Nat.reduceLT, Nat.reduceLeDiff, Int.reduceToNat, Int.reduceLE, Int.reduceLT, Int.reduceNeg, reduceCtorEq, gos, Int.reduceAdd, Int.reduceSub, Int.reduceMul, Int.reduceEq, g3, ccl, hi, i1, List.length_map, hr, b1, b2, rl, px])
  refine X_loopH [2, 5, 6, 7] [] (0) (n) (fun j => True) (fun j => [(7, i64 ((n : Int) - 1 - (j : Int)))]) (fun j => ((Heap.none.put ((0, 0) :: base) (.var [li rw0, li cw, llP cc, llP uu, u64 p, i64 R, i64 C, lu l, lu vs])).put ((1, 6) :: base) (.row false ((rwS p R (rw0, cw, cc, uu) i j).1.map iu))).put ((2, 3) :: base) (.row false ((rwS p R (rw0, cw, cc, uu) i j).2.map iu))) ?_ ?_ ?_ ?_ ?_ (by decide) ?_
  · exact (fgt_nil)
  · repeat (first | refine X_opc rfl ?_ | refine X_dopc rfl ?_ | refine ⟨(by show drawK _ _ = true; kernel_rfl : drawX _ _ _), ?_⟩ | exact (by show drawK _ _ = true; kernel_rfl : drawX _ _ _) | simp -dsimp (maxSteps := 20000000) (disch := omega) only [simx, zzC, zzB, tys, ite_self, opnL, callB, callX, readsB, stepOp, nilCmp, ofVal, opBuiltin, opLen, PV.sk, scalBin, scalUn, intBin, opLoad, natOf, opConvert, opField, cellsP, oneP, Value.oneCell', opStore, toIV, scalT, scalA, scalC, boxesA, boxesC, zipB_none, zipB_mx, isZ, opZip, zeroP, opAppendZ, opMakeMap, opLookup, mboxB, opUpdate, ↓reduceIte, Nat.reduceSub, Nat.reduceEqDiff, Nat.reduceAdd, Nat.reduceMul, Nat.reduceLT, Nat.reduceLeDiff, Int.reduceToNat, Int.reduceLE, Int.reduceLT, Int.reduceNeg, reduceCtorEq, gos, Int.reduceAdd, Int.reduceSub, Int.reduceMul, Int.reduceEq])
    rw [show ((n : Int) - 1 - ((0 : Nat) : Int)) = (n : Int) - 1 by omega]
  · funext c
    simp (maxSteps := 20000000) only [Heap.drop_at, rowH_app, Heap.put_at, Heap.none_at, List.mem_cons, List.not_mem_nil, or_false]
    by_cases e0 : c = (0, 0) :: base
    · subst e0; simp [rwS]
    by_cases e1 : c = (1, 6) :: base
    · subst e1; simp [rwS]
    by_cases e2 : c = (2, 3) :: base
    · subst e2; simp [rwS]
    simp [e0, e1, e2, rwS]
  · omega
  · trivial
  · intro d hd _
    by_cases cd : d < n
    · obtain ⟨k, hk⟩ : ∃ k, n = d + k + 1 := ⟨n - d - 1, by omega⟩
      have ek : (n : Int) - 1 - (d : Int) = (k : Int) := by omega
      have kn : k < n := by omega
      have k0 : (0 : Int) ≤ (k : Int) := by omega
      obtain ⟨q0, q1⟩ := hw.rb (rw0.getD k 0) (getD_mm (by simp only; omega))
      (try simp only at q0 q1)
      obtain ⟨q, hq⟩ : ∃ q : Nat, rw0.getD k 0 = q := ⟨(rw0.getD k 0).toNat, by omega⟩
      have qR : q < R := by omega
      obtain ⟨w1, w2⟩ := hw.cr (cc.getD q []) (getD_mm (by rw [ccl]; exact qR))
      simp only [hr] at w1
      obtain ⟨l1, l2⟩ := rwS_len hw hi d
      obtain ⟨s1, s2⟩ := rwS_in hp hw hi d
      simp only [hr] at l1
      have sn : rwS p R (rw0, cw, cc, uu) i (d + 1) = (rwLJ p (rw0, cw, cc, uu) k (rwS p R (rw0, cw, cc, uu) i d).1 k, rwYK p R (rw0, cw, cc, uu) k (rwS p R (rw0, cw, cc, uu) i d).1 (rwS p R (rw0, cw, cc, uu) i d).2) := by
        rw [rwS]; simp only [hr, show n - 1 - d = k by omega]
      generalize rwS p R (rw0, cw, cc, uu) i d = S at l1 l2 s1 s2 sn ⊢
      obtain ⟨X, Y⟩ := S
      simp only at l1 l2 s1 s2 sn ⊢
      have g1 : (rw0.map ii)[k]? = some (ii (q : Int)) := by rw [List.getElem?_map, getD_at' (d := 0) (by omega), Option.map_some, hq]
      have g2 : (X.map iu)[k]? = some (iu (X.getD k 0)) := by rw [List.getElem?_map, getD_some l1 kn]; rfl
      have g4 : (cc.map fun u => IV.l u.length (u.map iu))[q]? = some (.l n ((cc.getD q []).map iu)) := by rw [List.getElem?_map, getD_at' (d := []) (by omega), Option.map_some, w1]
      have xk := getD_of s1 (i := k) (by omega)
      have z0 : In p 0 := ⟨by decide, by have := hp.1; omega⟩
      have m0 := tsub_walk R C l (rw0, cw, cc, uu) vs hp z0 xk
      have yt := tbl_of l2
      have py := tbl_put_iu (fun m => Y.getD m 0) ((0 - X.getD k 0) % p) qR
      have ye : rwYK p R (rw0, cw, cc, uu) k X Y = tbl R (fun m => if m = q then (0 - X.getD k 0) % p else Y.getD m 0) := by unfold rwYK; simp only [hq, Int.toNat_natCast]
      rw [← yt, ← ye] at py
      have lz := rwLJ_zero (p := p) (c := (rw0, cw, cc, uu)) (k := k) (x := X) (by simp only; omega)
      have lat := fun j m (hm : m < n) (h : j ≤ m) => rwLJ_at (p := p) (c := (rw0, cw, cc, uu)) (k := k) (j := j) (m := m) (x := X) hr hm h
      have lnx := fun j (hj : j < n) => rwLJ_next (p := p) (c := (rw0, cw, cc, uu)) (k := k) (j := j) (x := X) (by simp only; omega) (by simp only; omega)
      have lln : ∀ j, (rwLJ p (rw0, cw, cc, uu) k X j).length = n := fun j => by unfold rwLJ; rw [tbl_len]; exact hr
      simp only [hq, Int.toNat_natCast, hr] at lnx
      have q1' : q + 1 ≤ R := qR
      generalize cc.getD q [] = D at w1 w2 g4 lnx
      clear ye yt
      repeat (first | ((first | refine X_call_fn2 rfl (by simp only [tys]) ?_ | refine X_dcall_fn2 rfl (by simp only [tys]) ?_); apply Exists.intro; apply And.intro; (focus (simp -dsimp only [simx, zzC, zzB, tys, ite_self, opnL, callB, callX, readsB, stepOp, nilCmp, ofVal, opBuiltin, opLen, PV.sk, scalBin, scalUn, intBin, opLoad, natOf, opConvert, opField, cellsP, oneP, Value.oneCell', opStore, toIV, scalT, scalA, scalC, boxesA, boxesC, zipB_none, zipB_mx, isZ, opZip, zeroP, opAppendZ, opMakeMap, opLookup, mboxB, opUpdate, ↓reduceIte, Nat.reduceSub, Nat.reduceEqDiff, Nat.reduceAdd, Nat.reduceMul, Nat.reduceLT, Nat.reduceLeDiff, Int.reduceToNat, Int.reduceLE, Int.reduceLT, Int.reduceNeg, reduceCtorEq, zzL, if_true, if_false] <;> rfl)); apply Exists.intro; apply And.intro; (focus (first | exact m0))) | refine X_opc rfl ?_ | refine X_dopc rfl ?_ | refine ⟨(by show drawK _ _ = true; kernel_rfl : drawX _ _ _), ?_⟩ | exact (by show drawK _ _ = true; kernel_rfl : drawX _ _ _) | simp -dsimp (maxSteps := 20000000) (disch := omega) only [simx, zzC, zzB, tys, ite_self, opnL, callB, callX, readsB, stepOp, nilCmp, ofVal, opBuiltin, opLen, PV.sk, scalBin, scalUn, intBin, opLoad, natOf, opConvert, opField, cellsP, oneP, Value.oneCell', opStore, toIV, scalT, scalA, scalC, boxesA, boxesC, zipB_none, zipB_mx, isZ, opZip, zeroP, opAppendZ, opMakeMap, opLookup, mboxB, opUpdate, ↓reduceIte, Nat.reduceSub, Nat.reduceEqDiff, Nat.reduceAdd, Nat.reduceMul, Nat.reduceLT, Nat.reduceLeDiff, Int.reduceToNat, Int.reduceLE, Int.reduceLT, Int.reduceNeg, reduceCtorEq, gos, Int.reduceAdd, Int.reduceSub, Int.reduceMul, Int.reduceEq, ek, k0, kn, g1, g2, hr, l1, l2, qR, q1', List.length_map, py])
      generalize rwYK p R (rw0, cw, cc, uu) k X Y = Y' at sn ⊢
      refine X_loopH [2, 5, 6, 7, 8, 48, 49] [] (0) (k) (fun j => True) (fun j => [(48, i64 k), (49, i64 j)]) (fun j => ((Heap.none.put ((0, 0) :: base) (.var [li rw0, li cw, llP cc, llP uu, u64 p, i64 R, i64 C, lu l, lu vs])).put ((1, 6) :: base) (.row false ((rwLJ p (rw0, cw, cc, uu) k X j).map iu))).put ((2, 3) :: base) (.row false (Y'.map iu))) ?_ ?_ ?_ ?_ ?_ (by decide) ?_
      · exact (fgt_nil)
      · repeat (first | refine X_opc rfl ?_ | refine X_dopc rfl ?_ | refine ⟨(by show drawK _ _ = true; kernel_rfl : drawX _ _ _), ?_⟩ | exact (by show drawK _ _ = true; kernel_rfl : drawX _ _ _) | simp -dsimp (maxSteps := 20000000) (disch := omega) only [simx, zzC, zzB, tys, ite_self, opnL, callB, callX, readsB, stepOp, nilCmp, ofVal, opBuiltin, opLen, PV.sk, scalBin, scalUn, intBin, opLoad, natOf, opConvert, opField, cellsP, oneP, Value.oneCell', opStore, toIV, scalT, scalA, scalC, boxesA, boxesC, zipB_none, zipB_mx, isZ, opZip, zeroP, opAppendZ, opMakeMap, opLookup, mboxB, opUpdate, ↓reduceIte, Nat.reduceSub, Nat.reduceEqDiff, Nat.reduceAdd, Nat.reduceMul, Nat.reduceLT, Nat.reduceLeDiff, Int.reduceToNat, Int.reduceLE, Int.reduceLT, Int.reduceNeg, reduceCtorEq, gos, Int.reduceAdd, Int.reduceSub, Int.reduceMul, Int.reduceEq])
        rfl
      · funext c
        simp (maxSteps := 20000000) only [Heap.drop_at, rowH_app, Heap.put_at, Heap.none_at, List.mem_cons, List.not_mem_nil, or_false]
        by_cases e0 : c = (0, 0) :: base
        · subst e0; simp [lz]
        by_cases e1 : c = (1, 6) :: base
        · subst e1; simp [lz]
        by_cases e2 : c = (2, 3) :: base
        · subst e2; simp [lz]
        simp [e0, e1, e2, lz]
      · omega
      · trivial
      · intro j hj _
        by_cases cj : j < k
        · have jn : j < n := by omega
          have j1 : j + 1 ≤ n := jn
          have la := lat j j jn (Nat.le_refl j)
          have lb := lat j k kn (by omega)
          have lc := lln j
          have ld := lnx j jn
          have g5 : (D.map iu)[j]? = some (iu (D.getD j 0)) := by rw [List.getElem?_map, getD_some w1 jn]; rfl
          have m1 := tmul_walk R C l (rw0, cw, cc, uu) vs hp xk (getD_of w2 (i := j) (by omega))
          have m2 := tsub_walk R C l (rw0, cw, cc, uu) vs hp (getD_of s1 (i := j) (by omega)) (in_emod hp (X.getD k 0 * D.getD j 0))
          repeat (first | ((first | refine X_call_fn2 rfl (by simp only [tys]) ?_ | refine X_dcall_fn2 rfl (by simp only [tys]) ?_); apply Exists.intro; apply And.intro; (focus (simp -dsimp only [simx, zzC, zzB, tys, ite_self, opnL, callB, callX, readsB, stepOp, nilCmp, ofVal, opBuiltin, opLen, PV.sk, scalBin, scalUn, intBin, opLoad, natOf, opConvert, opField, cellsP, oneP, Value.oneCell', opStore, toIV, scalT, scalA, scalC, boxesA, boxesC, zipB_none, zipB_mx, isZ, opZip, zeroP, opAppendZ, opMakeMap, opLookup, mboxB, opUpdate, ↓reduceIte, Nat.reduceSub, Nat.reduceEqDiff, Nat.reduceAdd, Nat.reduceMul, Nat.reduceLT, Nat.reduceLeDiff, Int.reduceToNat, Int.reduceLE, Int.reduceLT, Int.reduceNeg, reduceCtorEq, zzL, if_true, if_false] <;> rfl)); apply Exists.intro; apply And.intro; (focus (first | exact m1 | exact m2))) | refine X_opc rfl ?_ | refine X_dopc rfl ?_ | refine ⟨(by show drawK _ _ = true; kernel_rfl : drawX _ _ _), ?_⟩ | exact (by show drawK _ _ = true; kernel_rfl : drawX _ _ _) | simp -dsimp (maxSteps := 20000000) (disch := omega) only [simx, zzC, zzB, tys, ite_self, opnL, callB, callX, readsB, stepOp, nilCmp, ofVal, opBuiltin, opLen, PV.sk, scalBin, scalUn, intBin, opLoad, natOf, opConvert, opField, cellsP, oneP, Value.oneCell', opStore, toIV, scalT, scalA, scalC, boxesA, boxesC, zipB_none, zipB_mx, isZ, opZip, zeroP, opAppendZ, opMakeMap, opLookup, mboxB, opUpdate, ↓reduceIte, Nat.reduceSub, Nat.reduceEqDiff, Nat.reduceAdd, Nat.reduceMul, Nat.reduceLT, Nat.reduceLeDiff, Int.reduceToNat, Int.reduceLE, Int.reduceLT, Int.reduceNeg, reduceCtorEq, gos, Int.reduceAdd, Int.reduceSub, Int.reduceMul, Int.reduceEq, cj, jn, j1, kn, la, lb, lc, ld, g4, g5, ccl, qR, List.length_map])
          refine ⟨cj, (fgt_nil), rfl, ?_⟩
          funext c
          simp (maxSteps := 20000000) only [Heap.drop_at, rowH_app, Heap.put_at, Heap.none_at, List.mem_cons, List.not_mem_nil, or_false]
          by_cases e0 : c = (0, 0) :: base
          · subst e0; simp []
          by_cases e1 : c = (1, 6) :: base
          · subst e1; simp []
          by_cases e2 : c = (2, 3) :: base
          · subst e2; simp []
          simp [e0, e1, e2]
        · have ej : k = j := by omega
          subst ej
          repeat (first | refine X_opc rfl ?_ | refine X_dopc rfl ?_ | refine ⟨(by show drawK _ _ = true; kernel_rfl : drawX _ _ _), ?_⟩ | exact (by show drawK _ _ = true; kernel_rfl : drawX _ _ _) | simp -dsimp (maxSteps := 20000000) (disch := omega) only [simx, zzC, zzB, tys, ite_self, opnL, callB, callX, readsB, stepOp, nilCmp, ofVal, opBuiltin, opLen, PV.sk, scalBin, scalUn, intBin, opLoad, natOf, opConvert, opField, cellsP, oneP, Value.oneCell', opStore, toIV, scalT, scalA, scalC, boxesA, boxesC, zipB_none, zipB_mx, isZ, opZip, zeroP, opAppendZ, opMakeMap, opLookup, mboxB, opUpdate, ↓reduceIte, Nat.reduceSub, Nat.reduceEqDiff, Nat.reduceAdd, Nat.reduceMul, Nat.reduceLT, Nat.reduceLeDiff, Int.reduceToNat, Int.reduceLE, Int.reduceLT, Int.reduceNeg, reduceCtorEq, gos, Int.reduceAdd, Int.reduceSub, Int.reduceMul, Int.reduceEq])
          refine ⟨cd, (fgt_nil), ?_, ?_⟩
          · rw [show ((n : Int) - 1 - ((d + 1 : Nat) : Int)) = (k : Int) - 1 by omega]
          · rw [drop_nil, sn]
    · have ed : n = d := by omega
      subst ed
      have e1 : (n : Int) - 1 - (n : Int) = -1 := by omega
      have ev : rowsV p R (rw0, cw, cc, uu) i = (rwS p R (rw0, cw, cc, uu) i n).2 := by unfold rowsV; rw [hr]
      rw [ev]
      have tl := (rwS_len hw hi n).2
      generalize (rwS p R (rw0, cw, cc, uu) i n).2 = Y at tl ⊢
      have nt : (Y.map iu).take R = Y.map iu := List.take_of_length_le (by simp [tl])
      repeat (first | refine X_opc rfl ?_ | refine X_dopc rfl ?_ | refine ⟨(by show drawK _ _ = true; kernel_rfl : drawX _ _ _), ?_⟩ | exact (by show drawK _ _ = true; kernel_rfl : drawX _ _ _) | simp -dsimp (maxSteps := 20000000) (disch := omega) only [simx, zzC, zzB, tys, ite_self, opnL, callB, callX, readsB, stepOp, nilCmp, ofVal, opBuiltin, opLen, PV.sk, scalBin, scalUn, intBin, opLoad, natOf, opConvert, opField, cellsP, oneP, Value.oneCell', opStore, toIV, scalT, scalA, scalC, boxesA, boxesC, zipB_none, zipB_mx, isZ, opZip, zeroP, opAppendZ, opMakeMap, opLookup, mboxB, opUpdate, ↓reduceIte, Nat.reduceSub, Nat.reduceEqDiff, Nat.reduceAdd, Nat.reduceMul, Nat.reduceLT, Nat.reduceLeDiff, Int.reduceToNat, Int.reduceLE, Int.reduceLT, Int.reduceNeg, reduceCtorEq, zzR, gos, Int.reduceAdd, Int.reduceSub, Int.reduceMul, Int.reduceEq, e1, List.length_map, tl, nt])
      simp [tl]
end Go.Proofs.Ythnfphgjfpcpbaa.TM
namespace Go.Proofs.Ythnfphgjfpcpbaa.TM
open Go Go.RowKit
set_option linter.unusedVariables false
set_option linter.defProp false
set_option linter.unusedSimpArgs false
attribute [local irreducible] K W WOps Effs Xg Xo Xr Xdg Xdo Xdr Xif CallsP CallR
/-- The first number that isn't a row that counts, and is so. -/
def fstI (rws : List Int) (S : Nat → Bool) (R : Nat) : Option Nat := (List.range R).find? fun i => !decide ((i : Int) ∈ rws) && S i
theorem fstI_some {rws : List Int} {S : Nat → Bool} {R j : Nat} (hj : j < R) (h : ∀ i, i < j → (!decide ((i : Int) ∈ rws) && S i) = false) (h1 : (!decide ((j : Int) ∈ rws) && S j) = true) : fstI rws S R = some j := by
  unfold fstI
  rw [List.find?_range_eq_some]
  exact ⟨h1, List.mem_range.2 hj, fun i hi => by rw [h i hi]; rfl⟩
theorem fstI_none {rws : List Int} {S : Nat → Bool} {R : Nat} (h : ∀ i, i < R → (!decide ((i : Int) ∈ rws) && S i) = false) : fstI rws S R = none := by
  unfold fstI
  rw [List.find?_eq_none]
  intro i hi
  rw [h i (List.mem_range.1 hi)]; simp
def fstR (p : Int) (R : Nat) (c : CupT) (S : List Int → Bool) : List Int × Int := match fstI c.1 (fun i => S (rowsV p R c i)) R with
  | some i => (rowsV p R c i, 0)
  | none => ([], 6)
def fstP (p : Int) (R : Nat) (c : CupT) (S : List Int → Bool) : PV := match fstI c.1 (fun i => S (rowsV p R c i)) R with
  | some i => .tup [lu (rowsV p R c i), i64 0]
  | none => .tup [nilP, i64 6]
theorem rowsV_len {p : Int} {R C : Nat} {c : CupT} (hw : CupW p R C c) {i : Nat} (hi : i < R) : (rowsV p R c i).length = R := (rwS_len hw hi _).2
theorem rowsV_in {p : Int} {R C : Nat} {c : CupT} (hp : Md p) (hw : CupW p R C c) {i : Nat} (hi : i < R) : ∀ a ∈ rowsV p R c i, In p a := (rwS_in hp hw hi _).2
theorem rowsV_walk {p : Int} {R C : Nat} {l : List Int} {c : CupT} {vs : List Int} {i : Nat} (hp : Md p) (hw : CupW p R C c) (hR : R ≤ 64) (hi : i < R) :
    CallsP Try.prog 65 [takenP p R C l c vs, i64 i] (lu (rowsV p R c i)) := by
  rcases Nat.eq_zero_or_pos c.1.length with h | h
  · exact rows0_walk hp hw hR hi h
  · exact rows1_walk hp hw hR hi rfl h
theorem left1_walk (y : List Int) : CallsP Try.prog 64 [lu y] (bl true) := by
  refine X_startP (n := 3) (m := 1) (rs := [.tmp 2]) Try.func64 rfl rfl rfl rfl (by decide) fun base => ?_
  repeat (first | refine X_opc rfl ?_ | refine X_dopc rfl ?_ | refine ⟨(by show drawK _ _ = true; kernel_rfl : drawX _ _ _), ?_⟩ | exact (by show drawK _ _ = true; kernel_rfl : drawX _ _ _) | simp -dsimp (maxSteps := 20000000) (disch := omega) only [simx, zzC, zzB, tys, ite_self, opnL, callB, callX, readsB, stepOp, nilCmp, ofVal, opBuiltin, opLen, PV.sk, scalBin, scalUn, intBin, opLoad, natOf, opConvert, opField, cellsP, oneP, Value.oneCell', opStore, toIV, scalT, scalA, scalC, boxesA, boxesC, zipB_none, zipB_mx, isZ, opZip, zeroP, opAppendZ, opMakeMap, opLookup, mboxB, opUpdate, ↓reduceIte, Nat.reduceSub, Nat.reduceEqDiff, Nat.reduceAdd, Nat.reduceMul, Nat.reduceLT, Nat.reduceLeDiff, Int.reduceToNat, Int.reduceLE, Int.reduceLT, Int.reduceNeg, reduceCtorEq, zzR, gos, Int.reduceAdd, Int.reduceSub, Int.reduceMul, Int.reduceEq])
def dotNz (p : Int) (y b : List Int) : Bool := decide (dotI y b % p ≠ 0)
theorem dotR_mk {p : Int} {y b : List Int} (hp : Md p) (hy : ∀ a ∈ y, In p a) (hb : ∀ a ∈ b, In p a) (hl : y.length = b.length) : dotR p y b = (dotI y b % p, 0) := by
  unfold dotR
  rw [if_pos]
  rw [(has_iff p y).2 ⟨fun x hx => (hy x hx).2, hp.1, hp.2⟩, (has_iff p b).2 ⟨fun x hx => (hb x hx).2, hp.1, hp.2⟩, decide_eq_true hl]; rfl
theorem against1_walk {h : Heap} {base b1 b2 : Name} {p : Int} {y b : List Int} {n : Nat} (hp : Md p) (hy : ∀ a ∈ y, In p a) (hb : ∀ a ∈ b, In p a) (hl : y.length = n) (hl2 : b.length = n) (hn : n ≤ 64) (h1 : h b1 = some (.var [u64 p])) (h2 : h b2 = some (.var [lu b])) :
    CallR Try.prog base 62 [lu y, .ref b1 0 1, .ref b2 0 1] h (bl (dotNz p y b)) h := by
  have q := dot_walk p y b (by rw [hl, mx_len]; omega) (by rw [hl2, mx_len]; omega) (fun a ha => in_w64 hp (hy a ha)) (fun a ha => in_w64 hp (hb a ha))
  rw [dotR_mk hp hy hb (by omega)] at q
  unfold dotNz
  generalize dotI y b % p = x at q
  refine X_startR (n := 16) (m := 3) (rs := [.tmp 4]) Try.func62 rfl rfl rfl rfl (by decide) ?_
  repeat (first | ((first | refine X_call_fn2 rfl (by simp only [tys]) ?_ | refine X_dcall_fn2 rfl (by simp only [tys]) ?_); apply Exists.intro; apply And.intro; (focus (simp -dsimp only [simx, zzC, zzB, tys, ite_self, opnL, callB, callX, readsB, stepOp, nilCmp, ofVal, opBuiltin, opLen, PV.sk, scalBin, scalUn, intBin, opLoad, natOf, opConvert, opField, cellsP, oneP, Value.oneCell', opStore, toIV, scalT, scalA, scalC, boxesA, boxesC, zipB_none, zipB_mx, isZ, opZip, zeroP, opAppendZ, opMakeMap, opLookup, mboxB, opUpdate, ↓reduceIte, Nat.reduceSub, Nat.reduceEqDiff, Nat.reduceAdd, Nat.reduceMul, Nat.reduceLT, Nat.reduceLeDiff, Int.reduceToNat, Int.reduceLE, Int.reduceLT, Int.reduceNeg, reduceCtorEq, zzL, if_true, if_false] <;> rfl)); apply Exists.intro; apply And.intro; (focus (first | exact q))) | refine X_opc rfl ?_ | refine X_dopc rfl ?_ | refine ⟨(by show drawK _ _ = true; kernel_rfl : drawX _ _ _), ?_⟩ | exact (by show drawK _ _ = true; kernel_rfl : drawX _ _ _) | simp -dsimp (maxSteps := 20000000) (disch := omega) only [simx, zzC, zzB, tys, ite_self, opnL, callB, callX, readsB, stepOp, nilCmp, ofVal, opBuiltin, opLen, PV.sk, scalBin, scalUn, intBin, opLoad, natOf, opConvert, opField, cellsP, oneP, Value.oneCell', opStore, toIV, scalT, scalA, scalC, boxesA, boxesC, zipB_none, zipB_mx, isZ, opZip, zeroP, opAppendZ, opMakeMap, opLookup, mboxB, opUpdate, ↓reduceIte, Nat.reduceSub, Nat.reduceEqDiff, Nat.reduceAdd, Nat.reduceMul, Nat.reduceLT, Nat.reduceLeDiff, Int.reduceToNat, Int.reduceLE, Int.reduceLT, Int.reduceNeg, reduceCtorEq, zzR, gos, Int.reduceAdd, Int.reduceSub, Int.reduceMul, Int.reduceEq, h1, h2])
  by_cases e : x = 0
  · subst e; rfl
  · rw [decide_eq_true e]; simp [e]
set_option maxHeartbeats 2000000 in
theorem firstL_walk {base : Name} {h : Heap} {p : Int} {R C : Nat} {l : List Int} {c : CupT} {vs : List Int} (hp : Md p) (hw : CupW p R C c) (hR : R ≤ 64) (h0 : h ((0, 0) :: base) = none) :
    CallR Try.prog base 61 [takenP p R C l c vs, fnc 64] h (fstP p R c (fun _ => true)) (h.put ((0, 0) :: base) (.var [li c.1, li c.2.1, llP c.2.2.1, llP c.2.2.2, u64 p, i64 R, i64 C, lu l, lu vs])) := by
  have rle := hw.rle
  have rw1 := fun i (hi : i < R) => rowsV_walk (l := l) (vs := vs) hp hw hR hi
  have rwl := fun i (hi : i < R) => rowsV_len hw hi
  have rwi := fun i (hi : i < R) => rowsV_in hp hw hi
  unfold fstP
  generalize hV : rowsV p R c = V at rw1 rwl rwi ⊢
  obtain ⟨rw0, cw, cc, uu⟩ := c
  simp only at rle ⊢
  refine X_startR (n := 27) (m := 2) (rs := [.tmp 4, .tmp 5]) Try.func61 rfl rfl rfl rfl (by decide) ?_
  repeat (first | refine X_opc rfl ?_ | refine X_dopc rfl ?_ | refine ⟨(by show drawK _ _ = true; kernel_rfl : drawX _ _ _), ?_⟩ | exact (by show drawK _ _ = true; kernel_rfl : drawX _ _ _) | simp -dsimp (maxSteps := 20000000) (disch := omega) only [simx, zzC, zzB, tys, ite_self, opnL, callB, callX, readsB, stepOp, nilCmp, ofVal, opBuiltin, opLen, PV.sk, scalBin, scalUn, intBin, opLoad, natOf, opConvert, opField, cellsP, oneP, Value.oneCell', opStore, toIV, scalT, scalA, scalC, boxesA, boxesC, zipB_none, zipB_mx, isZ, opZip, zeroP, opAppendZ, opMakeMap, opLookup, mboxB, opUpdate, ↓reduceIte, Nat.reduceSub, Nat.reduceEqDiff, Nat.reduceAdd, Nat.reduceMul, Nat.reduceLT, Nat.reduceLeDiff, Int.reduceToNat, Int.reduceLE, Int.reduceLT, Int.reduceNeg, reduceCtorEq, gos, Int.reduceAdd, Int.reduceSub, Int.reduceMul, Int.reduceEq, h0])
  refine X_loopH [1, 2, 10, 11] [] (0) (R) (fun j => ∀ i, i < j → (!decide ((i : Int) ∈ rw0) && true) = false) (fun j => [(11, i64 j)]) (fun j => h.put ((0, 0) :: base) (.var [li rw0, li cw, llP cc, llP uu, u64 p, i64 R, i64 C, lu l, lu vs])) ?_ ?_ ?_ ?_ ?_ (by decide) ?_
  · exact (fgt_nil)
  · ((simp -dsimp (disch := omega) only [simx, zzB, tys, ite_self, opnL, callB, callX, readsB, stepOp, nilCmp, ofVal, opBuiltin, opLen, PV.sk, scalBin, scalUn, intBin, opLoad, natOf, opConvert, opField, cellsP, oneP, Value.oneCell', opStore, toIV, scalT, scalA, scalC, boxesA, boxesC, zipB_none, zipB_mx, isZ, opZip, zeroP, opAppendZ, opMakeMap, opLookup, mboxB, opUpdate, ↓reduceIte, Nat.reduceSub, Nat.reduceEqDiff, Nat.reduceAdd, Nat.reduceMul, Nat.reduceLT, Nat.reduceLeDiff, Int.reduceToNat, Int.reduceLE, Int.reduceLT, Int.reduceNeg, reduceCtorEq, gos, Int.reduceAdd, Int.reduceSub, Int.reduceMul, Int.reduceEq]) <;> first | rfl | simp)
  · exact drop_nil _
  · omega
  · intro i hi; omega
  · intro j hj hf
    by_cases cj : j < R
    · have k1 := containsI_walk rw0 (j : Int) (by rw [mx_len]; omega)
      by_cases cm : (j : Int) ∈ rw0
      · rw [decide_eq_true cm] at k1
        repeat (first | ((first | refine X_call_fn2 rfl (by simp only [tys]) ?_ | refine X_dcall_fn2 rfl (by simp only [tys]) ?_); apply Exists.intro; apply And.intro; (focus (simp -dsimp only [simx, zzC, zzB, tys, ite_self, opnL, callB, callX, readsB, stepOp, nilCmp, ofVal, opBuiltin, opLen, PV.sk, scalBin, scalUn, intBin, opLoad, natOf, opConvert, opField, cellsP, oneP, Value.oneCell', opStore, toIV, scalT, scalA, scalC, boxesA, boxesC, zipB_none, zipB_mx, isZ, opZip, zeroP, opAppendZ, opMakeMap, opLookup, mboxB, opUpdate, ↓reduceIte, Nat.reduceSub, Nat.reduceEqDiff, Nat.reduceAdd, Nat.reduceMul, Nat.reduceLT, Nat.reduceLeDiff, Int.reduceToNat, Int.reduceLE, Int.reduceLT, Int.reduceNeg, reduceCtorEq, zzL, if_true, if_false] <;> rfl)); apply Exists.intro; apply And.intro; (focus (first | exact k1))) | refine X_opc rfl ?_ | refine X_dopc rfl ?_ | refine ⟨(by show drawK _ _ = true; kernel_rfl : drawX _ _ _), ?_⟩ | exact (by show drawK _ _ = true; kernel_rfl : drawX _ _ _) | simp -dsimp (maxSteps := 20000000) (disch := omega) only [simx, zzC, zzB, tys, ite_self, opnL, callB, callX, readsB, stepOp, nilCmp, ofVal, opBuiltin, opLen, PV.sk, scalBin, scalUn, intBin, opLoad, natOf, opConvert, opField, cellsP, oneP, Value.oneCell', opStore, toIV, scalT, scalA, scalC, boxesA, boxesC, zipB_none, zipB_mx, isZ, opZip, zeroP, opAppendZ, opMakeMap, opLookup, mboxB, opUpdate, ↓reduceIte, Nat.reduceSub, Nat.reduceEqDiff, Nat.reduceAdd, Nat.reduceMul, Nat.reduceLT, Nat.reduceLeDiff, Int.reduceToNat, Int.reduceLE, Int.reduceLT, Int.reduceNeg, reduceCtorEq, gos, Int.reduceAdd, Int.reduceSub, Int.reduceMul, Int.reduceEq, cj])
        refine ⟨cj, (fgt_nil), ?_, rfl, drop_nil _⟩
        intro i hi
        by_cases e : i = j
        · subst e; rw [decide_eq_true cm]; rfl
        · have := hf i (by omega); simpa using this
      · rw [decide_eq_false cm] at k1
        have k2 := rw1 j cj
        have k3 := left1_walk (V j)
        have e : fstI rw0 (fun i => true) R = some j := fstI_some cj hf (by rw [decide_eq_false cm]; rfl)
        rw [e]
        repeat (first | ((first | refine X_call_fn2 rfl (by simp only [tys]) ?_ | refine X_dcall_fn2 rfl (by simp only [tys]) ?_); apply Exists.intro; apply And.intro; (focus (simp -dsimp only [simx, zzC, zzB, tys, ite_self, opnL, callB, callX, readsB, stepOp, nilCmp, ofVal, opBuiltin, opLen, PV.sk, scalBin, scalUn, intBin, opLoad, natOf, opConvert, opField, cellsP, oneP, Value.oneCell', opStore, toIV, scalT, scalA, scalC, boxesA, boxesC, zipB_none, zipB_mx, isZ, opZip, zeroP, opAppendZ, opMakeMap, opLookup, mboxB, opUpdate, ↓reduceIte, Nat.reduceSub, Nat.reduceEqDiff, Nat.reduceAdd, Nat.reduceMul, Nat.reduceLT, Nat.reduceLeDiff, Int.reduceToNat, Int.reduceLE, Int.reduceLT, Int.reduceNeg, reduceCtorEq, zzL, if_true, if_false] <;> rfl)); apply Exists.intro; apply And.intro; (focus (first | exact k1 | exact k2 | exact k3))) | (refine X_call_val2 rfl ?_; apply Exists.intro; apply And.intro; (focus (simp -dsimp only [simx, zzC, zzB, tys, ite_self, opnL, callB, callX, readsB, stepOp, nilCmp, ofVal, opBuiltin, opLen, PV.sk, scalBin, scalUn, intBin, opLoad, natOf, opConvert, opField, cellsP, oneP, Value.oneCell', opStore, toIV, scalT, scalA, scalC, boxesA, boxesC, zipB_none, zipB_mx, isZ, opZip, zeroP, opAppendZ, opMakeMap, opLookup, mboxB, opUpdate, ↓reduceIte, Nat.reduceSub, Nat.reduceEqDiff, Nat.reduceAdd, Nat.reduceMul, Nat.reduceLT, Nat.reduceLeDiff, Int.reduceToNat, Int.reduceLE, Int.reduceLT, Int.reduceNeg, reduceCtorEq, zzL, if_true, if_false] <;> rfl)); apply And.intro; (focus (first | simp only [tys] | exact such_enter _)); apply Exists.intro; apply And.intro; (focus (simp -dsimp only [simx, zzC, zzB, tys, ite_self, opnL, callB, callX, readsB, stepOp, nilCmp, ofVal, opBuiltin, opLen, PV.sk, scalBin, scalUn, intBin, opLoad, natOf, opConvert, opField, cellsP, oneP, Value.oneCell', opStore, toIV, scalT, scalA, scalC, boxesA, boxesC, zipB_none, zipB_mx, isZ, opZip, zeroP, opAppendZ, opMakeMap, opLookup, mboxB, opUpdate, ↓reduceIte, Nat.reduceSub, Nat.reduceEqDiff, Nat.reduceAdd, Nat.reduceMul, Nat.reduceLT, Nat.reduceLeDiff, Int.reduceToNat, Int.reduceLE, Int.reduceLT, Int.reduceNeg, reduceCtorEq, zzL, if_true, if_false] <;> rfl)); apply Exists.intro; apply And.intro; (focus (first | exact k1 | exact k2 | exact k3))) | refine X_opc rfl ?_ | refine X_dopc rfl ?_ | refine ⟨(by show drawK _ _ = true; kernel_rfl : drawX _ _ _), ?_⟩ | exact (by show drawK _ _ = true; kernel_rfl : drawX _ _ _) | simp -dsimp (maxSteps := 20000000) (disch := omega) only [simx, zzC, zzB, tys, ite_self, opnL, callB, callX, readsB, stepOp, nilCmp, ofVal, opBuiltin, opLen, PV.sk, scalBin, scalUn, intBin, opLoad, natOf, opConvert, opField, cellsP, oneP, Value.oneCell', opStore, toIV, scalT, scalA, scalC, boxesA, boxesC, zipB_none, zipB_mx, isZ, opZip, zeroP, opAppendZ, opMakeMap, opLookup, mboxB, opUpdate, ↓reduceIte, Nat.reduceSub, Nat.reduceEqDiff, Nat.reduceAdd, Nat.reduceMul, Nat.reduceLT, Nat.reduceLeDiff, Int.reduceToNat, Int.reduceLE, Int.reduceLT, Int.reduceNeg, reduceCtorEq, zzR, gos, Int.reduceAdd, Int.reduceSub, Int.reduceMul, Int.reduceEq, cj])
    · have ej : R = j := by omega
      subst ej
      have e : fstI rw0 (fun i => true) R = none := fstI_none hf
      rw [e]
      repeat (first | refine X_opc rfl ?_ | refine X_dopc rfl ?_ | refine ⟨(by show drawK _ _ = true; kernel_rfl : drawX _ _ _), ?_⟩ | exact (by show drawK _ _ = true; kernel_rfl : drawX _ _ _) | simp -dsimp (maxSteps := 20000000) (disch := omega) only [simx, zzC, zzB, tys, ite_self, opnL, callB, callX, readsB, stepOp, nilCmp, ofVal, opBuiltin, opLen, PV.sk, scalBin, scalUn, intBin, opLoad, natOf, opConvert, opField, cellsP, oneP, Value.oneCell', opStore, toIV, scalT, scalA, scalC, boxesA, boxesC, zipB_none, zipB_mx, isZ, opZip, zeroP, opAppendZ, opMakeMap, opLookup, mboxB, opUpdate, ↓reduceIte, Nat.reduceSub, Nat.reduceEqDiff, Nat.reduceAdd, Nat.reduceMul, Nat.reduceLT, Nat.reduceLeDiff, Int.reduceToNat, Int.reduceLE, Int.reduceLT, Int.reduceNeg, reduceCtorEq, zzR, gos, Int.reduceAdd, Int.reduceSub, Int.reduceMul, Int.reduceEq])
set_option maxHeartbeats 2000000 in
theorem firstA_walk {base b1 b2 : Name} {h : Heap} {p : Int} {R C : Nat} {l : List Int} {c : CupT} {vs b : List Int} (hp : Md p) (hw : CupW p R C c) (hR : R ≤ 64) (h0 : h ((0, 0) :: base) = none) (hb : ∀ a ∈ b, In p a) (hbl : b.length = R) (h1 : h b1 = some (.var [u64 p])) (h2 : h b2 = some (.var [lu b])) (n1 : b1 ≠ (0, 0) :: base) (n2 : b2 ≠ (0, 0) :: base) :
    CallR Try.prog base 61 [takenP p R C l c vs, .clo 62 [.ref b1 0 1, .ref b2 0 1]] h (fstP p R c (fun y => dotNz p y b)) (h.put ((0, 0) :: base) (.var [li c.1, li c.2.1, llP c.2.2.1, llP c.2.2.2, u64 p, i64 R, i64 C, lu l, lu vs])) := by
  have rle := hw.rle
  have rw1 := fun i (hi : i < R) => rowsV_walk (l := l) (vs := vs) hp hw hR hi
  have rwl := fun i (hi : i < R) => rowsV_len hw hi
  have rwi := fun i (hi : i < R) => rowsV_in hp hw hi
  unfold fstP
  generalize hV : rowsV p R c = V at rw1 rwl rwi ⊢
  obtain ⟨rw0, cw, cc, uu⟩ := c
  simp only at rle ⊢
  refine X_startR (n := 27) (m := 2) (rs := [.tmp 4, .tmp 5]) Try.func61 rfl rfl rfl rfl (by decide) ?_
  repeat (first | refine X_opc rfl ?_ | refine X_dopc rfl ?_ | refine ⟨(by show drawK _ _ = true; kernel_rfl : drawX _ _ _), ?_⟩ | exact (by show drawK _ _ = true; kernel_rfl : drawX _ _ _) | simp -dsimp (maxSteps := 20000000) (disch := omega) only [simx, zzC, zzB, tys, ite_self, opnL, callB, callX, readsB, stepOp, nilCmp, ofVal, opBuiltin, opLen, PV.sk, scalBin, scalUn, intBin, opLoad, natOf, opConvert, opField, cellsP, oneP, Value.oneCell', opStore, toIV, scalT, scalA, scalC, boxesA, boxesC, zipB_none, zipB_mx, isZ, opZip, zeroP, opAppendZ, opMakeMap, opLookup, mboxB, opUpdate, ↓reduceIte, Nat.reduceSub, Nat.reduceEqDiff, Nat.reduceAdd, Nat.reduceMul, Nat.reduceLT, Nat.reduceLeDiff, Int.reduceToNat, Int.reduceLE, Int.reduceLT, Int.reduceNeg, reduceCtorEq, gos, Int.reduceAdd, Int.reduceSub, Int.reduceMul, Int.reduceEq, h0])
  refine X_loopH [1, 2, 10, 11] [] (0) (R) (fun j => ∀ i, i < j → (!decide ((i : Int) ∈ rw0) && dotNz p (V i) b) = false) (fun j => [(11, i64 j)]) (fun j => h.put ((0, 0) :: base) (.var [li rw0, li cw, llP cc, llP uu, u64 p, i64 R, i64 C, lu l, lu vs])) ?_ ?_ ?_ ?_ ?_ (by decide) ?_
  · exact (fgt_nil)
  · ((simp -dsimp (disch := omega) only [simx, zzB, tys, ite_self, opnL, callB, callX, readsB, stepOp, nilCmp, ofVal, opBuiltin, opLen, PV.sk, scalBin, scalUn, intBin, opLoad, natOf, opConvert, opField, cellsP, oneP, Value.oneCell', opStore, toIV, scalT, scalA, scalC, boxesA, boxesC, zipB_none, zipB_mx, isZ, opZip, zeroP, opAppendZ, opMakeMap, opLookup, mboxB, opUpdate, ↓reduceIte, Nat.reduceSub, Nat.reduceEqDiff, Nat.reduceAdd, Nat.reduceMul, Nat.reduceLT, Nat.reduceLeDiff, Int.reduceToNat, Int.reduceLE, Int.reduceLT, Int.reduceNeg, reduceCtorEq, gos, Int.reduceAdd, Int.reduceSub, Int.reduceMul, Int.reduceEq]) <;> first | rfl | simp)
  · exact drop_nil _
  · omega
  · intro i hi; omega
  · intro j hj hf
    by_cases cj : j < R
    · have k1 := containsI_walk rw0 (j : Int) (by rw [mx_len]; omega)
      by_cases cm : (j : Int) ∈ rw0
      · rw [decide_eq_true cm] at k1
        repeat (first | ((first | refine X_call_fn2 rfl (by simp only [tys]) ?_ | refine X_dcall_fn2 rfl (by simp only [tys]) ?_); apply Exists.intro; apply And.intro; (focus (simp -dsimp only [simx, zzC, zzB, tys, ite_self, opnL, callB, callX, readsB, stepOp, nilCmp, ofVal, opBuiltin, opLen, PV.sk, scalBin, scalUn, intBin, opLoad, natOf, opConvert, opField, cellsP, oneP, Value.oneCell', opStore, toIV, scalT, scalA, scalC, boxesA, boxesC, zipB_none, zipB_mx, isZ, opZip, zeroP, opAppendZ, opMakeMap, opLookup, mboxB, opUpdate, ↓reduceIte, Nat.reduceSub, Nat.reduceEqDiff, Nat.reduceAdd, Nat.reduceMul, Nat.reduceLT, Nat.reduceLeDiff, Int.reduceToNat, Int.reduceLE, Int.reduceLT, Int.reduceNeg, reduceCtorEq, zzL, if_true, if_false] <;> rfl)); apply Exists.intro; apply And.intro; (focus (first | exact k1))) | refine X_opc rfl ?_ | refine X_dopc rfl ?_ | refine ⟨(by show drawK _ _ = true; kernel_rfl : drawX _ _ _), ?_⟩ | exact (by show drawK _ _ = true; kernel_rfl : drawX _ _ _) | simp -dsimp (maxSteps := 20000000) (disch := omega) only [simx, zzC, zzB, tys, ite_self, opnL, callB, callX, readsB, stepOp, nilCmp, ofVal, opBuiltin, opLen, PV.sk, scalBin, scalUn, intBin, opLoad, natOf, opConvert, opField, cellsP, oneP, Value.oneCell', opStore, toIV, scalT, scalA, scalC, boxesA, boxesC, zipB_none, zipB_mx, isZ, opZip, zeroP, opAppendZ, opMakeMap, opLookup, mboxB, opUpdate, ↓reduceIte, Nat.reduceSub, Nat.reduceEqDiff, Nat.reduceAdd, Nat.reduceMul, Nat.reduceLT, Nat.reduceLeDiff, Int.reduceToNat, Int.reduceLE, Int.reduceLT, Int.reduceNeg, reduceCtorEq, gos, Int.reduceAdd, Int.reduceSub, Int.reduceMul, Int.reduceEq, cj])
        refine ⟨cj, (fgt_nil), ?_, rfl, drop_nil _⟩
        intro i hi
        by_cases e : i = j
        · subst e; rw [decide_eq_true cm]; rfl
        · have := hf i (by omega); simpa using this
      · rw [decide_eq_false cm] at k1
        have k2 := rw1 j cj
        have g1 : (h.put ((0, 0) :: base) (.var [li rw0, li cw, llP cc, llP uu, u64 p, i64 R, i64 C, lu l, lu vs])) b1 = some (.var [u64 p]) := by rw [Heap.put_ne _ _ n1]; exact h1
        have g2 : (h.put ((0, 0) :: base) (.var [li rw0, li cw, llP cc, llP uu, u64 p, i64 R, i64 C, lu l, lu vs])) b2 = some (.var [lu b]) := by rw [Heap.put_ne _ _ n2]; exact h2
        have k3 := fun b0 => against1_walk (base := b0) hp (rwi j cj) hb (rwl j cj) hbl hR g1 g2
        repeat (first | ((first | refine X_call_fn2 rfl (by simp only [tys]) ?_ | refine X_dcall_fn2 rfl (by simp only [tys]) ?_); apply Exists.intro; apply And.intro; (focus (simp -dsimp only [simx, zzC, zzB, tys, ite_self, opnL, callB, callX, readsB, stepOp, nilCmp, ofVal, opBuiltin, opLen, PV.sk, scalBin, scalUn, intBin, opLoad, natOf, opConvert, opField, cellsP, oneP, Value.oneCell', opStore, toIV, scalT, scalA, scalC, boxesA, boxesC, zipB_none, zipB_mx, isZ, opZip, zeroP, opAppendZ, opMakeMap, opLookup, mboxB, opUpdate, ↓reduceIte, Nat.reduceSub, Nat.reduceEqDiff, Nat.reduceAdd, Nat.reduceMul, Nat.reduceLT, Nat.reduceLeDiff, Int.reduceToNat, Int.reduceLE, Int.reduceLT, Int.reduceNeg, reduceCtorEq, zzL, if_true, if_false] <;> rfl)); apply Exists.intro; apply And.intro; (focus (first | exact k1 | exact k2))) | refine X_opc rfl ?_ | refine X_dopc rfl ?_ | refine ⟨(by show drawK _ _ = true; kernel_rfl : drawX _ _ _), ?_⟩ | exact (by show drawK _ _ = true; kernel_rfl : drawX _ _ _) | simp -dsimp (maxSteps := 20000000) (disch := omega) only [simx, zzC, zzB, tys, ite_self, opnL, callB, callX, readsB, stepOp, nilCmp, ofVal, opBuiltin, opLen, PV.sk, scalBin, scalUn, intBin, opLoad, natOf, opConvert, opField, cellsP, oneP, Value.oneCell', opStore, toIV, scalT, scalA, scalC, boxesA, boxesC, zipB_none, zipB_mx, isZ, opZip, zeroP, opAppendZ, opMakeMap, opLookup, mboxB, opUpdate, ↓reduceIte, Nat.reduceSub, Nat.reduceEqDiff, Nat.reduceAdd, Nat.reduceMul, Nat.reduceLT, Nat.reduceLeDiff, Int.reduceToNat, Int.reduceLE, Int.reduceLT, Int.reduceNeg, reduceCtorEq, gos, Int.reduceAdd, Int.reduceSub, Int.reduceMul, Int.reduceEq, cj])
        refine X_call_shared (k3 _) rfl (by simp -dsimp only [calleeOf, simx, zzB, tys, ite_self, opnL, callB, callX, readsB, stepOp, nilCmp, ofVal, opBuiltin, opLen, PV.sk, scalBin, scalUn, intBin, opLoad, natOf, opConvert, opField, cellsP, oneP, Value.oneCell', opStore, toIV, scalT, scalA, scalC, boxesA, boxesC, zipB_none, zipB_mx, isZ, opZip, zeroP, opAppendZ, opMakeMap, opLookup, mboxB, opUpdate, ↓reduceIte, Nat.reduceSub, Nat.reduceEqDiff, Nat.reduceAdd, Nat.reduceMul, Nat.reduceLT, Nat.reduceLeDiff, Int.reduceToNat, Int.reduceLE, Int.reduceLT, Int.reduceNeg, reduceCtorEq, gos, Int.reduceAdd, Int.reduceSub, Int.reduceMul, Int.reduceEq]) (by simp only [tys]) ?_
        cases cd : dotNz p (V j) b with
        | true =>
          have e : fstI rw0 (fun i => dotNz p (V i) b) R = some j := fstI_some cj hf (by rw [decide_eq_false cm, cd]; rfl)
          rw [e]
          repeat (first | refine X_opc rfl ?_ | refine X_dopc rfl ?_ | refine ⟨(by show drawK _ _ = true; kernel_rfl : drawX _ _ _), ?_⟩ | exact (by show drawK _ _ = true; kernel_rfl : drawX _ _ _) | simp -dsimp (maxSteps := 20000000) (disch := omega) only [simx, zzC, zzB, tys, ite_self, opnL, callB, callX, readsB, stepOp, nilCmp, ofVal, opBuiltin, opLen, PV.sk, scalBin, scalUn, intBin, opLoad, natOf, opConvert, opField, cellsP, oneP, Value.oneCell', opStore, toIV, scalT, scalA, scalC, boxesA, boxesC, zipB_none, zipB_mx, isZ, opZip, zeroP, opAppendZ, opMakeMap, opLookup, mboxB, opUpdate, ↓reduceIte, Nat.reduceSub, Nat.reduceEqDiff, Nat.reduceAdd, Nat.reduceMul, Nat.reduceLT, Nat.reduceLeDiff, Int.reduceToNat, Int.reduceLE, Int.reduceLT, Int.reduceNeg, reduceCtorEq, zzR, gos, Int.reduceAdd, Int.reduceSub, Int.reduceMul, Int.reduceEq])
        | false =>
          repeat (first | refine X_opc rfl ?_ | refine X_dopc rfl ?_ | refine ⟨(by show drawK _ _ = true; kernel_rfl : drawX _ _ _), ?_⟩ | exact (by show drawK _ _ = true; kernel_rfl : drawX _ _ _) | simp -dsimp (maxSteps := 20000000) (disch := omega) only [simx, zzC, zzB, tys, ite_self, opnL, callB, callX, readsB, stepOp, nilCmp, ofVal, opBuiltin, opLen, PV.sk, scalBin, scalUn, intBin, opLoad, natOf, opConvert, opField, cellsP, oneP, Value.oneCell', opStore, toIV, scalT, scalA, scalC, boxesA, boxesC, zipB_none, zipB_mx, isZ, opZip, zeroP, opAppendZ, opMakeMap, opLookup, mboxB, opUpdate, ↓reduceIte, Nat.reduceSub, Nat.reduceEqDiff, Nat.reduceAdd, Nat.reduceMul, Nat.reduceLT, Nat.reduceLeDiff, Int.reduceToNat, Int.reduceLE, Int.reduceLT, Int.reduceNeg, reduceCtorEq, gos, Int.reduceAdd, Int.reduceSub, Int.reduceMul, Int.reduceEq])
          refine ⟨cj, (fgt_nil), ?_, rfl, drop_nil _⟩
          intro i hi
          by_cases e : i = j
          · subst e; rw [cd]; simp
          · exact hf i (by omega)
    · have ej : R = j := by omega
      subst ej
      have e : fstI rw0 (fun i => dotNz p (V i) b) R = none := fstI_none hf
      rw [e]
      repeat (first | refine X_opc rfl ?_ | refine X_dopc rfl ?_ | refine ⟨(by show drawK _ _ = true; kernel_rfl : drawX _ _ _), ?_⟩ | exact (by show drawK _ _ = true; kernel_rfl : drawX _ _ _) | simp -dsimp (maxSteps := 20000000) (disch := omega) only [simx, zzC, zzB, tys, ite_self, opnL, callB, callX, readsB, stepOp, nilCmp, ofVal, opBuiltin, opLen, PV.sk, scalBin, scalUn, intBin, opLoad, natOf, opConvert, opField, cellsP, oneP, Value.oneCell', opStore, toIV, scalT, scalA, scalC, boxesA, boxesC, zipB_none, zipB_mx, isZ, opZip, zeroP, opAppendZ, opMakeMap, opLookup, mboxB, opUpdate, ↓reduceIte, Nat.reduceSub, Nat.reduceEqDiff, Nat.reduceAdd, Nat.reduceMul, Nat.reduceLT, Nat.reduceLeDiff, Int.reduceToNat, Int.reduceLE, Int.reduceLT, Int.reduceNeg, reduceCtorEq, zzR, gos, Int.reduceAdd, Int.reduceSub, Int.reduceMul, Int.reduceEq])
end Go.Proofs.Ythnfphgjfpcpbaa.TM
namespace Go.Proofs.Ythnfphgjfpcpbaa.TM
open Go Go.RowKit
set_option linter.unusedVariables false
set_option linter.defProp false
set_option linter.unusedSimpArgs false
attribute [local irreducible] K W WOps Effs Xg Xo Xr Xdg Xdo Xdr Xif CallsP CallR
theorem row_walk {r c i : Nat} {l : List Int} (hl : l.length = r * c) (hr : r ≤ 64) (hc : c ≤ 64) (hi : i < r) : CallsP Try.prog 80 [matP r c l, i64 i] (lu (rowM c l i)) := by
  have b1 := ic_bd (c := c) hi
  have b2 := rc_bd hr hc
  have rl := rowM_len hl hi
  have m0 : i * c ≤ 4096 := by omega
  have m1 : (i + 1) * c = i * c + c := Nat.succ_mul i c
  have e1 : IntKind.i64.wrap ((i : Int) * (c : Int)) = ((i * c : Nat) : Int) := by rw [← Int.natCast_mul]; exact iw_of (by omega) (by omega)
  have e2 : IntKind.i64.wrap (((i : Int) + 1) * (c : Int)) = ((i * c + c : Nat) : Int) := by
    rw [show ((i : Int) + 1) * (c : Int) = ((i * c + c : Nat) : Int) by rw [← m1]; push_cast; rfl]; exact iw_of (by omega) (by omega)
  have e3 : i * c + c - i * c = c := by omega
  have e4 : ((l.map iu).drop (i * c)).take c = (rowM c l i).map iu := by unfold rowM; rw [List.map_take, List.map_drop]
  have e5 : i * c ≤ i * c + c := by omega
  have e6 : i * c + c ≤ l.length := by omega
  refine X_startP (n := 17) (m := 2) (rs := [.tmp 4]) Try.func80 rfl rfl rfl rfl (by decide) fun base => ?_
  repeat (first | refine X_opc rfl ?_ | refine X_dopc rfl ?_ | refine ⟨(by show drawK _ _ = true; kernel_rfl : drawX _ _ _), ?_⟩ | exact (by show drawK _ _ = true; kernel_rfl : drawX _ _ _) | simp -dsimp (maxSteps := 20000000) (disch := omega) only [simx, zzC, zzB, tys, ite_self, opnL, callB, callX, readsB, stepOp, nilCmp, ofVal, opBuiltin, opLen, PV.sk, scalBin, scalUn, intBin, opLoad, natOf, opConvert, opField, cellsP, oneP, Value.oneCell', opStore, toIV, scalT, scalA, scalC, boxesA, boxesC, zipB_none, zipB_mx, isZ, opZip, zeroP, opAppendZ, opMakeMap, opLookup, mboxB, opUpdate, ↓reduceIte, Nat.reduceSub, Nat.reduceEqDiff, Nat.reduceAdd, Nat.reduceMul, Nat.reduceLT, Nat.reduceLeDiff, Int.reduceToNat, Int.reduceLE, Int.reduceLT, Int.reduceNeg, reduceCtorEq, zzR, gos, Int.reduceAdd, Int.reduceSub, Int.reduceMul, Int.reduceEq, e1, e2, e3, e4, e5, e6, List.length_map, lu, rl])
def timesR (p r c : Int) (l x : List Int) : List Int × Int := if MatB p r c l && (HasB p x && decide ((x.length : Int) = c)) then (timesM p r.toNat c.toNat l x, 0) else ([], 1)
set_option maxHeartbeats 4000000 in
theorem times_walk (p r c : Int) (l x : List Int) (hl : l.length ≤ maxLen) (hx : x.length ≤ maxLen) (wl : W64s l) (wx : W64s x) : CallsP Try.prog 31 [u64 p, matP r c l, lu x] (.tup [lu (timesR p r c l x).1, i64 (timesR p r c l x).2]) := by
  have q1 := mright_walk p r c l hl
  have q2 := has_walk p x hx
  unfold timesR
  cases h1 : MatB p r c l with
  | false =>
    rw [h1] at q1
    refine X_startP (n := 49) (m := 3) (rs := [.tmp 6, .tmp 7]) Try.func31 rfl rfl rfl rfl (by decide) fun base => ?_
    repeat (first | ((first | refine X_call_fn2 rfl (by simp only [tys]) ?_ | refine X_dcall_fn2 rfl (by simp only [tys]) ?_); apply Exists.intro; apply And.intro; (focus (simp -dsimp only [simx, zzC, zzB, tys, ite_self, opnL, callB, callX, readsB, stepOp, nilCmp, ofVal, opBuiltin, opLen, PV.sk, scalBin, scalUn, intBin, opLoad, natOf, opConvert, opField, cellsP, oneP, Value.oneCell', opStore, toIV, scalT, scalA, scalC, boxesA, boxesC, zipB_none, zipB_mx, isZ, opZip, zeroP, opAppendZ, opMakeMap, opLookup, mboxB, opUpdate, ↓reduceIte, Nat.reduceSub, Nat.reduceEqDiff, Nat.reduceAdd, Nat.reduceMul, Nat.reduceLT, Nat.reduceLeDiff, Int.reduceToNat, Int.reduceLE, Int.reduceLT, Int.reduceNeg, reduceCtorEq, zzL, if_true, if_false] <;> rfl)); apply Exists.intro; apply And.intro; (focus (first | exact q1))) | refine X_opc rfl ?_ | refine X_dopc rfl ?_ | refine ⟨(by show drawK _ _ = true; kernel_rfl : drawX _ _ _), ?_⟩ | exact (by show drawK _ _ = true; kernel_rfl : drawX _ _ _) | simp -dsimp (maxSteps := 20000000) (disch := omega) only [simx, zzC, zzB, tys, ite_self, opnL, callB, callX, readsB, stepOp, nilCmp, ofVal, opBuiltin, opLen, PV.sk, scalBin, scalUn, intBin, opLoad, natOf, opConvert, opField, cellsP, oneP, Value.oneCell', opStore, toIV, scalT, scalA, scalC, boxesA, boxesC, zipB_none, zipB_mx, isZ, opZip, zeroP, opAppendZ, opMakeMap, opLookup, mboxB, opUpdate, ↓reduceIte, Nat.reduceSub, Nat.reduceEqDiff, Nat.reduceAdd, Nat.reduceMul, Nat.reduceLT, Nat.reduceLeDiff, Int.reduceToNat, Int.reduceLE, Int.reduceLT, Int.reduceNeg, reduceCtorEq, zzR, gos, Int.reduceAdd, Int.reduceSub, Int.reduceMul, Int.reduceEq])
    rfl
  | true =>
    rw [h1] at q1
    cases h2 : HasB p x with
    | false =>
      rw [h2] at q2
      refine X_startP (n := 49) (m := 3) (rs := [.tmp 6, .tmp 7]) Try.func31 rfl rfl rfl rfl (by decide) fun base => ?_
      repeat (first | ((first | refine X_call_fn2 rfl (by simp only [tys]) ?_ | refine X_dcall_fn2 rfl (by simp only [tys]) ?_); apply Exists.intro; apply And.intro; (focus (simp -dsimp only [simx, zzC, zzB, tys, ite_self, opnL, callB, callX, readsB, stepOp, nilCmp, ofVal, opBuiltin, opLen, PV.sk, scalBin, scalUn, intBin, opLoad, natOf, opConvert, opField, cellsP, oneP, Value.oneCell', opStore, toIV, scalT, scalA, scalC, boxesA, boxesC, zipB_none, zipB_mx, isZ, opZip, zeroP, opAppendZ, opMakeMap, opLookup, mboxB, opUpdate, ↓reduceIte, Nat.reduceSub, Nat.reduceEqDiff, Nat.reduceAdd, Nat.reduceMul, Nat.reduceLT, Nat.reduceLeDiff, Int.reduceToNat, Int.reduceLE, Int.reduceLT, Int.reduceNeg, reduceCtorEq, zzL, if_true, if_false] <;> rfl)); apply Exists.intro; apply And.intro; (focus (first | exact q1 | exact q2))) | refine X_opc rfl ?_ | refine X_dopc rfl ?_ | refine ⟨(by show drawK _ _ = true; kernel_rfl : drawX _ _ _), ?_⟩ | exact (by show drawK _ _ = true; kernel_rfl : drawX _ _ _) | simp -dsimp (maxSteps := 20000000) (disch := omega) only [simx, zzC, zzB, tys, ite_self, opnL, callB, callX, readsB, stepOp, nilCmp, ofVal, opBuiltin, opLen, PV.sk, scalBin, scalUn, intBin, opLoad, natOf, opConvert, opField, cellsP, oneP, Value.oneCell', opStore, toIV, scalT, scalA, scalC, boxesA, boxesC, zipB_none, zipB_mx, isZ, opZip, zeroP, opAppendZ, opMakeMap, opLookup, mboxB, opUpdate, ↓reduceIte, Nat.reduceSub, Nat.reduceEqDiff, Nat.reduceAdd, Nat.reduceMul, Nat.reduceLT, Nat.reduceLeDiff, Int.reduceToNat, Int.reduceLE, Int.reduceLT, Int.reduceNeg, reduceCtorEq, zzR, gos, Int.reduceAdd, Int.reduceSub, Int.reduceMul, Int.reduceEq])
      rfl
    | true =>
      rw [h2] at q2
      by_cases h3 : (x.length : Int) = c
      · rw [decide_eq_true h3]
        obtain ⟨R, C, rfl, rfl, M⟩ := mat_of h1
        have h3' : x.length = C := by omega
        simp only [Bool.and_self, if_true, Int.toNat_natCast]
        have r1 := M.r1
        have r2 := M.r2
        have p1 := M.hp.1
        unfold timesM
        refine X_startP (n := 49) (m := 3) (rs := [.tmp 6, .tmp 7]) Try.func31 rfl rfl rfl rfl (by decide) fun base => ?_
        repeat (first | ((first | refine X_call_fn2 rfl (by simp only [tys]) ?_ | refine X_dcall_fn2 rfl (by simp only [tys]) ?_); apply Exists.intro; apply And.intro; (focus (simp -dsimp only [simx, zzC, zzB, tys, ite_self, opnL, callB, callX, readsB, stepOp, nilCmp, ofVal, opBuiltin, opLen, PV.sk, scalBin, scalUn, intBin, opLoad, natOf, opConvert, opField, cellsP, oneP, Value.oneCell', opStore, toIV, scalT, scalA, scalC, boxesA, boxesC, zipB_none, zipB_mx, isZ, opZip, zeroP, opAppendZ, opMakeMap, opLookup, mboxB, opUpdate, ↓reduceIte, Nat.reduceSub, Nat.reduceEqDiff, Nat.reduceAdd, Nat.reduceMul, Nat.reduceLT, Nat.reduceLeDiff, Int.reduceToNat, Int.reduceLE, Int.reduceLT, Int.reduceNeg, reduceCtorEq, zzL, if_true, if_false] <;> rfl)); apply Exists.intro; apply And.intro; (focus (first | exact q1 | exact q2))) | refine X_opc rfl ?_ | refine X_dopc rfl ?_ | refine ⟨(by show drawK _ _ = true; kernel_rfl : drawX _ _ _), ?_⟩ | exact (by show drawK _ _ = true; kernel_rfl : drawX _ _ _) | simp -dsimp (maxSteps := 20000000) (disch := omega) only [simx, zzC, zzB, tys, ite_self, opnL, callB, callX, readsB, stepOp, nilCmp, ofVal, opBuiltin, opLen, PV.sk, scalBin, scalUn, intBin, opLoad, natOf, opConvert, opField, cellsP, oneP, Value.oneCell', opStore, toIV, scalT, scalA, scalC, boxesA, boxesC, zipB_none, zipB_mx, isZ, opZip, zeroP, opAppendZ, opMakeMap, opLookup, mboxB, opUpdate, ↓reduceIte, Nat.reduceSub, Nat.reduceEqDiff, Nat.reduceAdd, Nat.reduceMul, Nat.reduceLT, Nat.reduceLeDiff, Int.reduceToNat, Int.reduceLE, Int.reduceLT, Int.reduceNeg, reduceCtorEq, gos, Int.reduceAdd, Int.reduceSub, Int.reduceMul, Int.reduceEq])
        refine X_loopH [0, 2, 4, 8, 30, 31] [(8, 2) :: base] (0) (R) (fun j => True) (fun j => [(8, rowP ((8, 3) :: base) 1 j (((List.range j).map (fun i => dotI (rowM C l i) x % p)).map iu)), (31, i64 j)]) (fun j => rowH (Heap.none.put ((0, 0) :: base) (.var [i64 R, i64 C, lu l])) ((8, 3) :: base) j (((List.range j).map (fun i => dotI (rowM C l i) x % p)).map iu)) ?_ ?_ ?_ ?_ ?_ (by decide) ?_
        · exact (fgt_cons (by simp only [Heap.none_at]) (by (simp -dsimp only [zzB, tys, ite_self, opnL, callB, callX, readsB, stepOp, nilCmp, ofVal, opBuiltin, opLen, PV.sk, scalBin, scalUn, intBin, opLoad, natOf, opConvert, opField, cellsP, oneP, Value.oneCell', opStore, toIV, scalT, scalA, scalC, boxesA, boxesC, zipB_none, zipB_mx, isZ, opZip, zeroP, opAppendZ, opMakeMap, opLookup, mboxB, opUpdate, ↓reduceIte, Nat.reduceSub, Nat.reduceEqDiff, Nat.reduceAdd, Nat.reduceMul, Nat.reduceLT, Nat.reduceLeDiff, Int.reduceToNat, Int.reduceLE, Int.reduceLT, Int.reduceNeg, reduceCtorEq, notIn_cons, notIn_nil]) <;> simp [refsL, refsP, mem_refs_rowP]) (by repeat (first | exact noVar_none _ | refine noVar_row ?_ | refine noVar_map ?_ | refine noVar_rowH ?_ | refine noVar_var ?_ (by simp [refsL, refsP, mem_refs_rowP]))) (fgt_nil))
        · ((simp -dsimp (disch := omega) only [simx, zzB, tys, ite_self, opnL, callB, callX, readsB, stepOp, nilCmp, ofVal, opBuiltin, opLen, PV.sk, scalBin, scalUn, intBin, opLoad, natOf, opConvert, opField, cellsP, oneP, Value.oneCell', opStore, toIV, scalT, scalA, scalC, boxesA, boxesC, zipB_none, zipB_mx, isZ, opZip, zeroP, opAppendZ, opMakeMap, opLookup, mboxB, opUpdate, ↓reduceIte, Nat.reduceSub, Nat.reduceEqDiff, Nat.reduceAdd, Nat.reduceMul, Nat.reduceLT, Nat.reduceLeDiff, Int.reduceToNat, Int.reduceLE, Int.reduceLT, Int.reduceNeg, reduceCtorEq, gos, Int.reduceAdd, Int.reduceSub, Int.reduceMul, Int.reduceEq]) <;> first | rfl | simp [rowP])
        · funext c
          simp (maxSteps := 20000000) only [Heap.drop_at, rowH_app, Heap.put_at, Heap.none_at, List.mem_cons, List.not_mem_nil, or_false]
          by_cases e0 : c = (0, 0) :: base
          · subst e0; simp []
          by_cases e1 : c = (8, 2) :: base
          · subst e1; simp []
          simp [e0, e1]
        · omega
        · trivial
        · intro j hj _
          by_cases cj : j < R
          · have d1 := row_walk M.len M.r2 M.c2 cj
            have rl := rowM_len M.len cj
            have d2 := dot_walk p (rowM C l j) x (by rw [rl, mx_len]; have := M.c2; omega) hx (fun a ha => wl a (rowM_mem ha)) wx
            rw [show dotR p (rowM C l j) x = (dotI (rowM C l j) x % p, 0) by
              unfold dotR
              rw [show HasB p (rowM C l j) = true from (has_iff _ _).2 ⟨fun a ha => M.has a (rowM_mem ha), M.hp.1, M.hp.2⟩, h2, decide_eq_true (show (rowM C l j).length = x.length by omega)]; rfl] at d2
            have tk := timesM_take (p := p) (c := C) (l := l) (x := x) cj
            repeat (first | ((first | refine X_call_fn2 rfl (by simp only [tys]) ?_ | refine X_dcall_fn2 rfl (by simp only [tys]) ?_); apply Exists.intro; apply And.intro; (focus (simp -dsimp only [simx, zzC, zzB, tys, ite_self, opnL, callB, callX, readsB, stepOp, nilCmp, ofVal, opBuiltin, opLen, PV.sk, scalBin, scalUn, intBin, opLoad, natOf, opConvert, opField, cellsP, oneP, Value.oneCell', opStore, toIV, scalT, scalA, scalC, boxesA, boxesC, zipB_none, zipB_mx, isZ, opZip, zeroP, opAppendZ, opMakeMap, opLookup, mboxB, opUpdate, ↓reduceIte, Nat.reduceSub, Nat.reduceEqDiff, Nat.reduceAdd, Nat.reduceMul, Nat.reduceLT, Nat.reduceLeDiff, Int.reduceToNat, Int.reduceLE, Int.reduceLT, Int.reduceNeg, reduceCtorEq, zzL, if_true, if_false] <;> rfl)); apply Exists.intro; apply And.intro; (focus (first | exact d1 | exact d2))) | refine X_opc rfl ?_ | refine X_dopc rfl ?_ | refine ⟨(by show drawK _ _ = true; kernel_rfl : drawX _ _ _), ?_⟩ | exact (by show drawK _ _ = true; kernel_rfl : drawX _ _ _) | simp -dsimp (maxSteps := 20000000) (disch := omega) only [simx, zzC, zzB, tys, ite_self, opnL, callB, callX, readsB, stepOp, nilCmp, ofVal, opBuiltin, opLen, PV.sk, scalBin, scalUn, intBin, opLoad, natOf, opConvert, opField, cellsP, oneP, Value.oneCell', opStore, toIV, scalT, scalA, scalC, boxesA, boxesC, zipB_none, zipB_mx, isZ, opZip, zeroP, opAppendZ, opMakeMap, opLookup, mboxB, opUpdate, ↓reduceIte, Nat.reduceSub, Nat.reduceEqDiff, Nat.reduceAdd, Nat.reduceMul, Nat.reduceLT, Nat.reduceLeDiff, Int.reduceToNat, Int.reduceLE, Int.reduceLT, Int.reduceNeg, reduceCtorEq, gos, Int.reduceAdd, Int.reduceSub, Int.reduceMul, Int.reduceEq, cj])
            refine X_append_one 22 [.int .u64 0] [iu (dotI (rowM C l j) x % p)] (by simp only [tys]) (by simp only [tys]) rfl (by decide) (by simp) (by simp [Heap.put_at, Heap.none_at, rowH_app]) (by simp [Heap.put_at]; rfl) rfl (by simp only [tys]; omega) (by rw [mx_len]; omega) ?_
            repeat (first | refine X_opc rfl ?_ | refine X_dopc rfl ?_ | refine ⟨(by show drawK _ _ = true; kernel_rfl : drawX _ _ _), ?_⟩ | exact (by show drawK _ _ = true; kernel_rfl : drawX _ _ _) | simp -dsimp (maxSteps := 20000000) (disch := omega) only [simx, zzC, zzB, tys, ite_self, opnL, callB, callX, readsB, stepOp, nilCmp, ofVal, opBuiltin, opLen, PV.sk, scalBin, scalUn, intBin, opLoad, natOf, opConvert, opField, cellsP, oneP, Value.oneCell', opStore, toIV, scalT, scalA, scalC, boxesA, boxesC, zipB_none, zipB_mx, isZ, opZip, zeroP, opAppendZ, opMakeMap, opLookup, mboxB, opUpdate, ↓reduceIte, Nat.reduceSub, Nat.reduceEqDiff, Nat.reduceAdd, Nat.reduceMul, Nat.reduceLT, Nat.reduceLeDiff, Int.reduceToNat, Int.reduceLE, Int.reduceLT, Int.reduceNeg, reduceCtorEq, gos, Int.reduceAdd, Int.reduceSub, Int.reduceMul, Int.reduceEq, cj])
            refine ⟨cj, (fgt_cons (by simp only [Heap.none_at]) (by (simp -dsimp only [zzB, tys, ite_self, opnL, callB, callX, readsB, stepOp, nilCmp, ofVal, opBuiltin, opLen, PV.sk, scalBin, scalUn, intBin, opLoad, natOf, opConvert, opField, cellsP, oneP, Value.oneCell', opStore, toIV, scalT, scalA, scalC, boxesA, boxesC, zipB_none, zipB_mx, isZ, opZip, zeroP, opAppendZ, opMakeMap, opLookup, mboxB, opUpdate, ↓reduceIte, Nat.reduceSub, Nat.reduceEqDiff, Nat.reduceAdd, Nat.reduceMul, Nat.reduceLT, Nat.reduceLeDiff, Int.reduceToNat, Int.reduceLE, Int.reduceLT, Int.reduceNeg, reduceCtorEq, notIn_cons, notIn_nil]) <;> simp [refsL, refsP, mem_refs_rowP]) (by repeat (first | exact noVar_none _ | refine noVar_row ?_ | refine noVar_map ?_ | refine noVar_rowH ?_ | refine noVar_var ?_ (by simp [refsL, refsP, mem_refs_rowP]))) (fgt_nil)), ⟨?_, rfl⟩, ?_⟩
            · rw [tk]; simp
            · funext c
              simp (maxSteps := 20000000) only [Heap.drop_at, rowH_app, Heap.put_at, Heap.none_at, List.mem_cons, List.not_mem_nil, or_false]
              by_cases e0 : c = (0, 0) :: base
              · subst e0; simp [tk]
              by_cases e1 : c = (8, 2) :: base
              · subst e1; simp [tk]
              by_cases e2 : c = (8, 3) :: base
              · subst e2; simp [tk]
              simp [e0, e1, e2, tk]
          · have hj : j = R := by omega
            subst hj
            obtain ⟨s, rfl⟩ : ∃ s, j = s + 1 := ⟨j - 1, by omega⟩
            have e2 : (((List.range (s + 1)).map (fun i => dotI (rowM C l i) x % p)).map iu).take (s + 1) = ((List.range (s + 1)).map (fun i => dotI (rowM C l i) x % p)).map iu := List.take_of_length_le (by simp)
            repeat (first | refine X_opc rfl ?_ | refine X_dopc rfl ?_ | refine ⟨(by show drawK _ _ = true; kernel_rfl : drawX _ _ _), ?_⟩ | exact (by show drawK _ _ = true; kernel_rfl : drawX _ _ _) | simp -dsimp (maxSteps := 20000000) (disch := omega) only [simx, zzC, zzB, tys, ite_self, opnL, callB, callX, readsB, stepOp, nilCmp, ofVal, opBuiltin, opLen, PV.sk, scalBin, scalUn, intBin, opLoad, natOf, opConvert, opField, cellsP, oneP, Value.oneCell', opStore, toIV, scalT, scalA, scalC, boxesA, boxesC, zipB_none, zipB_mx, isZ, opZip, zeroP, opAppendZ, opMakeMap, opLookup, mboxB, opUpdate, ↓reduceIte, Nat.reduceSub, Nat.reduceEqDiff, Nat.reduceAdd, Nat.reduceMul, Nat.reduceLT, Nat.reduceLeDiff, Int.reduceToNat, Int.reduceLE, Int.reduceLT, Int.reduceNeg, reduceCtorEq, zzR, gos, Int.reduceAdd, Int.reduceSub, Int.reduceMul, Int.reduceEq, rowP_succ, rowH_succ, List.length_map, List.length_range, e2, lu])
      · rw [decide_eq_false h3]
        simp only [Bool.and_false, Bool.false_eq_true, if_false]
        refine X_startP (n := 49) (m := 3) (rs := [.tmp 6, .tmp 7]) Try.func31 rfl rfl rfl rfl (by decide) fun base => ?_
        repeat (first | ((first | refine X_call_fn2 rfl (by simp only [tys]) ?_ | refine X_dcall_fn2 rfl (by simp only [tys]) ?_); apply Exists.intro; apply And.intro; (focus (simp -dsimp only [simx, zzC, zzB, tys, ite_self, opnL, callB, callX, readsB, stepOp, nilCmp, ofVal, opBuiltin, opLen, PV.sk, scalBin, scalUn, intBin, opLoad, natOf, opConvert, opField, cellsP, oneP, Value.oneCell', opStore, toIV, scalT, scalA, scalC, boxesA, boxesC, zipB_none, zipB_mx, isZ, opZip, zeroP, opAppendZ, opMakeMap, opLookup, mboxB, opUpdate, ↓reduceIte, Nat.reduceSub, Nat.reduceEqDiff, Nat.reduceAdd, Nat.reduceMul, Nat.reduceLT, Nat.reduceLeDiff, Int.reduceToNat, Int.reduceLE, Int.reduceLT, Int.reduceNeg, reduceCtorEq, zzL, if_true, if_false] <;> rfl)); apply Exists.intro; apply And.intro; (focus (first | exact q1 | exact q2))) | refine X_opc rfl ?_ | refine X_dopc rfl ?_ | refine ⟨(by show drawK _ _ = true; kernel_rfl : drawX _ _ _), ?_⟩ | exact (by show drawK _ _ = true; kernel_rfl : drawX _ _ _) | simp -dsimp (maxSteps := 20000000) (disch := omega) only [simx, zzC, zzB, tys, ite_self, opnL, callB, callX, readsB, stepOp, nilCmp, ofVal, opBuiltin, opLen, PV.sk, scalBin, scalUn, intBin, opLoad, natOf, opConvert, opField, cellsP, oneP, Value.oneCell', opStore, toIV, scalT, scalA, scalC, boxesA, boxesC, zipB_none, zipB_mx, isZ, opZip, zeroP, opAppendZ, opMakeMap, opLookup, mboxB, opUpdate, ↓reduceIte, Nat.reduceSub, Nat.reduceEqDiff, Nat.reduceAdd, Nat.reduceMul, Nat.reduceLT, Nat.reduceLeDiff, Int.reduceToNat, Int.reduceLE, Int.reduceLT, Int.reduceNeg, reduceCtorEq, zzR, gos, Int.reduceAdd, Int.reduceSub, Int.reduceMul, Int.reduceEq])
        rfl
end Go.Proofs.Ythnfphgjfpcpbaa.TM
namespace Go.Proofs.Ythnfphgjfpcpbaa.TM
open Go Go.RowKit
set_option linter.unusedVariables false
set_option linter.defProp false
set_option linter.unusedSimpArgs false
attribute [local irreducible] K W WOps Effs Xg Xo Xr Xdg Xdo Xdr Xif CallsP CallR
def turnR (p r c : Int) (l : List Int) : (Int × Int × List Int) × Int := if MatB p r c l then ((c, r, turnM r.toNat c.toNat l), 0) else ((0, 0, []), 1)
abbrev mat2 (q : (Int × Int × List Int) × Int) : PV := .tup [matP q.1.1 q.1.2.1 q.1.2.2, i64 q.2]
set_option maxHeartbeats 2000000 in
theorem turn_walk (p r c : Int) (l : List Int) (hl : l.length ≤ maxLen) : CallsP Try.prog 49 [u64 p, matP r c l] (mat2 (turnR p r c l)) := by
  have q1 := mright_walk p r c l hl
  unfold turnR
  cases h1 : MatB p r c l with
  | false =>
    rw [h1] at q1
    refine X_startP (n := 49) (m := 2) (rs := [.cell 4 25, .tmp 5]) Try.func49 rfl rfl rfl rfl (by decide) fun base => ?_
    repeat (first | ((first | refine X_call_fn2 rfl (by simp only [tys]) ?_ | refine X_dcall_fn2 rfl (by simp only [tys]) ?_); apply Exists.intro; apply And.intro; (focus (simp -dsimp only [simx, zzC, zzB, tys, ite_self, opnL, callB, callX, readsB, stepOp, nilCmp, ofVal, opBuiltin, opLen, PV.sk, scalBin, scalUn, intBin, opLoad, natOf, opConvert, opField, cellsP, oneP, Value.oneCell', opStore, toIV, scalT, scalA, scalC, boxesA, boxesC, zipB_none, zipB_mx, isZ, opZip, zeroP, opAppendZ, opMakeMap, opLookup, mboxB, opUpdate, ↓reduceIte, Nat.reduceSub, Nat.reduceEqDiff, Nat.reduceAdd, Nat.reduceMul, Nat.reduceLT, Nat.reduceLeDiff, Int.reduceToNat, Int.reduceLE, Int.reduceLT, Int.reduceNeg, reduceCtorEq, zzL, if_true, if_false] <;> rfl)); apply Exists.intro; apply And.intro; (focus (first | exact q1))) | refine X_opc rfl ?_ | refine X_dopc rfl ?_ | refine ⟨(by show drawK _ _ = true; kernel_rfl : drawX _ _ _), ?_⟩ | exact (by show drawK _ _ = true; kernel_rfl : drawX _ _ _) | simp -dsimp (maxSteps := 20000000) (disch := omega) only [simx, zzC, zzB, tys, ite_self, opnL, callB, callX, readsB, stepOp, nilCmp, ofVal, opBuiltin, opLen, PV.sk, scalBin, scalUn, intBin, opLoad, natOf, opConvert, opField, cellsP, oneP, Value.oneCell', opStore, toIV, scalT, scalA, scalC, boxesA, boxesC, zipB_none, zipB_mx, isZ, opZip, zeroP, opAppendZ, opMakeMap, opLookup, mboxB, opUpdate, ↓reduceIte, Nat.reduceSub, Nat.reduceEqDiff, Nat.reduceAdd, Nat.reduceMul, Nat.reduceLT, Nat.reduceLeDiff, Int.reduceToNat, Int.reduceLE, Int.reduceLT, Int.reduceNeg, reduceCtorEq, zzR, gos, Int.reduceAdd, Int.reduceSub, Int.reduceMul, Int.reduceEq])
    rfl
  | true =>
    rw [h1] at q1
    obtain ⟨R, C, rfl, rfl, M⟩ := mat_of h1
    simp only [if_true, Int.toNat_natCast]
    have r1 := M.r1
    have r2 := M.r2
    have c1 := M.c1
    have c2 := M.c2
    have bd := rc_bd r2 c2
    have len := M.len
    have f1 : l.length * 8 ≤ 140737488355328 := by omega
    have f2 : l.length ≤ 140737488355328 := by omega
    have zf : List.map IV.v (zeroRow [Value.int .u64 0] l.length) = (turnJ R C l 0).map iu := by
      rw [turnJ_zero, len, Nat.mul_comm C R, List.map_replicate]
      induction R * C with
      | zero => rfl
      | succ n ih => rw [zeroRow_succ, List.map_append, ih]; rfl
    clear h1 hl
    refine X_startP (n := 49) (m := 2) (rs := [.cell 4 25, .tmp 5]) Try.func49 rfl rfl rfl rfl (by decide) fun base => ?_
    repeat (first | ((first | refine X_call_fn2 rfl (by simp only [tys]) ?_ | refine X_dcall_fn2 rfl (by simp only [tys]) ?_); apply Exists.intro; apply And.intro; (focus (simp -dsimp only [simx, zzC, zzB, tys, ite_self, opnL, callB, callX, readsB, stepOp, nilCmp, ofVal, opBuiltin, opLen, PV.sk, scalBin, scalUn, intBin, opLoad, natOf, opConvert, opField, cellsP, oneP, Value.oneCell', opStore, toIV, scalT, scalA, scalC, boxesA, boxesC, zipB_none, zipB_mx, isZ, opZip, zeroP, opAppendZ, opMakeMap, opLookup, mboxB, opUpdate, ↓reduceIte, Nat.reduceSub, Nat.reduceEqDiff, Nat.reduceAdd, Nat.reduceMul, Nat.reduceLT, Nat.reduceLeDiff, Int.reduceToNat, Int.reduceLE, Int.reduceLT, Int.reduceNeg, reduceCtorEq, zzL, if_true, if_false] <;> rfl)); apply Exists.intro; apply And.intro; (focus (first | exact q1))) | refine X_opc rfl ?_ | refine X_dopc rfl ?_ | refine ⟨(by show drawK _ _ = true; kernel_rfl : drawX _ _ _), ?_⟩ | exact (by show drawK _ _ = true; kernel_rfl : drawX _ _ _) | simp -dsimp (maxSteps := 20000000) (disch := omega) only [simx, zzC, zzB, tys, ite_self, opnL, callB, callX, readsB, stepOp, nilCmp, ofVal, opBuiltin, opLen, PV.sk, scalBin, scalUn, intBin, opLoad, natOf, opConvert, opField, cellsP, oneP, Value.oneCell', opStore, toIV, scalT, scalA, scalC, boxesA, boxesC, zipB_none, zipB_mx, isZ, opZip, zeroP, opAppendZ, opMakeMap, opLookup, mboxB, opUpdate, ↓reduceIte, Nat.reduceSub, Nat.reduceEqDiff, Nat.reduceAdd, Nat.reduceMul, Nat.reduceLT, Nat.reduceLeDiff, Int.reduceToNat, Int.reduceLE, Int.reduceLT, Int.reduceNeg, reduceCtorEq, gos, Int.reduceAdd, Int.reduceSub, Int.reduceMul, Int.reduceEq, zf, f1, f2])
    refine X_loopH [3, 4, 6, 24, 25, 26] [] (0) (l.length) (fun j => True) (fun j => [(26, i64 j)]) (fun j => (((Heap.none.put ((0, 0) :: base) (.var [i64 R, i64 C, lu l])).put ((0, 1) :: base) (.var [i64 0, i64 0, nilP])).put ((3, 7) :: base) (.row false ((turnJ R C l j).map iu))).put ((3, 9) :: base) (.var [i64 C, i64 R, .view ((3, 7) :: base) 0 1 l.length l.length])) ?_ ?_ ?_ ?_ ?_ (by decide) ?_
    · exact (fgt_nil)
    · ((simp -dsimp (disch := omega) only [simx, zzB, tys, ite_self, opnL, callB, callX, readsB, stepOp, nilCmp, ofVal, opBuiltin, opLen, PV.sk, scalBin, scalUn, intBin, opLoad, natOf, opConvert, opField, cellsP, oneP, Value.oneCell', opStore, toIV, scalT, scalA, scalC, boxesA, boxesC, zipB_none, zipB_mx, isZ, opZip, zeroP, opAppendZ, opMakeMap, opLookup, mboxB, opUpdate, ↓reduceIte, Nat.reduceSub, Nat.reduceEqDiff, Nat.reduceAdd, Nat.reduceMul, Nat.reduceLT, Nat.reduceLeDiff, Int.reduceToNat, Int.reduceLE, Int.reduceLT, Int.reduceNeg, reduceCtorEq, gos, Int.reduceAdd, Int.reduceSub, Int.reduceMul, Int.reduceEq]) <;> first | rfl | simp)
    · funext c
      simp (maxSteps := 20000000) only [Heap.drop_at, rowH_app, Heap.put_at, Heap.none_at, List.mem_cons, List.not_mem_nil, or_false]
      by_cases e0 : c = (0, 0) :: base
      · subst e0; simp [zf]
      by_cases e1 : c = (0, 1) :: base
      · subst e1; simp [zf]
      by_cases e2 : c = (3, 7) :: base
      · subst e2; simp [zf]
      by_cases e3 : c = (3, 9) :: base
      · subst e3; simp [zf]
      simp [e0, e1, e2, e3, zf]
    · omega
    · trivial
    · intro j hj _
      by_cases cj : j < l.length
      · have g1 : l[j]? = some l[j] := List.getElem?_eq_getElem cj
        obtain ⟨d1, d2⟩ := turn_dst (r := R) (c := C) (j := j) (by omega) (by omega)
        have nx := turnJ_next (r := R) (c := C) (j := j) (l := l) (by omega) (by omega) len (by omega)
        have m1 : j % C < C := Nat.mod_lt _ (by omega)
        have m2 := ic_bd (c := R) m1
        have m3 : C * R ≤ 4096 := rc_bd c2 r2
        have tl : (turnJ R C l j).length = l.length := by rw [turnJ_len, len, Nat.mul_comm]
        have e1 : (j : Int) % (C : Int) = ((j % C : Nat) : Int) := rfl
        have e2 : IntKind.i64.wrap (((j % C : Nat) : Int) * (R : Int)) = ((j % C * R : Nat) : Int) := by rw [← Int.natCast_mul]; exact iw_of (by omega) (by omega)
        have e3 : (j : Int) / (C : Int) = ((j / C : Nat) : Int) := rfl
        have e4 : IntKind.i64.wrap (((j % C * R : Nat) : Int) + ((j / C : Nat) : Int)) = ((j % C * R + j / C : Nat) : Int) := by
          rw [← Int.natCast_add]
          generalize j % C * R + j / C = z at d1
          exact iw_of (by omega) (by omega)
        have e5 : IntKind.i64.wrap ((j / C : Nat) : Int) = ((j / C : Nat) : Int) := by
          have := Nat.div_le_self j C
          generalize j / C = z at this
          exact iw_of (by omega) (by omega)
        have nx2 : ((turnJ R C l j).map iu).take (j % C * R + j / C) ++ [iu l[j]] ++ ((turnJ R C l j).map iu).drop (j % C * R + j / C + 1) = (turnJ R C l (j + 1)).map iu := by
          rw [← nx]; simp
        have d3 : j % C * R + j / C < l.length := by rw [len, Nat.mul_comm R C]; exact d1
        have d4 : j % C * R + j / C + 1 ≤ l.length := d3
        have cne : (C : Int) ≠ 0 := by omega
        have hj0 : (0 : Int) ≤ j := by omega
        clear nx d1 d2 m1 m2 m3 bd zf
        repeat (first | refine X_opc rfl ?_ | refine X_dopc rfl ?_ | refine ⟨(by show drawK _ _ = true; kernel_rfl : drawX _ _ _), ?_⟩ | exact (by show drawK _ _ = true; kernel_rfl : drawX _ _ _) | simp -dsimp (maxSteps := 20000000) (disch := omega) only [simx, zzC, zzB, tys, ite_self, opnL, callB, callX, readsB, stepOp, nilCmp, ofVal, opBuiltin, opLen, PV.sk, scalBin, scalUn, intBin, opLoad, natOf, opConvert, opField, cellsP, oneP, Value.oneCell', opStore, toIV, scalT, scalA, scalC, boxesA, boxesC, zipB_none, zipB_mx, isZ, opZip, zeroP, opAppendZ, opMakeMap, opLookup, mboxB, opUpdate, ↓reduceIte, Nat.reduceSub, Nat.reduceEqDiff, Nat.reduceAdd, Nat.reduceMul, Nat.reduceLT, Nat.reduceLeDiff, Int.reduceToNat, Int.reduceLE, Int.reduceLT, Int.reduceNeg, reduceCtorEq, gos, Int.reduceAdd, Int.reduceSub, Int.reduceMul, Int.reduceEq, cj, g1, tmod_nn hj0, tdiv_nn hj0, e1, e2, e3, e4, e5, nx2, d3, d4, cne, List.length_map, tl])
        refine ⟨cj, (fgt_nil), rfl, ?_⟩
        funext c
        simp (maxSteps := 20000000) only [Heap.drop_at, rowH_app, Heap.put_at, Heap.none_at, List.mem_cons, List.not_mem_nil, or_false]
        by_cases e0 : c = (0, 0) :: base
        · subst e0; simp []
        by_cases e1 : c = (0, 1) :: base
        · subst e1; simp []
        by_cases e2 : c = (3, 7) :: base
        · subst e2; simp []
        by_cases e3 : c = (3, 9) :: base
        · subst e3; simp []
        simp [e0, e1, e2, e3]
      · have hj : j = l.length := by omega
        subst hj
        have tl : (turnJ R C l l.length).length = l.length := by rw [turnJ_len, len, Nat.mul_comm]
        have e2 : ((turnJ R C l l.length).map iu).take l.length = (turnJ R C l l.length).map iu := List.take_of_length_le (by rw [List.length_map, tl]; exact Nat.le_refl _)
        have e3 : turnJ R C l l.length = turnM R C l := by rw [len]; exact turnJ_all (by omega)
        have e4 := turnM_len R C l
        repeat (first | refine X_opc rfl ?_ | refine X_dopc rfl ?_ | refine ⟨(by show drawK _ _ = true; kernel_rfl : drawX _ _ _), ?_⟩ | exact (by show drawK _ _ = true; kernel_rfl : drawX _ _ _) | simp -dsimp (maxSteps := 20000000) (disch := omega) only [simx, zzC, zzB, tys, ite_self, opnL, callB, callX, readsB, stepOp, nilCmp, ofVal, opBuiltin, opLen, PV.sk, scalBin, scalUn, intBin, opLoad, natOf, opConvert, opField, cellsP, oneP, Value.oneCell', opStore, toIV, scalT, scalA, scalC, boxesA, boxesC, zipB_none, zipB_mx, isZ, opZip, zeroP, opAppendZ, opMakeMap, opLookup, mboxB, opUpdate, ↓reduceIte, Nat.reduceSub, Nat.reduceEqDiff, Nat.reduceAdd, Nat.reduceMul, Nat.reduceLT, Nat.reduceLeDiff, Int.reduceToNat, Int.reduceLE, Int.reduceLT, Int.reduceNeg, reduceCtorEq, zzR, gos, Int.reduceAdd, Int.reduceSub, Int.reduceMul, Int.reduceEq, e2, tl, List.length_map])
        rw [e3, show l.length = (turnM R C l).length by rw [e4, len, Nat.mul_comm]]
end Go.Proofs.Ythnfphgjfpcpbaa.TM
namespace Go.Proofs.Ythnfphgjfpcpbaa.TM
open Go Go.RowKit
set_option linter.unusedVariables false
set_option linter.defProp false
set_option linter.unusedSimpArgs false
attribute [local irreducible] K W WOps Effs Xg Xo Xr Xdg Xdo Xdr Xif CallsP CallR
theorem is_walk (p : Nat) (hp : p < 1048576) : ∃ b, CallsP Try.prog 55 [u64 p] (bl b) ∧ (b = true → Prm p) := by
  by_cases h2 : p < 2
  · refine ⟨false, ?_, fun h => by cases h⟩
    refine X_startP (n := 17) (m := 1) (rs := [.tmp 2]) Try.func55 rfl rfl rfl rfl (by decide) fun base => ?_
    repeat (first | refine X_opc rfl ?_ | refine X_dopc rfl ?_ | refine ⟨(by show drawK _ _ = true; kernel_rfl : drawX _ _ _), ?_⟩ | exact (by show drawK _ _ = true; kernel_rfl : drawX _ _ _) | simp -dsimp (maxSteps := 20000000) (disch := omega) only [simx, zzC, zzB, tys, ite_self, opnL, callB, callX, readsB, stepOp, nilCmp, ofVal, opBuiltin, opLen, PV.sk, scalBin, scalUn, intBin, opLoad, natOf, opConvert, opField, cellsP, oneP, Value.oneCell', opStore, toIV, scalT, scalA, scalC, boxesA, boxesC, zipB_none, zipB_mx, isZ, opZip, zeroP, opAppendZ, opMakeMap, opLookup, mboxB, opUpdate, ↓reduceIte, Nat.reduceSub, Nat.reduceEqDiff, Nat.reduceAdd, Nat.reduceMul, Nat.reduceLT, Nat.reduceLeDiff, Int.reduceToNat, Int.reduceLE, Int.reduceLT, Int.reduceNeg, reduceCtorEq, zzR, gos, Int.reduceAdd, Int.reduceSub, Int.reduceMul, Int.reduceEq])
  obtain ⟨d0, ⟨d2, dd⟩, dl⟩ := least (fun d => 2 ≤ d ∧ (p < d * d ∨ p % d = 0)) p ⟨by omega, .inr (Nat.mod_self p)⟩
  have lo : ∀ d, 2 ≤ d → d < d0 → d * d ≤ p ∧ p % d ≠ 0 := fun d h1 h3 => by
    have := dl d h3
    constructor
    · rcases Nat.lt_or_ge p (d * d) with h | h
      · exact absurd ⟨h1, .inl h⟩ this
      · exact h
    · intro h; exact this ⟨h1, .inr h⟩
  have dm : d0 ≤ 1024 := by
    rcases Nat.lt_or_ge 1024 d0 with h | h
    · have := (lo 1024 (by omega) h).1; omega
    · exact h
  have sq : ∀ j : Nat, j ≤ 1024 → j * j ≤ 1024 * 1024 := fun j h => Nat.mul_le_mul h h
  refine ⟨decide (p < d0 * d0), ?_, fun h => prm_of (by omega) fun d h1 h3 => ?_⟩
  · refine X_startP (n := 17) (m := 1) (rs := [.tmp 2]) Try.func55 rfl rfl rfl rfl (by decide) fun base => ?_
    repeat (first | refine X_opc rfl ?_ | refine X_dopc rfl ?_ | refine ⟨(by show drawK _ _ = true; kernel_rfl : drawX _ _ _), ?_⟩ | exact (by show drawK _ _ = true; kernel_rfl : drawX _ _ _) | simp -dsimp (maxSteps := 20000000) (disch := omega) only [simx, zzC, zzB, tys, ite_self, opnL, callB, callX, readsB, stepOp, nilCmp, ofVal, opBuiltin, opLen, PV.sk, scalBin, scalUn, intBin, opLoad, natOf, opConvert, opField, cellsP, oneP, Value.oneCell', opStore, toIV, scalT, scalA, scalC, boxesA, boxesC, zipB_none, zipB_mx, isZ, opZip, zeroP, opAppendZ, opMakeMap, opLookup, mboxB, opUpdate, ↓reduceIte, Nat.reduceSub, Nat.reduceEqDiff, Nat.reduceAdd, Nat.reduceMul, Nat.reduceLT, Nat.reduceLeDiff, Int.reduceToNat, Int.reduceLE, Int.reduceLT, Int.reduceNeg, reduceCtorEq, gos, Int.reduceAdd, Int.reduceSub, Int.reduceMul, Int.reduceEq])
    refine X_loopH [0, 3] [] (0) (d0 - 2) (fun j => True) (fun j => [(3, u64 ((2 + j : Nat) : Int))]) (fun j => Heap.none) ?_ ?_ ?_ ?_ ?_ (by decide) ?_
    · exact (fgt_nil)
    · ((simp -dsimp (disch := omega) only [simx, zzB, tys, ite_self, opnL, callB, callX, readsB, stepOp, nilCmp, ofVal, opBuiltin, opLen, PV.sk, scalBin, scalUn, intBin, opLoad, natOf, opConvert, opField, cellsP, oneP, Value.oneCell', opStore, toIV, scalT, scalA, scalC, boxesA, boxesC, zipB_none, zipB_mx, isZ, opZip, zeroP, opAppendZ, opMakeMap, opLookup, mboxB, opUpdate, ↓reduceIte, Nat.reduceSub, Nat.reduceEqDiff, Nat.reduceAdd, Nat.reduceMul, Nat.reduceLT, Nat.reduceLeDiff, Int.reduceToNat, Int.reduceLE, Int.reduceLT, Int.reduceNeg, reduceCtorEq, gos, Int.reduceAdd, Int.reduceSub, Int.reduceMul, Int.reduceEq]) <;> first | rfl | simp)
    · exact drop_nil _
    · omega
    · trivial
    · intro j hj _
      have s1 := sq (2 + j) (by omega)
      have e1 : IntKind.u64.wrap (((2 + j : Nat) : Int) * ((2 + j : Nat) : Int)) = (((2 + j) * (2 + j) : Nat) : Int) := by rw [← Int.natCast_mul]; exact uw_of (by omega) (by omega)
      by_cases cj : j < d0 - 2
      · obtain ⟨l1, l2⟩ := lo (2 + j) (by omega) (by omega)
        have e2 : (((2 + j) * (2 + j) : Nat) : Int) ≤ (p : Int) := by omega
        have e3 : ¬ (p : Int) % ((2 + j : Nat) : Int) = 0 := by rw [← Int.natCast_emod]; omega
        have e4 : IntKind.u64.wrap (((2 + j : Nat) : Int) + 1) = ((2 + (j + 1) : Nat) : Int) := by
          rw [show ((2 + j : Nat) : Int) + 1 = ((2 + (j + 1) : Nat) : Int) by omega]
          exact uw_of (by omega) (by omega)
        have e5 : ¬ ((2 + j : Nat) : Int) = 0 := by omega
        generalize (((2 + j) * (2 + j) : Nat) : Int) = sq2 at *
        clear lo dl dd sq
        repeat (first | refine X_opc rfl ?_ | refine X_dopc rfl ?_ | refine ⟨(by show drawK _ _ = true; kernel_rfl : drawX _ _ _), ?_⟩ | exact (by show drawK _ _ = true; kernel_rfl : drawX _ _ _) | simp -dsimp (maxSteps := 20000000) (disch := omega) only [simx, zzC, zzB, tys, ite_self, opnL, callB, callX, readsB, stepOp, nilCmp, ofVal, opBuiltin, opLen, PV.sk, scalBin, scalUn, intBin, opLoad, natOf, opConvert, opField, cellsP, oneP, Value.oneCell', opStore, toIV, scalT, scalA, scalC, boxesA, boxesC, zipB_none, zipB_mx, isZ, opZip, zeroP, opAppendZ, opMakeMap, opLookup, mboxB, opUpdate, ↓reduceIte, Nat.reduceSub, Nat.reduceEqDiff, Nat.reduceAdd, Nat.reduceMul, Nat.reduceLT, Nat.reduceLeDiff, Int.reduceToNat, Int.reduceLE, Int.reduceLT, Int.reduceNeg, reduceCtorEq, gos, Int.reduceAdd, Int.reduceSub, Int.reduceMul, Int.reduceEq, e1, e2, e3, e4, e5])
        exact ⟨cj, (fgt_nil), by first | exact drop_nil _ | exact ⟨rfl, drop_nil _⟩⟩
      · have hj' : 2 + j = d0 := by omega
        rw [hj'] at e1 s1 ⊢
        by_cases c : p < d0 * d0
        · rw [decide_eq_true c]
          have e2 : ¬ ((d0 * d0 : Nat) : Int) ≤ (p : Int) := by omega
          generalize ((d0 * d0 : Nat) : Int) = sq2 at *
          clear lo dl dd sq
          repeat (first | refine X_opc rfl ?_ | refine X_dopc rfl ?_ | refine ⟨(by show drawK _ _ = true; kernel_rfl : drawX _ _ _), ?_⟩ | exact (by show drawK _ _ = true; kernel_rfl : drawX _ _ _) | simp -dsimp (maxSteps := 20000000) (disch := omega) only [simx, zzC, zzB, tys, ite_self, opnL, callB, callX, readsB, stepOp, nilCmp, ofVal, opBuiltin, opLen, PV.sk, scalBin, scalUn, intBin, opLoad, natOf, opConvert, opField, cellsP, oneP, Value.oneCell', opStore, toIV, scalT, scalA, scalC, boxesA, boxesC, zipB_none, zipB_mx, isZ, opZip, zeroP, opAppendZ, opMakeMap, opLookup, mboxB, opUpdate, ↓reduceIte, Nat.reduceSub, Nat.reduceEqDiff, Nat.reduceAdd, Nat.reduceMul, Nat.reduceLT, Nat.reduceLeDiff, Int.reduceToNat, Int.reduceLE, Int.reduceLT, Int.reduceNeg, reduceCtorEq, zzR, gos, Int.reduceAdd, Int.reduceSub, Int.reduceMul, Int.reduceEq, e1, e2])
        · rw [decide_eq_false c]
          have e2 : ((d0 * d0 : Nat) : Int) ≤ (p : Int) := by omega
          have e3 : (p : Int) % (d0 : Int) = 0 := by
            rcases dd with h | h
            · exact absurd h c
            · rw [← Int.natCast_emod]; omega
          have e5 : ¬ (d0 : Int) = 0 := by omega
          generalize ((d0 * d0 : Nat) : Int) = sq2 at *
          clear lo dl dd sq
          repeat (first | refine X_opc rfl ?_ | refine X_dopc rfl ?_ | refine ⟨(by show drawK _ _ = true; kernel_rfl : drawX _ _ _), ?_⟩ | exact (by show drawK _ _ = true; kernel_rfl : drawX _ _ _) | simp -dsimp (maxSteps := 20000000) (disch := omega) only [simx, zzC, zzB, tys, ite_self, opnL, callB, callX, readsB, stepOp, nilCmp, ofVal, opBuiltin, opLen, PV.sk, scalBin, scalUn, intBin, opLoad, natOf, opConvert, opField, cellsP, oneP, Value.oneCell', opStore, toIV, scalT, scalA, scalC, boxesA, boxesC, zipB_none, zipB_mx, isZ, opZip, zeroP, opAppendZ, opMakeMap, opLookup, mboxB, opUpdate, ↓reduceIte, Nat.reduceSub, Nat.reduceEqDiff, Nat.reduceAdd, Nat.reduceMul, Nat.reduceLT, Nat.reduceLeDiff, Int.reduceToNat, Int.reduceLE, Int.reduceLT, Int.reduceNeg, reduceCtorEq, zzR, gos, Int.reduceAdd, Int.reduceSub, Int.reduceMul, Int.reduceEq, e1, e2, e3, e5])
  · rw [decide_eq_true_eq] at h
    exact (lo d h1 (sq_lt (Nat.lt_of_le_of_lt h3 h))).2
theorem equal_walk (a b : List Int) (hl : a.length ≤ maxLen) : CallsP Try.prog 60 [lu a, lu b] (bl (decide (a = b))) := by
  rw [mx_len] at hl
  by_cases c0 : (a.length : Int) = b.length
  case neg =>
    rw [decide_eq_false (by rintro rfl; exact c0 rfl)]
    refine X_startP (n := 26) (m := 2) (rs := [.tmp 4]) Try.func60 rfl rfl rfl rfl (by decide) fun base => ?_
    repeat (first | refine X_opc rfl ?_ | refine X_dopc rfl ?_ | refine ⟨(by show drawK _ _ = true; kernel_rfl : drawX _ _ _), ?_⟩ | exact (by show drawK _ _ = true; kernel_rfl : drawX _ _ _) | simp -dsimp (maxSteps := 20000000) (disch := omega) only [simx, zzC, zzB, tys, ite_self, opnL, callB, callX, readsB, stepOp, nilCmp, ofVal, opBuiltin, opLen, PV.sk, scalBin, scalUn, intBin, opLoad, natOf, opConvert, opField, cellsP, oneP, Value.oneCell', opStore, toIV, scalT, scalA, scalC, boxesA, boxesC, zipB_none, zipB_mx, isZ, opZip, zeroP, opAppendZ, opMakeMap, opLookup, mboxB, opUpdate, ↓reduceIte, Nat.reduceSub, Nat.reduceEqDiff, Nat.reduceAdd, Nat.reduceMul, Nat.reduceLT, Nat.reduceLeDiff, Int.reduceToNat, Int.reduceLE, Int.reduceLT, Int.reduceNeg, reduceCtorEq, zzR, gos, Int.reduceAdd, Int.reduceSub, Int.reduceMul, Int.reduceEq])
  refine X_startP (n := 26) (m := 2) (rs := [.tmp 4]) Try.func60 rfl rfl rfl rfl (by decide) fun base => ?_
  repeat (first | refine X_opc rfl ?_ | refine X_dopc rfl ?_ | refine ⟨(by show drawK _ _ = true; kernel_rfl : drawX _ _ _), ?_⟩ | exact (by show drawK _ _ = true; kernel_rfl : drawX _ _ _) | simp -dsimp (maxSteps := 20000000) (disch := omega) only [simx, zzC, zzB, tys, ite_self, opnL, callB, callX, readsB, stepOp, nilCmp, ofVal, opBuiltin, opLen, PV.sk, scalBin, scalUn, intBin, opLoad, natOf, opConvert, opField, cellsP, oneP, Value.oneCell', opStore, toIV, scalT, scalA, scalC, boxesA, boxesC, zipB_none, zipB_mx, isZ, opZip, zeroP, opAppendZ, opMakeMap, opLookup, mboxB, opUpdate, ↓reduceIte, Nat.reduceSub, Nat.reduceEqDiff, Nat.reduceAdd, Nat.reduceMul, Nat.reduceLT, Nat.reduceLeDiff, Int.reduceToNat, Int.reduceLE, Int.reduceLT, Int.reduceNeg, reduceCtorEq, gos, Int.reduceAdd, Int.reduceSub, Int.reduceMul, Int.reduceEq])
  refine X_loopH [0, 1, 12, 13] [] (0) (a.length) (fun j => a.take j = b.take j) (fun j => [(13, i64 j)]) (fun j => Heap.none) ?_ ?_ ?_ ?_ ?_ (by decide) ?_
  · exact (fgt_nil)
  · ((simp -dsimp (disch := omega) only [simx, zzB, tys, ite_self, opnL, callB, callX, readsB, stepOp, nilCmp, ofVal, opBuiltin, opLen, PV.sk, scalBin, scalUn, intBin, opLoad, natOf, opConvert, opField, cellsP, oneP, Value.oneCell', opStore, toIV, scalT, scalA, scalC, boxesA, boxesC, zipB_none, zipB_mx, isZ, opZip, zeroP, opAppendZ, opMakeMap, opLookup, mboxB, opUpdate, ↓reduceIte, Nat.reduceSub, Nat.reduceEqDiff, Nat.reduceAdd, Nat.reduceMul, Nat.reduceLT, Nat.reduceLeDiff, Int.reduceToNat, Int.reduceLE, Int.reduceLT, Int.reduceNeg, reduceCtorEq, gos, Int.reduceAdd, Int.reduceSub, Int.reduceMul, Int.reduceEq]) <;> first | rfl | simp)
  · exact drop_nil _
  · omega
  · rfl
  · intro j hj hf
    by_cases c : j < a.length
    · have c' : j < b.length := by omega
      have g1 : a[j]? = some a[j] := List.getElem?_eq_getElem c
      have g2 : b[j]? = some b[j] := List.getElem?_eq_getElem c'
      by_cases e : a[j] = b[j]
      · have nx := take_next c c' hf e
        rw [e] at g1
        generalize b[j] = y at g1 g2
        repeat (first | refine X_opc rfl ?_ | refine X_dopc rfl ?_ | refine ⟨(by show drawK _ _ = true; kernel_rfl : drawX _ _ _), ?_⟩ | exact (by show drawK _ _ = true; kernel_rfl : drawX _ _ _) | simp -dsimp (maxSteps := 20000000) (disch := omega) only [simx, zzC, zzB, tys, ite_self, opnL, callB, callX, readsB, stepOp, nilCmp, ofVal, opBuiltin, opLen, PV.sk, scalBin, scalUn, intBin, opLoad, natOf, opConvert, opField, cellsP, oneP, Value.oneCell', opStore, toIV, scalT, scalA, scalC, boxesA, boxesC, zipB_none, zipB_mx, isZ, opZip, zeroP, opAppendZ, opMakeMap, opLookup, mboxB, opUpdate, ↓reduceIte, Nat.reduceSub, Nat.reduceEqDiff, Nat.reduceAdd, Nat.reduceMul, Nat.reduceLT, Nat.reduceLeDiff, Int.reduceToNat, Int.reduceLE, Int.reduceLT, Int.reduceNeg, reduceCtorEq, gos, Int.reduceAdd, Int.reduceSub, Int.reduceMul, Int.reduceEq, c, c', g1, g2])
        exact ⟨c, (fgt_nil), nx, rfl, drop_nil _⟩
      · rw [decide_eq_false (by rintro rfl; exact e rfl)]
        generalize a[j] = x at g1 e
        generalize b[j] = y at g2 e
        repeat (first | refine X_opc rfl ?_ | refine X_dopc rfl ?_ | refine ⟨(by show drawK _ _ = true; kernel_rfl : drawX _ _ _), ?_⟩ | exact (by show drawK _ _ = true; kernel_rfl : drawX _ _ _) | simp -dsimp (maxSteps := 20000000) (disch := omega) only [simx, zzC, zzB, tys, ite_self, opnL, callB, callX, readsB, stepOp, nilCmp, ofVal, opBuiltin, opLen, PV.sk, scalBin, scalUn, intBin, opLoad, natOf, opConvert, opField, cellsP, oneP, Value.oneCell', opStore, toIV, scalT, scalA, scalC, boxesA, boxesC, zipB_none, zipB_mx, isZ, opZip, zeroP, opAppendZ, opMakeMap, opLookup, mboxB, opUpdate, ↓reduceIte, Nat.reduceSub, Nat.reduceEqDiff, Nat.reduceAdd, Nat.reduceMul, Nat.reduceLT, Nat.reduceLeDiff, Int.reduceToNat, Int.reduceLE, Int.reduceLT, Int.reduceNeg, reduceCtorEq, zzR, gos, Int.reduceAdd, Int.reduceSub, Int.reduceMul, Int.reduceEq, c, c', g1, g2])
    · have hj : j = a.length := by omega
      subst hj
      rw [List.take_length, List.take_of_length_le (by omega)] at hf
      rw [decide_eq_true hf]
      repeat (first | refine X_opc rfl ?_ | refine X_dopc rfl ?_ | refine ⟨(by show drawK _ _ = true; kernel_rfl : drawX _ _ _), ?_⟩ | exact (by show drawK _ _ = true; kernel_rfl : drawX _ _ _) | simp -dsimp (maxSteps := 20000000) (disch := omega) only [simx, zzC, zzB, tys, ite_self, opnL, callB, callX, readsB, stepOp, nilCmp, ofVal, opBuiltin, opLen, PV.sk, scalBin, scalUn, intBin, opLoad, natOf, opConvert, opField, cellsP, oneP, Value.oneCell', opStore, toIV, scalT, scalA, scalC, boxesA, boxesC, zipB_none, zipB_mx, isZ, opZip, zeroP, opAppendZ, opMakeMap, opLookup, mboxB, opUpdate, ↓reduceIte, Nat.reduceSub, Nat.reduceEqDiff, Nat.reduceAdd, Nat.reduceMul, Nat.reduceLT, Nat.reduceLeDiff, Int.reduceToNat, Int.reduceLE, Int.reduceLT, Int.reduceNeg, reduceCtorEq, zzR, gos, Int.reduceAdd, Int.reduceSub, Int.reduceMul, Int.reduceEq])
end Go.Proofs.Ythnfphgjfpcpbaa.TM
namespace Go.Proofs.Ythnfphgjfpcpbaa.TM
open Go Go.RowKit
set_option linter.unusedVariables false
set_option linter.defProp false
set_option linter.unusedSimpArgs false
attribute [local irreducible] K W WOps Effs Xg Xo Xr Xdg Xdo Xdr Xif CallsP CallR
theorem timesM_len (p : Int) (r c : Nat) (l x : List Int) : (timesM p r c l x).length = r := by simp [timesM]
end Go.Proofs.Ythnfphgjfpcpbaa.TM
namespace Go.Proofs.Ythnfphgjfpcpbaa.TM
open Go Go.RowKit
set_option linter.unusedVariables false
set_option linter.defProp false
set_option linter.unusedSimpArgs false
attribute [local irreducible] K W WOps Effs Xg Xo Xr Xdg Xdo Xdr Xif CallsP CallR
def zeroV (n : Nat) : List Int := tbl n (fun _ => 0)
theorem zeroV_len (n : Nat) : (zeroV n).length = n := tbl_len ..
theorem zeroV_in {p : Int} (hp : Md p) (n : Nat) : ∀ a ∈ zeroV n, In p a := fun a ha => by
  obtain ⟨_, _, rfl⟩ := tbl_mem ha; exact ⟨by decide, by have := hp.1; omega⟩
theorem invsT_in {P R C : Nat} (hP : Prm P) (hp : Md P) {c : CupT} (hw : CupW P R C c) : (∀ a ∈ invsT P c, In P a) ∧ (invsT P c).length = c.1.length := by
  refine ⟨fun a ha => ?_, by unfold invsT; rw [tbl_len, hw.ul]⟩
  obtain ⟨k, hk, rfl⟩ := tbl_mem ha
  have hk' : k < c.1.length := by rw [← hw.ul]; exact hk
  obtain ⟨u1, u2⟩ := hw.ur (c.2.2.2.getD k []) (getD_mm hk)
  obtain ⟨q0, q1⟩ := hw.qb (c.2.1.getD k 0) (getD_mm (by rw [hw.ql]; exact hk'))
  have hi := getD_of u2 (i := (c.2.1.getD k 0).toNat) (by omega)
  exact (finvC_in hp.1 hp.2 hi (prm_gcd hP hi (hw.nz k hk'))).1
/-- What Solve tries. -/
def solX (p : Int) (C : Nat) (c : CupT) (b : List Int) : List Int := svL p C c (invsT p c) (hlL p c b c.1.length) (zeroV C) c.1.length
theorem solX_len (p : Int) (C : Nat) (c : CupT) (b : List Int) : (solX p C c b).length = C := svL_len (zeroV_len C) _
theorem solX_in {p : Int} {C : Nat} (hp : Md p) (c : CupT) (b : List Int) : ∀ a ∈ solX p C c b, In p a := svL_in hp (zeroV_in hp C) (zeroV_len C) _
set_option maxHeartbeats 4000000 in
theorem solve_yes {P R C : Nat} {l b : List Int} (hP : Prm P) (M : Mt P R C l) (hin : ∀ a ∈ l, In P a) (hb : ∀ a ∈ b, In P a) (hbl : b.length = R) :
    CallsP Try.prog 15 [u64 P, matP R C l, lu b] (if timesM P R C l (solX P C (tkCup P C R l) b) = b then .tup [lu (solX P C (tkCup P C R l) b), i64 0] else .tup [lu [], i64 6]) := by
  have hp := M.hp
  have r2 := M.r2
  have c2 := M.c2
  have q1 := vector_walk P b R (by rw [hbl, mx_len]; omega)
  rw [(has_iff _ _).2 ⟨fun x hx => (hb x hx).2, hp.1, hp.2⟩, decide_eq_true (show (b.length : Int) = R by omega)] at q1
  have q2 := take8_yes hP M hin
  have hw := tkCup_W hP M hin
  have xl := solX_len P C (tkCup P C R l) b
  have xi := solX_in (C := C) hp (tkCup P C R l) b
  have vi := invsT_in hP hp hw
  have k1 := fun vs => halves_walk (l := l) (vs := vs) hp hw r2 hb hbl
  have zi := hlL_in hp hw hb hbl _ (Nat.le_refl _)
  have zl := hlL_len P (tkCup P C R l) b (tkCup P C R l).1.length
  have k2 := solved_walk (l := l) (x := zeroV C) (z := hlL P (tkCup P C R l) b (tkCup P C R l).1.length) hp hw r2 c2 (zeroV_in hp C) (zeroV_len C) zi zl vi.1 vi.2
  have k3 := times_walk P R C l (solX P C (tkCup P C R l) b) (by have := M.len; have := rc_bd r2 c2; rw [mx_len]; omega) (by rw [xl, mx_len]; omega) (fun a ha => in_w64 hp (hin a ha)) (fun a ha => in_w64 hp (xi a ha))
  rw [show timesR P R C l (solX P C (tkCup P C R l) b) = (timesM P R C l (solX P C (tkCup P C R l) b), 0) by
    unfold timesR; rw [mat_mk M, (has_iff _ _).2 ⟨fun x hx => (xi x hx).2, hp.1, hp.2⟩, decide_eq_true (show ((solX P C (tkCup P C R l) b).length : Int) = C by omega)]; rfl] at k3
  have k4 := equal_walk (timesM P R C l (solX P C (tkCup P C R l) b)) b (by rw [timesM_len, mx_len]; omega)
  have tml := timesM_len P R C l (solX P C (tkCup P C R l) b)
  change CallsW _ _ _ _ _ ((solX P C (tkCup P C R l) b).map iu) at k2
  generalize solX P C (tkCup P C R l) b = X at xl xi k2 k3 k4 tml ⊢
  generalize hlL P (tkCup P C R l) b (tkCup P C R l).1.length = Z at zi zl k1 k2
  generalize invsT P (tkCup P C R l) = vs at q2 vi k2
  have k1 := k1 vs
  generalize tkCup P C R l = c at q2 hw k1 k2 zl
  obtain ⟨rw0, cw, cc, uu⟩ := c
  generalize timesM P R C l X = TX at k3 k4 tml ⊢
  simp only at zl k2
  rw [show (lu b) = .i (.l R (b.map iu)) by rw [lu, hbl]] at k4
  rw [lu, xl] at k3
  rw [lu, zl] at k1
  have b1 : C * 8 ≤ 140737488355328 := by omega
  have b2 : C ≤ 140737488355328 := by omega
  have ez : (zeroRow [Value.int .u64 0] C).map IV.v = (zeroV C).map iu := zero_tbl C
  have nt : (X.map iu).take C = X.map iu := List.take_of_length_le (by simp [xl])
  have nb : (lu b) = .i (.l R (b.map iu)) := by rw [lu, hbl]
  rw [nb] at q1 ⊢
  by_cases hx : TX = b
  · rw [decide_eq_true hx] at k4
    rw [if_pos hx]
    refine X_startP (n := 49) (m := 3) (rs := [.tmp 6, .tmp 7]) Try.func15 rfl rfl rfl rfl (by decide) fun base => ?_
    repeat (first | ((first | refine X_call_fn2 rfl (by simp only [tys]) ?_ | refine X_dcall_fn2 rfl (by simp only [tys]) ?_); apply Exists.intro; apply And.intro; (focus (simp -dsimp only [simx, zzC, zzB, tys, ite_self, opnL, callB, callX, readsB, stepOp, nilCmp, ofVal, opBuiltin, opLen, PV.sk, scalBin, scalUn, intBin, opLoad, natOf, opConvert, opField, cellsP, oneP, Value.oneCell', opStore, toIV, scalT, scalA, scalC, boxesA, boxesC, zipB_none, zipB_mx, isZ, opZip, zeroP, opAppendZ, opMakeMap, opLookup, mboxB, opUpdate, ↓reduceIte, Nat.reduceSub, Nat.reduceEqDiff, Nat.reduceAdd, Nat.reduceMul, Nat.reduceLT, Nat.reduceLeDiff, Int.reduceToNat, Int.reduceLE, Int.reduceLT, Int.reduceNeg, reduceCtorEq, zzL, if_true, if_false] <;> rfl)); apply Exists.intro; apply And.intro; (focus (first | exact q1 | exact q2 | exact k1))) | refine X_opc rfl ?_ | refine X_dopc rfl ?_ | refine ⟨(by show drawK _ _ = true; kernel_rfl : drawX _ _ _), ?_⟩ | exact (by show drawK _ _ = true; kernel_rfl : drawX _ _ _) | simp -dsimp (maxSteps := 20000000) (disch := omega) only [simx, zzC, zzB, tys, ite_self, opnL, callB, callX, readsB, stepOp, nilCmp, ofVal, opBuiltin, opLen, PV.sk, scalBin, scalUn, intBin, opLoad, natOf, opConvert, opField, cellsP, oneP, Value.oneCell', opStore, toIV, scalT, scalA, scalC, boxesA, boxesC, zipB_none, zipB_mx, isZ, opZip, zeroP, opAppendZ, opMakeMap, opLookup, mboxB, opUpdate, ↓reduceIte, Nat.reduceSub, Nat.reduceEqDiff, Nat.reduceAdd, Nat.reduceMul, Nat.reduceLT, Nat.reduceLeDiff, Int.reduceToNat, Int.reduceLE, Int.reduceLT, Int.reduceNeg, reduceCtorEq, gos, Int.reduceAdd, Int.reduceSub, Int.reduceMul, Int.reduceEq, b1, b2])
    refine X_dcall_w (args := [takenP P R C l (rw0, cw, cc, uu) vs, .view ((6, 2) :: base) 0 1 C C, .i (.l rw0.length (Z.map iu))]) ((6, 2) :: base) k2 rfl (by simp only [tys]) rfl (by rw [← ez]; exact Heap.put_same _ _ _) (by simp [boxesA, boxesC]) (by simp [mapO, lowerW, isV, reV, boxesA, boxesC, lowerA, lowerC]) rfl (by simp [xl, zeroV_len]) ?_
    rw [show (List.filter (notB ((6, 2) :: base)) (List.flatMap boxesA [takenP P R C l (rw0, cw, cc, uu) vs, .view ((6, 2) :: base) 0 1 C C, .i (.l rw0.length (Z.map iu))])) = [] by simp [boxesA, boxesC, notB]]
    repeat (first | ((first | refine X_call_fn2 rfl (by simp only [tys]) ?_ | refine X_dcall_fn2 rfl (by simp only [tys]) ?_); apply Exists.intro; apply And.intro; (focus (simp -dsimp only [simx, zzC, zzB, tys, ite_self, opnL, callB, callX, readsB, stepOp, nilCmp, ofVal, opBuiltin, opLen, PV.sk, scalBin, scalUn, intBin, opLoad, natOf, opConvert, opField, cellsP, oneP, Value.oneCell', opStore, toIV, scalT, scalA, scalC, boxesA, boxesC, zipB_none, zipB_mx, isZ, opZip, zeroP, opAppendZ, opMakeMap, opLookup, mboxB, opUpdate, ↓reduceIte, Nat.reduceSub, Nat.reduceEqDiff, Nat.reduceAdd, Nat.reduceMul, Nat.reduceLT, Nat.reduceLeDiff, Int.reduceToNat, Int.reduceLE, Int.reduceLT, Int.reduceNeg, reduceCtorEq, zzL, if_true, if_false, List.length_map, xl, nt] <;> rfl)); apply Exists.intro; apply And.intro; (focus (first | exact k3 | exact k4))) | refine X_opc rfl ?_ | refine X_dopc rfl ?_ | refine ⟨(by show drawK _ _ = true; kernel_rfl : drawX _ _ _), ?_⟩ | exact (by show drawK _ _ = true; kernel_rfl : drawX _ _ _) | simp -dsimp (maxSteps := 20000000) (disch := omega) only [simx, zzC, zzB, tys, ite_self, opnL, callB, callX, readsB, stepOp, nilCmp, ofVal, opBuiltin, opLen, PV.sk, scalBin, scalUn, intBin, opLoad, natOf, opConvert, opField, cellsP, oneP, Value.oneCell', opStore, toIV, scalT, scalA, scalC, boxesA, boxesC, zipB_none, zipB_mx, isZ, opZip, zeroP, opAppendZ, opMakeMap, opLookup, mboxB, opUpdate, ↓reduceIte, Nat.reduceSub, Nat.reduceEqDiff, Nat.reduceAdd, Nat.reduceMul, Nat.reduceLT, Nat.reduceLeDiff, Int.reduceToNat, Int.reduceLE, Int.reduceLT, Int.reduceNeg, reduceCtorEq, zzR, gos, Int.reduceAdd, Int.reduceSub, Int.reduceMul, Int.reduceEq, List.length_map, xl, nt])
    simp [xl]
  · rw [decide_eq_false hx] at k4
    rw [if_neg hx]
    refine X_startP (n := 49) (m := 3) (rs := [.tmp 6, .tmp 7]) Try.func15 rfl rfl rfl rfl (by decide) fun base => ?_
    repeat (first | ((first | refine X_call_fn2 rfl (by simp only [tys]) ?_ | refine X_dcall_fn2 rfl (by simp only [tys]) ?_); apply Exists.intro; apply And.intro; (focus (simp -dsimp only [simx, zzC, zzB, tys, ite_self, opnL, callB, callX, readsB, stepOp, nilCmp, ofVal, opBuiltin, opLen, PV.sk, scalBin, scalUn, intBin, opLoad, natOf, opConvert, opField, cellsP, oneP, Value.oneCell', opStore, toIV, scalT, scalA, scalC, boxesA, boxesC, zipB_none, zipB_mx, isZ, opZip, zeroP, opAppendZ, opMakeMap, opLookup, mboxB, opUpdate, ↓reduceIte, Nat.reduceSub, Nat.reduceEqDiff, Nat.reduceAdd, Nat.reduceMul, Nat.reduceLT, Nat.reduceLeDiff, Int.reduceToNat, Int.reduceLE, Int.reduceLT, Int.reduceNeg, reduceCtorEq, zzL, if_true, if_false] <;> rfl)); apply Exists.intro; apply And.intro; (focus (first | exact q1 | exact q2 | exact k1))) | refine X_opc rfl ?_ | refine X_dopc rfl ?_ | refine ⟨(by show drawK _ _ = true; kernel_rfl : drawX _ _ _), ?_⟩ | exact (by show drawK _ _ = true; kernel_rfl : drawX _ _ _) | simp -dsimp (maxSteps := 20000000) (disch := omega) only [simx, zzC, zzB, tys, ite_self, opnL, callB, callX, readsB, stepOp, nilCmp, ofVal, opBuiltin, opLen, PV.sk, scalBin, scalUn, intBin, opLoad, natOf, opConvert, opField, cellsP, oneP, Value.oneCell', opStore, toIV, scalT, scalA, scalC, boxesA, boxesC, zipB_none, zipB_mx, isZ, opZip, zeroP, opAppendZ, opMakeMap, opLookup, mboxB, opUpdate, ↓reduceIte, Nat.reduceSub, Nat.reduceEqDiff, Nat.reduceAdd, Nat.reduceMul, Nat.reduceLT, Nat.reduceLeDiff, Int.reduceToNat, Int.reduceLE, Int.reduceLT, Int.reduceNeg, reduceCtorEq, gos, Int.reduceAdd, Int.reduceSub, Int.reduceMul, Int.reduceEq, b1, b2])
    refine X_dcall_w (args := [takenP P R C l (rw0, cw, cc, uu) vs, .view ((6, 2) :: base) 0 1 C C, .i (.l rw0.length (Z.map iu))]) ((6, 2) :: base) k2 rfl (by simp only [tys]) rfl (by rw [← ez]; exact Heap.put_same _ _ _) (by simp [boxesA, boxesC]) (by simp [mapO, lowerW, isV, reV, boxesA, boxesC, lowerA, lowerC]) rfl (by simp [xl, zeroV_len]) ?_
    rw [show (List.filter (notB ((6, 2) :: base)) (List.flatMap boxesA [takenP P R C l (rw0, cw, cc, uu) vs, .view ((6, 2) :: base) 0 1 C C, .i (.l rw0.length (Z.map iu))])) = [] by simp [boxesA, boxesC, notB]]
    repeat (first | ((first | refine X_call_fn2 rfl (by simp only [tys]) ?_ | refine X_dcall_fn2 rfl (by simp only [tys]) ?_); apply Exists.intro; apply And.intro; (focus (simp -dsimp only [simx, zzC, zzB, tys, ite_self, opnL, callB, callX, readsB, stepOp, nilCmp, ofVal, opBuiltin, opLen, PV.sk, scalBin, scalUn, intBin, opLoad, natOf, opConvert, opField, cellsP, oneP, Value.oneCell', opStore, toIV, scalT, scalA, scalC, boxesA, boxesC, zipB_none, zipB_mx, isZ, opZip, zeroP, opAppendZ, opMakeMap, opLookup, mboxB, opUpdate, ↓reduceIte, Nat.reduceSub, Nat.reduceEqDiff, Nat.reduceAdd, Nat.reduceMul, Nat.reduceLT, Nat.reduceLeDiff, Int.reduceToNat, Int.reduceLE, Int.reduceLT, Int.reduceNeg, reduceCtorEq, zzL, if_true, if_false, List.length_map, xl, nt] <;> rfl)); apply Exists.intro; apply And.intro; (focus (first | exact k3 | exact k4))) | refine X_opc rfl ?_ | refine X_dopc rfl ?_ | refine ⟨(by show drawK _ _ = true; kernel_rfl : drawX _ _ _), ?_⟩ | exact (by show drawK _ _ = true; kernel_rfl : drawX _ _ _) | simp -dsimp (maxSteps := 20000000) (disch := omega) only [simx, zzC, zzB, tys, ite_self, opnL, callB, callX, readsB, stepOp, nilCmp, ofVal, opBuiltin, opLen, PV.sk, scalBin, scalUn, intBin, opLoad, natOf, opConvert, opField, cellsP, oneP, Value.oneCell', opStore, toIV, scalT, scalA, scalC, boxesA, boxesC, zipB_none, zipB_mx, isZ, opZip, zeroP, opAppendZ, opMakeMap, opLookup, mboxB, opUpdate, ↓reduceIte, Nat.reduceSub, Nat.reduceEqDiff, Nat.reduceAdd, Nat.reduceMul, Nat.reduceLT, Nat.reduceLeDiff, Int.reduceToNat, Int.reduceLE, Int.reduceLT, Int.reduceNeg, reduceCtorEq, zzR, gos, Int.reduceAdd, Int.reduceSub, Int.reduceMul, Int.reduceEq, List.length_map, xl, nt])
    rfl
end Go.Proofs.Ythnfphgjfpcpbaa.TM
namespace Go.Proofs.Ythnfphgjfpcpbaa.TM
open Go Go.RowKit
set_option linter.unusedVariables false
set_option linter.defProp false
set_option linter.unusedSimpArgs false
attribute [local irreducible] K W WOps Effs Xg Xo Xr Xdg Xdo Xdr Xif CallsP CallR
theorem left8_yes {P R C : Nat} {l : List Int} (hP : Prm P) (M : Mt P R C l) (hin : ∀ a ∈ l, In P a) :
    CallsP Try.prog 18 [u64 P, matP R C l] (.tup [lu (fstR P R (tkCup P C R l) (fun _ => true)).1, i64 (fstR P R (tkCup P C R l) (fun _ => true)).2]) := by
  have hp := M.hp
  have q2 := take8_yes hP M hin
  have hw := tkCup_W hP M hin
  have vi := invsT_in hP hp hw
  have k1 := fun (b0 : Name) (h : Heap) h0 => firstL_walk (base := b0) (h := h) (l := l) (vs := invsT P (tkCup P C R l)) hp hw M.r2 h0
  unfold fstR
  unfold fstP at k1
  generalize invsT P (tkCup P C R l) = vs at q2 vi k1
  generalize tkCup P C R l = c at q2 hw k1 ⊢
  obtain ⟨rw0, cw, cc, uu⟩ := c
  simp only at k1 ⊢
  cases hf : fstI rw0 (fun i => true) R with
  | none =>
    rw [hf] at k1
    simp only at k1 ⊢
    refine X_startP (n := 21) (m := 2) (rs := [.tmp 4, .tmp 5]) Try.func18 rfl rfl rfl rfl (by decide) fun base => ?_
    repeat (first | ((first | refine X_call_fn2 rfl (by simp only [tys]) ?_ | refine X_dcall_fn2 rfl (by simp only [tys]) ?_); apply Exists.intro; apply And.intro; (focus (simp -dsimp only [simx, zzC, zzB, tys, ite_self, opnL, callB, callX, readsB, stepOp, nilCmp, ofVal, opBuiltin, opLen, PV.sk, scalBin, scalUn, intBin, opLoad, natOf, opConvert, opField, cellsP, oneP, Value.oneCell', opStore, toIV, scalT, scalA, scalC, boxesA, boxesC, zipB_none, zipB_mx, isZ, opZip, zeroP, opAppendZ, opMakeMap, opLookup, mboxB, opUpdate, ↓reduceIte, Nat.reduceSub, Nat.reduceEqDiff, Nat.reduceAdd, Nat.reduceMul, Nat.reduceLT, Nat.reduceLeDiff, Int.reduceToNat, Int.reduceLE, Int.reduceLT, Int.reduceNeg, reduceCtorEq, zzL, if_true, if_false] <;> rfl)); apply Exists.intro; apply And.intro; (focus (first | exact q2))) | refine X_opc rfl ?_ | refine X_dopc rfl ?_ | refine ⟨(by show drawK _ _ = true; kernel_rfl : drawX _ _ _), ?_⟩ | exact (by show drawK _ _ = true; kernel_rfl : drawX _ _ _) | simp -dsimp (maxSteps := 20000000) (disch := omega) only [simx, zzC, zzB, tys, ite_self, opnL, callB, callX, readsB, stepOp, nilCmp, ofVal, opBuiltin, opLen, PV.sk, scalBin, scalUn, intBin, opLoad, natOf, opConvert, opField, cellsP, oneP, Value.oneCell', opStore, toIV, scalT, scalA, scalC, boxesA, boxesC, zipB_none, zipB_mx, isZ, opZip, zeroP, opAppendZ, opMakeMap, opLookup, mboxB, opUpdate, ↓reduceIte, Nat.reduceSub, Nat.reduceEqDiff, Nat.reduceAdd, Nat.reduceMul, Nat.reduceLT, Nat.reduceLeDiff, Int.reduceToNat, Int.reduceLE, Int.reduceLT, Int.reduceNeg, reduceCtorEq, gos, Int.reduceAdd, Int.reduceSub, Int.reduceMul, Int.reduceEq])
    refine X_call_sh rfl (by simp only [tys]) rfl (k1 _ _ (by simp [Heap.put_at, Heap.none_at])) ?_
    repeat (first | refine X_opc rfl ?_ | refine X_dopc rfl ?_ | refine ⟨(by show drawK _ _ = true; kernel_rfl : drawX _ _ _), ?_⟩ | exact (by show drawK _ _ = true; kernel_rfl : drawX _ _ _) | simp -dsimp (maxSteps := 20000000) (disch := omega) only [simx, zzC, zzB, tys, ite_self, opnL, callB, callX, readsB, stepOp, nilCmp, ofVal, opBuiltin, opLen, PV.sk, scalBin, scalUn, intBin, opLoad, natOf, opConvert, opField, cellsP, oneP, Value.oneCell', opStore, toIV, scalT, scalA, scalC, boxesA, boxesC, zipB_none, zipB_mx, isZ, opZip, zeroP, opAppendZ, opMakeMap, opLookup, mboxB, opUpdate, ↓reduceIte, Nat.reduceSub, Nat.reduceEqDiff, Nat.reduceAdd, Nat.reduceMul, Nat.reduceLT, Nat.reduceLeDiff, Int.reduceToNat, Int.reduceLE, Int.reduceLT, Int.reduceNeg, reduceCtorEq, zzR, gos, Int.reduceAdd, Int.reduceSub, Int.reduceMul, Int.reduceEq])
    rfl
  | some i =>
    rw [hf] at k1
    simp only at k1 ⊢
    refine X_startP (n := 21) (m := 2) (rs := [.tmp 4, .tmp 5]) Try.func18 rfl rfl rfl rfl (by decide) fun base => ?_
    repeat (first | ((first | refine X_call_fn2 rfl (by simp only [tys]) ?_ | refine X_dcall_fn2 rfl (by simp only [tys]) ?_); apply Exists.intro; apply And.intro; (focus (simp -dsimp only [simx, zzC, zzB, tys, ite_self, opnL, callB, callX, readsB, stepOp, nilCmp, ofVal, opBuiltin, opLen, PV.sk, scalBin, scalUn, intBin, opLoad, natOf, opConvert, opField, cellsP, oneP, Value.oneCell', opStore, toIV, scalT, scalA, scalC, boxesA, boxesC, zipB_none, zipB_mx, isZ, opZip, zeroP, opAppendZ, opMakeMap, opLookup, mboxB, opUpdate, ↓reduceIte, Nat.reduceSub, Nat.reduceEqDiff, Nat.reduceAdd, Nat.reduceMul, Nat.reduceLT, Nat.reduceLeDiff, Int.reduceToNat, Int.reduceLE, Int.reduceLT, Int.reduceNeg, reduceCtorEq, zzL, if_true, if_false] <;> rfl)); apply Exists.intro; apply And.intro; (focus (first | exact q2))) | refine X_opc rfl ?_ | refine X_dopc rfl ?_ | refine ⟨(by show drawK _ _ = true; kernel_rfl : drawX _ _ _), ?_⟩ | exact (by show drawK _ _ = true; kernel_rfl : drawX _ _ _) | simp -dsimp (maxSteps := 20000000) (disch := omega) only [simx, zzC, zzB, tys, ite_self, opnL, callB, callX, readsB, stepOp, nilCmp, ofVal, opBuiltin, opLen, PV.sk, scalBin, scalUn, intBin, opLoad, natOf, opConvert, opField, cellsP, oneP, Value.oneCell', opStore, toIV, scalT, scalA, scalC, boxesA, boxesC, zipB_none, zipB_mx, isZ, opZip, zeroP, opAppendZ, opMakeMap, opLookup, mboxB, opUpdate, ↓reduceIte, Nat.reduceSub, Nat.reduceEqDiff, Nat.reduceAdd, Nat.reduceMul, Nat.reduceLT, Nat.reduceLeDiff, Int.reduceToNat, Int.reduceLE, Int.reduceLT, Int.reduceNeg, reduceCtorEq, gos, Int.reduceAdd, Int.reduceSub, Int.reduceMul, Int.reduceEq])
    refine X_call_sh rfl (by simp only [tys]) rfl (k1 _ _ (by simp [Heap.put_at, Heap.none_at])) ?_
    repeat (first | refine X_opc rfl ?_ | refine X_dopc rfl ?_ | refine ⟨(by show drawK _ _ = true; kernel_rfl : drawX _ _ _), ?_⟩ | exact (by show drawK _ _ = true; kernel_rfl : drawX _ _ _) | simp -dsimp (maxSteps := 20000000) (disch := omega) only [simx, zzC, zzB, tys, ite_self, opnL, callB, callX, readsB, stepOp, nilCmp, ofVal, opBuiltin, opLen, PV.sk, scalBin, scalUn, intBin, opLoad, natOf, opConvert, opField, cellsP, oneP, Value.oneCell', opStore, toIV, scalT, scalA, scalC, boxesA, boxesC, zipB_none, zipB_mx, isZ, opZip, zeroP, opAppendZ, opMakeMap, opLookup, mboxB, opUpdate, ↓reduceIte, Nat.reduceSub, Nat.reduceEqDiff, Nat.reduceAdd, Nat.reduceMul, Nat.reduceLT, Nat.reduceLeDiff, Int.reduceToNat, Int.reduceLE, Int.reduceLT, Int.reduceNeg, reduceCtorEq, zzR, gos, Int.reduceAdd, Int.reduceSub, Int.reduceMul, Int.reduceEq])
theorem rows8_yes {P R C : Nat} {l : List Int} (hP : Prm P) (M : Mt P R C l) (hin : ∀ a ∈ l, In P a) (i : Int) :
    CallsP Try.prog 19 [u64 P, matP R C l, i64 i] (if i < 0 ∨ (R : Int) ≤ i then .tup [lu [], i64 1] else if i ∈ (tkCup P C R l).1 then .tup [lu [], i64 6] else .tup [lu (rowsV P R (tkCup P C R l) i.toNat), i64 0]) := by
  have hp := M.hp
  have q2 := take8_yes hP M hin
  have hw := tkCup_W hP M hin
  have rle := hw.rle
  have r2 := M.r2
  have k1 := containsI_walk (tkCup P C R l).1 i (by rw [mx_len]; omega)
  have k2 := fun (j : Nat) (hj : j < R) => rowsV_walk (l := l) (vs := invsT P (tkCup P C R l)) (i := j) hp hw M.r2 hj
  generalize invsT P (tkCup P C R l) = vs at q2 k2
  generalize tkCup P C R l = c at q2 hw k1 k2 ⊢
  obtain ⟨rw0, cw, cc, uu⟩ := c
  simp only at k1 k2 ⊢
  by_cases h1 : i < 0
  · rw [if_pos (.inl h1)]
    refine X_startP (n := 42) (m := 3) (rs := [.tmp 6, .tmp 7]) Try.func19 rfl rfl rfl rfl (by decide) fun base => ?_
    repeat (first | ((first | refine X_call_fn2 rfl (by simp only [tys]) ?_ | refine X_dcall_fn2 rfl (by simp only [tys]) ?_); apply Exists.intro; apply And.intro; (focus (simp -dsimp only [simx, zzC, zzB, tys, ite_self, opnL, callB, callX, readsB, stepOp, nilCmp, ofVal, opBuiltin, opLen, PV.sk, scalBin, scalUn, intBin, opLoad, natOf, opConvert, opField, cellsP, oneP, Value.oneCell', opStore, toIV, scalT, scalA, scalC, boxesA, boxesC, zipB_none, zipB_mx, isZ, opZip, zeroP, opAppendZ, opMakeMap, opLookup, mboxB, opUpdate, ↓reduceIte, Nat.reduceSub, Nat.reduceEqDiff, Nat.reduceAdd, Nat.reduceMul, Nat.reduceLT, Nat.reduceLeDiff, Int.reduceToNat, Int.reduceLE, Int.reduceLT, Int.reduceNeg, reduceCtorEq, zzL, if_true, if_false] <;> rfl)); apply Exists.intro; apply And.intro; (focus (first | exact q2))) | refine X_opc rfl ?_ | refine X_dopc rfl ?_ | refine ⟨(by show drawK _ _ = true; kernel_rfl : drawX _ _ _), ?_⟩ | exact (by show drawK _ _ = true; kernel_rfl : drawX _ _ _) | simp -dsimp (maxSteps := 20000000) (disch := omega) only [simx, zzC, zzB, tys, ite_self, opnL, callB, callX, readsB, stepOp, nilCmp, ofVal, opBuiltin, opLen, PV.sk, scalBin, scalUn, intBin, opLoad, natOf, opConvert, opField, cellsP, oneP, Value.oneCell', opStore, toIV, scalT, scalA, scalC, boxesA, boxesC, zipB_none, zipB_mx, isZ, opZip, zeroP, opAppendZ, opMakeMap, opLookup, mboxB, opUpdate, ↓reduceIte, Nat.reduceSub, Nat.reduceEqDiff, Nat.reduceAdd, Nat.reduceMul, Nat.reduceLT, Nat.reduceLeDiff, Int.reduceToNat, Int.reduceLE, Int.reduceLT, Int.reduceNeg, reduceCtorEq, zzR, gos, Int.reduceAdd, Int.reduceSub, Int.reduceMul, Int.reduceEq, h1])
    rfl
  · by_cases h2 : (R : Int) ≤ i
    · rw [if_pos (.inr h2)]
      refine X_startP (n := 42) (m := 3) (rs := [.tmp 6, .tmp 7]) Try.func19 rfl rfl rfl rfl (by decide) fun base => ?_
      repeat (first | ((first | refine X_call_fn2 rfl (by simp only [tys]) ?_ | refine X_dcall_fn2 rfl (by simp only [tys]) ?_); apply Exists.intro; apply And.intro; (focus (simp -dsimp only [simx, zzC, zzB, tys, ite_self, opnL, callB, callX, readsB, stepOp, nilCmp, ofVal, opBuiltin, opLen, PV.sk, scalBin, scalUn, intBin, opLoad, natOf, opConvert, opField, cellsP, oneP, Value.oneCell', opStore, toIV, scalT, scalA, scalC, boxesA, boxesC, zipB_none, zipB_mx, isZ, opZip, zeroP, opAppendZ, opMakeMap, opLookup, mboxB, opUpdate, ↓reduceIte, Nat.reduceSub, Nat.reduceEqDiff, Nat.reduceAdd, Nat.reduceMul, Nat.reduceLT, Nat.reduceLeDiff, Int.reduceToNat, Int.reduceLE, Int.reduceLT, Int.reduceNeg, reduceCtorEq, zzL, if_true, if_false] <;> rfl)); apply Exists.intro; apply And.intro; (focus (first | exact q2))) | refine X_opc rfl ?_ | refine X_dopc rfl ?_ | refine ⟨(by show drawK _ _ = true; kernel_rfl : drawX _ _ _), ?_⟩ | exact (by show drawK _ _ = true; kernel_rfl : drawX _ _ _) | simp -dsimp (maxSteps := 20000000) (disch := omega) only [simx, zzC, zzB, tys, ite_self, opnL, callB, callX, readsB, stepOp, nilCmp, ofVal, opBuiltin, opLen, PV.sk, scalBin, scalUn, intBin, opLoad, natOf, opConvert, opField, cellsP, oneP, Value.oneCell', opStore, toIV, scalT, scalA, scalC, boxesA, boxesC, zipB_none, zipB_mx, isZ, opZip, zeroP, opAppendZ, opMakeMap, opLookup, mboxB, opUpdate, ↓reduceIte, Nat.reduceSub, Nat.reduceEqDiff, Nat.reduceAdd, Nat.reduceMul, Nat.reduceLT, Nat.reduceLeDiff, Int.reduceToNat, Int.reduceLE, Int.reduceLT, Int.reduceNeg, reduceCtorEq, zzR, gos, Int.reduceAdd, Int.reduceSub, Int.reduceMul, Int.reduceEq, h1, h2])
      rfl
    · rw [if_neg (by omega)]
      by_cases h3 : i ∈ rw0
      · rw [decide_eq_true h3] at k1
        rw [if_pos h3]
        refine X_startP (n := 42) (m := 3) (rs := [.tmp 6, .tmp 7]) Try.func19 rfl rfl rfl rfl (by decide) fun base => ?_
        repeat (first | ((first | refine X_call_fn2 rfl (by simp only [tys]) ?_ | refine X_dcall_fn2 rfl (by simp only [tys]) ?_); apply Exists.intro; apply And.intro; (focus (simp -dsimp only [simx, zzC, zzB, tys, ite_self, opnL, callB, callX, readsB, stepOp, nilCmp, ofVal, opBuiltin, opLen, PV.sk, scalBin, scalUn, intBin, opLoad, natOf, opConvert, opField, cellsP, oneP, Value.oneCell', opStore, toIV, scalT, scalA, scalC, boxesA, boxesC, zipB_none, zipB_mx, isZ, opZip, zeroP, opAppendZ, opMakeMap, opLookup, mboxB, opUpdate, ↓reduceIte, Nat.reduceSub, Nat.reduceEqDiff, Nat.reduceAdd, Nat.reduceMul, Nat.reduceLT, Nat.reduceLeDiff, Int.reduceToNat, Int.reduceLE, Int.reduceLT, Int.reduceNeg, reduceCtorEq, zzL, if_true, if_false] <;> rfl)); apply Exists.intro; apply And.intro; (focus (first | exact q2 | exact k1))) | refine X_opc rfl ?_ | refine X_dopc rfl ?_ | refine ⟨(by show drawK _ _ = true; kernel_rfl : drawX _ _ _), ?_⟩ | exact (by show drawK _ _ = true; kernel_rfl : drawX _ _ _) | simp -dsimp (maxSteps := 20000000) (disch := omega) only [simx, zzC, zzB, tys, ite_self, opnL, callB, callX, readsB, stepOp, nilCmp, ofVal, opBuiltin, opLen, PV.sk, scalBin, scalUn, intBin, opLoad, natOf, opConvert, opField, cellsP, oneP, Value.oneCell', opStore, toIV, scalT, scalA, scalC, boxesA, boxesC, zipB_none, zipB_mx, isZ, opZip, zeroP, opAppendZ, opMakeMap, opLookup, mboxB, opUpdate, ↓reduceIte, Nat.reduceSub, Nat.reduceEqDiff, Nat.reduceAdd, Nat.reduceMul, Nat.reduceLT, Nat.reduceLeDiff, Int.reduceToNat, Int.reduceLE, Int.reduceLT, Int.reduceNeg, reduceCtorEq, zzR, gos, Int.reduceAdd, Int.reduceSub, Int.reduceMul, Int.reduceEq, h1, h2])
        rfl
      · rw [decide_eq_false h3] at k1
        rw [if_neg h3]
        have k2 := k2 i.toNat (by omega)
        rw [show ((i.toNat : Nat) : Int) = i by omega] at k2
        refine X_startP (n := 42) (m := 3) (rs := [.tmp 6, .tmp 7]) Try.func19 rfl rfl rfl rfl (by decide) fun base => ?_
        repeat (first | ((first | refine X_call_fn2 rfl (by simp only [tys]) ?_ | refine X_dcall_fn2 rfl (by simp only [tys]) ?_); apply Exists.intro; apply And.intro; (focus (simp -dsimp only [simx, zzC, zzB, tys, ite_self, opnL, callB, callX, readsB, stepOp, nilCmp, ofVal, opBuiltin, opLen, PV.sk, scalBin, scalUn, intBin, opLoad, natOf, opConvert, opField, cellsP, oneP, Value.oneCell', opStore, toIV, scalT, scalA, scalC, boxesA, boxesC, zipB_none, zipB_mx, isZ, opZip, zeroP, opAppendZ, opMakeMap, opLookup, mboxB, opUpdate, ↓reduceIte, Nat.reduceSub, Nat.reduceEqDiff, Nat.reduceAdd, Nat.reduceMul, Nat.reduceLT, Nat.reduceLeDiff, Int.reduceToNat, Int.reduceLE, Int.reduceLT, Int.reduceNeg, reduceCtorEq, zzL, if_true, if_false] <;> rfl)); apply Exists.intro; apply And.intro; (focus (first | exact q2 | exact k1 | exact k2))) | refine X_opc rfl ?_ | refine X_dopc rfl ?_ | refine ⟨(by show drawK _ _ = true; kernel_rfl : drawX _ _ _), ?_⟩ | exact (by show drawK _ _ = true; kernel_rfl : drawX _ _ _) | simp -dsimp (maxSteps := 20000000) (disch := omega) only [simx, zzC, zzB, tys, ite_self, opnL, callB, callX, readsB, stepOp, nilCmp, ofVal, opBuiltin, opLen, PV.sk, scalBin, scalUn, intBin, opLoad, natOf, opConvert, opField, cellsP, oneP, Value.oneCell', opStore, toIV, scalT, scalA, scalC, boxesA, boxesC, zipB_none, zipB_mx, isZ, opZip, zeroP, opAppendZ, opMakeMap, opLookup, mboxB, opUpdate, ↓reduceIte, Nat.reduceSub, Nat.reduceEqDiff, Nat.reduceAdd, Nat.reduceMul, Nat.reduceLT, Nat.reduceLeDiff, Int.reduceToNat, Int.reduceLE, Int.reduceLT, Int.reduceNeg, reduceCtorEq, zzR, gos, Int.reduceAdd, Int.reduceSub, Int.reduceMul, Int.reduceEq, h1, h2])
theorem against8_yes {P R C : Nat} {l b : List Int} (hP : Prm P) (M : Mt P R C l) (hin : ∀ a ∈ l, In P a) (hb : ∀ a ∈ b, In P a) (hbl : b.length = R) :
    CallsP Try.prog 16 [u64 P, matP R C l, lu b] (.tup [lu (fstR P R (tkCup P C R l) (fun y => dotNz P y b)).1, i64 (fstR P R (tkCup P C R l) (fun y => dotNz P y b)).2]) := by
  have hp := M.hp
  have r2 := M.r2
  have q1 := vector_walk P b R (by rw [hbl, mx_len]; omega)
  rw [(has_iff _ _).2 ⟨fun x hx => (hb x hx).2, hp.1, hp.2⟩, decide_eq_true (show (b.length : Int) = R by omega)] at q1
  have q2 := take8_yes hP M hin
  have hw := tkCup_W hP M hin
  have k1 := fun (b0 b1 b2 : Name) (h : Heap) h0 h1 h2 n1 n2 => firstA_walk (base := b0) (h := h) (b1 := b1) (b2 := b2) (l := l) (vs := invsT P (tkCup P C R l)) (b := b) hp hw M.r2 h0 hb hbl h1 h2 n1 n2
  unfold fstR
  unfold fstP at k1
  generalize invsT P (tkCup P C R l) = vs at q2 k1
  generalize tkCup P C R l = c at q2 hw k1 ⊢
  obtain ⟨rw0, cw, cc, uu⟩ := c
  simp only at k1 ⊢
  cases hf : fstI rw0 (fun i => dotNz P (rowsV P R (rw0, cw, cc, uu) i) b) R with
  | none =>
    rw [hf] at k1
    simp only at k1 ⊢
    refine X_startP (n := 30) (m := 3) (rs := [.tmp 6, .tmp 7]) Try.func16 rfl rfl rfl rfl (by decide) fun base => ?_
    repeat (first | ((first | refine X_call_fn2 rfl (by simp only [tys]) ?_ | refine X_dcall_fn2 rfl (by simp only [tys]) ?_); apply Exists.intro; apply And.intro; (focus (simp -dsimp only [simx, zzC, zzB, tys, ite_self, opnL, callB, callX, readsB, stepOp, nilCmp, ofVal, opBuiltin, opLen, PV.sk, scalBin, scalUn, intBin, opLoad, natOf, opConvert, opField, cellsP, oneP, Value.oneCell', opStore, toIV, scalT, scalA, scalC, boxesA, boxesC, zipB_none, zipB_mx, isZ, opZip, zeroP, opAppendZ, opMakeMap, opLookup, mboxB, opUpdate, ↓reduceIte, Nat.reduceSub, Nat.reduceEqDiff, Nat.reduceAdd, Nat.reduceMul, Nat.reduceLT, Nat.reduceLeDiff, Int.reduceToNat, Int.reduceLE, Int.reduceLT, Int.reduceNeg, reduceCtorEq, zzL, if_true, if_false] <;> rfl)); apply Exists.intro; apply And.intro; (focus (first | exact q1 | exact q2))) | refine X_opc rfl ?_ | refine X_dopc rfl ?_ | refine ⟨(by show drawK _ _ = true; kernel_rfl : drawX _ _ _), ?_⟩ | exact (by show drawK _ _ = true; kernel_rfl : drawX _ _ _) | simp -dsimp (maxSteps := 20000000) (disch := omega) only [simx, zzC, zzB, tys, ite_self, opnL, callB, callX, readsB, stepOp, nilCmp, ofVal, opBuiltin, opLen, PV.sk, scalBin, scalUn, intBin, opLoad, natOf, opConvert, opField, cellsP, oneP, Value.oneCell', opStore, toIV, scalT, scalA, scalC, boxesA, boxesC, zipB_none, zipB_mx, isZ, opZip, zeroP, opAppendZ, opMakeMap, opLookup, mboxB, opUpdate, ↓reduceIte, Nat.reduceSub, Nat.reduceEqDiff, Nat.reduceAdd, Nat.reduceMul, Nat.reduceLT, Nat.reduceLeDiff, Int.reduceToNat, Int.reduceLE, Int.reduceLT, Int.reduceNeg, reduceCtorEq, gos, Int.reduceAdd, Int.reduceSub, Int.reduceMul, Int.reduceEq])
    refine X_call_sh rfl (by simp only [tys]) rfl (k1 _ ((0, 0) :: base) ((0, 2) :: base) _ (by simp [Heap.put_at, Heap.none_at]) (by simp [Heap.put_at, Heap.none_at]) (by simp [Heap.put_at, Heap.none_at]) (by simp) (by simp)) ?_
    repeat (first | refine X_opc rfl ?_ | refine X_dopc rfl ?_ | refine ⟨(by show drawK _ _ = true; kernel_rfl : drawX _ _ _), ?_⟩ | exact (by show drawK _ _ = true; kernel_rfl : drawX _ _ _) | simp -dsimp (maxSteps := 20000000) (disch := omega) only [simx, zzC, zzB, tys, ite_self, opnL, callB, callX, readsB, stepOp, nilCmp, ofVal, opBuiltin, opLen, PV.sk, scalBin, scalUn, intBin, opLoad, natOf, opConvert, opField, cellsP, oneP, Value.oneCell', opStore, toIV, scalT, scalA, scalC, boxesA, boxesC, zipB_none, zipB_mx, isZ, opZip, zeroP, opAppendZ, opMakeMap, opLookup, mboxB, opUpdate, ↓reduceIte, Nat.reduceSub, Nat.reduceEqDiff, Nat.reduceAdd, Nat.reduceMul, Nat.reduceLT, Nat.reduceLeDiff, Int.reduceToNat, Int.reduceLE, Int.reduceLT, Int.reduceNeg, reduceCtorEq, zzR, gos, Int.reduceAdd, Int.reduceSub, Int.reduceMul, Int.reduceEq])
    rfl
  | some i =>
    rw [hf] at k1
    simp only at k1 ⊢
    refine X_startP (n := 30) (m := 3) (rs := [.tmp 6, .tmp 7]) Try.func16 rfl rfl rfl rfl (by decide) fun base => ?_
    repeat (first | ((first | refine X_call_fn2 rfl (by simp only [tys]) ?_ | refine X_dcall_fn2 rfl (by simp only [tys]) ?_); apply Exists.intro; apply And.intro; (focus (simp -dsimp only [simx, zzC, zzB, tys, ite_self, opnL, callB, callX, readsB, stepOp, nilCmp, ofVal, opBuiltin, opLen, PV.sk, scalBin, scalUn, intBin, opLoad, natOf, opConvert, opField, cellsP, oneP, Value.oneCell', opStore, toIV, scalT, scalA, scalC, boxesA, boxesC, zipB_none, zipB_mx, isZ, opZip, zeroP, opAppendZ, opMakeMap, opLookup, mboxB, opUpdate, ↓reduceIte, Nat.reduceSub, Nat.reduceEqDiff, Nat.reduceAdd, Nat.reduceMul, Nat.reduceLT, Nat.reduceLeDiff, Int.reduceToNat, Int.reduceLE, Int.reduceLT, Int.reduceNeg, reduceCtorEq, zzL, if_true, if_false] <;> rfl)); apply Exists.intro; apply And.intro; (focus (first | exact q1 | exact q2))) | refine X_opc rfl ?_ | refine X_dopc rfl ?_ | refine ⟨(by show drawK _ _ = true; kernel_rfl : drawX _ _ _), ?_⟩ | exact (by show drawK _ _ = true; kernel_rfl : drawX _ _ _) | simp -dsimp (maxSteps := 20000000) (disch := omega) only [simx, zzC, zzB, tys, ite_self, opnL, callB, callX, readsB, stepOp, nilCmp, ofVal, opBuiltin, opLen, PV.sk, scalBin, scalUn, intBin, opLoad, natOf, opConvert, opField, cellsP, oneP, Value.oneCell', opStore, toIV, scalT, scalA, scalC, boxesA, boxesC, zipB_none, zipB_mx, isZ, opZip, zeroP, opAppendZ, opMakeMap, opLookup, mboxB, opUpdate, ↓reduceIte, Nat.reduceSub, Nat.reduceEqDiff, Nat.reduceAdd, Nat.reduceMul, Nat.reduceLT, Nat.reduceLeDiff, Int.reduceToNat, Int.reduceLE, Int.reduceLT, Int.reduceNeg, reduceCtorEq, gos, Int.reduceAdd, Int.reduceSub, Int.reduceMul, Int.reduceEq])
    refine X_call_sh rfl (by simp only [tys]) rfl (k1 _ ((0, 0) :: base) ((0, 2) :: base) _ (by simp [Heap.put_at, Heap.none_at]) (by simp [Heap.put_at, Heap.none_at]) (by simp [Heap.put_at, Heap.none_at]) (by simp) (by simp)) ?_
    repeat (first | refine X_opc rfl ?_ | refine X_dopc rfl ?_ | refine ⟨(by show drawK _ _ = true; kernel_rfl : drawX _ _ _), ?_⟩ | exact (by show drawK _ _ = true; kernel_rfl : drawX _ _ _) | simp -dsimp (maxSteps := 20000000) (disch := omega) only [simx, zzC, zzB, tys, ite_self, opnL, callB, callX, readsB, stepOp, nilCmp, ofVal, opBuiltin, opLen, PV.sk, scalBin, scalUn, intBin, opLoad, natOf, opConvert, opField, cellsP, oneP, Value.oneCell', opStore, toIV, scalT, scalA, scalC, boxesA, boxesC, zipB_none, zipB_mx, isZ, opZip, zeroP, opAppendZ, opMakeMap, opLookup, mboxB, opUpdate, ↓reduceIte, Nat.reduceSub, Nat.reduceEqDiff, Nat.reduceAdd, Nat.reduceMul, Nat.reduceLT, Nat.reduceLeDiff, Int.reduceToNat, Int.reduceLE, Int.reduceLT, Int.reduceNeg, reduceCtorEq, zzR, gos, Int.reduceAdd, Int.reduceSub, Int.reduceMul, Int.reduceEq])
end Go.Proofs.Ythnfphgjfpcpbaa.TM
namespace Go.Proofs.Ythnfphgjfpcpbaa.TM
open Go Go.RowKit
set_option linter.unusedVariables false
set_option linter.defProp false
set_option linter.unusedSimpArgs false
attribute [local irreducible] K W WOps Effs Xg Xo Xr Xdg Xdo Xdr Xif CallsP CallR
def uniV (n i : Nat) : List Int := tbl n (fun m => if m = i then 1 else 0)
theorem uniV_len (n i : Nat) : (uniV n i).length = n := tbl_len ..
theorem uniV_in {p : Int} (hp : Md p) (n i : Nat) : ∀ a ∈ uniV n i, In p a := fun a ha => by
  obtain ⟨m, _, rfl⟩ := tbl_mem ha
  (try simp only)
  have := hp.1
  split
  · exact ⟨by decide, by omega⟩
  · exact ⟨by decide, by omega⟩
/-- What is 1 at a column that no rest has, and is taken to 0. -/
def kerX (p : Int) (C : Nat) (c : CupT) (f : Nat) : List Int := svL p C c (invsT p c) (zeroV c.1.length) (uniV C f) c.1.length
def freeI (cols : List Int) (C : Nat) : Option Nat := fstI cols (fun _ => true) C
def kernR (p : Int) (C : Nat) (c : CupT) : List Int × Int := match freeI c.2.1 C with
  | some f => (kerX p C c f, 0)
  | none => ([], 6)
set_option maxHeartbeats 4000000 in
theorem kernel8_yes {P R C : Nat} {l : List Int} (hP : Prm P) (M : Mt P R C l) (hin : ∀ a ∈ l, In P a) :
    CallsP Try.prog 17 [u64 P, matP R C l] (.tup [lu (kernR P C (tkCup P C R l)).1, i64 (kernR P C (tkCup P C R l)).2]) := by
  have hp := M.hp
  have r2 := M.r2
  have c2 := M.c2
  have q2 := take8_yes hP M hin
  have hw := tkCup_W hP M hin
  have rle := hw.rle
  have ul := hw.ul
  have ql := hw.ql
  have vi := invsT_in hP hp hw
  have k2 := fun f => solved_walk (l := l) (x := uniV C f) (z := zeroV (tkCup P C R l).1.length) hp hw r2 c2 (uniV_in hp C f) (uniV_len C f) (zeroV_in hp _) (zeroV_len _) vi.1 vi.2
  have xl := fun f => svL_len (p := P) (C := C) (c := tkCup P C R l) (vs := invsT P (tkCup P C R l)) (z := zeroV (tkCup P C R l).1.length) (uniV_len C f) (tkCup P C R l).1.length
  unfold kernR freeI
  have ke : kerX P C (tkCup P C R l) = fun f => svL P C (tkCup P C R l) (invsT P (tkCup P C R l)) (zeroV (tkCup P C R l).1.length) (uniV C f) (tkCup P C R l).1.length := rfl
  rw [← show kerX P C (tkCup P C R l) = fun f => svL P C (tkCup P C R l) (invsT P (tkCup P C R l)) (zeroV (tkCup P C R l).1.length) (uniV C f) (tkCup P C R l).1.length from rfl] at ke
  change ∀ f, CallsW _ _ _ _ _ ((kerX P C (tkCup P C R l) f).map iu) at k2
  change ∀ f, (kerX P C (tkCup P C R l) f).length = C at xl
  clear ke
  generalize kerX P C (tkCup P C R l) = KX at k2 xl ⊢
  generalize invsT P (tkCup P C R l) = vs at q2 k2
  generalize tkCup P C R l = c at q2 hw k2 rle ul ql ⊢
  obtain ⟨rw0, cw, cc, uu⟩ := c
  simp only at k2 rle ul ql ⊢
  have b1 : C * 8 ≤ 140737488355328 := by omega
  have b2 : C ≤ 140737488355328 := by omega
  have b3 : rw0.length * 8 ≤ 140737488355328 := by omega
  have b4 : rw0.length ≤ 140737488355328 := by omega
  have ez : (zeroRow [Value.int .u64 0] C).map IV.v = (zeroV C).map iu := zero_tbl C
  have ez2 : (zeroRow [Value.int .u64 0] rw0.length).map IV.v = (zeroV rw0.length).map iu := zero_tbl _
  have rl : ((zeroRow [Value.int .u64 0] C).map IV.v).length = C := by rw [List.length_map, zeroRow_len]; simp
  have zl2 : ((zeroRow [Value.int .u64 0] rw0.length).map IV.v).length = rw0.length := by rw [List.length_map, zeroRow_len]; simp
  have nz2 : ((zeroRow [Value.int .u64 0] rw0.length).map IV.v).take rw0.length = (zeroRow [Value.int .u64 0] rw0.length).map IV.v := List.take_of_length_le (by omega)
  refine X_startP (n := 46) (m := 2) (rs := [.tmp 4, .tmp 5]) Try.func17 rfl rfl rfl rfl (by decide) fun base => ?_
  repeat (first | ((first | refine X_call_fn2 rfl (by simp only [tys]) ?_ | refine X_dcall_fn2 rfl (by simp only [tys]) ?_); apply Exists.intro; apply And.intro; (focus (simp -dsimp only [simx, zzC, zzB, tys, ite_self, opnL, callB, callX, readsB, stepOp, nilCmp, ofVal, opBuiltin, opLen, PV.sk, scalBin, scalUn, intBin, opLoad, natOf, opConvert, opField, cellsP, oneP, Value.oneCell', opStore, toIV, scalT, scalA, scalC, boxesA, boxesC, zipB_none, zipB_mx, isZ, opZip, zeroP, opAppendZ, opMakeMap, opLookup, mboxB, opUpdate, ↓reduceIte, Nat.reduceSub, Nat.reduceEqDiff, Nat.reduceAdd, Nat.reduceMul, Nat.reduceLT, Nat.reduceLeDiff, Int.reduceToNat, Int.reduceLE, Int.reduceLT, Int.reduceNeg, reduceCtorEq, zzL, if_true, if_false] <;> rfl)); apply Exists.intro; apply And.intro; (focus (first | exact q2))) | refine X_opc rfl ?_ | refine X_dopc rfl ?_ | refine ⟨(by show drawK _ _ = true; kernel_rfl : drawX _ _ _), ?_⟩ | exact (by show drawK _ _ = true; kernel_rfl : drawX _ _ _) | simp -dsimp (maxSteps := 20000000) (disch := omega) only [simx, zzC, zzB, tys, ite_self, opnL, callB, callX, readsB, stepOp, nilCmp, ofVal, opBuiltin, opLen, PV.sk, scalBin, scalUn, intBin, opLoad, natOf, opConvert, opField, cellsP, oneP, Value.oneCell', opStore, toIV, scalT, scalA, scalC, boxesA, boxesC, zipB_none, zipB_mx, isZ, opZip, zeroP, opAppendZ, opMakeMap, opLookup, mboxB, opUpdate, ↓reduceIte, Nat.reduceSub, Nat.reduceEqDiff, Nat.reduceAdd, Nat.reduceMul, Nat.reduceLT, Nat.reduceLeDiff, Int.reduceToNat, Int.reduceLE, Int.reduceLT, Int.reduceNeg, reduceCtorEq, gos, Int.reduceAdd, Int.reduceSub, Int.reduceMul, Int.reduceEq])
  refine X_loopH [3, 6, 20, 21] [] (0) (C) (fun j => ∀ i, i < j → (!decide ((i : Int) ∈ cw) && true) = false) (fun j => [(21, i64 j)]) (fun j => (Heap.none.put ((0, 0) :: base) (.var [i64 R, i64 C, lu l])).put ((1, 6) :: base) (.var [li rw0, li cw, llP cc, llP uu, u64 P, i64 R, i64 C, lu l, lu vs])) ?_ ?_ ?_ ?_ ?_ (by decide) ?_
  · exact (fgt_nil)
  · ((simp -dsimp (disch := omega) only [simx, zzB, tys, ite_self, opnL, callB, callX, readsB, stepOp, nilCmp, ofVal, opBuiltin, opLen, PV.sk, scalBin, scalUn, intBin, opLoad, natOf, opConvert, opField, cellsP, oneP, Value.oneCell', opStore, toIV, scalT, scalA, scalC, boxesA, boxesC, zipB_none, zipB_mx, isZ, opZip, zeroP, opAppendZ, opMakeMap, opLookup, mboxB, opUpdate, ↓reduceIte, Nat.reduceSub, Nat.reduceEqDiff, Nat.reduceAdd, Nat.reduceMul, Nat.reduceLT, Nat.reduceLeDiff, Int.reduceToNat, Int.reduceLE, Int.reduceLT, Int.reduceNeg, reduceCtorEq, gos, Int.reduceAdd, Int.reduceSub, Int.reduceMul, Int.reduceEq]) <;> first | rfl | simp)
  · funext c
    simp (maxSteps := 20000000) only [Heap.drop_at, rowH_app, Heap.put_at, Heap.none_at, List.mem_cons, List.not_mem_nil, or_false]
    by_cases e0 : c = (0, 0) :: base
    · subst e0; simp []
    by_cases e1 : c = (1, 6) :: base
    · subst e1; simp []
    simp [e0, e1]
  · omega
  · intro i hi; omega
  · intro j hj hf
    by_cases cj : j < C
    · have k1 := containsI_walk cw (j : Int) (by rw [mx_len]; omega)
      by_cases cm : (j : Int) ∈ cw
      · rw [decide_eq_true cm] at k1
        repeat (first | ((first | refine X_call_fn2 rfl (by simp only [tys]) ?_ | refine X_dcall_fn2 rfl (by simp only [tys]) ?_); apply Exists.intro; apply And.intro; (focus (simp -dsimp only [simx, zzC, zzB, tys, ite_self, opnL, callB, callX, readsB, stepOp, nilCmp, ofVal, opBuiltin, opLen, PV.sk, scalBin, scalUn, intBin, opLoad, natOf, opConvert, opField, cellsP, oneP, Value.oneCell', opStore, toIV, scalT, scalA, scalC, boxesA, boxesC, zipB_none, zipB_mx, isZ, opZip, zeroP, opAppendZ, opMakeMap, opLookup, mboxB, opUpdate, ↓reduceIte, Nat.reduceSub, Nat.reduceEqDiff, Nat.reduceAdd, Nat.reduceMul, Nat.reduceLT, Nat.reduceLeDiff, Int.reduceToNat, Int.reduceLE, Int.reduceLT, Int.reduceNeg, reduceCtorEq, zzL, if_true, if_false] <;> rfl)); apply Exists.intro; apply And.intro; (focus (first | exact k1))) | refine X_opc rfl ?_ | refine X_dopc rfl ?_ | refine ⟨(by show drawK _ _ = true; kernel_rfl : drawX _ _ _), ?_⟩ | exact (by show drawK _ _ = true; kernel_rfl : drawX _ _ _) | simp -dsimp (maxSteps := 20000000) (disch := omega) only [simx, zzC, zzB, tys, ite_self, opnL, callB, callX, readsB, stepOp, nilCmp, ofVal, opBuiltin, opLen, PV.sk, scalBin, scalUn, intBin, opLoad, natOf, opConvert, opField, cellsP, oneP, Value.oneCell', opStore, toIV, scalT, scalA, scalC, boxesA, boxesC, zipB_none, zipB_mx, isZ, opZip, zeroP, opAppendZ, opMakeMap, opLookup, mboxB, opUpdate, ↓reduceIte, Nat.reduceSub, Nat.reduceEqDiff, Nat.reduceAdd, Nat.reduceMul, Nat.reduceLT, Nat.reduceLeDiff, Int.reduceToNat, Int.reduceLE, Int.reduceLT, Int.reduceNeg, reduceCtorEq, gos, Int.reduceAdd, Int.reduceSub, Int.reduceMul, Int.reduceEq, cj])
        refine ⟨cj, (fgt_nil), ?_, rfl, drop_nil _⟩
        intro i hi
        by_cases e : i = j
        · subst e; rw [decide_eq_true cm]; rfl
        · have := hf i (by omega); simpa using this
      · rw [decide_eq_false cm] at k1
        have e : fstI cw (fun i => true) C = some j := fstI_some cj hf (by rw [decide_eq_false cm]; rfl)
        rw [e]
        have j1 : j + 1 ≤ C := cj
        have px := tbl_put_iu (fun _ => 0) 1 cj
        rw [← zero_tbl C] at px
        have k2 := k2 j
        have xl := xl j
        obtain ⟨X, hX⟩ : ∃ X, KX j = X := ⟨_, rfl⟩
        rw [hX] at k2 xl
        have nt : (X.map iu).take C = X.map iu := List.take_of_length_le (by simp [xl])
        repeat (first | ((first | refine X_call_fn2 rfl (by simp only [tys]) ?_ | refine X_dcall_fn2 rfl (by simp only [tys]) ?_); apply Exists.intro; apply And.intro; (focus (simp -dsimp only [simx, zzC, zzB, tys, ite_self, opnL, callB, callX, readsB, stepOp, nilCmp, ofVal, opBuiltin, opLen, PV.sk, scalBin, scalUn, intBin, opLoad, natOf, opConvert, opField, cellsP, oneP, Value.oneCell', opStore, toIV, scalT, scalA, scalC, boxesA, boxesC, zipB_none, zipB_mx, isZ, opZip, zeroP, opAppendZ, opMakeMap, opLookup, mboxB, opUpdate, ↓reduceIte, Nat.reduceSub, Nat.reduceEqDiff, Nat.reduceAdd, Nat.reduceMul, Nat.reduceLT, Nat.reduceLeDiff, Int.reduceToNat, Int.reduceLE, Int.reduceLT, Int.reduceNeg, reduceCtorEq, zzL, if_true, if_false] <;> rfl)); apply Exists.intro; apply And.intro; (focus (first | exact k1))) | refine X_opc rfl ?_ | refine X_dopc rfl ?_ | refine ⟨(by show drawK _ _ = true; kernel_rfl : drawX _ _ _), ?_⟩ | exact (by show drawK _ _ = true; kernel_rfl : drawX _ _ _) | simp -dsimp (maxSteps := 20000000) (disch := omega) only [simx, zzC, zzB, tys, ite_self, opnL, callB, callX, readsB, stepOp, nilCmp, ofVal, opBuiltin, opLen, PV.sk, scalBin, scalUn, intBin, opLoad, natOf, opConvert, opField, cellsP, oneP, Value.oneCell', opStore, toIV, scalT, scalA, scalC, boxesA, boxesC, zipB_none, zipB_mx, isZ, opZip, zeroP, opAppendZ, opMakeMap, opLookup, mboxB, opUpdate, ↓reduceIte, Nat.reduceSub, Nat.reduceEqDiff, Nat.reduceAdd, Nat.reduceMul, Nat.reduceLT, Nat.reduceLeDiff, Int.reduceToNat, Int.reduceLE, Int.reduceLT, Int.reduceNeg, reduceCtorEq, gos, Int.reduceAdd, Int.reduceSub, Int.reduceMul, Int.reduceEq, cj, b1, b2, b3, b4, rl, j1, px, ul])
        refine X_dcall_w (args := [takenP P R C l (rw0, cw, cc, uu) vs, .view ((8, 2) :: base) 0 1 C C, .view ((10, 6) :: base) 0 1 rw0.length rw0.length]) (largs := [takenP P R C l (rw0, cw, cc, uu) vs, .view wN 0 1 C C, .i (.l rw0.length ((zeroV rw0.length).map iu))]) ((8, 2) :: base) k2 rfl (by simp only [tys]) rfl ?_ (by simp [boxesA, boxesC]) ?_ rfl (by simp [xl, uniV_len]) ?_
        · simp [Heap.put_at]; rfl
        · have h1 : ∀ h, lowerW h ((8, 2) :: base) (takenP P R C l (rw0, cw, cc, uu) vs) = some (takenP P R C l (rw0, cw, cc, uu) vs) := fun h => by simp [lowerW, isV, boxesA, boxesC, lowerA, mapO, lowerC]
          have h2 : ∀ h, lowerW h ((8, 2) :: base) (.view ((8, 2) :: base) 0 1 C C) = some (.view wN 0 1 C C) := fun h => by simp [lowerW, isV, reV]
          simp only [mapO, h1, h2]
          simp only [lowerW, isV, boxesA, boxesC, lowerA, lowerC, Heap.put_at]
          simp [zl2, nz2]
          exact ez2
        · rw [show (List.filter (notB ((8, 2) :: base)) (List.flatMap boxesA [takenP P R C l (rw0, cw, cc, uu) vs, .view ((8, 2) :: base) 0 1 C C, .view ((10, 6) :: base) 0 1 rw0.length rw0.length])) = [(10, 6) :: base] by simp [boxesA, boxesC, notB]]
          repeat (first | refine X_opc rfl ?_ | refine X_dopc rfl ?_ | refine ⟨(by show drawK _ _ = true; kernel_rfl : drawX _ _ _), ?_⟩ | exact (by show drawK _ _ = true; kernel_rfl : drawX _ _ _) | simp -dsimp (maxSteps := 20000000) (disch := omega) only [simx, zzC, zzB, tys, ite_self, opnL, callB, callX, readsB, stepOp, nilCmp, ofVal, opBuiltin, opLen, PV.sk, scalBin, scalUn, intBin, opLoad, natOf, opConvert, opField, cellsP, oneP, Value.oneCell', opStore, toIV, scalT, scalA, scalC, boxesA, boxesC, zipB_none, zipB_mx, isZ, opZip, zeroP, opAppendZ, opMakeMap, opLookup, mboxB, opUpdate, ↓reduceIte, Nat.reduceSub, Nat.reduceEqDiff, Nat.reduceAdd, Nat.reduceMul, Nat.reduceLT, Nat.reduceLeDiff, Int.reduceToNat, Int.reduceLE, Int.reduceLT, Int.reduceNeg, reduceCtorEq, zzR, gos, Int.reduceAdd, Int.reduceSub, Int.reduceMul, Int.reduceEq, List.length_map, xl, nt])
          simp [hX, xl]
    · have ej : C = j := by omega
      subst ej
      have e : fstI cw (fun i => true) C = none := fstI_none hf
      rw [e]
      repeat (first | refine X_opc rfl ?_ | refine X_dopc rfl ?_ | refine ⟨(by show drawK _ _ = true; kernel_rfl : drawX _ _ _), ?_⟩ | exact (by show drawK _ _ = true; kernel_rfl : drawX _ _ _) | simp -dsimp (maxSteps := 20000000) (disch := omega) only [simx, zzC, zzB, tys, ite_self, opnL, callB, callX, readsB, stepOp, nilCmp, ofVal, opBuiltin, opLen, PV.sk, scalBin, scalUn, intBin, opLoad, natOf, opConvert, opField, cellsP, oneP, Value.oneCell', opStore, toIV, scalT, scalA, scalC, boxesA, boxesC, zipB_none, zipB_mx, isZ, opZip, zeroP, opAppendZ, opMakeMap, opLookup, mboxB, opUpdate, ↓reduceIte, Nat.reduceSub, Nat.reduceEqDiff, Nat.reduceAdd, Nat.reduceMul, Nat.reduceLT, Nat.reduceLeDiff, Int.reduceToNat, Int.reduceLE, Int.reduceLT, Int.reduceNeg, reduceCtorEq, zzR, gos, Int.reduceAdd, Int.reduceSub, Int.reduceMul, Int.reduceEq])
      rfl
end Go.Proofs.Ythnfphgjfpcpbaa.TM
namespace Go.Proofs.Ythnfphgjfpcpbaa.TM
open Go Go.RowKit
set_option linter.unusedVariables false
set_option linter.defProp false
set_option linter.unusedSimpArgs false
attribute [local irreducible] K W WOps Effs Xg Xo Xr Xdg Xdo Xdr Xif CallsP CallR
theorem X_append_any {P : Program} {C : CallRel} {h h0 : Heap} {base : Name} {Qf : Ex → List PV → Heap → Prop} {k : List It} {t : List PV} {R : It} {d : Option Tmp} {s : Name} {ty : TypeId} (e : TypeId) (zs : List Value) {n z m : Nat} {cs : List IV} (xs : List IV) {y : PV} {k2 : SK}
    (he : elemB P ty = some e) (hz : zeroB P e = some zs) (hzl : zs.length = z) (hz0 : 0 < z) (hn : cs.length = n * z) (hs : h s = if n = 0 then none else some (.row false cs)) (hy : y.sk = some k2) (hm : k2.len = m) (hm0 : 0 < m) (hx : k2.cells h z = some xs)
    (hby : (n + m) * P.bytesOf e ≤ 140737488355328) (hl : n + m ≤ maxLen)
    (hk : K P C h0 base Qf (R :: k) .normal (putT t d (rowP s z (n + m) (cs ++ xs))) (h.put s (.row false (cs ++ xs)))) :
    Xr P C h0 base Qf (opAppend P h s ty (rowP s z n cs) y) d R k t h := Xr_eq (append_row he hz hzl hz0 hn hs hy hm hm0 hx hby hl) hk
/-- The inverse's columns, one behind the other. -/
def invJ (p : Int) (n : Nat) (c : CupT) (j : Nat) : List Int := (List.range j).flatMap (fun i => solX p n c (uniV n i))
theorem invJ_next (p : Int) (n : Nat) (c : CupT) (j : Nat) : invJ p n c (j + 1) = invJ p n c j ++ solX p n c (uniV n j) := by
  unfold invJ; rw [List.range_succ, List.flatMap_append]; simp
theorem invJ_len (p : Int) (n : Nat) (c : CupT) : ∀ j, (invJ p n c j).length = j * n
  | 0 => by simp [invJ]
  | j + 1 => by rw [invJ_next, List.length_append, invJ_len p n c j, solX_len, Nat.succ_mul]
theorem invJ_in {p : Int} (hp : Md p) (n : Nat) (c : CupT) : ∀ j, ∀ a ∈ invJ p n c j, In p a
  | 0, a, ha => by simp [invJ] at ha
  | j + 1, a, ha => by
    rw [invJ_next] at ha
    rcases List.mem_append.1 ha with ha | ha
    · exact invJ_in hp n c j a ha
    · exact solX_in hp c _ a ha
set_option maxHeartbeats 8000000 in
theorem inverse8_yes {P R : Nat} {l : List Int} (hP : Prm P) (M : Mt P R R l) (hin : ∀ a ∈ l, In P a) (h : (tkCup P R R l).1.length = R) :
    CallsP Try.prog 36 [u64 P, matP R R l] (.tup [matP R R (turnM R R (invJ P R (tkCup P R R l) R)), i64 0]) := by
  have hp := M.hp
  have r1 := M.r1
  have r2 := M.r2
  have q2 := take8_yes hP M hin
  have hw := tkCup_W hP M hin
  have vi := invsT_in hP hp hw
  have k1 := fun (vs b : List Int) (hb : ∀ a ∈ b, In P a) (hbl : b.length = R) => halves_walk (l := l) (vs := vs) hp hw r2 hb hbl
  have k2 := fun b (hb : ∀ a ∈ b, In P a) (hbl : b.length = R) => solved_walk (l := l) (x := zeroV R) (z := hlL P (tkCup P R R l) b (tkCup P R R l).1.length) hp hw r2 r2 (zeroV_in hp R) (zeroV_len R) (hlL_in hp hw hb hbl _ (Nat.le_refl _)) (hlL_len ..) vi.1 vi.2
  have zl := fun b => hlL_len P (tkCup P R R l) b (tkCup P R R l).1.length
  change ∀ b, _ → _ → CallsW _ _ _ _ _ ((solX P R (tkCup P R R l) b).map iu) at k2
  have xl := fun b => solX_len P R (tkCup P R R l) b
  have inx := invJ_next P R (tkCup P R R l)
  have inl := invJ_len P R (tkCup P R R l)
  have Mi : Mt P R R (invJ P R (tkCup P R R l) R) := ⟨hp, r1, r2, r1, r2, inl R, fun a ha => (invJ_in hp R _ R a ha).2⟩
  have q3 := turn_walk P R R (invJ P R (tkCup P R R l) R) (by rw [inl]; have := rc_bd r2 r2; rw [mx_len]; omega)
  rw [show turnR P R R (invJ P R (tkCup P R R l) R) = (((R : Int), (R : Int), turnM R R (invJ P R (tkCup P R R l) R)), (0 : Int)) by unfold turnR; rw [mat_mk Mi]; rfl] at q3
  rw [h] at k1 k2 zl
  have k1 := k1 (invsT P (tkCup P R R l))
  have i0 : invJ P R (tkCup P R R l) 0 = [] := rfl
  generalize hZ : (fun b => hlL P (tkCup P R R l) b R) = HZ at *
  have hz : ∀ b, hlL P (tkCup P R R l) b R = HZ b := fun b => by rw [← hZ]
  simp only [hz] at k1 k2 zl
  generalize solX P R (tkCup P R R l) = SX at k2 xl inx
  generalize invJ P R (tkCup P R R l) = IJ at inx inl Mi q3 i0 ⊢
  generalize invsT P (tkCup P R R l) = vs at q2 vi k1 k2
  clear hz hZ
  generalize tkCup P R R l = c at q2 hw k1 k2 h
  obtain ⟨rw0, cw, cc, uu⟩ := c
  simp only at h
  have h1 : ¬ (rw0.length : Int) < (R : Int) := by omega
  have b1 : R * 8 ≤ 140737488355328 := by omega
  have b2 : R ≤ 140737488355328 := by omega
  have bd := rc_bd r2 r2
  have rl : ((zeroRow [Value.int .u64 0] R).map IV.v).length = R := by rw [List.length_map, zeroRow_len]; simp
  have ez : (zeroRow [Value.int .u64 0] R).map IV.v = (zeroV R).map iu := zero_tbl R
  refine X_startP (n := 74) (m := 2) (rs := [.cell 4 25, .tmp 5]) Try.func36 rfl rfl rfl rfl (by decide) fun base => ?_
  repeat (first | ((first | refine X_call_fn2 rfl (by simp only [tys]) ?_ | refine X_dcall_fn2 rfl (by simp only [tys]) ?_); apply Exists.intro; apply And.intro; (focus (simp -dsimp only [simx, zzC, zzB, tys, ite_self, opnL, callB, callX, readsB, stepOp, nilCmp, ofVal, opBuiltin, opLen, PV.sk, scalBin, scalUn, intBin, opLoad, natOf, opConvert, opField, cellsP, oneP, Value.oneCell', opStore, toIV, scalT, scalA, scalC, boxesA, boxesC, zipB_none, zipB_mx, isZ, opZip, zeroP, opAppendZ, opMakeMap, opLookup, mboxB, opUpdate, ↓reduceIte, Nat.reduceSub, Nat.reduceEqDiff, Nat.reduceAdd, Nat.reduceMul, Nat.reduceLT, Nat.reduceLeDiff, Int.reduceToNat, Int.reduceLE, Int.reduceLT, Int.reduceNeg, reduceCtorEq, zzL, if_true, if_false] <;> rfl)); apply Exists.intro; apply And.intro; (focus (first | exact q2))) | refine X_opc rfl ?_ | refine X_dopc rfl ?_ | refine ⟨(by show drawK _ _ = true; kernel_rfl : drawX _ _ _), ?_⟩ | exact (by show drawK _ _ = true; kernel_rfl : drawX _ _ _) | simp -dsimp (maxSteps := 20000000) (disch := omega) only [simx, zzC, zzB, tys, ite_self, opnL, callB, callX, readsB, stepOp, nilCmp, ofVal, opBuiltin, opLen, PV.sk, scalBin, scalUn, intBin, opLoad, natOf, opConvert, opField, cellsP, oneP, Value.oneCell', opStore, toIV, scalT, scalA, scalC, boxesA, boxesC, zipB_none, zipB_mx, isZ, opZip, zeroP, opAppendZ, opMakeMap, opLookup, mboxB, opUpdate, ↓reduceIte, Nat.reduceSub, Nat.reduceEqDiff, Nat.reduceAdd, Nat.reduceMul, Nat.reduceLT, Nat.reduceLeDiff, Int.reduceToNat, Int.reduceLE, Int.reduceLT, Int.reduceNeg, reduceCtorEq, gos, Int.reduceAdd, Int.reduceSub, Int.reduceMul, Int.reduceEq, h1, SK.len])
  refine X_loopH [0, 3, 4, 6, 8, 44, 45] [(12, 2) :: base, (12, 5) :: base] (0) (R) (fun j => True) (fun j => [(45, i64 j)]) (fun j => rowH ((((Heap.none.put ((0, 0) :: base) (.var [i64 R, i64 R, lu l])).put ((0, 1) :: base) (.var [i64 0, i64 0, nilP])).put ((3, 6) :: base) (.var [li rw0, li cw, llP cc, llP uu, u64 P, i64 R, i64 R, lu l, lu vs])).put ((8, 5) :: base) (.var [i64 R, i64 R, rowP ((15, 3) :: base) 1 (j * R) ((IJ j).map iu)])) ((15, 3) :: base) (j * R) ((IJ j).map iu)) ?_ ?_ ?_ ?_ ?_ (by decide) ?_
  · exact (fgt_cons (by simp only [Heap.none_at]) (by (simp -dsimp only [zzB, tys, ite_self, opnL, callB, callX, readsB, stepOp, nilCmp, ofVal, opBuiltin, opLen, PV.sk, scalBin, scalUn, intBin, opLoad, natOf, opConvert, opField, cellsP, oneP, Value.oneCell', opStore, toIV, scalT, scalA, scalC, boxesA, boxesC, zipB_none, zipB_mx, isZ, opZip, zeroP, opAppendZ, opMakeMap, opLookup, mboxB, opUpdate, ↓reduceIte, Nat.reduceSub, Nat.reduceEqDiff, Nat.reduceAdd, Nat.reduceMul, Nat.reduceLT, Nat.reduceLeDiff, Int.reduceToNat, Int.reduceLE, Int.reduceLT, Int.reduceNeg, reduceCtorEq, notIn_cons, notIn_nil]) <;> simp [refsL, refsP, mem_refs_rowP]) (by repeat (first | exact noVar_none _ | refine noVar_row ?_ | refine noVar_map ?_ | refine noVar_rowH ?_ | refine noVar_var ?_ (by simp [refsL, refsP, mem_refs_rowP]))) (fgt_cons (by simp only [Heap.none_at]) (by (simp -dsimp only [zzB, tys, ite_self, opnL, callB, callX, readsB, stepOp, nilCmp, ofVal, opBuiltin, opLen, PV.sk, scalBin, scalUn, intBin, opLoad, natOf, opConvert, opField, cellsP, oneP, Value.oneCell', opStore, toIV, scalT, scalA, scalC, boxesA, boxesC, zipB_none, zipB_mx, isZ, opZip, zeroP, opAppendZ, opMakeMap, opLookup, mboxB, opUpdate, ↓reduceIte, Nat.reduceSub, Nat.reduceEqDiff, Nat.reduceAdd, Nat.reduceMul, Nat.reduceLT, Nat.reduceLeDiff, Int.reduceToNat, Int.reduceLE, Int.reduceLT, Int.reduceNeg, reduceCtorEq, notIn_cons, notIn_nil]) <;> simp [refsL, refsP, mem_refs_rowP]) (by repeat (first | exact noVar_none _ | refine noVar_row ?_ | refine noVar_map ?_ | refine noVar_rowH ?_ | refine noVar_var ?_ (by simp [refsL, refsP, mem_refs_rowP]))) (fgt_nil)))
  · ((simp -dsimp (disch := omega) only [simx, zzB, tys, ite_self, opnL, callB, callX, readsB, stepOp, nilCmp, ofVal, opBuiltin, opLen, PV.sk, scalBin, scalUn, intBin, opLoad, natOf, opConvert, opField, cellsP, oneP, Value.oneCell', opStore, toIV, scalT, scalA, scalC, boxesA, boxesC, zipB_none, zipB_mx, isZ, opZip, zeroP, opAppendZ, opMakeMap, opLookup, mboxB, opUpdate, ↓reduceIte, Nat.reduceSub, Nat.reduceEqDiff, Nat.reduceAdd, Nat.reduceMul, Nat.reduceLT, Nat.reduceLeDiff, Int.reduceToNat, Int.reduceLE, Int.reduceLT, Int.reduceNeg, reduceCtorEq, gos, Int.reduceAdd, Int.reduceSub, Int.reduceMul, Int.reduceEq]) <;> first | rfl | simp)
  · rw [i0, Nat.zero_mul, rowP_zero, rowH_zero]
    funext c
    simp (maxSteps := 20000000) only [Heap.drop_at, rowH_app, Heap.put_at, Heap.none_at, List.mem_cons, List.not_mem_nil, or_false]
    by_cases e0 : c = (0, 0) :: base
    · subst e0; simp []
    by_cases e1 : c = (0, 1) :: base
    · subst e1; simp []
    by_cases e2 : c = (3, 6) :: base
    · subst e2; simp []
    by_cases e3 : c = (8, 5) :: base
    · subst e3; simp []
    by_cases e4 : c = (12, 2) :: base
    · subst e4; simp []
    by_cases e5 : c = (12, 5) :: base
    · subst e5; simp []
    simp [e0, e1, e2, e3, e4, e5]
  · omega
  · trivial
  · intro j hj _
    by_cases cj : j < R
    · have j1 : j + 1 ≤ R := cj
      have px := tbl_put_iu (fun _ => 0) 1 cj
      rw [← zero_tbl R] at px
      change _ = (uniV R j).map iu at px
      have ulen := uniV_len R j
      have k1 := k1 (uniV R j) (uniV_in hp R j) ulen
      have k2 := k2 (uniV R j) (uniV_in hp R j) ulen
      have zl := zl (uniV R j)
      have xl := xl (uniV R j)
      have nx := inx j
      have il := inl j
      generalize SX (uniV R j) = X at k2 xl nx
      generalize HZ (uniV R j) = Z at k1 k2 zl
      generalize uniV R j = U at px k1 ulen
      rw [lu, zl] at k1
      have ut : (U.map iu).take R = U.map iu := List.take_of_length_le (by simp [ulen])
      have b3 := ic_bd (c := R) cj
      repeat (first | ((first | refine X_call_fn2 rfl (by simp only [tys]) ?_ | refine X_dcall_fn2 rfl (by simp only [tys]) ?_); apply Exists.intro; apply And.intro; (focus (simp -dsimp only [simx, zzC, zzB, tys, ite_self, opnL, callB, callX, readsB, stepOp, nilCmp, ofVal, opBuiltin, opLen, PV.sk, scalBin, scalUn, intBin, opLoad, natOf, opConvert, opField, cellsP, oneP, Value.oneCell', opStore, toIV, scalT, scalA, scalC, boxesA, boxesC, zipB_none, zipB_mx, isZ, opZip, zeroP, opAppendZ, opMakeMap, opLookup, mboxB, opUpdate, ↓reduceIte, Nat.reduceSub, Nat.reduceEqDiff, Nat.reduceAdd, Nat.reduceMul, Nat.reduceLT, Nat.reduceLeDiff, Int.reduceToNat, Int.reduceLE, Int.reduceLT, Int.reduceNeg, reduceCtorEq, zzL, if_true, if_false, List.length_map, ulen, ut] <;> rfl)); apply Exists.intro; apply And.intro; (focus (first | exact k1))) | refine X_opc rfl ?_ | refine X_dopc rfl ?_ | refine ⟨(by show drawK _ _ = true; kernel_rfl : drawX _ _ _), ?_⟩ | exact (by show drawK _ _ = true; kernel_rfl : drawX _ _ _) | simp -dsimp (maxSteps := 20000000) (disch := omega) only [simx, zzC, zzB, tys, ite_self, opnL, callB, callX, readsB, stepOp, nilCmp, ofVal, opBuiltin, opLen, PV.sk, scalBin, scalUn, intBin, opLoad, natOf, opConvert, opField, cellsP, oneP, Value.oneCell', opStore, toIV, scalT, scalA, scalC, boxesA, boxesC, zipB_none, zipB_mx, isZ, opZip, zeroP, opAppendZ, opMakeMap, opLookup, mboxB, opUpdate, ↓reduceIte, Nat.reduceSub, Nat.reduceEqDiff, Nat.reduceAdd, Nat.reduceMul, Nat.reduceLT, Nat.reduceLeDiff, Int.reduceToNat, Int.reduceLE, Int.reduceLT, Int.reduceNeg, reduceCtorEq, gos, Int.reduceAdd, Int.reduceSub, Int.reduceMul, Int.reduceEq, cj, b1, b2, rl, j1, px, List.length_map, ulen, ut])
      refine X_dcall_w (args := [takenP P R R l (rw0, cw, cc, uu) vs, .view ((12, 5) :: base) 0 1 R R, .i (.l R (Z.map iu))]) ((12, 5) :: base) k2 rfl (by simp only [tys]) rfl (by simp [Heap.put_at]; exact ez) (by simp [boxesA, boxesC]) (by simp [mapO, lowerW, isV, reV, boxesA, boxesC, lowerA, lowerC]) rfl (by simp [xl, zeroV_len]) ?_
      rw [show (List.filter (notB ((12, 5) :: base)) (List.flatMap boxesA [takenP P R R l (rw0, cw, cc, uu) vs, .view ((12, 5) :: base) 0 1 R R, .i (.l R (Z.map iu))])) = [] by simp [boxesA, boxesC, notB]]
      repeat (first | refine X_opc rfl ?_ | refine X_dopc rfl ?_ | refine ⟨(by show drawK _ _ = true; kernel_rfl : drawX _ _ _), ?_⟩ | exact (by show drawK _ _ = true; kernel_rfl : drawX _ _ _) | simp -dsimp (maxSteps := 20000000) (disch := omega) only [simx, zzC, zzB, tys, ite_self, opnL, callB, callX, readsB, stepOp, nilCmp, ofVal, opBuiltin, opLen, PV.sk, scalBin, scalUn, intBin, opLoad, natOf, opConvert, opField, cellsP, oneP, Value.oneCell', opStore, toIV, scalT, scalA, scalC, boxesA, boxesC, zipB_none, zipB_mx, isZ, opZip, zeroP, opAppendZ, opMakeMap, opLookup, mboxB, opUpdate, ↓reduceIte, Nat.reduceSub, Nat.reduceEqDiff, Nat.reduceAdd, Nat.reduceMul, Nat.reduceLT, Nat.reduceLeDiff, Int.reduceToNat, Int.reduceLE, Int.reduceLT, Int.reduceNeg, reduceCtorEq, gos, Int.reduceAdd, Int.reduceSub, Int.reduceMul, Int.reduceEq])
      have xt : (X.map iu).take R = X.map iu := List.take_of_length_le (by simp [xl])
      refine X_append_any (s := (15, 3) :: base) (n := j * R) (z := 1) (m := R) (cs := (IJ j).map iu) 22 [.int .u64 0] (X.map iu) (k2 := .own ((12, 5) :: base) 0 1 R R) (by simp only [tys]) (by simp only [tys]) rfl (by decide) (by simp [il]) (by simp [rowH_app, Heap.put_at, Heap.none_at]) rfl rfl (by omega) (by simp [SK.cells, Heap.put_at, xl, xt]) (by simp only [tys]; omega) (by rw [mx_len]; omega) ?_
      have rp : rowP ((15, 3) :: base) 1 (j * R + R) ((IJ j).map iu ++ X.map iu) = .view ((15, 3) :: base) 0 1 (j * R + R) ((IJ j).map iu ++ X.map iu).length := if_neg (by omega)
      repeat (first | refine X_opc rfl ?_ | refine X_dopc rfl ?_ | refine ⟨(by show drawK _ _ = true; kernel_rfl : drawX _ _ _), ?_⟩ | exact (by show drawK _ _ = true; kernel_rfl : drawX _ _ _) | simp -dsimp (maxSteps := 20000000) (disch := omega) only [simx, zzC, zzB, tys, ite_self, opnL, callB, callX, readsB, stepOp, nilCmp, ofVal, opBuiltin, opLen, PV.sk, scalBin, scalUn, intBin, opLoad, natOf, opConvert, opField, cellsP, oneP, Value.oneCell', opStore, toIV, scalT, scalA, scalC, boxesA, boxesC, zipB_none, zipB_mx, isZ, opZip, zeroP, opAppendZ, opMakeMap, opLookup, mboxB, opUpdate, ↓reduceIte, Nat.reduceSub, Nat.reduceEqDiff, Nat.reduceAdd, Nat.reduceMul, Nat.reduceLT, Nat.reduceLeDiff, Int.reduceToNat, Int.reduceLE, Int.reduceLT, Int.reduceNeg, reduceCtorEq, gos, Int.reduceAdd, Int.reduceSub, Int.reduceMul, Int.reduceEq, rp])
      have sm : (j + 1) * R = j * R + R := Nat.succ_mul j R
      have hd : ¬ R = 0 := by omega
      refine ⟨cj, (fgt_cons (by simp only [Heap.none_at]) (by (simp -dsimp only [zzB, tys, ite_self, opnL, callB, callX, readsB, stepOp, nilCmp, ofVal, opBuiltin, opLen, PV.sk, scalBin, scalUn, intBin, opLoad, natOf, opConvert, opField, cellsP, oneP, Value.oneCell', opStore, toIV, scalT, scalA, scalC, boxesA, boxesC, zipB_none, zipB_mx, isZ, opZip, zeroP, opAppendZ, opMakeMap, opLookup, mboxB, opUpdate, ↓reduceIte, Nat.reduceSub, Nat.reduceEqDiff, Nat.reduceAdd, Nat.reduceMul, Nat.reduceLT, Nat.reduceLeDiff, Int.reduceToNat, Int.reduceLE, Int.reduceLT, Int.reduceNeg, reduceCtorEq, notIn_cons, notIn_nil]) <;> simp [refsL, refsP, mem_refs_rowP]) (by repeat (first | exact noVar_none _ | refine noVar_row ?_ | refine noVar_map ?_ | refine noVar_rowH ?_ | refine noVar_var ?_ (by simp [refsL, refsP, mem_refs_rowP]))) (fgt_cons (by simp only [Heap.none_at]) (by (simp -dsimp only [zzB, tys, ite_self, opnL, callB, callX, readsB, stepOp, nilCmp, ofVal, opBuiltin, opLen, PV.sk, scalBin, scalUn, intBin, opLoad, natOf, opConvert, opField, cellsP, oneP, Value.oneCell', opStore, toIV, scalT, scalA, scalC, boxesA, boxesC, zipB_none, zipB_mx, isZ, opZip, zeroP, opAppendZ, opMakeMap, opLookup, mboxB, opUpdate, ↓reduceIte, Nat.reduceSub, Nat.reduceEqDiff, Nat.reduceAdd, Nat.reduceMul, Nat.reduceLT, Nat.reduceLeDiff, Int.reduceToNat, Int.reduceLE, Int.reduceLT, Int.reduceNeg, reduceCtorEq, notIn_cons, notIn_nil]) <;> simp [refsL, refsP, mem_refs_rowP]) (by repeat (first | exact noVar_none _ | refine noVar_row ?_ | refine noVar_map ?_ | refine noVar_rowH ?_ | refine noVar_var ?_ (by simp [refsL, refsP, mem_refs_rowP]))) (fgt_nil))), rfl, ?_⟩
      rw [sm, nx, List.map_append, rp]
      funext c
      simp (maxSteps := 20000000) only [Heap.drop_at, rowH_app, Heap.put_at, Heap.none_at, List.mem_cons, List.not_mem_nil, or_false]
      by_cases e0 : c = (0, 0) :: base
      · subst e0; simp [hd]
      by_cases e1 : c = (0, 1) :: base
      · subst e1; simp [hd]
      by_cases e2 : c = (3, 6) :: base
      · subst e2; simp [hd]
      by_cases e3 : c = (8, 5) :: base
      · subst e3; simp [hd]
      by_cases e4 : c = (12, 2) :: base
      · subst e4; simp [hd]
      by_cases e5 : c = (12, 5) :: base
      · subst e5; simp [hd]
      by_cases e6 : c = (15, 3) :: base
      · subst e6; simp [hd]
      simp [e0, e1, e2, e3, e4, e5, e6, hd]
    · have ej : R = j := by omega
      subst ej
      have il := inl R
      have hne : ¬ R * R = 0 := Nat.ne_of_gt (Nat.mul_pos (by omega) (by omega))
      have rp : rowP ((15, 3) :: base) 1 (R * R) ((IJ R).map iu) = .view ((15, 3) :: base) 0 1 (R * R) (R * R) := by unfold rowP; rw [if_neg hne, List.length_map, il]
      have it : ((IJ R).map iu).take (R * R) = (IJ R).map iu := List.take_of_length_le (by simp [il])
      rw [rp]
      rw [matP, lu, il] at q3
      repeat (first | ((first | refine X_call_fn2 rfl (by simp only [tys]) ?_ | refine X_dcall_fn2 rfl (by simp only [tys]) ?_); apply Exists.intro; apply And.intro; (focus (simp -dsimp only [simx, zzC, zzB, tys, ite_self, opnL, callB, callX, readsB, stepOp, nilCmp, ofVal, opBuiltin, opLen, PV.sk, scalBin, scalUn, intBin, opLoad, natOf, opConvert, opField, cellsP, oneP, Value.oneCell', opStore, toIV, scalT, scalA, scalC, boxesA, boxesC, zipB_none, zipB_mx, isZ, opZip, zeroP, opAppendZ, opMakeMap, opLookup, mboxB, opUpdate, ↓reduceIte, Nat.reduceSub, Nat.reduceEqDiff, Nat.reduceAdd, Nat.reduceMul, Nat.reduceLT, Nat.reduceLeDiff, Int.reduceToNat, Int.reduceLE, Int.reduceLT, Int.reduceNeg, reduceCtorEq, zzL, if_true, if_false, List.length_map, il, it, hne] <;> rfl)); apply Exists.intro; apply And.intro; (focus (first | exact q3))) | refine X_opc rfl ?_ | refine X_dopc rfl ?_ | refine ⟨(by show drawK _ _ = true; kernel_rfl : drawX _ _ _), ?_⟩ | exact (by show drawK _ _ = true; kernel_rfl : drawX _ _ _) | simp -dsimp (maxSteps := 20000000) (disch := omega) only [simx, zzC, zzB, tys, ite_self, opnL, callB, callX, readsB, stepOp, nilCmp, ofVal, opBuiltin, opLen, PV.sk, scalBin, scalUn, intBin, opLoad, natOf, opConvert, opField, cellsP, oneP, Value.oneCell', opStore, toIV, scalT, scalA, scalC, boxesA, boxesC, zipB_none, zipB_mx, isZ, opZip, zeroP, opAppendZ, opMakeMap, opLookup, mboxB, opUpdate, ↓reduceIte, Nat.reduceSub, Nat.reduceEqDiff, Nat.reduceAdd, Nat.reduceMul, Nat.reduceLT, Nat.reduceLeDiff, Int.reduceToNat, Int.reduceLE, Int.reduceLT, Int.reduceNeg, reduceCtorEq, zzR, gos, Int.reduceAdd, Int.reduceSub, Int.reduceMul, Int.reduceEq, hne, List.length_map, il, it])
      skip
end Go.Proofs.Ythnfphgjfpcpbaa.TM
namespace Go.Proofs.Ythnfphgjfpcpbaa.TM
open Go Go.RowKit
set_option linter.unusedVariables false
set_option linter.defProp false
set_option linter.unusedSimpArgs false
def sumN : Nat → (Nat → Int) → Int
  | 0, _ => 0
  | n + 1, f => sumN n f + f n
theorem sumN_congr {n : Nat} {f g : Nat → Int} (h : ∀ i, i < n → f i = g i) : sumN n f = sumN n g := by
  induction n with
  | zero => rfl
  | succ n ih => rw [sumN, sumN, ih (fun i hi => h i (by omega)), h n (by omega)]
theorem sumN_add (n : Nat) (f g : Nat → Int) : sumN n (fun i => f i + g i) = sumN n f + sumN n g := by
  induction n with
  | zero => rfl
  | succ n ih => simp only [sumN, ih]; omega
theorem sumN_sub (n : Nat) (f g : Nat → Int) : sumN n (fun i => f i - g i) = sumN n f - sumN n g := by
  induction n with
  | zero => rfl
  | succ n ih => simp only [sumN, ih]; omega
theorem sumN_mul (n : Nat) (a : Int) (f : Nat → Int) : sumN n (fun i => a * f i) = a * sumN n f := by
  induction n with
  | zero => simp [sumN]
  | succ n ih => simp only [sumN, ih, Int.mul_add]
theorem sumN_mulr (n : Nat) (a : Int) (f : Nat → Int) : sumN n (fun i => f i * a) = sumN n f * a := by
  induction n with
  | zero => simp [sumN]
  | succ n ih => simp only [sumN, ih, Int.add_mul]
theorem sumN_zero (n : Nat) : sumN n (fun _ => 0) = 0 := by
  induction n with
  | zero => rfl
  | succ n ih => simp [sumN, ih]
theorem sumN_z {n : Nat} {f : Nat → Int} (h : ∀ i, i < n → f i = 0) : sumN n f = 0 := (sumN_congr h).trans (sumN_zero n)
theorem sumN_swap (m n : Nat) (f : Nat → Nat → Int) : sumN m (fun i => sumN n (fun j => f i j)) = sumN n (fun j => sumN m (fun i => f i j)) := by
  induction m with
  | zero => simp [sumN, sumN_zero]
  | succ m ih => simp only [sumN, ih, sumN_add]
theorem sumN_mod {p : Int} {n : Nat} {f g : Nat → Int} (h : ∀ i, i < n → f i % p = g i % p) : sumN n f % p = sumN n g % p := by
  induction n with
  | zero => rfl
  | succ n ih => rw [sumN, sumN, Int.add_emod, ih (fun i hi => h i (by omega)), h n (by omega), ← Int.add_emod]
theorem sumN_one {n i : Nat} (f : Nat → Int) (hi : i < n) : sumN n (fun k => if k = i then f k else 0) = f i := by
  induction n with
  | zero => omega
  | succ n ih =>
    rw [sumN]
    by_cases h : i = n
    · subst h
      rw [sumN_z (fun k hk => if_neg (by omega)), if_pos rfl, Int.zero_add]
    · rw [ih (by omega), if_neg (by omega), Int.add_zero]
theorem sumN_split (m n : Nat) (f : Nat → Int) : sumN (m + n) f = sumN m f + sumN n (fun i => f (m + i)) := by
  induction n with
  | zero => simp [sumN]
  | succ n ih => rw [← Nat.add_assoc, sumN, ih, sumN]; omega
theorem dotI_eq : ∀ (n : Nat) (a b : List Int), a.length = n → b.length = n → dotI a b = sumN n (fun k => a.getD k 0 * b.getD k 0)
  | 0, [], [], _, _ => rfl
  | n + 1, x :: a, y :: b, ha, hb => by
    rw [dotI, dotI_eq n a b (by simpa using ha) (by simpa using hb), Nat.add_comm, sumN_split 1 n]
    simp only [sumN, Int.zero_add]
    congr 1
    apply sumN_congr
    intro i _
    rw [Nat.add_comm 1 i]; simp
  | 0, _ :: _, _, h, _ => by simp at h
  | 0, [], _ :: _, _, h => by simp at h
  | n + 1, [], _, h, _ => by simp at h
  | n + 1, _ :: _, [], _, h => by simp at h
/-- A cell. -/
def cl (c : Nat) (l : List Int) (i k : Nat) : Int := l.getD (i * c + k) 0
theorem rowM_cl {r c i k : Nat} {l : List Int} (hl : l.length = r * c) (hi : i < r) (hk : k < c) : (rowM c l i).getD k 0 = cl c l i k := by
  have b1 := ic_bd (c := c) hi
  have e3 : i * c + k < l.length := by omega
  unfold cl rowM
  rw [List.getD_eq_getElem?_getD, List.getD_eq_getElem?_getD, List.getElem?_take, if_pos hk, List.getElem?_drop]
theorem dc_div {c i k : Nat} (hk : k < c) : (i * c + k) / c = i := by
  rw [Nat.add_comm, Nat.add_mul_div_right _ _ (by omega), Nat.div_eq_of_lt hk, Nat.zero_add]
theorem dc_mod {c i k : Nat} (hk : k < c) : (i * c + k) % c = k := by
  rw [Nat.add_comm, Nat.add_mul_mod_self_right, Nat.mod_eq_of_lt hk]
theorem dotRow {r c i : Nat} {l x : List Int} (hl : l.length = r * c) (hi : i < r) (hx : x.length = c) : dotI (rowM c l i) x = sumN c (fun k => cl c l i k * x.getD k 0) := by
  rw [dotI_eq c _ _ (rowM_len hl hi) hx]
  exact sumN_congr fun k hk => by rw [rowM_cl hl hi hk]
theorem timesM_tbl {p : Int} {r c : Nat} {l x : List Int} (hl : l.length = r * c) (hx : x.length = c) : timesM p r c l x = tbl r (fun i => sumN c (fun k => cl c l i k * x.getD k 0) % p) := by
  unfold timesM tbl
  exact List.map_congr_left fun i hi => by rw [dotRow hl (List.mem_range.1 hi) hx]
theorem turn_cl {r c i k : Nat} (l : List Int) (hi : i < r) (hk : k < c) : cl r (turnM r c l) k i = cl c l i k := by
  have b1 := ic_bd (c := r) hk
  unfold cl turnM
  rw [show (List.range (c * r)).map (fun q => l.getD (srcT r c q) 0) = tbl (c * r) (fun q => l.getD (srcT r c q) 0) from rfl, tbl_getD _ (by omega)]
  unfold srcT
  rw [dc_div hi, dc_mod hi]
end Go.Proofs.Ythnfphgjfpcpbaa.TM
namespace Go.Proofs.Ythnfphgjfpcpbaa.TM
open Go Go.RowKit
set_option linter.unusedVariables false
set_option linter.defProp false
set_option linter.unusedSimpArgs false
/-- The numbers without k. -/
def skip (k j : Nat) : Nat := if j < k then j else j + 1
def sg (k : Nat) : Int := if k % 2 = 0 then 1 else -1
abbrev Mx := Nat → Nat → Int
end Go.Proofs.Ythnfphgjfpcpbaa.TM
namespace Go.Proofs.Ythnfphgjfpcpbaa.TM
open Go Go.RowKit
set_option linter.unusedVariables false
set_option linter.defProp false
set_option linter.unusedSimpArgs false
theorem emod_sub0 {p a b : Int} : a % p = b % p ↔ (a - b) % p = 0 := (Int.emod_eq_emod_iff_emod_sub_eq_zero)
theorem em_mul {p a b c d : Int} (h1 : a % p = b % p) (h2 : c % p = d % p) : a * c % p = b * d % p := by rw [Int.mul_emod, h1, h2, ← Int.mul_emod]
theorem em_add {p a b c d : Int} (h1 : a % p = b % p) (h2 : c % p = d % p) : (a + c) % p = (b + d) % p := by rw [Int.add_emod, h1, h2, ← Int.add_emod]
theorem em_sub {p a b c d : Int} (h1 : a % p = b % p) (h2 : c % p = d % p) : (a - c) % p = (b - d) % p := by rw [Int.sub_emod, h1, h2, ← Int.sub_emod]
theorem em_z {p a b : Int} (h : a % p = 0) : a * b % p = 0 := by rw [Int.mul_emod, h, Int.zero_mul, Int.zero_emod]
theorem em_z' {p a b : Int} (h : b % p = 0) : a * b % p = 0 := by rw [Int.mul_comm]; exact em_z h
theorem bezout (m n : Nat) : ∃ x y : Int, (m : Int) * x + (n : Int) * y = (Nat.gcd m n : Int) := by
  induction m, n using Nat.gcd.induction with
  | H0 n => exact ⟨0, 1, by simp⟩
  | H1 m n hm ih =>
    obtain ⟨x, y, h⟩ := ih
    refine ⟨y - (n / m : Nat) * x, x, ?_⟩
    rw [Nat.gcd_rec, ← h]
    have e : (n : Int) = ((n % m : Nat) : Int) + (m : Int) * ((n / m : Nat) : Int) := by have := Nat.mod_add_div n m; omega
    rw [e]
    grind
theorem prm_nz {P : Nat} (hP : Prm P) {a : Int} (h : a % P ≠ 0) : ∃ b, a * b % P = 1 := by
  have h2 := hP.1
  have hp : (0 : Int) < P := by omega
  have i1 := Int.emod_nonneg a (show (P : Int) ≠ 0 by omega)
  have i2 := Int.emod_lt_of_pos a hp
  have g := hP.2 (a % P).toNat (by omega) (by omega)
  obtain ⟨x, y, hxy⟩ := bezout P (a % P).toNat
  rw [g, show ((a % P).toNat : Int) = a % P by omega] at hxy
  refine ⟨y, ?_⟩
  have e : a * y % P = (a % P) * y % P := em_mul (Int.emod_emod_of_dvd a (Int.dvd_refl _)).symm rfl
  rw [e, show (a % P) * y = 1 - P * x by rw [show ((1 : Nat) : Int) = 1 from rfl] at hxy; omega, Int.sub_mul_emod_self_left]
  exact Int.emod_eq_of_lt (by omega) (by omega)
theorem prm_mul0 {P : Nat} (hP : Prm P) {a b : Int} (h : a * b % P = 0) (ha : a % P ≠ 0) : b % P = 0 := by
  obtain ⟨c, hc⟩ := prm_nz hP ha
  have e : c * (a * b) % P = b % P := by
    rw [show c * (a * b) = (a * c) * b by rw [← Int.mul_assoc, Int.mul_comm c a]]
    rw [Int.mul_emod, hc, Int.one_mul, Int.emod_emod_of_dvd _ (Int.dvd_refl _)]
  rw [← e]; exact em_z' h
theorem sumN_0 {p : Int} {n : Nat} {f : Nat → Int} (h : ∀ i, i < n → f i % p = 0) : sumN n f % p = 0 := by
  rw [sumN_mod (g := fun _ => 0) (fun i hi => by rw [h i hi]; rfl), sumN_zero]; rfl
theorem sumN_only {p : Int} {n k : Nat} {f : Nat → Int} (hk : k < n) (h : ∀ i, i < n → i ≠ k → f i % p = 0) : sumN n f % p = f k % p := by
  rw [← sumN_one f hk]
  refine sumN_mod fun i hi => ?_
  by_cases e : i = k
  · rw [if_pos e]
  · rw [if_neg e, h i hi e]; rfl
theorem sumN_upd {n c : Nat} (f x : Nat → Int) (d : Int) (hc : c < n) : sumN n (fun j => f j * (if j = c then x j + d else x j)) = sumN n (fun j => f j * x j) + f c * d := by
  rw [← sumN_one (fun j => f j * d) hc, ← sumN_add]
  refine sumN_congr fun j _ => ?_
  split
  · rw [Int.mul_add]
  · omega
/-- A matrix, told as the product of c and u; the rows rw and columns cw count. -/
structure Cp (p : Int) (R C r : Nat) (A : Mx) (rw cw : Nat → Nat) (c u : Mx) : Prop where
  rlt : ∀ k, k < r → rw k < R
  rinc : ∀ j k, j < k → k < r → rw j < rw k
  clt : ∀ k, k < r → cw k < C
  upiv : ∀ k, k < r → u k (cw k) % p ≠ 0
  uz : ∀ j k, j < k → k < r → u k (cw j) % p = 0
  uh : ∀ k, k < r → ∀ j, j < cw k → u k j % p = 0
  c1 : ∀ k, k < r → c (rw k) k % p = 1
  cz : ∀ k, k < r → ∀ i, i < rw k → c i k % p = 0
  made : ∀ i, i < R → ∀ j, j < C → A i j % p = sumN r (fun k => c i k * u k j) % p
/-- A matrix times a vector. -/
def apX (C : Nat) (A : Mx) (x : Nat → Int) : Nat → Int := fun i => sumN C (fun j => A i j * x j)
theorem apX_add (C : Nat) (A : Mx) (x y : Nat → Int) (i : Nat) : apX C A (fun j => x j + y j) i = apX C A x i + apX C A y i := by
  unfold apX; rw [← sumN_add]; exact sumN_congr fun j _ => Int.mul_add ..
theorem apX_sub (C : Nat) (A : Mx) (x y : Nat → Int) (i : Nat) : apX C A (fun j => x j - y j) i = apX C A x i - apX C A y i := by
  unfold apX; rw [← sumN_sub]; exact sumN_congr fun j _ => Int.mul_sub ..
theorem apX_mod {p : Int} {C : Nat} {A : Mx} {x y : Nat → Int} (h : ∀ j, j < C → x j % p = y j % p) (i : Nat) : apX C A x i % p = apX C A y i % p :=
  sumN_mod fun j hj => em_mul rfl (h j hj)
section
variable {P R C r : Nat} {A : Mx} {rw cw : Nat → Nat} {c u : Mx}
theorem Cp.cdis (H : Cp P R C r A rw cw c u) {j k : Nat} (hj : j < r) (hk : k < r) (e : cw j = cw k) : j = k := by
  rcases Nat.lt_trichotomy j k with h | h | h
  · exact absurd (e ▸ H.uz j k h hk) (H.upiv k hk)
  · exact h
  · exact absurd (e ▸ H.uz k j h hj) (H.upiv j hj)
theorem Cp.ap (H : Cp P R C r A rw cw c u) {x : Nat → Int} {i : Nat} (hi : i < R) : apX C A x i % P = sumN r (fun k => c i k * apX C u x k) % P := by
  unfold apX
  have e : sumN r (fun k => c i k * sumN C (fun j => u k j * x j)) = sumN C (fun j => sumN r (fun k => c i k * u k j) * x j) := by
    rw [sumN_congr fun k _ => (sumN_mul C (c i k) (fun j => u k j * x j)).symm, sumN_swap]
    refine sumN_congr fun j _ => ?_
    rw [← sumN_mulr]
    exact sumN_congr fun k _ => by rw [Int.mul_assoc]
  rw [e]
  exact sumN_mod fun j hj => em_mul (H.made i hi j hj) rfl
/-- Whatever the rests shall make: something makes it, with what one likes elsewhere. -/
theorem Cp.usolve (hP : Prm P) (H : Cp P R C r A rw cw c u) (z x0 : Nat → Int) : ∃ x : Nat → Int, (∀ j, (∀ k, k < r → j ≠ cw k) → x j = x0 j) ∧ ∀ k, k < r → apX C u x k % P = z k % P := by
  have key : ∀ d, d ≤ r → ∃ x : Nat → Int, (∀ j, (∀ k, k < r → j ≠ cw k) → x j = x0 j) ∧ ∀ k, r - d ≤ k → k < r → apX C u x k % P = z k % P := by
    intro d
    induction d with
    | zero => exact fun _ => ⟨x0, fun _ _ => rfl, fun k h1 h2 => by omega⟩
    | succ d ih =>
      intro hd
      obtain ⟨x, h1, h2⟩ := ih (by omega)
      have hm : r - (d + 1) < r := by omega
      obtain ⟨b, hb⟩ := prm_nz hP (H.upiv _ hm)
      obtain ⟨y, hy⟩ : ∃ y, apX C u x (r - (d + 1)) = y := ⟨_, rfl⟩
      refine ⟨fun j => if j = cw (r - (d + 1)) then x j + b * (z (r - (d + 1)) - y) else x j, fun j hj => ?_, fun k h3 h4 => ?_⟩
      · simp only
        rw [if_neg (hj _ hm)]; exact h1 j hj
      · unfold apX
        rw [sumN_upd _ _ _ (H.clt _ hm)]
        by_cases e : k = r - (d + 1)
        · subst e
          show (apX C u x _ + _) % _ = _
          rw [hy, ← Int.mul_assoc]
          have : (y + u (r - (d + 1)) (cw (r - (d + 1))) * b * (z (r - (d + 1)) - y)) % P = (y + 1 * (z (r - (d + 1)) - y)) % P := em_add rfl (em_mul (by rw [hb]; exact (Int.emod_eq_of_lt (by omega) (by have := hP.1; omega)).symm) rfl)
          rw [this, Int.one_mul]; congr 1; omega
        · have h5 := h2 k (by omega) h4
          rw [← h5]
          show (apX C u x k + _) % _ = _
          have h6 := H.uz (r - (d + 1)) k (by omega) h4
          rw [Int.add_emod, em_z h6, Int.add_zero, Int.emod_emod_of_dvd _ (Int.dvd_refl _)]
  obtain ⟨x, h1, h2⟩ := key r (Nat.le_refl _)
  exact ⟨x, h1, fun k hk => h2 k (by omega) hk⟩
/-- What is 0 elsewhere, and of which the rests make 0, is 0. -/
theorem Cp.uinj (hP : Prm P) (H : Cp P R C r A rw cw c u) {x : Nat → Int} (h0 : ∀ j, j < C → (∀ k, k < r → j ≠ cw k) → x j % P = 0) (h1 : ∀ k, k < r → apX C u x k % P = 0) : ∀ j, j < C → x j % P = 0 := by
  have key : ∀ d k, d ≤ r → r - d ≤ k → k < r → x (cw k) % P = 0 := by
    intro d
    induction d with
    | zero => intro k _ h1 h2; omega
    | succ d ih =>
      intro k hd h2 h3
      by_cases e : r - d ≤ k
      · exact ih k (by omega) e h3
      · have hk : k = r - (d + 1) := by omega
        have h4 := h1 k h3
        unfold apX at h4
        rw [sumN_only (H.clt k h3) (fun j hj hjk => ?_)] at h4
        · exact prm_mul0 hP h4 (H.upiv k h3)
        · by_cases c1 : ∀ m, m < r → j ≠ cw m
          · exact em_z' (h0 j hj c1)
          · have : ∃ m, m < r ∧ j = cw m := Classical.byContradiction fun hn => c1 fun m hm e => hn ⟨m, hm, e⟩
            obtain ⟨m, hm, rfl⟩ := this
            by_cases c2 : m < k
            · exact em_z (H.uz m k c2 h3)
            · by_cases c3 : m = k
              · subst c3; exact absurd rfl hjk
              · exact em_z' (ih m (by omega) (by omega) hm)
  intro j hj
  by_cases c1 : ∀ m, m < r → j ≠ cw m
  · exact h0 j hj c1
  · have : ∃ m, m < r ∧ j = cw m := Classical.byContradiction fun hn => c1 fun m hm e => hn ⟨m, hm, e⟩
    obtain ⟨m, hm, rfl⟩ := this
    exact key r m (Nat.le_refl _) (by omega) hm
/-- Of the rows that count, what makes 0 is 0. -/
theorem Cp.cinj (H : Cp P R C r A rw cw c u) {z : Nat → Int} (h1 : ∀ m, m < r → sumN r (fun k => c (rw m) k * z k) % P = 0) : ∀ k, k < r → z k % P = 0 := by
  intro k
  induction k using Nat.strongRecOn with
  | _ k ih =>
  intro hk
  have h2 := h1 k hk
  rw [sumN_only hk (fun j hj hjk => ?_)] at h2
  · rw [Int.mul_emod, H.c1 k hk, Int.one_mul, Int.emod_emod_of_dvd _ (Int.dvd_refl _)] at h2
    exact h2
  · by_cases c : j < k
    · exact em_z' (ih j c hj)
    · exact em_z (H.cz j hj _ (H.rinc k j (by omega) hj))
/-- What is taken to 0 is what the rests take to 0. -/
theorem Cp.ker (H : Cp P R C r A rw cw c u) {x : Nat → Int} : (∀ i, i < R → apX C A x i % P = 0) ↔ ∀ k, k < r → apX C u x k % P = 0 := by
  constructor
  · intro h
    exact H.cinj fun m hm => by rw [← H.ap (H.rlt m hm)]; exact h _ (H.rlt m hm)
  · intro h i hi
    rw [H.ap hi]
    exact sumN_0 fun k hk => em_z' (h k hk)
end
end Go.Proofs.Ythnfphgjfpcpbaa.TM
namespace Go.Proofs.Ythnfphgjfpcpbaa.TM
open Go Go.RowKit
set_option linter.unusedVariables false
set_option linter.defProp false
set_option linter.unusedSimpArgs false
theorem getD_app {α : Type} (l : List α) (x d : α) (k : Nat) : (l ++ [x]).getD k d = if k < l.length then l.getD k d else if k = l.length then x else d := by
  rw [List.getD_eq_getElem?_getD, List.getD_eq_getElem?_getD]
  by_cases h : k < l.length
  · rw [if_pos h, List.getElem?_append_left h]
  · rw [if_neg h, List.getElem?_append_right (by omega)]
    by_cases e : k = l.length
    · subst e; rw [if_pos rfl]; simp
    · rw [if_neg e, List.getElem?_eq_none (by simp; omega)]; rfl
def rwF (T : Tk) (k : Nat) : Nat := (T.rows.getD k 0).toNat
def cwF (T : Tk) (k : Nat) : Nat := (T.cols.getD k 0).toNat
def cF (T : Tk) : Mx := fun i k => (csF T i).getD k 0
def uF (T : Tk) : Mx := fun k j => (T.us.getD k []).getD j 0
def vF (T : Tk) (k : Nat) : Int := T.vs.getD k 0
/-- What is taken apart so far is so. -/
structure TkC (P C i : Nat) (A : Mx) (T : Tk) : Prop where
  I : TkI P C i T
  H : Cp P i C T.us.length A (rwF T) (cwF T) (cF T) (uF T)
  inv : ∀ k, k < T.us.length → uF T k (cwF T k) * vF T k % P = 1
/-- What a row's rest is. -/
theorem rest_spec {P C i : Nat} {A : Mx} {T : Tk} (K : TkC P C i A T) {row : List Int} (hl : row.length = C) : ∀ k, k ≤ T.us.length →
    (∀ j, j < k → (elR P T row k).getD (cwF T j) 0 % P = 0) ∧ ∀ q, q < C → row.getD q 0 % P = ((elR P T row k).getD q 0 + sumN k (fun m => elX P T row m * uF T m q)) % P
  | 0, _ => ⟨fun j h => by omega, fun q _ => by simp [elR, sumN]⟩
  | k + 1, hk => by
    obtain ⟨h1, h2⟩ := rest_spec K hl k (by omega)
    have len := elR_len P T row k
    rw [hl] at len
    have get : ∀ q, q < C → (elR P T row (k + 1)).getD q 0 % P = ((elR P T row k).getD q 0 - elX P T row k * uF T k q) % P := fun q hq => by
      rw [elR_succ, lessV_get _ _ _ _ (by omega), Int.emod_emod_of_dvd _ (Int.dvd_refl _)]
      exact em_sub rfl (Int.emod_emod_of_dvd _ (Int.dvd_refl _))
    refine ⟨fun j hj => ?_, fun q hq => ?_⟩
    · rw [get _ (K.H.clt j (by omega))]
      by_cases e : j = k
      · subst e
        have hx : elX P T row j % P = ((elR P T row j).getD (cwF T j) 0 * vF T j) % P := by unfold elX vF cwF; exact Int.emod_emod_of_dvd _ (Int.dvd_refl _)
        have hi := K.inv j (by omega)
        generalize (elR P T row j).getD (cwF T j) 0 = y at hx ⊢
        rw [em_sub rfl (em_mul hx rfl)]
        have hm : (2 : Int) ≤ P := K.I.ri |> fun _ => by
          rcases Nat.lt_or_ge P 2 with h | h
          · have : P = 0 ∨ P = 1 := by omega
            rcases this with rfl | rfl
            · exact absurd (K.H.upiv j (by omega)) (by
                intro hne
                have hz := K.I.ul (T.us.getD j []) (by rw [List.getD_eq_getElem?_getD, List.getElem?_eq_getElem (show j < T.us.length by omega)]; exact List.getElem_mem _)
                have hin := getD_of hz.2 (i := cwF T j) (by rw [hz.1]; exact K.H.clt j (by omega))
                unfold In at hin; omega)
            · exact absurd hi (by rw [show ((1 : Nat) : Int) = 1 from rfl, Int.emod_one]; decide)
          · omega
        have : (y - y * vF T j * uF T j (cwF T j)) % P = (y - y * 1) % P := em_sub rfl (by
          rw [Int.mul_assoc]
          exact em_mul rfl (by rw [Int.mul_comm, hi]; exact (Int.emod_eq_of_lt (by decide) (by omega)).symm))
        rw [this, Int.mul_one, Int.sub_self]; rfl
      · have h3 := K.H.uz j k (by omega) (by omega)
        rw [Int.sub_emod, h1 j (by omega), em_z' h3]; rfl
    · rw [h2 q hq, sumN]
      have h4 := em_add (get q hq) (rfl : (sumN k (fun m => elX P T row m * uF T m q) + elX P T row k * uF T k q) % P = _)
      rw [h4]; congr 1; omega
theorem cup_step {P C i : Nat} {A : Mx} {T : Tk} (hP : Prm P) (hp : Md P) (K : TkC P C i A T) {row : List Int} (hrow : ∀ a ∈ row, In P a) (hl : row.length = C) (hA : ∀ j, j < C → A i j % P = row.getD j 0 % P) : TkC P C (i + 1) A (tkRow P T i row) := by
  have I := K.I
  have H := K.H
  have J := I.next hP hp hrow hl
  obtain ⟨c1, _⟩ := tkRow_cs (P := P) (row := row) I
  obtain ⟨te1, te2⟩ := tk_end (p := P) I row (i : Int) rfl
  obtain ⟨s1, s2⟩ := rest_spec K hl T.us.length (Nat.le_refl _)
  have rl : (rstT P T row).length = C := by unfold rstT; rw [elR_len, hl]
  have rin : ∀ a ∈ rstT P T row, In P a := elR_in hp T hrow _
  change ∀ j, j < T.us.length → (rstT P T row).getD (cwF T j) 0 % P = 0 at s1
  change ∀ q, q < C → row.getD q 0 % P = ((rstT P T row).getD q 0 + _) % P at s2
  have xg : ∀ k, k < T.us.length → (xsT P T row).getD k 0 = elX P T row k := fun k hk => tbl_getD _ hk
  have xl : (xsT P T row).length = T.us.length := tbl_len ..
  have cold : ∀ i', i' < i → ∀ k, cF (tkRow P T i row) i' k = cF T i' k := fun i' h k => by unfold cF; rw [c1 i' h]
  rcases nzA_spec (rstT P T row) 0 with ⟨z1, z2⟩ | ⟨n, z1, z2, z3, z4⟩
  · have neg : nzA (rstT P T row) 0 < 0 := by rw [z1]; decide
    obtain ⟨t1, t2, t3, t4⟩ := tk_no (p := P) (T := T) (row := row) (x := i) neg
    have te := te1 neg
    have e1 : rwF (tkRow P T i row) = rwF T := by unfold rwF; rw [t1]
    have e2 : cwF (tkRow P T i row) = cwF T := by unfold cwF; rw [t2]
    have e3 : uF (tkRow P T i row) = uF T := by unfold uF; rw [t3]
    have e4 : vF (tkRow P T i row) = vF T := by unfold vF; rw [t4]
    refine ⟨J, ?_, ?_⟩
    · rw [t3, e1, e2, e3]
      refine ⟨fun k hk => by have := H.rlt k hk; omega, H.rinc, H.clt, H.upiv, H.uz, H.uh, fun k hk => ?_, fun k hk i' hi' => ?_, fun i' hi' j hj => ?_⟩
      · rw [cold _ (H.rlt k hk)]; exact H.c1 k hk
      · rw [cold _ (Nat.lt_trans hi' (H.rlt k hk))]; exact H.cz k hk i' hi'
      · by_cases e : i' = i
        · subst e
          rw [hA j hj, s2 j hj]
          have z : (rstT P T row).getD j 0 = 0 := by rw [List.getD_eq_getElem?_getD, List.getElem?_eq_getElem (by omega)]; exact z2 _ (List.getElem_mem _)
          rw [z, Int.zero_add]
          refine sumN_mod fun k hk => ?_
          unfold cF csF
          rw [te, xg k hk]
        · rw [H.made i' (by omega) j hj]
          exact sumN_mod fun k hk => by rw [cold i' (by omega)]
    · rw [t3, e2, e3, e4]; exact K.inv
  · have neg : ¬ nzA (rstT P T row) 0 < 0 := by rw [z1]; omega
    obtain ⟨t1, t2, t3, t4⟩ := tk_yes (p := P) (T := T) (row := row) (x := i) neg
    have te := te2 neg
    have zn : (((0 + n : Nat) : Int)).toNat = n := by omega
    have zi : ((0 + n : Nat) : Int) = (n : Int) := by omega
    rw [z1] at t2 t4
    rw [zn] at t4
    rw [zi] at t2
    have r1 : ∀ k, rwF (tkRow P T i row) k = if k < T.us.length then rwF T k else if k = T.us.length then i else 0 := fun k => by
      unfold rwF; rw [t1, getD_app, I.rl]; (repeat' split) <;> simp
    have r2 : ∀ k, cwF (tkRow P T i row) k = if k < T.us.length then cwF T k else if k = T.us.length then n else 0 := fun k => by
      unfold cwF; rw [t2, getD_app, I.ql]; (repeat' split) <;> simp
    have r3 : ∀ k j, uF (tkRow P T i row) k j = if k < T.us.length then uF T k j else if k = T.us.length then (rstT P T row).getD j 0 else 0 := fun k j => by
      unfold uF; rw [t3, getD_app]; (repeat' split) <;> simp
    have r4 : ∀ k, vF (tkRow P T i row) k = if k < T.us.length then vF T k else if k = T.us.length then finvC P ((rstT P T row).getD n 0) else 0 := fun k => by
      unfold vF; rw [t4, getD_app, I.vl]
    have rn : In P ((rstT P T row).getD n 0) := getD_of rin z2
    have rnz : (rstT P T row).getD n 0 % P ≠ 0 := by rw [Int.emod_eq_of_lt rn.1 rn.2]; exact z3
    have us1 : (tkRow P T i row).us.length = T.us.length + 1 := by rw [t3]; simp
    have cnew : ∀ k, cF (tkRow P T i row) i k = if k < T.us.length then elX P T row k else if k = T.us.length then 1 else 0 := fun k => by
      unfold cF csF
      rw [te, getD_app, xl]
      split
      · rename_i h; rw [xg k h]
      · rfl
    have cnr : ∀ i', i' < i → cF T i' T.us.length = 0 := fun i' h => by
      unfold cF csF
      have : ((T.cs.getD i' [])).length ≤ T.us.length := by
        rw [List.getD_eq_getElem?_getD, List.getElem?_eq_getElem (by rw [I.cl]; exact h)]
        exact (I.cb _ (List.getElem_mem _)).1
      rw [List.getD_eq_getElem?_getD, List.getElem?_eq_none this]; rfl
    refine ⟨J, ?_, ?_⟩
    · rw [us1]
      refine ⟨fun k hk => ?_, fun j k hjk hk => ?_, fun k hk => ?_, fun k hk => ?_, fun j k hjk hk => ?_, fun k hk j hj => ?_, fun k hk => ?_, fun k hk i' hi' => ?_, fun i' hi' j hj => ?_⟩
      · rw [r1]
        by_cases h : k < T.us.length
        · rw [if_pos h]; have := H.rlt k h; omega
        · rw [if_neg h, if_pos (by omega)]; omega
      · rw [r1, r1, if_pos (show j < T.us.length by omega)]
        by_cases h : k < T.us.length
        · rw [if_pos h]; exact H.rinc j k hjk h
        · rw [if_neg h, if_pos (by omega)]; exact H.rlt j (by omega)
      · rw [r2]
        by_cases h : k < T.us.length
        · rw [if_pos h]; exact H.clt k h
        · rw [if_neg h, if_pos (by omega)]; omega
      · rw [r3, r2]
        by_cases h : k < T.us.length
        · rw [if_pos h, if_pos h]; exact H.upiv k h
        · rw [if_neg h, if_pos (by omega), if_neg h, if_pos (by omega)]; exact rnz
      · rw [r3, r2, if_pos (show j < T.us.length by omega)]
        by_cases h : k < T.us.length
        · rw [if_pos h]; exact H.uz j k hjk h
        · rw [if_neg h, if_pos (by omega)]; exact s1 j (by omega)
      · rw [r2] at hj
        rw [r3]
        by_cases h : k < T.us.length
        · rw [if_pos h] at hj ⊢; exact H.uh k h j hj
        · rw [if_neg h, if_pos (by omega)] at hj ⊢; rw [z4 j hj]; rfl
      · rw [r1]
        by_cases h : k < T.us.length
        · rw [if_pos h, cold _ (H.rlt k h)]; exact H.c1 k h
        · rw [if_neg h, if_pos (by omega), cnew, if_neg h, if_pos (by omega)]
          exact Int.emod_eq_of_lt (by decide) (by have := hp.1; omega)
      · rw [r1] at hi'
        by_cases h : k < T.us.length
        · rw [if_pos h] at hi'
          rw [cold _ (Nat.lt_trans hi' (H.rlt k h))]; exact H.cz k h i' hi'
        · rw [if_neg h, if_pos (by omega)] at hi'
          have ek : k = T.us.length := by omega
          subst ek
          rw [cold i' hi', cnr i' hi']; rfl
      · rw [sumN]
        by_cases e : i' = i
        · subst e
          rw [hA j hj, s2 j hj, r3, if_neg (by omega), if_pos rfl, cnew, if_neg (by omega), if_pos rfl, Int.one_mul, Int.add_comm]
          refine em_add (sumN_mod fun k hk => ?_) rfl
          rw [cnew, if_pos hk, r3, if_pos hk]
        · rw [H.made i' (by omega) j hj, cold i' (by omega), cnr i' (by omega), Int.zero_mul, Int.add_zero]
          refine sumN_mod fun k hk => ?_
          rw [cold i' (by omega), r3, if_pos hk]
    · intro k hk
      rw [us1] at hk
      rw [r3, r2, r4]
      by_cases h : k < T.us.length
      · rw [if_pos h, if_pos h, if_pos h]; exact K.inv k h
      · rw [if_neg h, if_pos (by omega), if_neg h, if_pos (by omega), if_neg h, if_pos (by omega)]
        exact (finvC_in hp.1 hp.2 rn (prm_gcd hP rn z3)).2
theorem tkN_C {P R C : Nat} {l : List Int} (hP : Prm P) (hp : Md P) (hl : l.length = R * C) (hin : ∀ a ∈ l, In P a) : ∀ i, i ≤ R → TkC P C i (cl C l) (tkN P C l i)
  | 0, _ => ⟨TkI.zero _ _, ⟨fun k h => absurd h (Nat.not_lt_zero k), fun j k _ h => absurd h (Nat.not_lt_zero k), fun k h => absurd h (Nat.not_lt_zero k), fun k h => absurd h (Nat.not_lt_zero k), fun j k _ h => absurd h (Nat.not_lt_zero k), fun k h => absurd h (Nat.not_lt_zero k), fun k h => absurd h (Nat.not_lt_zero k), fun k h => absurd h (Nat.not_lt_zero k), fun i h => absurd h (Nat.not_lt_zero i)⟩, fun k h => absurd h (Nat.not_lt_zero k)⟩
  | i + 1, h => cup_step hP hp (tkN_C hP hp hl hin i (by omega)) (fun a ha => hin a (rowM_mem ha)) (rowM_len hl (by omega)) fun j hj => by rw [rowM_cl hl (by omega) hj]
end Go.Proofs.Ythnfphgjfpcpbaa.TM
