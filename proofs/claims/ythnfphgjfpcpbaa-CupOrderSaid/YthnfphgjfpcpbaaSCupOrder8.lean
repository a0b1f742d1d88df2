/- What is proved of functions, and plain facts, part 8. Conditions: none. -/
import Derived.Test.YthnfphgjfpcpbaaSCupOrder7
import Derived.RangeFuncNested
import Derived.RangeFuncBound
import Derived.RangeFuncCalls
import Derived.RangeFuncLeaves
import Derived.Shelf.Abstract
import Derived.WalkKit
import Derived.OwnWalkIn
import Derived.TacticsInMore
import Derived.LoopNIn
import Derived.LoopIn
import Derived.BigRegionIn
set_option linter.defProp false
set_option linter.unusedSectionVars false
set_option linter.unusedSimpArgs false
set_option linter.unusedVariables false
namespace Go.Proofs.Ythnfphgjfpcpbaa.TM
open Go Go.RowKit
attribute [local irreducible] K W WOps Effs Xg Xo Xr Xdg Xdo Xdr Xif CallsP CallR
def mkP (p : Int) (X Y : Nat → Int) : Nat → Int
  | 0 => 0
  | k + 1 => (mkP p X Y k + X k * Y k % p) % p
theorem mkP_in {p : Int} (hp : Md p) (X Y : Nat → Int) : ∀ k, In p (mkP p X Y k)
  | 0 => ⟨by show (0 : Int) ≤ 0; omega, by have := hp.1; show (0 : Int) < p; omega⟩
  | k + 1 => in_emod hp _
def mkG (p : Int) (cc uu : List (List Int)) (i q k : Nat) : Int := mkP p (fun k => (cc.getD i []).getD k 0) (fun k => (uu.getD k []).getD q 0) k
def mkF (p : Int) (cc uu : List (List Int)) (K C i k q : Nat) : Nat → Int := fun t => if t / C < i then mkG p cc uu (t / C) (t % C) K else if t / C = i then (if t % C < q then mkG p cc uu i (t % C) (k + 1) else mkG p cc uu i (t % C) k) else 0
def makeM (p : Int) (cc uu : List (List Int)) (R K C : Nat) : List Int := tbl (R * C) (fun t => mkG p cc uu (t / C) (t % C) K)
section
variable {p : Int} {cc uu : List (List Int)} {K C i k q R : Nat}
theorem mkF_0 : mkF p cc uu K C 0 0 0 = fun _ => 0 := by
  funext t
  unfold mkF
  rw [if_neg (Nat.not_lt_zero _)]
  split
  · rw [if_neg (Nat.not_lt_zero _)]; rfl
  · rfl
theorem mkF_q (hC : 0 < C) : mkF p cc uu K C i k C = mkF p cc uu K C i (k + 1) 0 := by
  funext t
  unfold mkF
  rw [if_pos (Nat.mod_lt t hC), if_neg (Nat.not_lt_zero (t % C))]
theorem mkF_k : mkF p cc uu K C i K 0 = mkF p cc uu K C (i + 1) 0 0 := by
  funext t
  unfold mkF
  simp only [Nat.not_lt_zero, if_false]
  by_cases c1 : t / C < i
  · rw [if_pos c1, if_pos (by omega)]
  · rw [if_neg c1]
    by_cases c2 : t / C = i
    · rw [if_pos c2, if_pos (by omega), c2]
    · rw [if_neg c2, if_neg (by omega)]
      by_cases c3 : t / C = i + 1
      · rw [if_pos c3]; rfl
      · rw [if_neg c3]
theorem mkF_s (hq : q < C) : (fun t => if t = i * C + q then mkG p cc uu i q (k + 1) else mkF p cc uu K C i k q t) = mkF p cc uu K C i k (q + 1) := by
  funext t
  have d1 : (i * C + q) / C = i := by rw [Nat.mul_comm, Nat.mul_add_div (by omega), Nat.div_eq_of_lt hq, Nat.add_zero]
  have d2 : (i * C + q) % C = q := by rw [Nat.mul_comm, Nat.mul_add_mod, Nat.mod_eq_of_lt hq]
  by_cases e : t = i * C + q
  · subst e
    unfold mkF
    rw [if_pos rfl, d1, d2, if_neg (by omega), if_pos rfl, if_pos (by omega)]
  · rw [if_neg e]
    unfold mkF
    by_cases c1 : t / C < i
    · rw [if_pos c1, if_pos c1]
    · rw [if_neg c1, if_neg c1]
      by_cases c2 : t / C = i
      · rw [if_pos c2, if_pos c2]
        have : t % C ≠ q := fun h => e (by rw [← c2, ← h, Nat.mul_comm]; exact (Nat.div_add_mod t C).symm)
        by_cases c3 : t % C < q
        · rw [if_pos c3, if_pos (by omega)]
        · rw [if_neg c3, if_neg (by omega)]
      · rw [if_neg c2, if_neg c2]
theorem mkF_at (hq : q < C) : mkF p cc uu K C i k q (i * C + q) = mkG p cc uu i q k := by
  have d1 : (i * C + q) / C = i := by rw [Nat.mul_comm, Nat.mul_add_div (by omega), Nat.div_eq_of_lt hq, Nat.add_zero]
  have d2 : (i * C + q) % C = q := by rw [Nat.mul_comm, Nat.mul_add_mod, Nat.mod_eq_of_lt hq]
  unfold mkF
  rw [d1, d2, if_neg (by omega), if_pos rfl, if_neg (by omega)]
theorem mkF_end : tbl (R * C) (mkF p cc uu K C R 0 0) = makeM p cc uu R K C := tbl_congr fun t ht => by
  unfold mkF
  rw [if_pos (Nat.div_lt_of_lt_mul (by rw [Nat.mul_comm]; exact ht))]
end
set_option maxHeartbeats 8000000 in
theorem make_yes {p : Int} {R C K : Nat} {rw0 cw : List Int} {cc uu : List (List Int)} (hp : Md p) (r1 : 1 ≤ R) (r2 : R ≤ 64) (c1 : 1 ≤ C) (c2 : C ≤ 64) (hc : cc.length = R) (hu : uu.length = K) (hK : K ≤ maxLen)
    (hc2 : ∀ x ∈ cc, x.length = K ∧ ∀ a ∈ x, In p a) (hu2 : ∀ x ∈ uu, x.length = C ∧ ∀ a ∈ x, In p a) :
    CallsP Try.prog 47 [u64 p, cupQ (rw0, cw, cc, uu), i64 R, i64 C] (.tup [matP R C (makeM p cc uu R K C), i64 0]) := by
  have q1 := right_walk p
  rw [show RightB p = true by unfold RightB; simp; exact ⟨by have := hp.1; omega, by have := hp.2; omega⟩] at q1
  have q2 := side7_walk (R : Int)
  rw [(side_iff _).2 ⟨by omega, by omega⟩] at q2
  have q3 := side7_walk (C : Int)
  rw [(side_iff _).2 ⟨by omega, by omega⟩] at q3
  have q4 := rows7_walk (p := p) (each := (K : Int)) (l := cc) (by rw [mx_len]; omega) (fun u h => by rw [(hc2 u h).1]; exact hK)
  rw [(rowsB_iff _ _ _).2 fun u h => ⟨by rw [(hc2 u h).1], (has_iff _ _).2 ⟨fun a ha => ((hc2 u h).2 a ha).2, hp⟩⟩] at q4
  have q5 := rows7_walk (p := p) (each := (C : Int)) (l := uu) (by rw [hu]; exact hK) (fun u h => by rw [(hu2 u h).1, mx_len]; omega)
  rw [(rowsB_iff _ _ _).2 fun u h => ⟨by rw [(hu2 u h).1], (has_iff _ _).2 ⟨fun a ha => ((hu2 u h).2 a ha).2, hp⟩⟩] at q5
  have bd := rc_bd r2 c2
  have f1 : IntKind.i64.wrap ((R : Int) * (C : Int)) = ((R * C : Nat) : Int) := by rw [← Int.natCast_mul]; exact iw_of (by omega) (by omega)
  have cb : R * C * 8 ≤ 140737488355328 := by omega
  have cb2 : R * C ≤ 140737488355328 := by omega
  have f0 : (0 : Int) ≤ ((R * C : Nat) : Int) := by omega
  have z0 := zero_tbl (R * C)
  rw [← mkF_0 (p := p) (cc := cc) (uu := uu) (K := K) (C := C)] at z0
  rw [← mkF_end]
  have hcc : (cc.length : Int) = (R : Int) := by omega
  rw [mx_len] at hK
  refine X_startP (n := 126) (m := 4) (rs := [.cell 8 25, .tmp 9]) Try.func47 rfl rfl rfl rfl (by decide) fun base => ?_
  repeat (first | ((first | refine X_call_fn2 rfl (by simp only [tys]) ?_ | refine X_dcall_fn2 rfl (by simp only [tys]) ?_); apply Exists.intro; apply And.intro; (focus (simp -dsimp only [simx, zzC, zzB, tys, ite_self, opnL, callB, callX, readsB, stepOp, nilCmp, ofVal, opBuiltin, opLen, PV.sk, scalBin, scalUn, intBin, opLoad, natOf, opConvert, opField, cellsP, oneP, Value.oneCell', opStore, toIV, scalT, scalA, scalC, boxesA, boxesC, zipB_none, zipB_mx, isZ, opZip, zeroP, opAppendZ, opMakeMap, opLookup, mboxB, opUpdate, ↓reduceIte, Nat.reduceSub, Nat.reduceEqDiff, Nat.reduceAdd, Nat.reduceMul, Nat.reduceLT, Nat.reduceLeDiff, Int.reduceToNat, Int.reduceLE, Int.reduceLT, Int.reduceNeg, reduceCtorEq, zzL, if_true, if_false] <;> rfl)); apply Exists.intro; apply And.intro; (focus (first | exact q1 | exact q2 | exact q3 | exact q4 | exact q5))) | refine X_opc rfl ?_ | refine X_dopc rfl ?_ | refine ⟨(by show drawK _ _ = true; kernel_rfl : drawX _ _ _), ?_⟩ | exact (by show drawK _ _ = true; kernel_rfl : drawX _ _ _) | simp -dsimp (maxSteps := 20000000) (disch := omega) only [simx, zzC, zzB, tys, ite_self, opnL, callB, callX, readsB, stepOp, nilCmp, ofVal, opBuiltin, opLen, PV.sk, scalBin, scalUn, intBin, opLoad, natOf, opConvert, opField, cellsP, oneP, Value.oneCell', opStore, toIV, scalT, scalA, scalC, boxesA, boxesC, zipB_none, zipB_mx, isZ, opZip, zeroP, opAppendZ, opMakeMap, opLookup, mboxB, opUpdate, ↓reduceIte, Nat.reduceSub, Nat.reduceEqDiff, Nat.reduceAdd, Nat.reduceMul, Nat.reduceLT, Nat.reduceLeDiff, Int.reduceToNat, Int.reduceLE, Int.reduceLT, Int.reduceNeg, reduceCtorEq, gos, Int.reduceAdd, Int.reduceSub, Int.reduceMul, Int.reduceEq, SK.len, hcc, hu, f1, f0, cb, cb2, z0])
  clear q1 q2 q3 q4 q5 z0 f0 f1 cb cb2
  refine X_loopH [0, 3, 5, 8, 10, 67, 68, 69] [] (0) (R) (fun j => True) (fun j => [(68, i64 R), (69, i64 j)]) (fun j => ((((Heap.none.put ((0, 0) :: base) (.var [li rw0, li cw, llP cc, llP uu])).put ((0, 1) :: base) (.var [i64 0, i64 0, nilP])).put ((3, 5) :: base) (.row false ((tbl (R * C) (mkF p cc uu K C j 0 0)).map iu))).put ((3, 7) :: base) (.var [i64 R, i64 C, .view ((3, 5) :: base) 0 1 (R * C) (R * C)]))) ?_ ?_ ?_ ?_ ?_ (by decide) ?_
  · exact (fgt_nil)
  · ((simp -dsimp (disch := omega) only [simx, zzB, tys, ite_self, opnL, callB, callX, readsB, stepOp, nilCmp, ofVal, opBuiltin, opLen, PV.sk, scalBin, scalUn, intBin, opLoad, natOf, opConvert, opField, cellsP, oneP, Value.oneCell', opStore, toIV, scalT, scalA, scalC, boxesA, boxesC, zipB_none, zipB_mx, isZ, opZip, zeroP, opAppendZ, opMakeMap, opLookup, mboxB, opUpdate, ↓reduceIte, Nat.reduceSub, Nat.reduceEqDiff, Nat.reduceAdd, Nat.reduceMul, Nat.reduceLT, Nat.reduceLeDiff, Int.reduceToNat, Int.reduceLE, Int.reduceLT, Int.reduceNeg, reduceCtorEq, gos, Int.reduceAdd, Int.reduceSub, Int.reduceMul, Int.reduceEq]) <;> first | rfl | simp)
  · funext c
    simp (maxSteps := 20000000) only [Heap.drop_at, rowH_app, Heap.put_at, Heap.none_at, List.mem_cons, List.not_mem_nil, or_false]
    by_cases e0 : c = (0, 0) :: base
    · subst e0; simp []
    by_cases e1 : c = (0, 1) :: base
    · subst e1; simp []
    by_cases e2 : c = (3, 5) :: base
    · subst e2; simp []
    by_cases e3 : c = (3, 7) :: base
    · subst e3; simp []
    simp [e0, e1, e2, e3]
  · omega
  · trivial
  · intro i hi _
    by_cases ci : i < R
    · obtain ⟨x1, x2⟩ := hc2 (cc.getD i []) (getD_mm (by omega))
      have bi := ic_bd (c := C) ci
      have g1 : (cc.map fun u => IV.l u.length (u.map iu))[i]? = some (.l K ((cc.getD i []).map iu)) := by rw [List.getElem?_map, getD_at' (d := []) (by omega), Option.map_some, x1]
      have m1 : (i + 1) * C = i * C + C := Nat.succ_mul i C
      have f1 : IntKind.i64.wrap ((i : Int) * (C : Int)) = ((i * C : Nat) : Int) := by rw [← Int.natCast_mul]; exact iw_of (by omega) (by omega)
      have f2 : IntKind.i64.wrap (((i : Int) + 1) * (C : Int)) = ((i * C + C : Nat) : Int) := by
        rw [show ((i : Int) + 1) * (C : Int) = ((i * C + C : Nat) : Int) by rw [← m1]; push_cast; rfl]; exact iw_of (by omega) (by omega)
      have f3 : i * C + C - i * C = C := by omega
      have f5 : i * C ≤ i * C + C := by omega
      repeat (first | refine X_opc rfl ?_ | refine X_dopc rfl ?_ | refine ⟨(by show drawK _ _ = true; kernel_rfl : drawX _ _ _), ?_⟩ | exact (by show drawK _ _ = true; kernel_rfl : drawX _ _ _) | simp -dsimp (maxSteps := 20000000) (disch := omega) only [simx, zzC, zzB, tys, ite_self, opnL, callB, callX, readsB, stepOp, nilCmp, ofVal, opBuiltin, opLen, PV.sk, scalBin, scalUn, intBin, opLoad, natOf, opConvert, opField, cellsP, oneP, Value.oneCell', opStore, toIV, scalT, scalA, scalC, boxesA, boxesC, zipB_none, zipB_mx, isZ, opZip, zeroP, opAppendZ, opMakeMap, opLookup, mboxB, opUpdate, ↓reduceIte, Nat.reduceSub, Nat.reduceEqDiff, Nat.reduceAdd, Nat.reduceMul, Nat.reduceLT, Nat.reduceLeDiff, Int.reduceToNat, Int.reduceLE, Int.reduceLT, Int.reduceNeg, reduceCtorEq, gos, Int.reduceAdd, Int.reduceSub, Int.reduceMul, Int.reduceEq, ci, g1, f1, f2, f3, f5, bi, hc, SK.len, Option.isNone_none])
      clear g1 f1 f2 f3 f5
      refine X_loopH [0, 3, 5, 8, 10, 13, 67, 68, 69, 84, 85, 86] [] (0) (K) (fun j => True) (fun j => [(85, i64 K), (86, i64 j)]) (fun j => ((((Heap.none.put ((0, 0) :: base) (.var [li rw0, li cw, llP cc, llP uu])).put ((0, 1) :: base) (.var [i64 0, i64 0, nilP])).put ((3, 5) :: base) (.row false ((tbl (R * C) (mkF p cc uu K C i j 0)).map iu))).put ((3, 7) :: base) (.var [i64 R, i64 C, .view ((3, 5) :: base) 0 1 (R * C) (R * C)]))) ?_ ?_ ?_ ?_ ?_ (by decide) ?_
      · exact (fgt_nil)
      · ((simp -dsimp (disch := omega) only [simx, zzB, tys, ite_self, opnL, callB, callX, readsB, stepOp, nilCmp, ofVal, opBuiltin, opLen, PV.sk, scalBin, scalUn, intBin, opLoad, natOf, opConvert, opField, cellsP, oneP, Value.oneCell', opStore, toIV, scalT, scalA, scalC, boxesA, boxesC, zipB_none, zipB_mx, isZ, opZip, zeroP, opAppendZ, opMakeMap, opLookup, mboxB, opUpdate, ↓reduceIte, Nat.reduceSub, Nat.reduceEqDiff, Nat.reduceAdd, Nat.reduceMul, Nat.reduceLT, Nat.reduceLeDiff, Int.reduceToNat, Int.reduceLE, Int.reduceLT, Int.reduceNeg, reduceCtorEq, gos, Int.reduceAdd, Int.reduceSub, Int.reduceMul, Int.reduceEq]) <;> first | rfl | simp)
      · funext c
        simp (maxSteps := 20000000) only [Heap.drop_at, rowH_app, Heap.put_at, Heap.none_at, List.mem_cons, List.not_mem_nil, or_false]
        by_cases e0 : c = (0, 0) :: base
        · subst e0; simp []
        by_cases e1 : c = (0, 1) :: base
        · subst e1; simp []
        by_cases e2 : c = (3, 5) :: base
        · subst e2; simp []
        by_cases e3 : c = (3, 7) :: base
        · subst e3; simp []
        simp [e0, e1, e2, e3]
      · omega
      · trivial
      · intro k hk _
        by_cases ck : k < K
        · obtain ⟨y1, y2⟩ := hu2 (uu.getD k []) (getD_mm (by omega))
          have g1 : ((cc.getD i []).map iu)[k]? = some (iu ((cc.getD i []).getD k 0)) := by rw [List.getElem?_map, getD_some x1 ck]; rfl
          have g2 : (uu.map fun u => IV.l u.length (u.map iu))[k]? = some (.l C ((uu.getD k []).map iu)) := by rw [List.getElem?_map, getD_at' (d := []) (by omega), Option.map_some, y1]
          have xi := getD_of x2 (i := k) (by omega)
          obtain ⟨x, hx⟩ : ∃ x, (cc.getD i []).getD k 0 = x := ⟨_, rfl⟩
          rw [hx] at g1 xi
          obtain ⟨Y, hY⟩ : ∃ Y, uu.getD k [] = Y := ⟨_, rfl⟩
          rw [hY] at g2 y1 y2
          have gs : ∀ q, mkG p cc uu i q (k + 1) = (mkG p cc uu i q k + x * Y.getD q 0 % p) % p := fun q => by unfold mkG; rw [mkP, hx, hY]
          repeat (first | refine X_opc rfl ?_ | refine X_dopc rfl ?_ | refine ⟨(by show drawK _ _ = true; kernel_rfl : drawX _ _ _), ?_⟩ | exact (by show drawK _ _ = true; kernel_rfl : drawX _ _ _) | simp -dsimp (maxSteps := 20000000) (disch := omega) only [simx, zzC, zzB, tys, ite_self, opnL, callB, callX, readsB, stepOp, nilCmp, ofVal, opBuiltin, opLen, PV.sk, scalBin, scalUn, intBin, opLoad, natOf, opConvert, opField, cellsP, oneP, Value.oneCell', opStore, toIV, scalT, scalA, scalC, boxesA, boxesC, zipB_none, zipB_mx, isZ, opZip, zeroP, opAppendZ, opMakeMap, opLookup, mboxB, opUpdate, ↓reduceIte, Nat.reduceSub, Nat.reduceEqDiff, Nat.reduceAdd, Nat.reduceMul, Nat.reduceLT, Nat.reduceLeDiff, Int.reduceToNat, Int.reduceLE, Int.reduceLT, Int.reduceNeg, reduceCtorEq, gos, Int.reduceAdd, Int.reduceSub, Int.reduceMul, Int.reduceEq, ck, g1, g2, hu, SK.len])
          clear g1 g2
          refine X_loopH [0, 3, 5, 8, 10, 13, 15, 67, 68, 69, 84, 85, 86, 95, 96, 97] [] (0) (C) (fun j => True) (fun j => [(96, i64 C), (97, i64 j)]) (fun j => ((((Heap.none.put ((0, 0) :: base) (.var [li rw0, li cw, llP cc, llP uu])).put ((0, 1) :: base) (.var [i64 0, i64 0, nilP])).put ((3, 5) :: base) (.row false ((tbl (R * C) (mkF p cc uu K C i k j)).map iu))).put ((3, 7) :: base) (.var [i64 R, i64 C, .view ((3, 5) :: base) 0 1 (R * C) (R * C)]))) ?_ ?_ ?_ ?_ ?_ (by decide) ?_
          · exact (fgt_nil)
          · ((simp -dsimp (disch := omega) only [simx, zzB, tys, ite_self, opnL, callB, callX, readsB, stepOp, nilCmp, ofVal, opBuiltin, opLen, PV.sk, scalBin, scalUn, intBin, opLoad, natOf, opConvert, opField, cellsP, oneP, Value.oneCell', opStore, toIV, scalT, scalA, scalC, boxesA, boxesC, zipB_none, zipB_mx, isZ, opZip, zeroP, opAppendZ, opMakeMap, opLookup, mboxB, opUpdate, ↓reduceIte, Nat.reduceSub, Nat.reduceEqDiff, Nat.reduceAdd, Nat.reduceMul, Nat.reduceLT, Nat.reduceLeDiff, Int.reduceToNat, Int.reduceLE, Int.reduceLT, Int.reduceNeg, reduceCtorEq, gos, Int.reduceAdd, Int.reduceSub, Int.reduceMul, Int.reduceEq]) <;> first | rfl | simp)
          · funext c
            simp (maxSteps := 20000000) only [Heap.drop_at, rowH_app, Heap.put_at, Heap.none_at, List.mem_cons, List.not_mem_nil, or_false]
            by_cases e0 : c = (0, 0) :: base
            · subst e0; simp []
            by_cases e1 : c = (0, 1) :: base
            · subst e1; simp []
            by_cases e2 : c = (3, 5) :: base
            · subst e2; simp []
            by_cases e3 : c = (3, 7) :: base
            · subst e3; simp []
            simp [e0, e1, e2, e3]
          · omega
          · trivial
          · intro q hq _
            by_cases cq : q < C
            · have g3 : (Y.map iu)[q]? = some (iu (Y.getD q 0)) := by rw [List.getElem?_map, getD_some y1 cq]; rfl
              have lt : i * C + q < R * C := by omega
              have g4 : ((tbl (R * C) (mkF p cc uu K C i k q)).map iu)[i * C + q]? = some (iu (mkG p cc uu i q k)) := by rw [List.getElem?_map, tbl_get? _ lt, mkF_at cq]; rfl
              have px := tbl_put_iu (mkF p cc uu K C i k q) (mkG p cc uu i q (k + 1)) lt
              rw [mkF_s cq] at px
              have tl := tbl_len (R * C) (mkF p cc uu K C i k q)
              have n1 := Mul_in hp xi (getD_of y2 (i := q) (by omega))
              have n2 := Add_in hp (show In p (mkG p cc uu i q k) from mkP_in hp _ _ k) (in_emod hp (x * Y.getD q 0))
              rw [← gs q] at n2
              generalize mkG p cc uu i q (k + 1) = D1 at n2 px
              generalize mkG p cc uu i q k = D0 at n2 g4
              generalize x * Y.getD q 0 % p = D2 at n1 n2
              generalize Y.getD q 0 = y at g3 n1
              have lt2 : i * C + q + 1 ≤ R * C := by omega
              repeat (first | ((first | refine X_call_fn2 rfl (by simp only [tys]) ?_ | refine X_dcall_fn2 rfl (by simp only [tys]) ?_); apply Exists.intro; apply And.intro; (focus (simp -dsimp only [simx, zzC, zzB, tys, ite_self, opnL, callB, callX, readsB, stepOp, nilCmp, ofVal, opBuiltin, opLen, PV.sk, scalBin, scalUn, intBin, opLoad, natOf, opConvert, opField, cellsP, oneP, Value.oneCell', opStore, toIV, scalT, scalA, scalC, boxesA, boxesC, zipB_none, zipB_mx, isZ, opZip, zeroP, opAppendZ, opMakeMap, opLookup, mboxB, opUpdate, ↓reduceIte, Nat.reduceSub, Nat.reduceEqDiff, Nat.reduceAdd, Nat.reduceMul, Nat.reduceLT, Nat.reduceLeDiff, Int.reduceToNat, Int.reduceLE, Int.reduceLT, Int.reduceNeg, reduceCtorEq, zzL, if_true, if_false] <;> rfl)); apply Exists.intro; apply And.intro; (focus (first | exact n1 | exact n2))) | refine X_opc rfl ?_ | refine X_dopc rfl ?_ | refine ⟨(by show drawK _ _ = true; kernel_rfl : drawX _ _ _), ?_⟩ | exact (by show drawK _ _ = true; kernel_rfl : drawX _ _ _) | simp -dsimp (maxSteps := 20000000) (disch := omega) only [simx, zzC, zzB, tys, ite_self, opnL, callB, callX, readsB, stepOp, nilCmp, ofVal, opBuiltin, opLen, PV.sk, scalBin, scalUn, intBin, opLoad, natOf, opConvert, opField, cellsP, oneP, Value.oneCell', opStore, toIV, scalT, scalA, scalC, boxesA, boxesC, zipB_none, zipB_mx, isZ, opZip, zeroP, opAppendZ, opMakeMap, opLookup, mboxB, opUpdate, ↓reduceIte, Nat.reduceSub, Nat.reduceEqDiff, Nat.reduceAdd, Nat.reduceMul, Nat.reduceLT, Nat.reduceLeDiff, Int.reduceToNat, Int.reduceLE, Int.reduceLT, Int.reduceNeg, reduceCtorEq, gos, Int.reduceAdd, Int.reduceSub, Int.reduceMul, Int.reduceEq, cq, g3, g4, lt, lt2, tl, List.length_map, SK.len])
              refine ⟨cq, (fgt_nil), ?_, ?_⟩
              · rfl
              · rw [drop_nil, ← px]
                funext c
                simp (maxSteps := 20000000) only [Heap.drop_at, rowH_app, Heap.put_at, Heap.none_at, List.mem_cons, List.not_mem_nil, or_false]
                by_cases e0 : c = (0, 0) :: base
                · subst e0; simp []
                by_cases e1 : c = (0, 1) :: base
                · subst e1; simp []
                by_cases e2 : c = (3, 5) :: base
                · subst e2; simp []
                by_cases e3 : c = (3, 7) :: base
                · subst e3; simp []
                simp [e0, e1, e2, e3]
            · have eq : C = q := by omega
              subst eq
              repeat (first | refine X_opc rfl ?_ | refine X_dopc rfl ?_ | refine ⟨(by show drawK _ _ = true; kernel_rfl : drawX _ _ _), ?_⟩ | exact (by show drawK _ _ = true; kernel_rfl : drawX _ _ _) | simp -dsimp (maxSteps := 20000000) (disch := omega) only [simx, zzC, zzB, tys, ite_self, opnL, callB, callX, readsB, stepOp, nilCmp, ofVal, opBuiltin, opLen, PV.sk, scalBin, scalUn, intBin, opLoad, natOf, opConvert, opField, cellsP, oneP, Value.oneCell', opStore, toIV, scalT, scalA, scalC, boxesA, boxesC, zipB_none, zipB_mx, isZ, opZip, zeroP, opAppendZ, opMakeMap, opLookup, mboxB, opUpdate, ↓reduceIte, Nat.reduceSub, Nat.reduceEqDiff, Nat.reduceAdd, Nat.reduceMul, Nat.reduceLT, Nat.reduceLeDiff, Int.reduceToNat, Int.reduceLE, Int.reduceLT, Int.reduceNeg, reduceCtorEq, gos, Int.reduceAdd, Int.reduceSub, Int.reduceMul, Int.reduceEq])
              refine ⟨ck, (fgt_nil), ?_, ?_⟩
              · rfl
              · rw [drop_nil, mkF_q c1]
        · have ek : K = k := by omega
          subst ek
          repeat (first | refine X_opc rfl ?_ | refine X_dopc rfl ?_ | refine ⟨(by show drawK _ _ = true; kernel_rfl : drawX _ _ _), ?_⟩ | exact (by show drawK _ _ = true; kernel_rfl : drawX _ _ _) | simp -dsimp (maxSteps := 20000000) (disch := omega) only [simx, zzC, zzB, tys, ite_self, opnL, callB, callX, readsB, stepOp, nilCmp, ofVal, opBuiltin, opLen, PV.sk, scalBin, scalUn, intBin, opLoad, natOf, opConvert, opField, cellsP, oneP, Value.oneCell', opStore, toIV, scalT, scalA, scalC, boxesA, boxesC, zipB_none, zipB_mx, isZ, opZip, zeroP, opAppendZ, opMakeMap, opLookup, mboxB, opUpdate, ↓reduceIte, Nat.reduceSub, Nat.reduceEqDiff, Nat.reduceAdd, Nat.reduceMul, Nat.reduceLT, Nat.reduceLeDiff, Int.reduceToNat, Int.reduceLE, Int.reduceLT, Int.reduceNeg, reduceCtorEq, gos, Int.reduceAdd, Int.reduceSub, Int.reduceMul, Int.reduceEq])
          refine ⟨ci, (fgt_nil), ?_, ?_⟩
          · rfl
          · rw [drop_nil, mkF_k]
    · have ei : R = i := by omega
      subst ei
      have tk : ((tbl (R * C) (mkF p cc uu K C R 0 0)).map iu).take (R * C) = (tbl (R * C) (mkF p cc uu K C R 0 0)).map iu := List.take_of_length_le (by rw [List.length_map, tbl_len]; exact Nat.le_refl _)
      rw [show matP (R : Int) (C : Int) (tbl (R * C) (mkF p cc uu K C R 0 0)) = .agg [i64 R, i64 C, .i (.l (R * C) ((tbl (R * C) (mkF p cc uu K C R 0 0)).map iu))] by simp [lu, tbl_len]]
      repeat (first | refine X_opc rfl ?_ | refine X_dopc rfl ?_ | refine ⟨(by show drawK _ _ = true; kernel_rfl : drawX _ _ _), ?_⟩ | exact (by show drawK _ _ = true; kernel_rfl : drawX _ _ _) | simp -dsimp (maxSteps := 20000000) (disch := omega) only [simx, zzC, zzB, tys, ite_self, opnL, callB, callX, readsB, stepOp, nilCmp, ofVal, opBuiltin, opLen, PV.sk, scalBin, scalUn, intBin, opLoad, natOf, opConvert, opField, cellsP, oneP, Value.oneCell', opStore, toIV, scalT, scalA, scalC, boxesA, boxesC, zipB_none, zipB_mx, isZ, opZip, zeroP, opAppendZ, opMakeMap, opLookup, mboxB, opUpdate, ↓reduceIte, Nat.reduceSub, Nat.reduceEqDiff, Nat.reduceAdd, Nat.reduceMul, Nat.reduceLT, Nat.reduceLeDiff, Int.reduceToNat, Int.reduceLE, Int.reduceLT, Int.reduceNeg, reduceCtorEq, zzR, gos, Int.reduceAdd, Int.reduceSub, Int.reduceMul, Int.reduceEq, List.length_map, tbl_len])
      rw [tk]
end Go.Proofs.Ythnfphgjfpcpbaa.TM
namespace Go.Proofs.Ythnfphgjfpcpbaa.TM
open Go Go.RowKit
attribute [local irreducible] K W WOps Effs Xg Xo Xr Xdg Xdo Xdr Xif CallsP CallR
def sameMB (r c : Int) (l : List Int) (r' c' : Int) (l' : List Int) : Bool := decide (r = r') && (decide (c = c') && decide (l = l'))
theorem msame_walk (r c : Int) (l : List Int) (r' c' : Int) (l' : List Int) (hl : l.length ≤ maxLen) : CallsP Try.prog 41 [matP r c l, matP r' c' l'] (bl (sameMB r c l r' c' l')) := by
  have q := same_walk l l' hl
  unfold sameMB
  generalize decide (l = l') = s at q
  by_cases h1 : r = r'
  · rw [decide_eq_true h1]
    by_cases h2 : c = c'
    · rw [decide_eq_true h2]
      refine X_startP (n := 24) (m := 2) (rs := [.tmp 4]) Try.func41 rfl rfl rfl rfl (by decide) fun base => ?_
      repeat (first | ((first | refine X_call_fn2 rfl (by simp only [tys]) ?_ | refine X_dcall_fn2 rfl (by simp only [tys]) ?_); apply Exists.intro; apply And.intro; (focus (simp -dsimp only [simx, zzC, zzB, tys, ite_self, opnL, callB, callX, readsB, stepOp, nilCmp, ofVal, opBuiltin, opLen, PV.sk, scalBin, scalUn, intBin, opLoad, natOf, opConvert, opField, cellsP, oneP, Value.oneCell', opStore, toIV, scalT, scalA, scalC, boxesA, boxesC, zipB_none, zipB_mx, isZ, opZip, zeroP, opAppendZ, opMakeMap, opLookup, mboxB, opUpdate, ↓reduceIte, Nat.reduceSub, Nat.reduceEqDiff, Nat.reduceAdd, Nat.reduceMul, Nat.reduceLT, Nat.reduceLeDiff, Int.reduceToNat, Int.reduceLE, Int.reduceLT, Int.reduceNeg, reduceCtorEq, zzL, if_true, if_false] <;> rfl)); apply Exists.intro; apply And.intro; (focus (first | exact q))) | refine X_opc rfl ?_ | refine X_dopc rfl ?_ | refine ⟨(by show drawK _ _ = true; kernel_rfl : drawX _ _ _), ?_⟩ | exact (by show drawK _ _ = true; kernel_rfl : drawX _ _ _) | simp -dsimp (maxSteps := 20000000) (disch := omega) only [simx, zzC, zzB, tys, ite_self, opnL, callB, callX, readsB, stepOp, nilCmp, ofVal, opBuiltin, opLen, PV.sk, scalBin, scalUn, intBin, opLoad, natOf, opConvert, opField, cellsP, oneP, Value.oneCell', opStore, toIV, scalT, scalA, scalC, boxesA, boxesC, zipB_none, zipB_mx, isZ, opZip, zeroP, opAppendZ, opMakeMap, opLookup, mboxB, opUpdate, ↓reduceIte, Nat.reduceSub, Nat.reduceEqDiff, Nat.reduceAdd, Nat.reduceMul, Nat.reduceLT, Nat.reduceLeDiff, Int.reduceToNat, Int.reduceLE, Int.reduceLT, Int.reduceNeg, reduceCtorEq, zzR, gos, Int.reduceAdd, Int.reduceSub, Int.reduceMul, Int.reduceEq])
    · rw [decide_eq_false h2]
      refine X_startP (n := 24) (m := 2) (rs := [.tmp 4]) Try.func41 rfl rfl rfl rfl (by decide) fun base => ?_
      repeat (first | ((first | refine X_call_fn2 rfl (by simp only [tys]) ?_ | refine X_dcall_fn2 rfl (by simp only [tys]) ?_); apply Exists.intro; apply And.intro; (focus (simp -dsimp only [simx, zzC, zzB, tys, ite_self, opnL, callB, callX, readsB, stepOp, nilCmp, ofVal, opBuiltin, opLen, PV.sk, scalBin, scalUn, intBin, opLoad, natOf, opConvert, opField, cellsP, oneP, Value.oneCell', opStore, toIV, scalT, scalA, scalC, boxesA, boxesC, zipB_none, zipB_mx, isZ, opZip, zeroP, opAppendZ, opMakeMap, opLookup, mboxB, opUpdate, ↓reduceIte, Nat.reduceSub, Nat.reduceEqDiff, Nat.reduceAdd, Nat.reduceMul, Nat.reduceLT, Nat.reduceLeDiff, Int.reduceToNat, Int.reduceLE, Int.reduceLT, Int.reduceNeg, reduceCtorEq, zzL, if_true, if_false] <;> rfl)); apply Exists.intro; apply And.intro; (focus (first | exact q))) | refine X_opc rfl ?_ | refine X_dopc rfl ?_ | refine ⟨(by show drawK _ _ = true; kernel_rfl : drawX _ _ _), ?_⟩ | exact (by show drawK _ _ = true; kernel_rfl : drawX _ _ _) | simp -dsimp (maxSteps := 20000000) (disch := omega) only [simx, zzC, zzB, tys, ite_self, opnL, callB, callX, readsB, stepOp, nilCmp, ofVal, opBuiltin, opLen, PV.sk, scalBin, scalUn, intBin, opLoad, natOf, opConvert, opField, cellsP, oneP, Value.oneCell', opStore, toIV, scalT, scalA, scalC, boxesA, boxesC, zipB_none, zipB_mx, isZ, opZip, zeroP, opAppendZ, opMakeMap, opLookup, mboxB, opUpdate, ↓reduceIte, Nat.reduceSub, Nat.reduceEqDiff, Nat.reduceAdd, Nat.reduceMul, Nat.reduceLT, Nat.reduceLeDiff, Int.reduceToNat, Int.reduceLE, Int.reduceLT, Int.reduceNeg, reduceCtorEq, zzR, gos, Int.reduceAdd, Int.reduceSub, Int.reduceMul, Int.reduceEq])
  · rw [decide_eq_false h1]
    refine X_startP (n := 24) (m := 2) (rs := [.tmp 4]) Try.func41 rfl rfl rfl rfl (by decide) fun base => ?_
    repeat (first | ((first | refine X_call_fn2 rfl (by simp only [tys]) ?_ | refine X_dcall_fn2 rfl (by simp only [tys]) ?_); apply Exists.intro; apply And.intro; (focus (simp -dsimp only [simx, zzC, zzB, tys, ite_self, opnL, callB, callX, readsB, stepOp, nilCmp, ofVal, opBuiltin, opLen, PV.sk, scalBin, scalUn, intBin, opLoad, natOf, opConvert, opField, cellsP, oneP, Value.oneCell', opStore, toIV, scalT, scalA, scalC, boxesA, boxesC, zipB_none, zipB_mx, isZ, opZip, zeroP, opAppendZ, opMakeMap, opLookup, mboxB, opUpdate, ↓reduceIte, Nat.reduceSub, Nat.reduceEqDiff, Nat.reduceAdd, Nat.reduceMul, Nat.reduceLT, Nat.reduceLeDiff, Int.reduceToNat, Int.reduceLE, Int.reduceLT, Int.reduceNeg, reduceCtorEq, zzL, if_true, if_false] <;> rfl)); apply Exists.intro; apply And.intro; (focus (first | exact q))) | refine X_opc rfl ?_ | refine X_dopc rfl ?_ | refine ⟨(by show drawK _ _ = true; kernel_rfl : drawX _ _ _), ?_⟩ | exact (by show drawK _ _ = true; kernel_rfl : drawX _ _ _) | simp -dsimp (maxSteps := 20000000) (disch := omega) only [simx, zzC, zzB, tys, ite_self, opnL, callB, callX, readsB, stepOp, nilCmp, ofVal, opBuiltin, opLen, PV.sk, scalBin, scalUn, intBin, opLoad, natOf, opConvert, opField, cellsP, oneP, Value.oneCell', opStore, toIV, scalT, scalA, scalC, boxesA, boxesC, zipB_none, zipB_mx, isZ, opZip, zeroP, opAppendZ, opMakeMap, opLookup, mboxB, opUpdate, ↓reduceIte, Nat.reduceSub, Nat.reduceEqDiff, Nat.reduceAdd, Nat.reduceMul, Nat.reduceLT, Nat.reduceLeDiff, Int.reduceToNat, Int.reduceLE, Int.reduceLT, Int.reduceNeg, reduceCtorEq, zzR, gos, Int.reduceAdd, Int.reduceSub, Int.reduceMul, Int.reduceEq])
end Go.Proofs.Ythnfphgjfpcpbaa.TM
namespace Go.Proofs.Ythnfphgjfpcpbaa.TM
open Go Go.RowKit
attribute [local irreducible] K W WOps Effs Xg Xo Xr Xdg Xdo Xdr Xif CallsP CallR
theorem prm7 : Prm 7 := ⟨by decide, fun a h0 h1 => by
  have : a = 1 ∨ a = 2 ∨ a = 3 ∨ a = 4 ∨ a = 5 ∨ a = 6 := by omega
  rcases this with rfl | rfl | rfl | rfl | rfl | rfl <;> decide⟩
end Go.Proofs.Ythnfphgjfpcpbaa.TM
namespace Go.Proofs.Ythnfphgjfpcpbaa.TM
open Go Go.RowKit
attribute [local irreducible] K W WOps Effs Xg Xo Xr Xdg Xdo Xdr Xif CallsP CallR
theorem len_ok {P R C : Nat} {l : List Int} (M : Mt P R C l) : l.length ≤ maxLen := by have := M.len; have := rc_bd M.r2 M.c2; rw [mx_len]; omega
theorem w64_of_in {P : Int} (hp : Md P) {l : List Int} (h : ∀ a ∈ l, In P a) : W64s l := fun a ha => in_w64 hp (h a ha)
end Go.Proofs.Ythnfphgjfpcpbaa.TM
namespace Go.Proofs.Ythnfphgjfpcpbaa.TM
open Go Go.RowKit
attribute [local irreducible] K W WOps Effs Xg Xo Xr Xdg Xdo Xdr Xif CallsP CallR
theorem take_nextP {α : Type} {a b : List α} {j : Nat} (h1 : j < a.length) (h2 : j < b.length) (h : a.take j = b.take j) (e : a[j] = b[j]) : a.take (j + 1) = b.take (j + 1) := by
  rw [List.take_succ_eq_append_getElem h1, List.take_succ_eq_append_getElem h2, h, e]
theorem same6_walk (a b : List Int) (hl : a.length ≤ maxLen) : CallsP Try.prog 50 [li a, li b] (bl (decide (a = b))) := by
  rw [mx_len] at hl
  by_cases c0 : a.length = b.length
  · have c0' : (a.length : Int) = (b.length : Int) := by omega
    refine X_startP (n := 26) (m := 2) (rs := [.tmp 4]) Try.func50 rfl rfl rfl rfl (by decide) fun base => ?_
    repeat (first | refine X_opc rfl ?_ | refine X_dopc rfl ?_ | refine ⟨(by show drawK _ _ = true; kernel_rfl : drawX _ _ _), ?_⟩ | exact (by show drawK _ _ = true; kernel_rfl : drawX _ _ _) | simp -dsimp (maxSteps := 20000000) (disch := omega) only [simx, zzC, zzB, tys, ite_self, opnL, callB, callX, readsB, stepOp, nilCmp, ofVal, opBuiltin, opLen, PV.sk, scalBin, scalUn, intBin, opLoad, natOf, opConvert, opField, cellsP, oneP, Value.oneCell', opStore, toIV, scalT, scalA, scalC, boxesA, boxesC, zipB_none, zipB_mx, isZ, opZip, zeroP, opAppendZ, opMakeMap, opLookup, mboxB, opUpdate, ↓reduceIte, Nat.reduceSub, Nat.reduceEqDiff, Nat.reduceAdd, Nat.reduceMul, Nat.reduceLT, Nat.reduceLeDiff, Int.reduceToNat, Int.reduceLE, Int.reduceLT, Int.reduceNeg, reduceCtorEq, gos, Int.reduceAdd, Int.reduceSub, Int.reduceMul, Int.reduceEq, c0'])
    refine X_loopH [0, 1, 5] [] (0) (a.length) (fun j => a.take j = b.take j) (fun j => [(5, i64 j)]) (fun j => Heap.none) ?_ ?_ ?_ ?_ ?_ (by decide) ?_
    · exact (fgt_nil)
    · ((simp -dsimp (disch := omega) only [simx, zzB, tys, ite_self, opnL, callB, callX, readsB, stepOp, nilCmp, ofVal, opBuiltin, opLen, PV.sk, scalBin, scalUn, intBin, opLoad, natOf, opConvert, opField, cellsP, oneP, Value.oneCell', opStore, toIV, scalT, scalA, scalC, boxesA, boxesC, zipB_none, zipB_mx, isZ, opZip, zeroP, opAppendZ, opMakeMap, opLookup, mboxB, opUpdate, ↓reduceIte, Nat.reduceSub, Nat.reduceEqDiff, Nat.reduceAdd, Nat.reduceMul, Nat.reduceLT, Nat.reduceLeDiff, Int.reduceToNat, Int.reduceLE, Int.reduceLT, Int.reduceNeg, reduceCtorEq, gos, Int.reduceAdd, Int.reduceSub, Int.reduceMul, Int.reduceEq]) <;> first | rfl | simp)
    · exact drop_nil _
    · omega
    · rfl
    · intro j hj hf
      by_cases c : j < a.length
      · have c' : j < b.length := by omega
        have g1 : a[j]? = some a[j] := List.getElem?_eq_getElem c
        have g2 : b[j]? = some b[j] := List.getElem?_eq_getElem c'
        by_cases e : a[j] = b[j]
        · have nx := take_nextP c c' hf e
          repeat (first | refine X_opc rfl ?_ | refine X_dopc rfl ?_ | refine ⟨(by show drawK _ _ = true; kernel_rfl : drawX _ _ _), ?_⟩ | exact (by show drawK _ _ = true; kernel_rfl : drawX _ _ _) | simp -dsimp (maxSteps := 20000000) (disch := omega) only [simx, zzC, zzB, tys, ite_self, opnL, callB, callX, readsB, stepOp, nilCmp, ofVal, opBuiltin, opLen, PV.sk, scalBin, scalUn, intBin, opLoad, natOf, opConvert, opField, cellsP, oneP, Value.oneCell', opStore, toIV, scalT, scalA, scalC, boxesA, boxesC, zipB_none, zipB_mx, isZ, opZip, zeroP, opAppendZ, opMakeMap, opLookup, mboxB, opUpdate, ↓reduceIte, Nat.reduceSub, Nat.reduceEqDiff, Nat.reduceAdd, Nat.reduceMul, Nat.reduceLT, Nat.reduceLeDiff, Int.reduceToNat, Int.reduceLE, Int.reduceLT, Int.reduceNeg, reduceCtorEq, gos, Int.reduceAdd, Int.reduceSub, Int.reduceMul, Int.reduceEq, c, c', g1, g2, e])
          exact ⟨c, (fgt_nil), nx, rfl, drop_nil _⟩
        · have ne : ¬ a = b := fun h => e (by subst h; rfl)
          rw [decide_eq_false ne]
          repeat (first | refine X_opc rfl ?_ | refine X_dopc rfl ?_ | refine ⟨(by show drawK _ _ = true; kernel_rfl : drawX _ _ _), ?_⟩ | exact (by show drawK _ _ = true; kernel_rfl : drawX _ _ _) | simp -dsimp (maxSteps := 20000000) (disch := omega) only [simx, zzC, zzB, tys, ite_self, opnL, callB, callX, readsB, stepOp, nilCmp, ofVal, opBuiltin, opLen, PV.sk, scalBin, scalUn, intBin, opLoad, natOf, opConvert, opField, cellsP, oneP, Value.oneCell', opStore, toIV, scalT, scalA, scalC, boxesA, boxesC, zipB_none, zipB_mx, isZ, opZip, zeroP, opAppendZ, opMakeMap, opLookup, mboxB, opUpdate, ↓reduceIte, Nat.reduceSub, Nat.reduceEqDiff, Nat.reduceAdd, Nat.reduceMul, Nat.reduceLT, Nat.reduceLeDiff, Int.reduceToNat, Int.reduceLE, Int.reduceLT, Int.reduceNeg, reduceCtorEq, zzR, gos, Int.reduceAdd, Int.reduceSub, Int.reduceMul, Int.reduceEq, c, c', g1, g2, e])
      · have hj : j = a.length := by omega
        subst hj
        have e : a = b := by rw [List.take_length, c0, List.take_length] at hf; exact hf
        rw [decide_eq_true e]
        repeat (first | refine X_opc rfl ?_ | refine X_dopc rfl ?_ | refine ⟨(by show drawK _ _ = true; kernel_rfl : drawX _ _ _), ?_⟩ | exact (by show drawK _ _ = true; kernel_rfl : drawX _ _ _) | simp -dsimp (maxSteps := 20000000) (disch := omega) only [simx, zzC, zzB, tys, ite_self, opnL, callB, callX, readsB, stepOp, nilCmp, ofVal, opBuiltin, opLen, PV.sk, scalBin, scalUn, intBin, opLoad, natOf, opConvert, opField, cellsP, oneP, Value.oneCell', opStore, toIV, scalT, scalA, scalC, boxesA, boxesC, zipB_none, zipB_mx, isZ, opZip, zeroP, opAppendZ, opMakeMap, opLookup, mboxB, opUpdate, ↓reduceIte, Nat.reduceSub, Nat.reduceEqDiff, Nat.reduceAdd, Nat.reduceMul, Nat.reduceLT, Nat.reduceLeDiff, Int.reduceToNat, Int.reduceLE, Int.reduceLT, Int.reduceNeg, reduceCtorEq, zzR, gos, Int.reduceAdd, Int.reduceSub, Int.reduceMul, Int.reduceEq])
  · have ne : ¬ a = b := fun h => c0 (by rw [h])
    have c0' : ¬ (a.length : Int) = (b.length : Int) := by omega
    rw [decide_eq_false ne]
    refine X_startP (n := 26) (m := 2) (rs := [.tmp 4]) Try.func50 rfl rfl rfl rfl (by decide) fun base => ?_
    repeat (first | refine X_opc rfl ?_ | refine X_dopc rfl ?_ | refine ⟨(by show drawK _ _ = true; kernel_rfl : drawX _ _ _), ?_⟩ | exact (by show drawK _ _ = true; kernel_rfl : drawX _ _ _) | simp -dsimp (maxSteps := 20000000) (disch := omega) only [simx, zzC, zzB, tys, ite_self, opnL, callB, callX, readsB, stepOp, nilCmp, ofVal, opBuiltin, opLen, PV.sk, scalBin, scalUn, intBin, opLoad, natOf, opConvert, opField, cellsP, oneP, Value.oneCell', opStore, toIV, scalT, scalA, scalC, boxesA, boxesC, zipB_none, zipB_mx, isZ, opZip, zeroP, opAppendZ, opMakeMap, opLookup, mboxB, opUpdate, ↓reduceIte, Nat.reduceSub, Nat.reduceEqDiff, Nat.reduceAdd, Nat.reduceMul, Nat.reduceLT, Nat.reduceLeDiff, Int.reduceToNat, Int.reduceLE, Int.reduceLT, Int.reduceNeg, reduceCtorEq, zzR, gos, Int.reduceAdd, Int.reduceSub, Int.reduceMul, Int.reduceEq, c0'])
end Go.Proofs.Ythnfphgjfpcpbaa.TM
namespace Go.Proofs.Ythnfphgjfpcpbaa.TM
open Go Go.RowKit
attribute [local irreducible] K W WOps Effs Xg Xo Xr Xdg Xdo Xdr Xif CallsP CallR
set_option maxHeartbeats 4000000 in
set_option maxRecDepth 100000 in
theorem awake07_walk : CallsP Try.prog 42 [] (bl true) := by
  have M : Mt ((7 : Nat) : Int) 2 2 [0, 2, 3, 4] := ⟨⟨by decide, by decide⟩, by decide, by decide, by decide, by decide, by decide, by decide⟩
  have hi : ∀ a ∈ [0, 2, 3, 4], In ((7 : Nat) : Int) a := by show ∀ x ∈ _, 0 ≤ x ∧ x < _; decide
  have d1 := take_yes prm7 M hi
  have d2 := det_yes prm7 M hi
  have d3 := make_yes (p := ((7 : Nat) : Int)) (R := 2) (C := 2) (K := 2) (rw0 := [0, 1]) (cw := [1, 0]) (cc := [[1, 0], [2, 1]]) (uu := [[0, 2], [3, 0]]) ⟨by decide, by decide⟩ (by decide) (by decide) (by decide) (by decide) rfl rfl (by decide)
    (by show ∀ x ∈ ([[1, 0], [2, 1]] : List (List Int)), x.length = 2 ∧ ∀ a ∈ x, 0 ≤ a ∧ a < ((7 : Nat) : Int); decide) (by show ∀ x ∈ ([[0, 2], [3, 0]] : List (List Int)), x.length = 2 ∧ ∀ a ∈ x, 0 ≤ a ∧ a < ((7 : Nat) : Int); decide)
  have d4 := rank_walk prm7 2 2 [0, 2, 3, 4] (by decide) (w64_of_in M.hp hi)
  have d5 := profile_walk prm7 2 2 [0, 2, 3, 4] (by decide) (w64_of_in M.hp hi)
  have d6 := minor_yes prm7 M hi (by decide +kernel) (by decide +kernel)
  have t : tkCup ((7 : Nat) : Int) 2 2 [0, 2, 3, 4] = ([0, 1], [1, 0], [[1, 0], [2, 1]], [[0, 2], [3, 0]]) := by decide +kernel
  rw [t] at d1 d6
  rw [show Lp 2 (cl 2 [0, 2, 3, 4]) % ((7 : Nat) : Int) = 1 by decide +kernel] at d2
  rw [show makeM ((7 : Nat) : Int) [[1, 0], [2, 1]] [[0, 2], [3, 0]] 2 2 2 = [0, 2, 3, 4] by decide +kernel] at d3
  unfold rankR at d4
  rw [show takeR ((7 : Nat) : Int) 2 2 [0, 2, 3, 4] = (([0, 1], [1, 0], [[1, 0], [2, 1]], [[0, 2], [3, 0]]), 0) by decide +kernel] at d4 d5
  rw [show pickM 2 [0, 2, 3, 4] [0, 1] (colS ([0, 1], [1, 0], [[1, 0], [2, 1]], [[0, 2], [3, 0]])) = [0, 2, 3, 4] by decide +kernel] at d6
  have d7 := msame_walk 2 2 [0, 2, 3, 4] 2 2 [0, 2, 3, 4] (by decide)
  rw [show sameMB 2 2 [0, 2, 3, 4] 2 2 [0, 2, 3, 4] = true by decide] at d7
  have d8 := same6_walk [0, 1] [0, 1] (by decide)
  rw [decide_eq_true rfl] at d8
  refine X_startP (n := 104) (m := 0) (rs := [.tmp 0]) Try.func42 rfl rfl rfl rfl (by decide) fun base => ?_
  repeat (first | ((first | refine X_call_fn2 rfl (by simp only [tys]) ?_ | refine X_dcall_fn2 rfl (by simp only [tys]) ?_); apply Exists.intro; apply And.intro; (focus (simp -dsimp only [simx, zzC, zzB, tys, ite_self, opnL, callB, callX, readsB, stepOp, nilCmp, ofVal, opBuiltin, opLen, PV.sk, scalBin, scalUn, intBin, opLoad, natOf, opConvert, opField, cellsP, oneP, Value.oneCell', opStore, toIV, scalT, scalA, scalC, boxesA, boxesC, zipB_none, zipB_mx, isZ, opZip, zeroP, opAppendZ, opMakeMap, opLookup, mboxB, opUpdate, ↓reduceIte, Nat.reduceSub, Nat.reduceEqDiff, Nat.reduceAdd, Nat.reduceMul, Nat.reduceLT, Nat.reduceLeDiff, Int.reduceToNat, Int.reduceLE, Int.reduceLT, Int.reduceNeg, reduceCtorEq, zzL, if_true, if_false] <;> rfl)); apply Exists.intro; apply And.intro; (focus (first | exact d1 | exact d2 | exact d3 | exact d4 | exact d5 | exact d6 | exact d7 | exact d8))) | refine X_opc rfl ?_ | refine X_dopc rfl ?_ | refine ⟨(by show drawK _ _ = true; kernel_rfl : drawX _ _ _), ?_⟩ | exact (by show drawK _ _ = true; kernel_rfl : drawX _ _ _) | simp -dsimp (maxSteps := 20000000) (disch := omega) only [simx, zzC, zzB, tys, ite_self, opnL, callB, callX, readsB, stepOp, nilCmp, ofVal, opBuiltin, opLen, PV.sk, scalBin, scalUn, intBin, opLoad, natOf, opConvert, opField, cellsP, oneP, Value.oneCell', opStore, toIV, scalT, scalA, scalC, boxesA, boxesC, zipB_none, zipB_mx, isZ, opZip, zeroP, opAppendZ, opMakeMap, opLookup, mboxB, opUpdate, ↓reduceIte, Nat.reduceSub, Nat.reduceEqDiff, Nat.reduceAdd, Nat.reduceMul, Nat.reduceLT, Nat.reduceLeDiff, Int.reduceToNat, Int.reduceLE, Int.reduceLT, Int.reduceNeg, reduceCtorEq, zzR, gos, Int.reduceAdd, Int.reduceSub, Int.reduceMul, Int.reduceEq, SK.len])
theorem prime7_walk (p : Nat) (hp : p < 18446744073709551616) : ∃ b, CallsP Try.prog 43 [u64 p] (bl b) ∧ (b = true → Prm p) := by
  by_cases c1 : (p : Int) = 2147483647
  · refine ⟨true, ?_, fun _ => by obtain rfl : p = 2147483647 := by omega
                                  exact prm31⟩
    refine X_startP (n := 17) (m := 1) (rs := [.tmp 2]) Try.func43 rfl rfl rfl rfl (by decide) fun base => ?_
    repeat (first | refine X_opc rfl ?_ | refine X_dopc rfl ?_ | refine ⟨(by show drawK _ _ = true; kernel_rfl : drawX _ _ _), ?_⟩ | exact (by show drawK _ _ = true; kernel_rfl : drawX _ _ _) | simp -dsimp (maxSteps := 20000000) (disch := omega) only [simx, zzC, zzB, tys, ite_self, opnL, callB, callX, readsB, stepOp, nilCmp, ofVal, opBuiltin, opLen, PV.sk, scalBin, scalUn, intBin, opLoad, natOf, opConvert, opField, cellsP, oneP, Value.oneCell', opStore, toIV, scalT, scalA, scalC, boxesA, boxesC, zipB_none, zipB_mx, isZ, opZip, zeroP, opAppendZ, opMakeMap, opLookup, mboxB, opUpdate, ↓reduceIte, Nat.reduceSub, Nat.reduceEqDiff, Nat.reduceAdd, Nat.reduceMul, Nat.reduceLT, Nat.reduceLeDiff, Int.reduceToNat, Int.reduceLE, Int.reduceLT, Int.reduceNeg, reduceCtorEq, zzR, gos, Int.reduceAdd, Int.reduceSub, Int.reduceMul, Int.reduceEq])
  by_cases c2 : (p : Int) = 2305843009213693951
  · refine ⟨true, ?_, fun _ => by obtain rfl : p = 2305843009213693951 := by omega
                                  exact prm61⟩
    refine X_startP (n := 17) (m := 1) (rs := [.tmp 2]) Try.func43 rfl rfl rfl rfl (by decide) fun base => ?_
    repeat (first | refine X_opc rfl ?_ | refine X_dopc rfl ?_ | refine ⟨(by show drawK _ _ = true; kernel_rfl : drawX _ _ _), ?_⟩ | exact (by show drawK _ _ = true; kernel_rfl : drawX _ _ _) | simp -dsimp (maxSteps := 20000000) (disch := omega) only [simx, zzC, zzB, tys, ite_self, opnL, callB, callX, readsB, stepOp, nilCmp, ofVal, opBuiltin, opLen, PV.sk, scalBin, scalUn, intBin, opLoad, natOf, opConvert, opField, cellsP, oneP, Value.oneCell', opStore, toIV, scalT, scalA, scalC, boxesA, boxesC, zipB_none, zipB_mx, isZ, opZip, zeroP, opAppendZ, opMakeMap, opLookup, mboxB, opUpdate, ↓reduceIte, Nat.reduceSub, Nat.reduceEqDiff, Nat.reduceAdd, Nat.reduceMul, Nat.reduceLT, Nat.reduceLeDiff, Int.reduceToNat, Int.reduceLE, Int.reduceLT, Int.reduceNeg, reduceCtorEq, zzR, gos, Int.reduceAdd, Int.reduceSub, Int.reduceMul, Int.reduceEq])
  by_cases c3 : (p : Int) < 1048576
  · obtain ⟨b, d, h⟩ := is_walk p (by omega)
    refine ⟨b, ?_, h⟩
    refine X_startP (n := 17) (m := 1) (rs := [.tmp 2]) Try.func43 rfl rfl rfl rfl (by decide) fun base => ?_
    repeat (first | ((first | refine X_call_fn2 rfl (by simp only [tys]) ?_ | refine X_dcall_fn2 rfl (by simp only [tys]) ?_); apply Exists.intro; apply And.intro; (focus (simp -dsimp only [simx, zzC, zzB, tys, ite_self, opnL, callB, callX, readsB, stepOp, nilCmp, ofVal, opBuiltin, opLen, PV.sk, scalBin, scalUn, intBin, opLoad, natOf, opConvert, opField, cellsP, oneP, Value.oneCell', opStore, toIV, scalT, scalA, scalC, boxesA, boxesC, zipB_none, zipB_mx, isZ, opZip, zeroP, opAppendZ, opMakeMap, opLookup, mboxB, opUpdate, ↓reduceIte, Nat.reduceSub, Nat.reduceEqDiff, Nat.reduceAdd, Nat.reduceMul, Nat.reduceLT, Nat.reduceLeDiff, Int.reduceToNat, Int.reduceLE, Int.reduceLT, Int.reduceNeg, reduceCtorEq, zzL, if_true, if_false] <;> rfl)); apply Exists.intro; apply And.intro; (focus (first | exact d))) | refine X_opc rfl ?_ | refine X_dopc rfl ?_ | refine ⟨(by show drawK _ _ = true; kernel_rfl : drawX _ _ _), ?_⟩ | exact (by show drawK _ _ = true; kernel_rfl : drawX _ _ _) | simp -dsimp (maxSteps := 20000000) (disch := omega) only [simx, zzC, zzB, tys, ite_self, opnL, callB, callX, readsB, stepOp, nilCmp, ofVal, opBuiltin, opLen, PV.sk, scalBin, scalUn, intBin, opLoad, natOf, opConvert, opField, cellsP, oneP, Value.oneCell', opStore, toIV, scalT, scalA, scalC, boxesA, boxesC, zipB_none, zipB_mx, isZ, opZip, zeroP, opAppendZ, opMakeMap, opLookup, mboxB, opUpdate, ↓reduceIte, Nat.reduceSub, Nat.reduceEqDiff, Nat.reduceAdd, Nat.reduceMul, Nat.reduceLT, Nat.reduceLeDiff, Int.reduceToNat, Int.reduceLE, Int.reduceLT, Int.reduceNeg, reduceCtorEq, zzR, gos, Int.reduceAdd, Int.reduceSub, Int.reduceMul, Int.reduceEq])
  · refine ⟨false, ?_, fun h => by cases h⟩
    refine X_startP (n := 17) (m := 1) (rs := [.tmp 2]) Try.func43 rfl rfl rfl rfl (by decide) fun base => ?_
    repeat (first | refine X_opc rfl ?_ | refine X_dopc rfl ?_ | refine ⟨(by show drawK _ _ = true; kernel_rfl : drawX _ _ _), ?_⟩ | exact (by show drawK _ _ = true; kernel_rfl : drawX _ _ _) | simp -dsimp (maxSteps := 20000000) (disch := omega) only [simx, zzC, zzB, tys, ite_self, opnL, callB, callX, readsB, stepOp, nilCmp, ofVal, opBuiltin, opLen, PV.sk, scalBin, scalUn, intBin, opLoad, natOf, opConvert, opField, cellsP, oneP, Value.oneCell', opStore, toIV, scalT, scalA, scalC, boxesA, boxesC, zipB_none, zipB_mx, isZ, opZip, zeroP, opAppendZ, opMakeMap, opLookup, mboxB, opUpdate, ↓reduceIte, Nat.reduceSub, Nat.reduceEqDiff, Nat.reduceAdd, Nat.reduceMul, Nat.reduceLT, Nat.reduceLeDiff, Int.reduceToNat, Int.reduceLE, Int.reduceLT, Int.reduceNeg, reduceCtorEq, zzR, gos, Int.reduceAdd, Int.reduceSub, Int.reduceMul, Int.reduceEq])
end Go.Proofs.Ythnfphgjfpcpbaa.TM
namespace Go.Proofs.Ythnfphgjfpcpbaa.TM
open Go Go.RowKit
theorem apX_cong {p : Int} {C : Nat} {A B : Mx} {x : Nat → Int} {i : Nat} (h : ∀ j, j < C → A i j % p = B i j % p) : apX C A x i % p = apX C B x i % p := sumN_mod fun j hj => em_mul (h j hj) rfl
theorem apX_id {C : Nat} {x : Nat → Int} {i : Nat} (hi : i < C) : apX C idX x i = x i := by
  unfold apX
  rw [← sumN_one x hi]
  refine sumN_congr fun j _ => ?_
  unfold idX
  by_cases e : j = i
  · rw [if_pos e, if_pos e, Int.one_mul]
  · rw [if_neg e, if_neg e, Int.zero_mul]
def InvX (P R : Nat) (A U : Mx) : Prop := ∀ i j, i < R → j < R → mulX R A U i j % P = idX i j % P
def InjX (P R : Nat) (A : Mx) : Prop := ∀ x : Nat → Int, (∀ i, i < R → apX R A x i % P = 0) → ∀ j, j < R → x j % P = 0
section
variable {P R : Nat} {A B U V : Mx}
theorem InvX.ap (h : InvX P R A U) (x : Nat → Int) {i : Nat} (hi : i < R) : apX R A (apX R U x) i % P = x i % P := by
  rw [← apX_mul, apX_cong (B := idX) (fun j hj => h i j hi hj), apX_id hi]
theorem InvX.left (h : InvX P R A U) (hI : InjX P R A) : InvX P R U A := fun k j hk hj => by
  refine emod_sub0.2 (hI (fun k => mulX R U A k j - idX k j) (fun i hi => ?_) k hk)
  rw [apX_sub]
  refine emod_sub0.1 ?_
  have h1 : apX R A (fun j_1 => mulX R U A j_1 j) i % P = A i j % P := h.ap (fun m => A m j) hi
  rw [h1]
  have h2 : apX R A (fun m => idX m j) i = A i j := by
    unfold apX
    rw [← sumN_one (fun m => A i m) hj]
    refine sumN_congr fun m _ => ?_
    show A i m * (if j = m then 1 else 0) = if m = j then A i m else 0
    by_cases e : m = j
    · rw [if_pos e.symm, if_pos e, Int.mul_one]
    · rw [if_neg (fun h => e h.symm), if_neg e, Int.mul_zero]
  rw [h2]
theorem InvX.mul (h : InvX P R A U) (k : InvX P R B V) : InvX P R (mulX R A B) (mulX R V U) := fun i j hi hj => by
  have e : mulX R (mulX R A B) (mulX R V U) i j = apX R A (apX R B (apX R V (fun k => U k j))) i := by
    show apX R (mulX R A B) (apX R V (fun k => U k j)) i = _
    rw [apX_mul]
  rw [e]
  exact (apX_mod (fun m hm => k.ap (fun k => U k j) hm) i).trans (h i j hi hj)
theorem InvX.cong {A' U' : Mx} (h : InvX P R A U) (ha : ∀ i j, i < R → j < R → A' i j % P = A i j % P) (hu : ∀ i j, i < R → j < R → U' i j % P = U i j % P) : InvX P R A' U' := fun i j hi hj => by
  rw [← h i j hi hj]
  exact sumN_mod fun k hk => em_mul (ha i k hi hk) (hu k j hk hj)
theorem InvX.lp (hP : Prm P) (hp : Md P) (h : InvX P R A U) : Lp R A * Lp R U % P = 1 := by
  rw [← Lp_mulX hP hp, Lp_mod R h, Lp_id]
  exact Int.emod_eq_of_lt (by decide) (by have := hp.1; omega)
end
section
variable {P R : Nat} {l : List Int}
end
end Go.Proofs.Ythnfphgjfpcpbaa.TM
namespace Go.Proofs.Ythnfphgjfpcpbaa.TM
open Go Go.RowKit
attribute [local irreducible] K W WOps Effs Xg Xo Xr Xdg Xdo Xdr Xif CallsP CallR
theorem small7_walk (P : Nat) (hp : P < 18446744073709551616) (r c : Int) (l : List Int) (n : Int) (hl : l.length ≤ maxLen) : ∃ b, CallsP Try.prog 45 [u64 P, matP r c l, i64 n] (bl b) ∧ (b = true → (l.length : Int) ≤ n ∧ Prm P ∧ MatB P r c l = true) := by
  obtain ⟨pb, d1, hpr⟩ := prime7_walk P hp
  have d2 := mright_walk P r c l hl
  by_cases c0 : (l.length : Int) ≤ n
  case neg =>
    refine ⟨false, ?_, fun h => by cases h⟩
    refine X_startP (n := 21) (m := 3) (rs := [.tmp 6]) Try.func45 rfl rfl rfl rfl (by decide) fun base => ?_
    repeat (first | refine X_opc rfl ?_ | refine X_dopc rfl ?_ | refine ⟨(by show drawK _ _ = true; kernel_rfl : drawX _ _ _), ?_⟩ | exact (by show drawK _ _ = true; kernel_rfl : drawX _ _ _) | simp -dsimp (maxSteps := 20000000) (disch := omega) only [simx, zzC, zzB, tys, ite_self, opnL, callB, callX, readsB, stepOp, nilCmp, ofVal, opBuiltin, opLen, PV.sk, scalBin, scalUn, intBin, opLoad, natOf, opConvert, opField, cellsP, oneP, Value.oneCell', opStore, toIV, scalT, scalA, scalC, boxesA, boxesC, zipB_none, zipB_mx, isZ, opZip, zeroP, opAppendZ, opMakeMap, opLookup, mboxB, opUpdate, ↓reduceIte, Nat.reduceSub, Nat.reduceEqDiff, Nat.reduceAdd, Nat.reduceMul, Nat.reduceLT, Nat.reduceLeDiff, Int.reduceToNat, Int.reduceLE, Int.reduceLT, Int.reduceNeg, reduceCtorEq, zzR, gos, Int.reduceAdd, Int.reduceSub, Int.reduceMul, Int.reduceEq, c0])
  cases pb with
  | false =>
    refine ⟨false, ?_, fun h => by cases h⟩
    refine X_startP (n := 21) (m := 3) (rs := [.tmp 6]) Try.func45 rfl rfl rfl rfl (by decide) fun base => ?_
    repeat (first | ((first | refine X_call_fn2 rfl (by simp only [tys]) ?_ | refine X_dcall_fn2 rfl (by simp only [tys]) ?_); apply Exists.intro; apply And.intro; (focus (simp -dsimp only [simx, zzC, zzB, tys, ite_self, opnL, callB, callX, readsB, stepOp, nilCmp, ofVal, opBuiltin, opLen, PV.sk, scalBin, scalUn, intBin, opLoad, natOf, opConvert, opField, cellsP, oneP, Value.oneCell', opStore, toIV, scalT, scalA, scalC, boxesA, boxesC, zipB_none, zipB_mx, isZ, opZip, zeroP, opAppendZ, opMakeMap, opLookup, mboxB, opUpdate, ↓reduceIte, Nat.reduceSub, Nat.reduceEqDiff, Nat.reduceAdd, Nat.reduceMul, Nat.reduceLT, Nat.reduceLeDiff, Int.reduceToNat, Int.reduceLE, Int.reduceLT, Int.reduceNeg, reduceCtorEq, zzL, if_true, if_false] <;> rfl)); apply Exists.intro; apply And.intro; (focus (first | exact d1))) | refine X_opc rfl ?_ | refine X_dopc rfl ?_ | refine ⟨(by show drawK _ _ = true; kernel_rfl : drawX _ _ _), ?_⟩ | exact (by show drawK _ _ = true; kernel_rfl : drawX _ _ _) | simp -dsimp (maxSteps := 20000000) (disch := omega) only [simx, zzC, zzB, tys, ite_self, opnL, callB, callX, readsB, stepOp, nilCmp, ofVal, opBuiltin, opLen, PV.sk, scalBin, scalUn, intBin, opLoad, natOf, opConvert, opField, cellsP, oneP, Value.oneCell', opStore, toIV, scalT, scalA, scalC, boxesA, boxesC, zipB_none, zipB_mx, isZ, opZip, zeroP, opAppendZ, opMakeMap, opLookup, mboxB, opUpdate, ↓reduceIte, Nat.reduceSub, Nat.reduceEqDiff, Nat.reduceAdd, Nat.reduceMul, Nat.reduceLT, Nat.reduceLeDiff, Int.reduceToNat, Int.reduceLE, Int.reduceLT, Int.reduceNeg, reduceCtorEq, zzR, gos, Int.reduceAdd, Int.reduceSub, Int.reduceMul, Int.reduceEq, c0])
  | true =>
    refine ⟨MatB P r c l, ?_, fun h => ⟨c0, hpr rfl, h⟩⟩
    generalize MatB P r c l = b at d2
    refine X_startP (n := 21) (m := 3) (rs := [.tmp 6]) Try.func45 rfl rfl rfl rfl (by decide) fun base => ?_
    repeat (first | ((first | refine X_call_fn2 rfl (by simp only [tys]) ?_ | refine X_dcall_fn2 rfl (by simp only [tys]) ?_); apply Exists.intro; apply And.intro; (focus (simp -dsimp only [simx, zzC, zzB, tys, ite_self, opnL, callB, callX, readsB, stepOp, nilCmp, ofVal, opBuiltin, opLen, PV.sk, scalBin, scalUn, intBin, opLoad, natOf, opConvert, opField, cellsP, oneP, Value.oneCell', opStore, toIV, scalT, scalA, scalC, boxesA, boxesC, zipB_none, zipB_mx, isZ, opZip, zeroP, opAppendZ, opMakeMap, opLookup, mboxB, opUpdate, ↓reduceIte, Nat.reduceSub, Nat.reduceEqDiff, Nat.reduceAdd, Nat.reduceMul, Nat.reduceLT, Nat.reduceLeDiff, Int.reduceToNat, Int.reduceLE, Int.reduceLT, Int.reduceNeg, reduceCtorEq, zzL, if_true, if_false] <;> rfl)); apply Exists.intro; apply And.intro; (focus (first | exact d1 | exact d2))) | refine X_opc rfl ?_ | refine X_dopc rfl ?_ | refine ⟨(by show drawK _ _ = true; kernel_rfl : drawX _ _ _), ?_⟩ | exact (by show drawK _ _ = true; kernel_rfl : drawX _ _ _) | simp -dsimp (maxSteps := 20000000) (disch := omega) only [simx, zzC, zzB, tys, ite_self, opnL, callB, callX, readsB, stepOp, nilCmp, ofVal, opBuiltin, opLen, PV.sk, scalBin, scalUn, intBin, opLoad, natOf, opConvert, opField, cellsP, oneP, Value.oneCell', opStore, toIV, scalT, scalA, scalC, boxesA, boxesC, zipB_none, zipB_mx, isZ, opZip, zeroP, opAppendZ, opMakeMap, opLookup, mboxB, opUpdate, ↓reduceIte, Nat.reduceSub, Nat.reduceEqDiff, Nat.reduceAdd, Nat.reduceMul, Nat.reduceLT, Nat.reduceLeDiff, Int.reduceToNat, Int.reduceLE, Int.reduceLT, Int.reduceNeg, reduceCtorEq, zzR, gos, Int.reduceAdd, Int.reduceSub, Int.reduceMul, Int.reduceEq, c0])
theorem Cp.rk {P R C : Nat} {A : Mx} {c : CupT} (H : CpC P R C A c) : Rk P R C c.1.length A := ⟨_, _, _, _, H⟩
theorem tkN_take {p : Int} {C : Nat} {l : List Int} {k : Nat} : ∀ i, i ≤ k → tkN p C (l.take (k * C)) i = tkN p C l i
  | 0, _ => rfl
  | i + 1, h => by
    have e : rowM C (l.take (k * C)) i = rowM C l i := by
      unfold rowM
      have := ic_bd (c := C) (show i < k by omega)
      rw [List.drop_take, List.take_take, Nat.min_eq_left (by omega)]
    rw [tkN, tkN, tkN_take i (by omega), e]
theorem tkN_more (p : Int) (C : Nat) (l : List Int) (k : Nat) : ∀ d, ∃ s : List Int, (tkN p C l (k + d)).rows = (tkN p C l k).rows ++ s ∧ ∀ a ∈ s, (k : Int) ≤ a
  | 0 => ⟨[], by simp, by simp⟩
  | d + 1 => by
    obtain ⟨s, h1, h2⟩ := tkN_more p C l k d
    have e : tkN p C l (k + (d + 1)) = tkRow p (tkN p C l (k + d)) ((k + d : Nat) : Int) (rowM C l (k + d)) := rfl
    rw [e]
    by_cases c : nzA (rstT p (tkN p C l (k + d)) (rowM C l (k + d))) 0 < 0
    · rw [(tk_no c).1]; exact ⟨s, h1, h2⟩
    · rw [(tk_yes c).1, h1, List.append_assoc]
      refine ⟨s ++ [((k + d : Nat) : Int)], rfl, fun a ha => ?_⟩
      rcases List.mem_append.1 ha with ha | ha
      · exact h2 a ha
      · rw [List.mem_singleton.1 ha]; omega
theorem cut_profile {p : Int} {C R k : Nat} {l : List Int} (hk : k ≤ R) : ∃ s : List Int, (tkCup p C R l).1 = (tkCup p C k (l.take (k * C))).1 ++ s ∧ ∀ a ∈ s, (k : Int) ≤ a := by
  obtain ⟨d, rfl⟩ : ∃ d, R = k + d := ⟨R - k, by omega⟩
  obtain ⟨s, h1, h2⟩ := tkN_more p C l k d
  exact ⟨s, by show (tkN p C l (k + d)).rows = (tkN p C (l.take (k * C)) k).rows ++ s; rw [h1, tkN_take k (Nat.le_refl k)], h2⟩
theorem rank_of {P R C : Nat} {l : List Int} (hP : Prm P) (M : Mt P R C l) (hin : ∀ a ∈ l, In P a) : CallsP Try.prog 34 [u64 P, matP R C l] (.tup [i64 (tkCup P C R l).1.length, i64 0]) := by
  have h := rank_walk hP R C l (len_ok M) (w64_of_in M.hp hin)
  unfold rankR at h
  rw [takeR_mk M] at h; exact h
theorem profile_of {P R C : Nat} {l : List Int} (hP : Prm P) (M : Mt P R C l) (hin : ∀ a ∈ l, In P a) : CallsP Try.prog 35 [u64 P, matP R C l] (.tup [li (tkCup P C R l).1, i64 0]) := by
  have h := profile_walk hP R C l (len_ok M) (w64_of_in M.hp hin)
  rw [takeR_mk M] at h; exact h
end Go.Proofs.Ythnfphgjfpcpbaa.TM
namespace Go.Proofs.Ythnfphgjfpcpbaa.TM
open Go Go.RowKit Go.Shelf
attribute [local go_sem] Oper.semAt_some
set_option maxRecDepth 100000 in
set_option maxHeartbeats 2000000 in
theorem chunkU_in (F : Fence) (n : Nat) (h7 : F.fn 115) (hro : F.round = none) (hn : 1 ≤ n) (l Bs os Bn on b off N q cap : Nat) (ad : Option Addr) (hq : 1 ≤ q) (had : 1 ≤ N → ad = some ⟨b, off, none⟩) {α : Type} (idx : α → Nat) (encs : α → Array Value)
    (he : ∀ k, k < N → ∃ x, idx x = k ∧ encs x = #[.slice (some ⟨b, off + k * q, none⟩) q q]) (hcap : N * q ≤ cap) (hreach : N * q ≤ 17592186043904) (J Jx : List α → World → Prop) (hJ : ∀ s W W', J s W → W.grownBy W' none → J s W')
    (hY : ∀ pre x W, J pre W → pre.length < N → YieldAt F (n - 1) Try.prog l (encs x) W fun e W' =>
      (e = .returned (.bool true) ∧ J (pre ++ [x]) W' ∧ (W.cell? ⟨Bs, os, none⟩ = some (.slice ad (N * q) cap) → W'.cell? ⟨Bs, os, none⟩ = some (.slice ad (N * q) cap)) ∧ (W.cell? ⟨Bn, on, none⟩ = some (.int .i64 q) → W'.cell? ⟨Bn, on, none⟩ = some (.int .i64 q))) ∨ (e = .returned (.bool false) ∧ Jx (pre ++ [x]) W'))
    (W : World) (hBs : W.cell? ⟨Bs, os, none⟩ = some (.slice ad (N * q) cap)) (hBn : W.cell? ⟨Bn, on, none⟩ = some (.int .i64 q)) (h0 : J [] W) :
    CallsIn F n Try.prog 115 #[.func (.yield l) #[] #[], .pointer (some ⟨Bs, os, none⟩), .pointer (some ⟨Bn, on, none⟩)] W fun e W' => (∃ v, e = .returned v) ∧
      ((∃ ys, ys.map idx = List.range N ∧ J ys W') ∨ (∃ pre, True ∧ Jx pre W')) := by
  refine callsIn_of_wp Try.func115 rfl h7 ?_ hro
  simp only [Try.ntmps115, List.size_toArray, List.length_cons, List.length_nil, Nat.reduceAdd, Nat.reduceSub, Array.replicate_succ, Array.replicate_zero, List.push_toArray, List.append_toArray, List.nil_append, List.cons_append]
  gi_wp2
  gi_loopw [4] (fun i wr => ∃ (k : Nat) (ys : List α), k ≤ N ∧ i = .int .i64 ((k * q : Nat) : Int) ∧ ys.map idx = List.range k ∧ J ys wr ∧ wr.cell? ⟨Bs, os, none⟩ = some (.slice ad (N * q) cap) ∧ wr.cell? ⟨Bn, on, none⟩ = some (.int .i64 q))
    (fun i _ => N * q - (intOf i).toNat)
  case atStart => exact ⟨0, [], Nat.zero_le _, by simp, rfl, h0, hBs, hBn⟩
  case round =>
    obtain ⟨k, ys, hk, rfl, hys, hJs, hs, hn'⟩ := hrel
    by_cases hlt : k < N
    · obtain rfl := had (by omega)
      have hsd : wr.drew.cell? ⟨Bs, os, none⟩ = some (.slice (some ⟨b, off, none⟩) (N * q) cap) := hs
      have hnd : wr.drew.cell? ⟨Bn, on, none⟩ = some (.int .i64 q) := hn'
      obtain ⟨x, hxi, hxe⟩ := he k hlt
      have hyl : ys.length = k := by have := congrArg List.length hys; simpa using this
      obtain ⟨fn, tmps, assign, body, hy, hR⟩ := hY ys x wr.drew (hJ _ _ _ hJs ⟨rfl, rfl, rfl, Nat.le_refl _, fun _ _ _ => rfl⟩) (by omega)
      rw [hxe] at hy
      have m1 : k * q + q ≤ N * q := by have := Nat.mul_le_mul_right q hlt; rw [Nat.succ_mul] at this; exact this
      have m2 : (if N * q - k * q < q then ((N * q - k * q : Nat) : Int) else (q : Int)) = q := if_neg (by omega)
      have m3 : (k + 1) * q = k * q + q := Nat.succ_mul k q
      have m4 : (ys ++ [x]).map idx = List.range (k + 1) := by rw [List.map_append, hys, List.range_succ, List.map_cons, hxi]; rfl
      clear he hxe hxi hys hyl
      generalize k * q = kq at *
      generalize N * q = Nq at *
      gi_wp2
      gi_region
      all_goals (
        gi_wp2
        refine hR.mono ?_
        rintro e W3 (⟨rfl, hJ3, hk1, hk2⟩ | ⟨rfl, hJx3⟩)
        · have c1 := hk1 hsd
          have c2 := hk2 hnd
          gi_wp2
          go_roundw
          case rel => exact ⟨k + 1, ys ++ [x], by omega, by rw [m3]; simp, m4, hJ3, c1, c2⟩
          case measure => simp [intOf]; omega
        · gi_wp2
          refine bodyPost_ret (results_none rfl _ _ _) rfl ?_
          exact ⟨⟨_, rfl⟩, .inr ⟨_, trivial, hJx3⟩⟩)
    · obtain rfl : k = N := by omega
      clear he had
      generalize k * q = kq at *
      gi_wp2
      go_end0
      exact ⟨⟨_, rfl⟩, .inl ⟨ys, hys, hJs⟩⟩
end Go.Proofs.Ythnfphgjfpcpbaa.TM
namespace Go.Proofs.Ythnfphgjfpcpbaa.TM
open Go Go.RowKit
theorem iter_iref {β : Pl} {h : Heap} {w : World} {x : IV} {v : Value} (hr : Rep β h w (.iref [x] 0) v) :
    ∃ B o, v = .pointer (some ⟨B, o, none⟩) ∧ Stable β h B ∧ ∃ u, w.cell? ⟨B, o, none⟩ = some u ∧ RepI (Rd β h w) x u := by
  cases hr with
  | iref cs off a f hr h1 hs =>
    have h0 := hr 0 (by simp)
    obtain ⟨b, o, sp⟩ := a
    simp only [Addr.add, if_true] at h0 ⊢
    have hsp : sp = none := by
      have hc0 := h0.2
      unfold World.cell? at hc0
      cases sp with
      | none => rfl
      | some s => simp at hc0; split at hc0 <;> cases hc0
    subst hsp
    exact ⟨b, o, rfl, h0.1, _, h0.2, hs 0 x rfl⟩
theorem chunkU_iterD {h : Heap} {N q : Nat} {cs : List IV} (hl : cs.length = N * q) (hq : 1 ≤ q) (hb : N * q ≤ 17592186043904) :
    IterC Try.prog 115 [.iref [.l (N * q) cs] 0, .iref [.v (.int .i64 q)] 0] h [] {k : Nat // k < N} (fun k => [.i (.l q ((cs.drop (k.1 * q)).take q))]) (fun xs => xs.map (·.1) = List.range N) N := by
  intro β w lb H hlb
  obtain ⟨hls, hlr⟩ := hlb
  obtain ⟨B1, o1, e1, t1, x1⟩ := iter_iref (hlr 0 _ rfl)
  obtain ⟨B2, o2, e2, t2, x2⟩ := iter_iref (hlr 1 _ rfl)
  have elb : lb = #[.pointer (some ⟨B1, o1, none⟩), .pointer (some ⟨B2, o2, none⟩)] := by
    obtain ⟨l⟩ := lb
    match l, hls, e1, e2 with
    | [a, b], _, e1, e2 => simp at e1 e2; subst e1; subst e2; rfl
  subst elb
  obtain ⟨sv, hsv, hsr⟩ := x1
  obtain ⟨nv, hnv, hnr⟩ := x2
  have hnv' : nv = .int .i64 q := by cases hnr with | v => rfl
  subst hnv'
  have hlt1 := (World.block_lt_of_cell? w _ hsv)
  have hlt2 := (World.block_lt_of_cell? w _ hnv)
  -- the slice's value
  obtain ⟨ad, cap, rfl, hcap, hcell⟩ : ∃ ad cap, sv = .slice ad (N * q) cap ∧ N * q ≤ cap ∧ (1 ≤ N → ∃ b off, ad = some ⟨b, off, none⟩ ∧ ∃ f : Nat → Value, (∀ j, j < N * q → Rd β h w ⟨b, off + j, none⟩ (f j)) ∧ (∀ j, j < N * q → (f j).oneCell' = true) ∧ ∀ j y, cs[j]? = some y → RepI (Rd β h w) y (f j)) := by
    · generalize hNq : N * q = Nq at hsr hl ⊢
      cases hsr with
      | nil => exact ⟨none, 0, rfl, Nat.le_refl _, fun h1 => by have := Nat.mul_le_mul h1 hq; omega⟩
      | l n cs a cap f hc hr h1 hs =>
        refine ⟨some a, cap, rfl, hc, fun hN1 => ?_⟩
        have hpos : 0 < Nq := by have := Nat.mul_le_mul hN1 hq; omega
        obtain ⟨b, off, sp⟩ := a
        have hc0 := (hr 0 (by omega)).2
        have hsp : sp = none := by
          simp only [Addr.add, if_true] at hc0
          unfold World.cell? at hc0
          cases sp with
          | none => rfl
          | some s => simp at hc0; split at hc0 <;> cases hc0
        subst hsp
        refine ⟨b, off, rfl, f, fun j hj => ?_, fun j hj => h1 j (by omega), hs⟩
        have := hr j (by omega)
        by_cases hj0 : j = 0
        · subst hj0; simpa [Addr.add] using this
        · simpa [Addr.add, hj0] using this
  have hdrop : ∀ {a v}, Rd β h w a v → Rd β (h.drop []) w a v := fun {a v} hr => ⟨⟨hr.1.1, fun b x hx ho => by
    unfold Heap.drop at hx
    split at hx
    · cases hx
    · exact hr.1.2 b x hx ho⟩, hr.2⟩
  have hshut1 := (hdrop (a := ⟨B1, o1, none⟩) ⟨t1, hsv⟩).1.2
  have hshut2 := (hdrop (a := ⟨B2, o2, none⟩) ⟨t2, hnv⟩).1.2
  obtain ⟨b, off, had, f, hff⟩ : ∃ b off, (1 ≤ N → ad = some ⟨b, off, none⟩) ∧ ∃ f : Nat → Value, 1 ≤ N → (∀ j, j < N * q → Rd β h w ⟨b, off + j, none⟩ (f j)) ∧ (∀ j, j < N * q → (f j).oneCell' = true) ∧ ∀ j y, cs[j]? = some y → RepI (Rd β h w) y (f j) := by
    by_cases hN0 : 1 ≤ N
    · obtain ⟨b, off, h1, f, h2⟩ := hcell hN0
      exact ⟨b, off, fun _ => h1, f, fun _ => h2⟩
    · exact ⟨0, 0, fun h1 => absurd h1 hN0, fun _ => undef, fun h1 => absurd h1 hN0⟩
  refine ⟨fun k => #[.slice (some ⟨b, off + k.1 * q, none⟩) q q], fun k => ⟨rfl, fun j p hj => ?_⟩, fun n hn l J Jx W hW hJ hJx hY h0 => ?_⟩
  · match j, hj with
    | 0, hj =>
      simp only [List.getElem?_cons_zero, Option.some.injEq] at hj
      subst hj
      have hk := k.2
      obtain ⟨hf, hf1, hfs⟩ := hff (by omega)
      have m1 : k.1 * q + q ≤ N * q := by have := Nat.mul_le_mul_right q k.2; rw [Nat.succ_mul] at this; exact this
      have tl : ((cs.drop (k.1 * q)).take q).length = q := by rw [List.length_take, List.length_drop]; omega
      refine .i _ _ (.l q _ ⟨b, off + k.1 * q, none⟩ q (fun j => f (k.1 * q + j)) (Nat.le_refl _) (fun j hj => ?_) (fun j hj => hf1 _ (by omega)) fun j x hj => ?_)
      · rw [tl] at hj
        have := hdrop (hf (k.1 * q + j) (by omega))
        by_cases hj0 : j = 0
        · subst hj0; simpa [Addr.add] using this
        · simp only [Addr.add, hj0, if_false]
          rw [show off + k.1 * q + j = off + (k.1 * q + j) by omega]
          exact this
      · have hlj : j < q := by have := (List.getElem?_eq_some_iff.1 hj).1; omega
        rw [List.getElem?_take, if_pos hlj, List.getElem?_drop] at hj
        exact (hfs _ _ hj).mono fun a v => hdrop
    | j + 1, hj => simp at hj
  · refine CallsIn.mono (chunkU_in Fence.wide n trivial rfl hn l B1 o1 B2 o2 b off N q cap ad hq had (fun k : {k : Nat // k < N} => k.1) (fun k => #[.slice (some ⟨b, off + k.1 * q, none⟩) q q]) (fun k hk => ⟨⟨k, hk⟩, rfl, rfl⟩) hcap hb J Jx
      (fun s A B hs hg => hJ s A B none hs hg (fun r e => by cases e)) (fun pre x W1 hj hl => ?_) W ((hW.cell (p := ⟨B1, o1, none⟩) hlt1).trans hsv) ((hW.cell (p := ⟨B2, o2, none⟩) hlt2).trans hnv) h0) fun e W' he => he
    obtain ⟨fn, tmps, assign, body, hy, hR⟩ := hY pre x W1 hj hl
    refine ⟨fn, tmps, assign, body, hy, hR.mono ?_⟩
    rintro e W' (⟨he, hj', hk⟩ | hr)
    · exact .inl ⟨he, hj', fun hc => (World.cell?_of_block ((hk _ hlt1).1 hshut1)).trans hc, fun hc => (World.cell?_of_block ((hk _ hlt2).1 hshut2)).trans hc⟩
    · exact .inr hr
theorem CallsP.get {P : Program} {g : FuncId} {args : List PV} {v : PV} (h : CallsP P g args v) (base : Name) : ∃ u hu, CallR P base g args Heap.none u hu ∧ lowerT hu u = some v := h base
end Go.Proofs.Ythnfphgjfpcpbaa.TM
namespace Go.Proofs.Ythnfphgjfpcpbaa.TM
open Go Go.RowKit
attribute [local irreducible] K W WOps Effs Xg Xo Xr Xdg Xdo Xdr Xif CallsP CallR
theorem assign1 {id n p d : Nat} {ty : TypeId} {ps : String} {af : Array Edge} {g : Nat → PV} (v : PV) (hp : p < n) :
    assignB (.region id #[{ dst := some d, op := .assign (.tmp p), type := ty, pos := ps, after := af, guard := none }] false) (setsT [p] [v] (toL n g)) = some (toL n (upd (upd g p v) d v)) := by
  simp only [setsT, assignB, movesB, toL_set, putT, St.opnd, toL_getD, if_pos hp, upd_at, if_true]
theorem noMapH_none : noMapH Heap.none := fun b x h => by cases h
theorem noMapH_put {h : Heap} (hn : noMapH h) (b : Name) {x : Box} (hx : x.isMap = false) : noMapH (h.put b x) := fun c y hc => by
  unfold Heap.put at hc
  split at hc
  · cases hc; exact hx
  · exact hn c y hc
theorem noMapH_row {h : Heap} (hn : noMapH h) (b : Name) (n : Nat) (cs : List IV) : noMapH (rowH h b n cs) := by
  unfold rowH
  split
  · exact hn
  · exact noMapH_put hn b rfl
def part (cs : List IV) (q k : Nat) : IV := .l q ((cs.drop (k * q)).take q)
abbrev cloU (m : Nat) (cs : List IV) (q : Nat) : PV := .clo 115 [.iref [.l m cs] 0, .iref [.v (.int .i64 q)] 0]
theorem chunkU_walk (m : Nat) (cs : List IV) (q : Nat) (hq : 1 ≤ q) : CallsP Try.prog 93 [.i (.l m cs), i64 q] (cloU m cs q) := by
  have h1 : ¬ (q : Int) < 1 := by omega
  refine X_startP (n := 9) (m := 2) (rs := [.tmp 4]) Try.func93 rfl rfl rfl rfl (by decide) fun base => ?_
  repeat (first | refine X_opc rfl ?_ | refine X_dopc rfl ?_ | refine ⟨(by show drawK _ _ = true; kernel_rfl : drawX _ _ _), ?_⟩ | exact (by show drawK _ _ = true; kernel_rfl : drawX _ _ _) | simp -dsimp (maxSteps := 20000000) (disch := omega) only [simx, zzC, zzB, tys, ite_self, opnL, callB, callX, readsB, stepOp, nilCmp, ofVal, opBuiltin, opLen, PV.sk, scalBin, scalUn, intBin, opLoad, natOf, opConvert, opField, cellsP, oneP, Value.oneCell', opStore, toIV, scalT, scalA, scalC, boxesA, boxesC, zipB_none, zipB_mx, isZ, opZip, zeroP, opAppendZ, opMakeMap, opLookup, mboxB, opUpdate, ↓reduceIte, Nat.reduceSub, Nat.reduceEqDiff, Nat.reduceAdd, Nat.reduceMul, Nat.reduceLT, Nat.reduceLeDiff, Int.reduceToNat, Int.reduceLE, Int.reduceLT, Int.reduceNeg, reduceCtorEq, zzR, gos, Int.reduceAdd, Int.reduceSub, Int.reduceMul, Int.reduceEq, h1])
abbrev llN (l : List IV) : PV := .i (.l l.length l)
theorem appendSeqU_walk (N q : Nat) (cs : List IV) (hl : cs.length = N * q) (hq : 1 ≤ q) (hb : N * q ≤ 4398046511104) : CallsP Try.prog 114 [.i (.v (.slice none 0 0)), cloU (N * q) cs q] (llN ((List.range N).map (part cs q))) := by
  refine X_startP (n := 13) (m := 2) (rs := [.tmp 4]) Try.func114 rfl rfl rfl rfl (by decide) fun base => ?_
  repeat (first | refine X_opc rfl ?_ | refine X_dopc rfl ?_ | refine ⟨(by show drawK _ _ = true; kernel_rfl : drawX _ _ _), ?_⟩ | exact (by show drawK _ _ = true; kernel_rfl : drawX _ _ _) | simp -dsimp (maxSteps := 20000000) (disch := omega) only [simx, zzC, zzB, tys, ite_self, opnL, callB, callX, readsB, stepOp, nilCmp, ofVal, opBuiltin, opLen, PV.sk, scalBin, scalUn, intBin, opLoad, natOf, opConvert, opField, cellsP, oneP, Value.oneCell', opStore, toIV, scalT, scalA, scalC, boxesA, boxesC, zipB_none, zipB_mx, isZ, opZip, zeroP, opAppendZ, opMakeMap, opLookup, mboxB, opUpdate, ↓reduceIte, Nat.reduceSub, Nat.reduceEqDiff, Nat.reduceAdd, Nat.reduceMul, Nat.reduceLT, Nat.reduceLeDiff, Int.reduceToNat, Int.reduceLE, Int.reduceLT, Int.reduceNeg, reduceCtorEq, gos, Int.reduceAdd, Int.reduceSub, Int.reduceMul, Int.reduceEq])
  refine X_range [2] [] [(3, 2) :: base] (fun k : {k : Nat // k < N} => [.i (part cs q k.1)]) (fun xs => xs.map (·.1) = List.range N) N _ (fun pre => rowH (Heap.none.put ((0, 0) :: base) (.var [rowP ((3, 3) :: base) 1 pre.length (pre.map fun k => part cs q k.1)])) ((3, 3) :: base) pre.length (pre.map fun k => part cs q k.1))
    (rowH (Heap.none.put ((0, 0) :: base) (.var [rowP ((3, 3) :: base) 1 N ((List.range N).map (part cs q))])) ((3, 3) :: base) N ((List.range N).map (part cs q))) (by decide) rfl rfl (by simp only [tys]) (chunkU_iterD hl hq (by omega)) fgt_nil (drop_nil _) (fun x => ⟨rfl, assign1 _ (by decide)⟩)
    (fun pre => noMapH_row (noMapH_put noMapH_none _ rfl) _ _ _) ?_ ?_ ?_
  · intro pre x hpl
    obtain ⟨pc, hpc⟩ : ∃ pc, part cs q x.1 = .l q pc := ⟨_, rfl⟩
    have hnx : ((pre ++ [x]).map fun k => part cs q k.1) = (pre.map fun k => part cs q k.1) ++ [.l q pc] := by rw [List.map_append, ← hpc]; rfl
    have hnl : (pre ++ [x]).length = pre.length + 1 := by simp
    rw [hnx, hnl, hpc]
    generalize hcs : (pre.map fun k => part cs q k.1) = ps
    have hps : ps.length = pre.length := by rw [← hcs, List.length_map]
    generalize pre.length = m at hpl hps
    have hNq : N ≤ N * q := Nat.le_mul_of_pos_right N hq
    repeat (first | refine X_opc rfl ?_ | refine X_dopc rfl ?_ | refine ⟨(by show drawK _ _ = true; kernel_rfl : drawX _ _ _), ?_⟩ | exact (by show drawK _ _ = true; kernel_rfl : drawX _ _ _) | simp -dsimp (maxSteps := 20000000) (disch := omega) only [simx, zzC, zzB, tys, ite_self, opnL, callB, callX, readsB, stepOp, nilCmp, ofVal, opBuiltin, opLen, PV.sk, scalBin, scalUn, intBin, opLoad, natOf, opConvert, opField, cellsP, oneP, Value.oneCell', opStore, toIV, scalT, scalA, scalC, boxesA, boxesC, zipB_none, zipB_mx, isZ, opZip, zeroP, opAppendZ, opMakeMap, opLookup, mboxB, opUpdate, ↓reduceIte, Nat.reduceSub, Nat.reduceEqDiff, Nat.reduceAdd, Nat.reduceMul, Nat.reduceLT, Nat.reduceLeDiff, Int.reduceToNat, Int.reduceLE, Int.reduceLT, Int.reduceNeg, reduceCtorEq, gos, Int.reduceAdd, Int.reduceSub, Int.reduceMul, Int.reduceEq])
    refine X_append_one 23 [.slice none 0 0] [.l q pc] (by simp only [tys]) (by simp only [tys]) rfl (by decide) (by simp [hps]) (by simp [Heap.put_at, Heap.none_at, rowH_app]) (by simp [Heap.put_at]; rfl) rfl (by simp only [tys]; omega) (by rw [mx_len]; omega) ?_
    repeat (first | refine X_opc rfl ?_ | refine X_dopc rfl ?_ | refine ⟨(by show drawK _ _ = true; kernel_rfl : drawX _ _ _), ?_⟩ | exact (by show drawK _ _ = true; kernel_rfl : drawX _ _ _) | simp -dsimp (maxSteps := 20000000) (disch := omega) only [simx, zzC, zzB, tys, ite_self, opnL, callB, callX, readsB, stepOp, nilCmp, ofVal, opBuiltin, opLen, PV.sk, scalBin, scalUn, intBin, opLoad, natOf, opConvert, opField, cellsP, oneP, Value.oneCell', opStore, toIV, scalT, scalA, scalC, boxesA, boxesC, zipB_none, zipB_mx, isZ, opZip, zeroP, opAppendZ, opMakeMap, opLookup, mboxB, opUpdate, ↓reduceIte, Nat.reduceSub, Nat.reduceEqDiff, Nat.reduceAdd, Nat.reduceMul, Nat.reduceLT, Nat.reduceLeDiff, Int.reduceToNat, Int.reduceLE, Int.reduceLT, Int.reduceNeg, reduceCtorEq, gos, Int.reduceAdd, Int.reduceSub, Int.reduceMul, Int.reduceEq, rowP_succ, rowH_succ])
    refine ⟨(fgt_cons (by simp [rowH_app, Heap.put_at, Heap.none_at]) (by rw [notIn_nil]; trivial) (by repeat (first | exact noVar_none _ | refine noVar_row ?_ | refine noVar_map ?_ | refine noVar_rowH ?_ | refine noVar_var ?_ (by simp [refsL, refsP, mem_refs_rowP]))) (fgt_nil)), ?_⟩
    funext c
    simp (maxSteps := 20000000) only [Heap.drop_at, rowH_app, Heap.put_at, Heap.none_at, List.mem_cons, List.not_mem_nil, or_false]
    by_cases e0 : c = (0, 0) :: base
    · subst e0; simp []
    by_cases e1 : c = (3, 2) :: base
    · subst e1; simp []
    by_cases e2 : c = (3, 3) :: base
    · subst e2; simp []
    simp [e0, e1, e2]
  · intro xs hxs
    have h1 : xs.length = N := by have := congrArg List.length hxs; simpa using this
    have h2 : (xs.map fun k => part cs q k.1) = (List.range N).map (part cs q) := by rw [← hxs, List.map_map]; rfl
    simp only [h1, h2]
  · obtain ⟨ps, hps⟩ : ∃ ps, (List.range N).map (part cs q) = ps := ⟨_, rfl⟩
    have hpl : ps.length = N := by rw [← hps]; simp
    rw [hps]
    subst hpl
    by_cases h0 : ps.length = 0
    · have : ps = [] := List.eq_nil_of_length_eq_zero h0
      subst this
      repeat (first | refine X_opc rfl ?_ | refine X_dopc rfl ?_ | refine ⟨(by show drawK _ _ = true; kernel_rfl : drawX _ _ _), ?_⟩ | exact (by show drawK _ _ = true; kernel_rfl : drawX _ _ _) | simp -dsimp (maxSteps := 20000000) (disch := omega) only [simx, zzC, zzB, tys, ite_self, opnL, callB, callX, readsB, stepOp, nilCmp, ofVal, opBuiltin, opLen, PV.sk, scalBin, scalUn, intBin, opLoad, natOf, opConvert, opField, cellsP, oneP, Value.oneCell', opStore, toIV, scalT, scalA, scalC, boxesA, boxesC, zipB_none, zipB_mx, isZ, opZip, zeroP, opAppendZ, opMakeMap, opLookup, mboxB, opUpdate, ↓reduceIte, Nat.reduceSub, Nat.reduceEqDiff, Nat.reduceAdd, Nat.reduceMul, Nat.reduceLT, Nat.reduceLeDiff, Int.reduceToNat, Int.reduceLE, Int.reduceLT, Int.reduceNeg, reduceCtorEq, zzR, gos, Int.reduceAdd, Int.reduceSub, Int.reduceMul, Int.reduceEq, rowP_zero, rowH_zero])
      rfl
    · obtain ⟨s, hs⟩ : ∃ s, ps.length = s + 1 := ⟨ps.length - 1, by omega⟩
      have e2 : ps.take (s + 1) = ps := List.take_of_length_le (by omega)
      rw [llN, hs]
      repeat (first | refine X_opc rfl ?_ | refine X_dopc rfl ?_ | refine ⟨(by show drawK _ _ = true; kernel_rfl : drawX _ _ _), ?_⟩ | exact (by show drawK _ _ = true; kernel_rfl : drawX _ _ _) | simp -dsimp (maxSteps := 20000000) (disch := omega) only [simx, zzC, zzB, tys, ite_self, opnL, callB, callX, readsB, stepOp, nilCmp, ofVal, opBuiltin, opLen, PV.sk, scalBin, scalUn, intBin, opLoad, natOf, opConvert, opField, cellsP, oneP, Value.oneCell', opStore, toIV, scalT, scalA, scalC, boxesA, boxesC, zipB_none, zipB_mx, isZ, opZip, zeroP, opAppendZ, opMakeMap, opLookup, mboxB, opUpdate, ↓reduceIte, Nat.reduceSub, Nat.reduceEqDiff, Nat.reduceAdd, Nat.reduceMul, Nat.reduceLT, Nat.reduceLeDiff, Int.reduceToNat, Int.reduceLE, Int.reduceLT, Int.reduceNeg, reduceCtorEq, zzR, gos, Int.reduceAdd, Int.reduceSub, Int.reduceMul, Int.reduceEq, rowP_succ, rowH_succ, hs, e2])
theorem collectU_walk (N q : Nat) (cs : List IV) (hl : cs.length = N * q) (hq : 1 ≤ q) (hb : N * q ≤ 4398046511104) : CallsP Try.prog 92 [cloU (N * q) cs q] (llN ((List.range N).map (part cs q))) := by
  have d := appendSeqU_walk N q cs hl hq hb
  refine X_startP (n := 5) (m := 1) (rs := [.tmp 2]) Try.func92 rfl rfl rfl rfl (by decide) fun base => ?_
  repeat (first | refine X_opc rfl ?_ | refine X_dopc rfl ?_ | refine ⟨(by show drawK _ _ = true; kernel_rfl : drawX _ _ _), ?_⟩ | exact (by show drawK _ _ = true; kernel_rfl : drawX _ _ _) | simp -dsimp (maxSteps := 20000000) (disch := omega) only [simx, zzC, zzB, tys, ite_self, opnL, callB, callX, readsB, stepOp, nilCmp, ofVal, opBuiltin, opLen, PV.sk, scalBin, scalUn, intBin, opLoad, natOf, opConvert, opField, cellsP, oneP, Value.oneCell', opStore, toIV, scalT, scalA, scalC, boxesA, boxesC, zipB_none, zipB_mx, isZ, opZip, zeroP, opAppendZ, opMakeMap, opLookup, mboxB, opUpdate, ↓reduceIte, Nat.reduceSub, Nat.reduceEqDiff, Nat.reduceAdd, Nat.reduceMul, Nat.reduceLT, Nat.reduceLeDiff, Int.reduceToNat, Int.reduceLE, Int.reduceLT, Int.reduceNeg, reduceCtorEq, gos, Int.reduceAdd, Int.reduceSub, Int.reduceMul, Int.reduceEq])
  obtain ⟨u, hu, hc, hlow⟩ := d.get ((1, 1) :: base)
  refine X_call_sh rfl (by simp only [tys]) rfl hc ?_
  repeat (first | refine X_opc rfl ?_ | refine X_dopc rfl ?_ | refine ⟨(by show drawK _ _ = true; kernel_rfl : drawX _ _ _), ?_⟩ | exact (by show drawK _ _ = true; kernel_rfl : drawX _ _ _) | simp -dsimp (maxSteps := 20000000) (disch := omega) only [simx, zzC, zzB, tys, ite_self, opnL, callB, callX, readsB, stepOp, nilCmp, ofVal, opBuiltin, opLen, PV.sk, scalBin, scalUn, intBin, opLoad, natOf, opConvert, opField, cellsP, oneP, Value.oneCell', opStore, toIV, scalT, scalA, scalC, boxesA, boxesC, zipB_none, zipB_mx, isZ, opZip, zeroP, opAppendZ, opMakeMap, opLookup, mboxB, opUpdate, ↓reduceIte, Nat.reduceSub, Nat.reduceEqDiff, Nat.reduceAdd, Nat.reduceMul, Nat.reduceLT, Nat.reduceLeDiff, Int.reduceToNat, Int.reduceLE, Int.reduceLT, Int.reduceNeg, reduceCtorEq, zzR, gos, Int.reduceAdd, Int.reduceSub, Int.reduceMul, Int.reduceEq, hlow])
end Go.Proofs.Ythnfphgjfpcpbaa.TM
namespace Go.Proofs.Ythnfphgjfpcpbaa.TM
open Go Go.RowKit
attribute [local irreducible] K W WOps Effs Xg Xo Xr Xdg Xdo Xdr Xif CallsP CallR
theorem X_append_room {P : Program} {C : CallRel} {h h0 : Heap} {base : Name} {Qf : Ex → List PV → Heap → Prop} {k : List It} {t : List PV} {R : It} {d : Option Tmp} {s b : Name} {ty : TypeId} (e : TypeId) (zs : List Value) {n m top : Nat} {cs : List IV} (xs : List IV)
    (he : elemB P ty = some e) (hz : zeroB P e = some zs) (hzl : zs.length = 1) (hb : h b = some (.row false cs)) (hl : cs.length = top) (hm : 0 < m) (hx : xs.length = m) (hroom : n + m ≤ top)
    (hby : (n + m) * P.bytesOf e ≤ 140737488355328) (hmx : n + m ≤ maxLen)
    (hk : K P C h0 base Qf (R :: k) .normal (putT t d (.view b 0 1 (n + m) top)) (h.put b (.row false (spliceL cs n xs)))) :
    Xr P C h0 base Qf (opAppend P h s ty (.view b 0 1 n top) (.i (.l m xs))) d R k t h := by
  refine Xr_eq (out := ⟨.view b 0 1 (n + m) top, [(b, .row false (spliceL cs n xs))]⟩) ?_ hk
  have h1 : ¬ m = 0 := by omega
  have h2 : ¬ (cs.length = n) := by omega
  subst hl
  simp only [opAppend, he, hz, hzl, PV.sk, SK.cells, SK.len, hx, hb, Nat.mul_one, if_true, h1, if_false, hby, hmx, Nat.zero_lt_one, and_self, true_and, h2, and_false, Nat.zero_add, hroom]
theorem X_append_e0 {P : Program} {C : CallRel} {h h0 : Heap} {base : Name} {Qf : Ex → List PV → Heap → Prop} {k : List It} {t : List PV} {R : It} {d : Option Tmp} {s : Name} {ty : TypeId} (e : TypeId) (zs : List Value)
    (he : elemB P ty = some e) (hz : zeroB P e = some zs) (hzl : zs.length = 1) (hk : K P C h0 base Qf (R :: k) .normal (putT t d (.i (.v (.slice none 0 0)))) h) :
    Xr P C h0 base Qf (opAppend P h s ty (.i (.v (.slice none 0 0))) (.i (.l 0 []))) d R k t h := by
  refine Xr_eq (out := ⟨.i (.v (.slice none 0 0)), []⟩) ?_ hk
  simp [opAppend, he, hz, hzl, PV.sk, SK.cells, SK.len, mx_len]
theorem X_append_e1 {P : Program} {C : CallRel} {h h0 : Heap} {base : Name} {Qf : Ex → List PV → Heap → Prop} {k : List It} {t : List PV} {R : It} {d : Option Tmp} {s b : Name} {off z n top : Nat} {ty : TypeId} (e : TypeId) (zs : List Value)
    (he : elemB P ty = some e) (hz : zeroB P e = some zs) (hzl : zs.length = 1) (hby : n * P.bytesOf e ≤ 140737488355328) (hmx : n ≤ maxLen) (hk : K P C h0 base Qf (R :: k) .normal (putT t d (.view b off z n top)) h) :
    Xr P C h0 base Qf (opAppend P h s ty (.view b off z n top) (.i (.l 0 []))) d R k t h := by
  refine Xr_eq (out := ⟨.view b off z n top, []⟩) ?_ hk
  simp [opAppend, he, hz, hzl, PV.sk, SK.cells, SK.len, hby, hmx]
theorem growU_walk {h : Heap} {base : Name} (n : Nat) (h0 : 0 < n) (hn : n ≤ 4398046511104) (hh : h ((5, 5) :: base) = none) :
    CallR Try.prog base 116 [.i (.v (.slice none 0 0)), i64 n] h (.view ((5, 5) :: base) 0 1 0 n) (h.put ((5, 5) :: base) (.row false ((zeroRow [.int .u64 0] n).map .v))) := by
  have h1 : ¬ (n : Int) < 0 := by omega
  have h2 : (0 : Int) < n := by omega
  refine X_startR (n := 27) (m := 2) (rs := [.tmp 4]) Try.func116 rfl rfl rfl rfl (by decide) ?_
  have e1 : (n : Int) - (0 - ((0 : Nat) : Int)) = n := by omega
  have b1 : n * 8 ≤ 140737488355328 := by omega
  have b2 : (n : Int) ≤ 140737488355328 := by omega
  repeat (first | refine X_opc rfl ?_ | refine X_dopc rfl ?_ | refine ⟨(by show drawK _ _ = true; kernel_rfl : drawX _ _ _), ?_⟩ | exact (by show drawK _ _ = true; kernel_rfl : drawX _ _ _) | simp -dsimp (maxSteps := 20000000) (disch := omega) only [simx, zzC, zzB, tys, ite_self, opnL, callB, callX, readsB, stepOp, nilCmp, ofVal, opBuiltin, opLen, PV.sk, scalBin, scalUn, intBin, opLoad, natOf, opConvert, opField, cellsP, oneP, Value.oneCell', opStore, toIV, scalT, scalA, scalC, boxesA, boxesC, zipB_none, zipB_mx, isZ, opZip, zeroP, opAppendZ, opMakeMap, opLookup, mboxB, opUpdate, ↓reduceIte, Nat.reduceSub, Nat.reduceEqDiff, Nat.reduceAdd, Nat.reduceMul, Nat.reduceLT, Nat.reduceLeDiff, Int.reduceToNat, Int.reduceLE, Int.reduceLT, Int.reduceNeg, reduceCtorEq, zzR, gos, Int.reduceAdd, Int.reduceSub, Int.reduceMul, Int.reduceEq, h1, h2, hh, e1, b1, b2, Int.toNat_natCast, SK.len, Nat.zero_le, Option.isNone_none, Option.map_some])
theorem growU_zero {h : Heap} {base : Name} : CallR Try.prog base 116 [.i (.v (.slice none 0 0)), i64 0] h (.i (.v (.slice none 0 0))) h := by
  refine X_startR (n := 27) (m := 2) (rs := [.tmp 4]) Try.func116 rfl rfl rfl rfl (by decide) ?_
  repeat (first | refine X_opc rfl ?_ | refine X_dopc rfl ?_ | refine ⟨(by show drawK _ _ = true; kernel_rfl : drawX _ _ _), ?_⟩ | exact (by show drawK _ _ = true; kernel_rfl : drawX _ _ _) | simp -dsimp (maxSteps := 20000000) (disch := omega) only [simx, zzC, zzB, tys, ite_self, opnL, callB, callX, readsB, stepOp, nilCmp, ofVal, opBuiltin, opLen, PV.sk, scalBin, scalUn, intBin, opLoad, natOf, opConvert, opField, cellsP, oneP, Value.oneCell', opStore, toIV, scalT, scalA, scalC, boxesA, boxesC, zipB_none, zipB_mx, isZ, opZip, zeroP, opAppendZ, opMakeMap, opLookup, mboxB, opUpdate, ↓reduceIte, Nat.reduceSub, Nat.reduceEqDiff, Nat.reduceAdd, Nat.reduceMul, Nat.reduceLT, Nat.reduceLeDiff, Int.reduceToNat, Int.reduceLE, Int.reduceLT, Int.reduceNeg, reduceCtorEq, zzR, gos, Int.reduceAdd, Int.reduceSub, Int.reduceMul, Int.reduceEq])
theorem zeros_len (n : Nat) (k : IntKind) : ((zeroRow [Value.int k 0] n).map IV.v).length = n := by rw [List.length_map, zeroRow_len]; simp
abbrev ivN (l : List IV) : IV := .l l.length l
abbrev llL (L : List (List IV)) : PV := .i (.l L.length (L.map ivN))
theorem flatL_next {L : List (List IV)} {j : Nat} (h : j < L.length) : (L.take (j + 1)).flatten = (L.take j).flatten ++ L[j] := by
  rw [List.take_succ_eq_append_getElem h, List.flatten_append]; simp
theorem flatL_le (L : List (List IV)) (j : Nat) : (L.take j).flatten.length ≤ L.flatten.length := by
  have : L.flatten = (L.take j).flatten ++ (L.drop j).flatten := by rw [← List.flatten_append, List.take_append_drop]
  rw [this, List.length_append]; omega
def roomC (N : Nat) (z : List IV) (l : List IV) : List IV := l ++ z.drop l.length
theorem roomC_len {N : Nat} {z l : List IV} (hz : z.length = N) (hl : l.length ≤ N) : (roomC N z l).length = N := by
  unfold roomC; rw [List.length_append, List.length_drop]; omega
theorem roomC_app {N : Nat} {z l x : List IV} (hz : z.length = N) (hl : l.length + x.length ≤ N) : spliceL (roomC N z l) l.length x = roomC N z (l ++ x) := by
  unfold roomC spliceL
  rw [List.take_left' rfl, List.drop_append, List.length_append]
  simp [List.drop_drop]
theorem concatU_walk (L : List (List IV)) (hL : L.length ≤ 4398046511104) (hF : L.flatten.length ≤ 4398046511104) : CallsP Try.prog 94 [llL L] (.i (ivN L.flatten)) := by
  refine X_startP (n := 36) (m := 1) (rs := [.tmp 2]) Try.func94 rfl rfl rfl rfl (by decide) fun base => ?_
  repeat (first | refine X_opc rfl ?_ | refine X_dopc rfl ?_ | refine ⟨(by show drawK _ _ = true; kernel_rfl : drawX _ _ _), ?_⟩ | exact (by show drawK _ _ = true; kernel_rfl : drawX _ _ _) | simp -dsimp (maxSteps := 20000000) (disch := omega) only [simx, zzC, zzB, tys, ite_self, opnL, callB, callX, readsB, stepOp, nilCmp, ofVal, opBuiltin, opLen, PV.sk, scalBin, scalUn, intBin, opLoad, natOf, opConvert, opField, cellsP, oneP, Value.oneCell', opStore, toIV, scalT, scalA, scalC, boxesA, boxesC, zipB_none, zipB_mx, isZ, opZip, zeroP, opAppendZ, opMakeMap, opLookup, mboxB, opUpdate, ↓reduceIte, Nat.reduceSub, Nat.reduceEqDiff, Nat.reduceAdd, Nat.reduceMul, Nat.reduceLT, Nat.reduceLeDiff, Int.reduceToNat, Int.reduceLE, Int.reduceLT, Int.reduceNeg, reduceCtorEq, gos, Int.reduceAdd, Int.reduceSub, Int.reduceMul, Int.reduceEq])
  have fl := flatL_le L
  refine X_loopH [0, 3, 9, 10, 11] [] (0) (L.length) (fun j => True) (fun j => [(3, i64 ((L.take j).flatten.length : Nat)), (11, i64 j)]) (fun j => Heap.none) ?_ ?_ ?_ ?_ ?_ (by decide) ?_
  · exact (fgt_nil)
  · ((simp -dsimp (disch := omega) only [simx, zzB, tys, ite_self, opnL, callB, callX, readsB, stepOp, nilCmp, ofVal, opBuiltin, opLen, PV.sk, scalBin, scalUn, intBin, opLoad, natOf, opConvert, opField, cellsP, oneP, Value.oneCell', opStore, toIV, scalT, scalA, scalC, boxesA, boxesC, zipB_none, zipB_mx, isZ, opZip, zeroP, opAppendZ, opMakeMap, opLookup, mboxB, opUpdate, ↓reduceIte, Nat.reduceSub, Nat.reduceEqDiff, Nat.reduceAdd, Nat.reduceMul, Nat.reduceLT, Nat.reduceLeDiff, Int.reduceToNat, Int.reduceLE, Int.reduceLT, Int.reduceNeg, reduceCtorEq, gos, Int.reduceAdd, Int.reduceSub, Int.reduceMul, Int.reduceEq]) <;> first | rfl | simp [rowP])
  · exact drop_nil _
  · omega
  · trivial
  · intro j hj _
    have f1 := fl j
    by_cases cj : j < L.length
    · have g1 : L[j]? = some L[j] := List.getElem?_eq_getElem cj
      have fx := flatL_next cj
      have f2 := fl (j + 1)
      generalize L[j] = r at g1 fx
      generalize (L.take j).flatten = F at fx f1
      rw [fx, List.length_append] at f2
      have h1 : ¬ ((F.length : Int) + (r.length : Int)) < 0 := by omega
      repeat (first | refine X_opc rfl ?_ | refine X_dopc rfl ?_ | refine ⟨(by show drawK _ _ = true; kernel_rfl : drawX _ _ _), ?_⟩ | exact (by show drawK _ _ = true; kernel_rfl : drawX _ _ _) | simp -dsimp (maxSteps := 20000000) (disch := omega) only [simx, zzC, zzB, tys, ite_self, opnL, callB, callX, readsB, stepOp, nilCmp, ofVal, opBuiltin, opLen, PV.sk, scalBin, scalUn, intBin, opLoad, natOf, opConvert, opField, cellsP, oneP, Value.oneCell', opStore, toIV, scalT, scalA, scalC, boxesA, boxesC, zipB_none, zipB_mx, isZ, opZip, zeroP, opAppendZ, opMakeMap, opLookup, mboxB, opUpdate, ↓reduceIte, Nat.reduceSub, Nat.reduceEqDiff, Nat.reduceAdd, Nat.reduceMul, Nat.reduceLT, Nat.reduceLeDiff, Int.reduceToNat, Int.reduceLE, Int.reduceLT, Int.reduceNeg, reduceCtorEq, gos, Int.reduceAdd, Int.reduceSub, Int.reduceMul, Int.reduceEq, cj, g1, h1])
      refine ⟨cj, (fgt_nil), ⟨?_, rfl⟩, drop_nil _⟩
      rw [fx, List.length_append]; simp
    · have hj : j = L.length := by omega
      subst hj
      rw [List.take_length]
      repeat (first | refine X_opc rfl ?_ | refine X_dopc rfl ?_ | refine ⟨(by show drawK _ _ = true; kernel_rfl : drawX _ _ _), ?_⟩ | exact (by show drawK _ _ = true; kernel_rfl : drawX _ _ _) | simp -dsimp (maxSteps := 20000000) (disch := omega) only [simx, zzC, zzB, tys, ite_self, opnL, callB, callX, readsB, stepOp, nilCmp, ofVal, opBuiltin, opLen, PV.sk, scalBin, scalUn, intBin, opLoad, natOf, opConvert, opField, cellsP, oneP, Value.oneCell', opStore, toIV, scalT, scalA, scalC, boxesA, boxesC, zipB_none, zipB_mx, isZ, opZip, zeroP, opAppendZ, opMakeMap, opLookup, mboxB, opUpdate, ↓reduceIte, Nat.reduceSub, Nat.reduceEqDiff, Nat.reduceAdd, Nat.reduceMul, Nat.reduceLT, Nat.reduceLeDiff, Int.reduceToNat, Int.reduceLE, Int.reduceLT, Int.reduceNeg, reduceCtorEq, gos, Int.reduceAdd, Int.reduceSub, Int.reduceMul, Int.reduceEq])
      generalize hFl : L.flatten = F at hF
      have sub0 : ∀ j (hj : j < L.length), L[j].length ≤ F.length := fun j hj => by
        have h1 := flatL_next hj
        have h2 := fl (j + 1)
        rw [h1, List.length_append, hFl] at h2
        omega
      by_cases hF0 : F.length = 0
      · have hFn : F = [] := List.eq_nil_of_length_eq_zero hF0
        subst hFn
        refine X_call_sh rfl (by simp only [tys]) rfl growU_zero ?_
        repeat (first | refine X_opc rfl ?_ | refine X_dopc rfl ?_ | refine ⟨(by show drawK _ _ = true; kernel_rfl : drawX _ _ _), ?_⟩ | exact (by show drawK _ _ = true; kernel_rfl : drawX _ _ _) | simp -dsimp (maxSteps := 20000000) (disch := omega) only [simx, zzC, zzB, tys, ite_self, opnL, callB, callX, readsB, stepOp, nilCmp, ofVal, opBuiltin, opLen, PV.sk, scalBin, scalUn, intBin, opLoad, natOf, opConvert, opField, cellsP, oneP, Value.oneCell', opStore, toIV, scalT, scalA, scalC, boxesA, boxesC, zipB_none, zipB_mx, isZ, opZip, zeroP, opAppendZ, opMakeMap, opLookup, mboxB, opUpdate, ↓reduceIte, Nat.reduceSub, Nat.reduceEqDiff, Nat.reduceAdd, Nat.reduceMul, Nat.reduceLT, Nat.reduceLeDiff, Int.reduceToNat, Int.reduceLE, Int.reduceLT, Int.reduceNeg, reduceCtorEq, gos, Int.reduceAdd, Int.reduceSub, Int.reduceMul, Int.reduceEq])
        refine X_loopH [6, 25, 26, 27] [] (0) (L.length) (fun j => True) (fun j => [(6, .i (.v (.slice none 0 0))), (27, i64 j)]) (fun j => Heap.none) ?_ ?_ ?_ ?_ ?_ (by decide) ?_
        · exact (fgt_nil)
        · ((simp -dsimp (disch := omega) only [simx, zzB, tys, ite_self, opnL, callB, callX, readsB, stepOp, nilCmp, ofVal, opBuiltin, opLen, PV.sk, scalBin, scalUn, intBin, opLoad, natOf, opConvert, opField, cellsP, oneP, Value.oneCell', opStore, toIV, scalT, scalA, scalC, boxesA, boxesC, zipB_none, zipB_mx, isZ, opZip, zeroP, opAppendZ, opMakeMap, opLookup, mboxB, opUpdate, ↓reduceIte, Nat.reduceSub, Nat.reduceEqDiff, Nat.reduceAdd, Nat.reduceMul, Nat.reduceLT, Nat.reduceLeDiff, Int.reduceToNat, Int.reduceLE, Int.reduceLT, Int.reduceNeg, reduceCtorEq, gos, Int.reduceAdd, Int.reduceSub, Int.reduceMul, Int.reduceEq]) <;> first | rfl | simp [rowP])
        · exact drop_nil _
        · omega
        · trivial
        · intro j hj _
          by_cases cj : j < L.length
          · have g1 : L[j]? = some L[j] := List.getElem?_eq_getElem cj
            have g2 := sub0 j cj
            generalize L[j] = r at g1 g2
            have hr : r = [] := List.eq_nil_of_length_eq_zero (by simpa using g2)
            subst hr
            repeat (first | refine X_opc rfl ?_ | refine X_dopc rfl ?_ | refine ⟨(by show drawK _ _ = true; kernel_rfl : drawX _ _ _), ?_⟩ | exact (by show drawK _ _ = true; kernel_rfl : drawX _ _ _) | simp -dsimp (maxSteps := 20000000) (disch := omega) only [simx, zzC, zzB, tys, ite_self, opnL, callB, callX, readsB, stepOp, nilCmp, ofVal, opBuiltin, opLen, PV.sk, scalBin, scalUn, intBin, opLoad, natOf, opConvert, opField, cellsP, oneP, Value.oneCell', opStore, toIV, scalT, scalA, scalC, boxesA, boxesC, zipB_none, zipB_mx, isZ, opZip, zeroP, opAppendZ, opMakeMap, opLookup, mboxB, opUpdate, ↓reduceIte, Nat.reduceSub, Nat.reduceEqDiff, Nat.reduceAdd, Nat.reduceMul, Nat.reduceLT, Nat.reduceLeDiff, Int.reduceToNat, Int.reduceLE, Int.reduceLT, Int.reduceNeg, reduceCtorEq, gos, Int.reduceAdd, Int.reduceSub, Int.reduceMul, Int.reduceEq, cj, g1])
            refine X_append_e0 22 [.int .u64 0] (by simp only [tys]) (by simp only [tys]) rfl ?_
            repeat (first | refine X_opc rfl ?_ | refine X_dopc rfl ?_ | refine ⟨(by show drawK _ _ = true; kernel_rfl : drawX _ _ _), ?_⟩ | exact (by show drawK _ _ = true; kernel_rfl : drawX _ _ _) | simp -dsimp (maxSteps := 20000000) (disch := omega) only [simx, zzC, zzB, tys, ite_self, opnL, callB, callX, readsB, stepOp, nilCmp, ofVal, opBuiltin, opLen, PV.sk, scalBin, scalUn, intBin, opLoad, natOf, opConvert, opField, cellsP, oneP, Value.oneCell', opStore, toIV, scalT, scalA, scalC, boxesA, boxesC, zipB_none, zipB_mx, isZ, opZip, zeroP, opAppendZ, opMakeMap, opLookup, mboxB, opUpdate, ↓reduceIte, Nat.reduceSub, Nat.reduceEqDiff, Nat.reduceAdd, Nat.reduceMul, Nat.reduceLT, Nat.reduceLeDiff, Int.reduceToNat, Int.reduceLE, Int.reduceLT, Int.reduceNeg, reduceCtorEq, gos, Int.reduceAdd, Int.reduceSub, Int.reduceMul, Int.reduceEq])
            exact ⟨cj, (fgt_nil), rfl, drop_nil _⟩
          · have hj : j = L.length := by omega
            subst hj
            repeat (first | refine X_opc rfl ?_ | refine X_dopc rfl ?_ | refine ⟨(by show drawK _ _ = true; kernel_rfl : drawX _ _ _), ?_⟩ | exact (by show drawK _ _ = true; kernel_rfl : drawX _ _ _) | simp -dsimp (maxSteps := 20000000) (disch := omega) only [simx, zzC, zzB, tys, ite_self, opnL, callB, callX, readsB, stepOp, nilCmp, ofVal, opBuiltin, opLen, PV.sk, scalBin, scalUn, intBin, opLoad, natOf, opConvert, opField, cellsP, oneP, Value.oneCell', opStore, toIV, scalT, scalA, scalC, boxesA, boxesC, zipB_none, zipB_mx, isZ, opZip, zeroP, opAppendZ, opMakeMap, opLookup, mboxB, opUpdate, ↓reduceIte, Nat.reduceSub, Nat.reduceEqDiff, Nat.reduceAdd, Nat.reduceMul, Nat.reduceLT, Nat.reduceLeDiff, Int.reduceToNat, Int.reduceLE, Int.reduceLT, Int.reduceNeg, reduceCtorEq, zzR, gos, Int.reduceAdd, Int.reduceSub, Int.reduceMul, Int.reduceEq])
            rfl
      · have e0 : 0 < F.length := by omega
        refine X_call_sh rfl (by simp only [tys]) rfl (growU_walk F.length e0 hF rfl) ?_
        have zl := zeros_len F.length .u64
        generalize (zeroRow [Value.int .u64 0] F.length).map IV.v = z at zl
        repeat (first | refine X_opc rfl ?_ | refine X_dopc rfl ?_ | refine ⟨(by show drawK _ _ = true; kernel_rfl : drawX _ _ _), ?_⟩ | exact (by show drawK _ _ = true; kernel_rfl : drawX _ _ _) | simp -dsimp (maxSteps := 20000000) (disch := omega) only [simx, zzC, zzB, tys, ite_self, opnL, callB, callX, readsB, stepOp, nilCmp, ofVal, opBuiltin, opLen, PV.sk, scalBin, scalUn, intBin, opLoad, natOf, opConvert, opField, cellsP, oneP, Value.oneCell', opStore, toIV, scalT, scalA, scalC, boxesA, boxesC, zipB_none, zipB_mx, isZ, opZip, zeroP, opAppendZ, opMakeMap, opLookup, mboxB, opUpdate, ↓reduceIte, Nat.reduceSub, Nat.reduceEqDiff, Nat.reduceAdd, Nat.reduceMul, Nat.reduceLT, Nat.reduceLeDiff, Int.reduceToNat, Int.reduceLE, Int.reduceLT, Int.reduceNeg, reduceCtorEq, gos, Int.reduceAdd, Int.reduceSub, Int.reduceMul, Int.reduceEq])
        refine X_loopH [6, 25, 26, 27] [] (0) (L.length) (fun j => True) (fun j => [(6, .view ((5, 5) :: (9, 1) :: base) 0 1 (L.take j).flatten.length F.length), (27, i64 j)]) (fun j => Heap.none.put ((5, 5) :: (9, 1) :: base) (.row false (roomC F.length z (L.take j).flatten))) ?_ ?_ ?_ ?_ ?_ (by decide) ?_
        · exact (fgt_nil)
        · ((simp -dsimp (disch := omega) only [simx, zzB, tys, ite_self, opnL, callB, callX, readsB, stepOp, nilCmp, ofVal, opBuiltin, opLen, PV.sk, scalBin, scalUn, intBin, opLoad, natOf, opConvert, opField, cellsP, oneP, Value.oneCell', opStore, toIV, scalT, scalA, scalC, boxesA, boxesC, zipB_none, zipB_mx, isZ, opZip, zeroP, opAppendZ, opMakeMap, opLookup, mboxB, opUpdate, ↓reduceIte, Nat.reduceSub, Nat.reduceEqDiff, Nat.reduceAdd, Nat.reduceMul, Nat.reduceLT, Nat.reduceLeDiff, Int.reduceToNat, Int.reduceLE, Int.reduceLT, Int.reduceNeg, reduceCtorEq, gos, Int.reduceAdd, Int.reduceSub, Int.reduceMul, Int.reduceEq]) <;> first | rfl | simp [rowP])
        · rw [drop_nil]; rfl
        · omega
        · trivial
        · intro j hj _
          by_cases cj : j < L.length
          · have g1 : L[j]? = some L[j] := List.getElem?_eq_getElem cj
            have fx := flatL_next cj
            have f2 := fl (j + 1)
            generalize L[j] = r at g1 fx
            rw [fx] at f2
            rw [hFl] at f2
            generalize (L.take j).flatten = G at fx f2 ⊢
            rw [List.length_append] at f2
            have rl := roomC_len (N := F.length) (l := G) zl (by omega)
            by_cases hr : r.length = 0
            · have hr : r = [] := List.eq_nil_of_length_eq_zero hr
              subst hr
              rw [List.append_nil] at fx
              repeat (first | refine X_opc rfl ?_ | refine X_dopc rfl ?_ | refine ⟨(by show drawK _ _ = true; kernel_rfl : drawX _ _ _), ?_⟩ | exact (by show drawK _ _ = true; kernel_rfl : drawX _ _ _) | simp -dsimp (maxSteps := 20000000) (disch := omega) only [simx, zzC, zzB, tys, ite_self, opnL, callB, callX, readsB, stepOp, nilCmp, ofVal, opBuiltin, opLen, PV.sk, scalBin, scalUn, intBin, opLoad, natOf, opConvert, opField, cellsP, oneP, Value.oneCell', opStore, toIV, scalT, scalA, scalC, boxesA, boxesC, zipB_none, zipB_mx, isZ, opZip, zeroP, opAppendZ, opMakeMap, opLookup, mboxB, opUpdate, ↓reduceIte, Nat.reduceSub, Nat.reduceEqDiff, Nat.reduceAdd, Nat.reduceMul, Nat.reduceLT, Nat.reduceLeDiff, Int.reduceToNat, Int.reduceLE, Int.reduceLT, Int.reduceNeg, reduceCtorEq, gos, Int.reduceAdd, Int.reduceSub, Int.reduceMul, Int.reduceEq, cj, g1])
              refine X_append_e1 22 [.int .u64 0] (by simp only [tys]) (by simp only [tys]) rfl (by simp only [tys]; omega) (by rw [mx_len]; omega) ?_
              repeat (first | refine X_opc rfl ?_ | refine X_dopc rfl ?_ | refine ⟨(by show drawK _ _ = true; kernel_rfl : drawX _ _ _), ?_⟩ | exact (by show drawK _ _ = true; kernel_rfl : drawX _ _ _) | simp -dsimp (maxSteps := 20000000) (disch := omega) only [simx, zzC, zzB, tys, ite_self, opnL, callB, callX, readsB, stepOp, nilCmp, ofVal, opBuiltin, opLen, PV.sk, scalBin, scalUn, intBin, opLoad, natOf, opConvert, opField, cellsP, oneP, Value.oneCell', opStore, toIV, scalT, scalA, scalC, boxesA, boxesC, zipB_none, zipB_mx, isZ, opZip, zeroP, opAppendZ, opMakeMap, opLookup, mboxB, opUpdate, ↓reduceIte, Nat.reduceSub, Nat.reduceEqDiff, Nat.reduceAdd, Nat.reduceMul, Nat.reduceLT, Nat.reduceLeDiff, Int.reduceToNat, Int.reduceLE, Int.reduceLT, Int.reduceNeg, reduceCtorEq, gos, Int.reduceAdd, Int.reduceSub, Int.reduceMul, Int.reduceEq])
              refine ⟨cj, (fgt_nil), ⟨by rw [fx], rfl⟩, by rw [fx]; exact drop_nil _⟩
            · repeat (first | refine X_opc rfl ?_ | refine X_dopc rfl ?_ | refine ⟨(by show drawK _ _ = true; kernel_rfl : drawX _ _ _), ?_⟩ | exact (by show drawK _ _ = true; kernel_rfl : drawX _ _ _) | simp -dsimp (maxSteps := 20000000) (disch := omega) only [simx, zzC, zzB, tys, ite_self, opnL, callB, callX, readsB, stepOp, nilCmp, ofVal, opBuiltin, opLen, PV.sk, scalBin, scalUn, intBin, opLoad, natOf, opConvert, opField, cellsP, oneP, Value.oneCell', opStore, toIV, scalT, scalA, scalC, boxesA, boxesC, zipB_none, zipB_mx, isZ, opZip, zeroP, opAppendZ, opMakeMap, opLookup, mboxB, opUpdate, ↓reduceIte, Nat.reduceSub, Nat.reduceEqDiff, Nat.reduceAdd, Nat.reduceMul, Nat.reduceLT, Nat.reduceLeDiff, Int.reduceToNat, Int.reduceLE, Int.reduceLT, Int.reduceNeg, reduceCtorEq, gos, Int.reduceAdd, Int.reduceSub, Int.reduceMul, Int.reduceEq, cj, g1])
              refine X_append_room 22 [.int .u64 0] r (by simp only [tys]) (by simp only [tys]) rfl (by simp [Heap.put_at]) rl (by omega) rfl (by omega) (by simp only [tys]; omega) (by rw [mx_len]; omega) ?_
              rw [roomC_app zl (by omega)]
              repeat (first | refine X_opc rfl ?_ | refine X_dopc rfl ?_ | refine ⟨(by show drawK _ _ = true; kernel_rfl : drawX _ _ _), ?_⟩ | exact (by show drawK _ _ = true; kernel_rfl : drawX _ _ _) | simp -dsimp (maxSteps := 20000000) (disch := omega) only [simx, zzC, zzB, tys, ite_self, opnL, callB, callX, readsB, stepOp, nilCmp, ofVal, opBuiltin, opLen, PV.sk, scalBin, scalUn, intBin, opLoad, natOf, opConvert, opField, cellsP, oneP, Value.oneCell', opStore, toIV, scalT, scalA, scalC, boxesA, boxesC, zipB_none, zipB_mx, isZ, opZip, zeroP, opAppendZ, opMakeMap, opLookup, mboxB, opUpdate, ↓reduceIte, Nat.reduceSub, Nat.reduceEqDiff, Nat.reduceAdd, Nat.reduceMul, Nat.reduceLT, Nat.reduceLeDiff, Int.reduceToNat, Int.reduceLE, Int.reduceLT, Int.reduceNeg, reduceCtorEq, gos, Int.reduceAdd, Int.reduceSub, Int.reduceMul, Int.reduceEq])
              refine ⟨cj, (fgt_nil), ⟨by rw [fx, List.length_append], rfl⟩, ?_⟩
              rw [fx]
              funext c
              simp (maxSteps := 20000000) only [Heap.drop_at, rowH_app, Heap.put_at, Heap.none_at, List.mem_cons, List.not_mem_nil, or_false]
              by_cases e0 : c = (5, 5) :: (9, 1) :: base
              · subst e0; simp []
              simp [e0]
          · have hj : j = L.length := by omega
            subst hj
            rw [List.take_length, hFl]
            have rz : roomC F.length z F = F := by unfold roomC; rw [List.drop_eq_nil_of_le (by omega), List.append_nil]
            rw [rz]
            have e2 : F.take F.length = F := List.take_length
            repeat (first | refine X_opc rfl ?_ | refine X_dopc rfl ?_ | refine ⟨(by show drawK _ _ = true; kernel_rfl : drawX _ _ _), ?_⟩ | exact (by show drawK _ _ = true; kernel_rfl : drawX _ _ _) | simp -dsimp (maxSteps := 20000000) (disch := omega) only [simx, zzC, zzB, tys, ite_self, opnL, callB, callX, readsB, stepOp, nilCmp, ofVal, opBuiltin, opLen, PV.sk, scalBin, scalUn, intBin, opLoad, natOf, opConvert, opField, cellsP, oneP, Value.oneCell', opStore, toIV, scalT, scalA, scalC, boxesA, boxesC, zipB_none, zipB_mx, isZ, opZip, zeroP, opAppendZ, opMakeMap, opLookup, mboxB, opUpdate, ↓reduceIte, Nat.reduceSub, Nat.reduceEqDiff, Nat.reduceAdd, Nat.reduceMul, Nat.reduceLT, Nat.reduceLeDiff, Int.reduceToNat, Int.reduceLE, Int.reduceLT, Int.reduceNeg, reduceCtorEq, zzR, gos, Int.reduceAdd, Int.reduceSub, Int.reduceMul, Int.reduceEq, e2])
end Go.Proofs.Ythnfphgjfpcpbaa.TM
namespace Go.Proofs.Ythnfphgjfpcpbaa.TM
open Go Go.RowKit
attribute [local irreducible] K W WOps Effs Xg Xo Xr Xdg Xdo Xdr Xif CallsP CallR
def doneL (p : List Int) (x : List IV) : List IV := p.map fun a => x.getD a.toNat (.l 0 [])
theorem doneL_len (p : List Int) (x : List IV) : (doneL p x).length = p.length := by simp [doneL]
theorem doneL_take {q : List Int} {x : List IV} {j : Nat} (h : j < q.length) : doneL (q.take (j + 1)) x = doneL (q.take j) x ++ [x.getD q[j].toNat (.l 0 [])] := by
  unfold doneL; rw [List.take_succ_eq_append_getElem h, List.map_append]; rfl
theorem done_l_walk (q : List Int) (x : List IV) (h1 : 1 ≤ q.length) (h2 : q.length ≤ 64) (hm : ∀ a ∈ q, 0 ≤ a ∧ a < x.length) (hr : ∀ (i : Nat) (y : IV), x[i]? = some y → ∃ (n : Nat) (cs : List IV), y = IV.l n cs) : CallsP Try.prog 95 [li q, llN x] (llN (doneL q x)) := by
  refine X_startP (n := 23) (m := 2) (rs := [.tmp 4]) Try.func95 rfl rfl rfl rfl (by decide) fun base => ?_
  repeat (first | refine X_opc rfl ?_ | refine X_dopc rfl ?_ | refine ⟨(by show drawK _ _ = true; kernel_rfl : drawX _ _ _), ?_⟩ | exact (by show drawK _ _ = true; kernel_rfl : drawX _ _ _) | simp -dsimp (maxSteps := 20000000) (disch := omega) only [simx, zzC, zzB, tys, ite_self, opnL, callB, callX, readsB, stepOp, nilCmp, ofVal, opBuiltin, opLen, PV.sk, scalBin, scalUn, intBin, opLoad, natOf, opConvert, opField, cellsP, oneP, Value.oneCell', opStore, toIV, scalT, scalA, scalC, boxesA, boxesC, zipB_none, zipB_mx, isZ, opZip, zeroP, opAppendZ, opMakeMap, opLookup, mboxB, opUpdate, ↓reduceIte, Nat.reduceSub, Nat.reduceEqDiff, Nat.reduceAdd, Nat.reduceMul, Nat.reduceLT, Nat.reduceLeDiff, Int.reduceToNat, Int.reduceLE, Int.reduceLT, Int.reduceNeg, reduceCtorEq, gos, Int.reduceAdd, Int.reduceSub, Int.reduceMul, Int.reduceEq])
  refine X_loopH [1, 5, 8, 9, 10] [(5, 5) :: base] (0) (q.length) (fun j => True) (fun j => [(5, rowP ((5, 6) :: base) 1 j (doneL (q.take j) x)), (10, i64 j)]) (fun j => rowH Heap.none ((5, 6) :: base) j (doneL (q.take j) x)) ?_ ?_ ?_ ?_ ?_ (by decide) ?_
  · exact (fgt_cons (by simp only [Heap.none_at]) (by (simp -dsimp only [zzB, tys, ite_self, opnL, callB, callX, readsB, stepOp, nilCmp, ofVal, opBuiltin, opLen, PV.sk, scalBin, scalUn, intBin, opLoad, natOf, opConvert, opField, cellsP, oneP, Value.oneCell', opStore, toIV, scalT, scalA, scalC, boxesA, boxesC, zipB_none, zipB_mx, isZ, opZip, zeroP, opAppendZ, opMakeMap, opLookup, mboxB, opUpdate, ↓reduceIte, Nat.reduceSub, Nat.reduceEqDiff, Nat.reduceAdd, Nat.reduceMul, Nat.reduceLT, Nat.reduceLeDiff, Int.reduceToNat, Int.reduceLE, Int.reduceLT, Int.reduceNeg, reduceCtorEq, notIn_cons, notIn_nil]) <;> simp [refsL, refsP, mem_refs_rowP]) (by repeat (first | exact noVar_none _ | refine noVar_row ?_ | refine noVar_map ?_ | refine noVar_rowH ?_ | refine noVar_var ?_ (by simp [refsL, refsP, mem_refs_rowP]))) (fgt_nil))
  · ((simp -dsimp (disch := omega) only [simx, zzB, tys, ite_self, opnL, callB, callX, readsB, stepOp, nilCmp, ofVal, opBuiltin, opLen, PV.sk, scalBin, scalUn, intBin, opLoad, natOf, opConvert, opField, cellsP, oneP, Value.oneCell', opStore, toIV, scalT, scalA, scalC, boxesA, boxesC, zipB_none, zipB_mx, isZ, opZip, zeroP, opAppendZ, opMakeMap, opLookup, mboxB, opUpdate, ↓reduceIte, Nat.reduceSub, Nat.reduceEqDiff, Nat.reduceAdd, Nat.reduceMul, Nat.reduceLT, Nat.reduceLeDiff, Int.reduceToNat, Int.reduceLE, Int.reduceLT, Int.reduceNeg, reduceCtorEq, gos, Int.reduceAdd, Int.reduceSub, Int.reduceMul, Int.reduceEq]) <;> first | rfl | simp [rowP])
  · funext c
    simp (maxSteps := 20000000) only [Heap.drop_at, rowH_app, Heap.put_at, Heap.none_at, List.mem_cons, List.not_mem_nil, or_false]
    by_cases e0 : c = (5, 5) :: base
    · subst e0; simp []
    simp [e0]
  · omega
  · trivial
  · intro j hj _
    by_cases cj : j < q.length
    · have g1 : q[j]? = some q[j] := List.getElem?_eq_getElem cj
      have tk := doneL_take (x := x) cj
      obtain ⟨a0, a1⟩ := hm q[j] (List.getElem_mem cj)
      have dl : (doneL (q.take j) x).length = j := by rw [doneL_len, List.length_take]; omega
      generalize q[j] = a at g1 tk a0 a1
      have a2 : a.toNat < x.length := by omega
      have g2 : x[a.toNat]? = some x[a.toNat] := List.getElem?_eq_getElem a2
      rw [show x.getD a.toNat (.l 0 []) = x[a.toNat] by rw [List.getD_eq_getElem?_getD, g2]; rfl] at tk
      obtain ⟨bn, bc, hb⟩ := hr _ _ g2
      rw [hb] at g2 tk
      repeat (first | refine X_opc rfl ?_ | refine X_dopc rfl ?_ | refine ⟨(by show drawK _ _ = true; kernel_rfl : drawX _ _ _), ?_⟩ | exact (by show drawK _ _ = true; kernel_rfl : drawX _ _ _) | simp -dsimp (maxSteps := 20000000) (disch := omega) only [simx, zzC, zzB, tys, ite_self, opnL, callB, callX, readsB, stepOp, nilCmp, ofVal, opBuiltin, opLen, PV.sk, scalBin, scalUn, intBin, opLoad, natOf, opConvert, opField, cellsP, oneP, Value.oneCell', opStore, toIV, scalT, scalA, scalC, boxesA, boxesC, zipB_none, zipB_mx, isZ, opZip, zeroP, opAppendZ, opMakeMap, opLookup, mboxB, opUpdate, ↓reduceIte, Nat.reduceSub, Nat.reduceEqDiff, Nat.reduceAdd, Nat.reduceMul, Nat.reduceLT, Nat.reduceLeDiff, Int.reduceToNat, Int.reduceLE, Int.reduceLT, Int.reduceNeg, reduceCtorEq, gos, Int.reduceAdd, Int.reduceSub, Int.reduceMul, Int.reduceEq, cj, g1, g2, a0, a2])
      refine X_append_one 23 [.slice none 0 0] [.l bn bc] (by simp only [tys]) (by simp only [tys]) rfl (by decide) (by simp [dl]) (by simp [Heap.put_at, Heap.none_at, rowH_app]) (by simp [Heap.put_at]; rfl) rfl (by simp only [tys]; omega) (by rw [mx_len]; omega) ?_
      repeat (first | refine X_opc rfl ?_ | refine X_dopc rfl ?_ | refine ⟨(by show drawK _ _ = true; kernel_rfl : drawX _ _ _), ?_⟩ | exact (by show drawK _ _ = true; kernel_rfl : drawX _ _ _) | simp -dsimp (maxSteps := 20000000) (disch := omega) only [simx, zzC, zzB, tys, ite_self, opnL, callB, callX, readsB, stepOp, nilCmp, ofVal, opBuiltin, opLen, PV.sk, scalBin, scalUn, intBin, opLoad, natOf, opConvert, opField, cellsP, oneP, Value.oneCell', opStore, toIV, scalT, scalA, scalC, boxesA, boxesC, zipB_none, zipB_mx, isZ, opZip, zeroP, opAppendZ, opMakeMap, opLookup, mboxB, opUpdate, ↓reduceIte, Nat.reduceSub, Nat.reduceEqDiff, Nat.reduceAdd, Nat.reduceMul, Nat.reduceLT, Nat.reduceLeDiff, Int.reduceToNat, Int.reduceLE, Int.reduceLT, Int.reduceNeg, reduceCtorEq, gos, Int.reduceAdd, Int.reduceSub, Int.reduceMul, Int.reduceEq, cj])
      refine ⟨cj, (fgt_cons (by simp only [Heap.none_at]) (by (simp -dsimp only [zzB, tys, ite_self, opnL, callB, callX, readsB, stepOp, nilCmp, ofVal, opBuiltin, opLen, PV.sk, scalBin, scalUn, intBin, opLoad, natOf, opConvert, opField, cellsP, oneP, Value.oneCell', opStore, toIV, scalT, scalA, scalC, boxesA, boxesC, zipB_none, zipB_mx, isZ, opZip, zeroP, opAppendZ, opMakeMap, opLookup, mboxB, opUpdate, ↓reduceIte, Nat.reduceSub, Nat.reduceEqDiff, Nat.reduceAdd, Nat.reduceMul, Nat.reduceLT, Nat.reduceLeDiff, Int.reduceToNat, Int.reduceLE, Int.reduceLT, Int.reduceNeg, reduceCtorEq, notIn_cons, notIn_nil]) <;> simp [refsL, refsP, mem_refs_rowP]) (by repeat (first | exact noVar_none _ | refine noVar_row ?_ | refine noVar_map ?_ | refine noVar_rowH ?_ | refine noVar_var ?_ (by simp [refsL, refsP, mem_refs_rowP]))) (fgt_nil)), ⟨?_, rfl⟩, ?_⟩
      · rw [tk]
      · funext c
        simp (maxSteps := 20000000) only [Heap.drop_at, rowH_app, Heap.put_at, Heap.none_at, List.mem_cons, List.not_mem_nil, or_false]
        by_cases e0 : c = (5, 5) :: base
        · subst e0; simp [tk]
        by_cases e1 : c = (5, 6) :: base
        · subst e1; simp [tk]
        simp [e0, e1, tk]
    · have hj : j = q.length := by omega
      subst hj
      obtain ⟨s, hs⟩ : ∃ s, q.length = s + 1 := ⟨q.length - 1, by omega⟩
      rw [List.take_of_length_le (Nat.le_refl _)]
      have dl := doneL_len q x
      rw [llN]
      rw [hs] at dl ⊢
      have e2 : (doneL q x).take (s + 1) = doneL q x := List.take_of_length_le (by rw [dl]; exact Nat.le_refl _)
      repeat (first | refine X_opc rfl ?_ | refine X_dopc rfl ?_ | refine ⟨(by show drawK _ _ = true; kernel_rfl : drawX _ _ _), ?_⟩ | exact (by show drawK _ _ = true; kernel_rfl : drawX _ _ _) | simp -dsimp (maxSteps := 20000000) (disch := omega) only [simx, zzC, zzB, tys, ite_self, opnL, callB, callX, readsB, stepOp, nilCmp, ofVal, opBuiltin, opLen, PV.sk, scalBin, scalUn, intBin, opLoad, natOf, opConvert, opField, cellsP, oneP, Value.oneCell', opStore, toIV, scalT, scalA, scalC, boxesA, boxesC, zipB_none, zipB_mx, isZ, opZip, zeroP, opAppendZ, opMakeMap, opLookup, mboxB, opUpdate, ↓reduceIte, Nat.reduceSub, Nat.reduceEqDiff, Nat.reduceAdd, Nat.reduceMul, Nat.reduceLT, Nat.reduceLeDiff, Int.reduceToNat, Int.reduceLE, Int.reduceLT, Int.reduceNeg, reduceCtorEq, zzR, gos, Int.reduceAdd, Int.reduceSub, Int.reduceMul, Int.reduceEq, rowP_succ, rowH_succ, dl, e2])
def shapeB (r c : Int) (l : List Int) : Bool := decide (1 ≤ r) && (decide (r ≤ 64) && (decide (1 ≤ c) && (decide (c ≤ 64) && decide ((l.length : Int) = r * c))))
theorem shaped_walk (r c : Int) (l : List Int) (hl : l.length ≤ maxLen) : CallsP Try.prog 91 [matP r c l] (bl (shapeB r c l)) := by
  rw [mx_len] at hl
  unfold shapeB
  by_cases h1 : 1 ≤ r
  · by_cases h2 : r ≤ 64
    · by_cases h3 : 1 ≤ c
      · by_cases h4 : c ≤ 64
        · have m := mul_bd (a := r) (b := c) (m := 64) (n := 64) (by omega) (by omega) h2 h4
          have e : IntKind.i64.wrap (r * c) = r * c := iw_of (by omega) (by omega)
          by_cases h5 : (l.length : Int) = r * c
          · rw [decide_eq_true h1, decide_eq_true h2, decide_eq_true h3, decide_eq_true h4, decide_eq_true h5]
            refine X_startP (n := 32) (m := 1) (rs := [.tmp 2]) Try.func91 rfl rfl rfl rfl (by decide) fun base => ?_
            repeat (first | refine X_opc rfl ?_ | refine X_dopc rfl ?_ | refine ⟨(by show drawK _ _ = true; kernel_rfl : drawX _ _ _), ?_⟩ | exact (by show drawK _ _ = true; kernel_rfl : drawX _ _ _) | simp -dsimp (maxSteps := 20000000) (disch := omega) only [simx, zzC, zzB, tys, ite_self, opnL, callB, callX, readsB, stepOp, nilCmp, ofVal, opBuiltin, opLen, PV.sk, scalBin, scalUn, intBin, opLoad, natOf, opConvert, opField, cellsP, oneP, Value.oneCell', opStore, toIV, scalT, scalA, scalC, boxesA, boxesC, zipB_none, zipB_mx, isZ, opZip, zeroP, opAppendZ, opMakeMap, opLookup, mboxB, opUpdate, ↓reduceIte, Nat.reduceSub, Nat.reduceEqDiff, Nat.reduceAdd, Nat.reduceMul, Nat.reduceLT, Nat.reduceLeDiff, Int.reduceToNat, Int.reduceLE, Int.reduceLT, Int.reduceNeg, reduceCtorEq, zzR, gos, Int.reduceAdd, Int.reduceSub, Int.reduceMul, Int.reduceEq, h1, h2, h3, h4, h5, e])
          · rw [decide_eq_true h1, decide_eq_true h2, decide_eq_true h3, decide_eq_true h4, decide_eq_false h5]
            refine X_startP (n := 32) (m := 1) (rs := [.tmp 2]) Try.func91 rfl rfl rfl rfl (by decide) fun base => ?_
            repeat (first | refine X_opc rfl ?_ | refine X_dopc rfl ?_ | refine ⟨(by show drawK _ _ = true; kernel_rfl : drawX _ _ _), ?_⟩ | exact (by show drawK _ _ = true; kernel_rfl : drawX _ _ _) | simp -dsimp (maxSteps := 20000000) (disch := omega) only [simx, zzC, zzB, tys, ite_self, opnL, callB, callX, readsB, stepOp, nilCmp, ofVal, opBuiltin, opLen, PV.sk, scalBin, scalUn, intBin, opLoad, natOf, opConvert, opField, cellsP, oneP, Value.oneCell', opStore, toIV, scalT, scalA, scalC, boxesA, boxesC, zipB_none, zipB_mx, isZ, opZip, zeroP, opAppendZ, opMakeMap, opLookup, mboxB, opUpdate, ↓reduceIte, Nat.reduceSub, Nat.reduceEqDiff, Nat.reduceAdd, Nat.reduceMul, Nat.reduceLT, Nat.reduceLeDiff, Int.reduceToNat, Int.reduceLE, Int.reduceLT, Int.reduceNeg, reduceCtorEq, zzR, gos, Int.reduceAdd, Int.reduceSub, Int.reduceMul, Int.reduceEq, h1, h2, h3, h4, h5, e])
        · rw [decide_eq_true h1, decide_eq_true h2, decide_eq_true h3, decide_eq_false h4]
          refine X_startP (n := 32) (m := 1) (rs := [.tmp 2]) Try.func91 rfl rfl rfl rfl (by decide) fun base => ?_
          repeat (first | refine X_opc rfl ?_ | refine X_dopc rfl ?_ | refine ⟨(by show drawK _ _ = true; kernel_rfl : drawX _ _ _), ?_⟩ | exact (by show drawK _ _ = true; kernel_rfl : drawX _ _ _) | simp -dsimp (maxSteps := 20000000) (disch := omega) only [simx, zzC, zzB, tys, ite_self, opnL, callB, callX, readsB, stepOp, nilCmp, ofVal, opBuiltin, opLen, PV.sk, scalBin, scalUn, intBin, opLoad, natOf, opConvert, opField, cellsP, oneP, Value.oneCell', opStore, toIV, scalT, scalA, scalC, boxesA, boxesC, zipB_none, zipB_mx, isZ, opZip, zeroP, opAppendZ, opMakeMap, opLookup, mboxB, opUpdate, ↓reduceIte, Nat.reduceSub, Nat.reduceEqDiff, Nat.reduceAdd, Nat.reduceMul, Nat.reduceLT, Nat.reduceLeDiff, Int.reduceToNat, Int.reduceLE, Int.reduceLT, Int.reduceNeg, reduceCtorEq, zzR, gos, Int.reduceAdd, Int.reduceSub, Int.reduceMul, Int.reduceEq, h1, h2, h3, h4])
      · rw [decide_eq_true h1, decide_eq_true h2, decide_eq_false h3]
        refine X_startP (n := 32) (m := 1) (rs := [.tmp 2]) Try.func91 rfl rfl rfl rfl (by decide) fun base => ?_
        repeat (first | refine X_opc rfl ?_ | refine X_dopc rfl ?_ | refine ⟨(by show drawK _ _ = true; kernel_rfl : drawX _ _ _), ?_⟩ | exact (by show drawK _ _ = true; kernel_rfl : drawX _ _ _) | simp -dsimp (maxSteps := 20000000) (disch := omega) only [simx, zzC, zzB, tys, ite_self, opnL, callB, callX, readsB, stepOp, nilCmp, ofVal, opBuiltin, opLen, PV.sk, scalBin, scalUn, intBin, opLoad, natOf, opConvert, opField, cellsP, oneP, Value.oneCell', opStore, toIV, scalT, scalA, scalC, boxesA, boxesC, zipB_none, zipB_mx, isZ, opZip, zeroP, opAppendZ, opMakeMap, opLookup, mboxB, opUpdate, ↓reduceIte, Nat.reduceSub, Nat.reduceEqDiff, Nat.reduceAdd, Nat.reduceMul, Nat.reduceLT, Nat.reduceLeDiff, Int.reduceToNat, Int.reduceLE, Int.reduceLT, Int.reduceNeg, reduceCtorEq, zzR, gos, Int.reduceAdd, Int.reduceSub, Int.reduceMul, Int.reduceEq, h1, h2, h3])
    · rw [decide_eq_true h1, decide_eq_false h2]
      refine X_startP (n := 32) (m := 1) (rs := [.tmp 2]) Try.func91 rfl rfl rfl rfl (by decide) fun base => ?_
      repeat (first | refine X_opc rfl ?_ | refine X_dopc rfl ?_ | refine ⟨(by show drawK _ _ = true; kernel_rfl : drawX _ _ _), ?_⟩ | exact (by show drawK _ _ = true; kernel_rfl : drawX _ _ _) | simp -dsimp (maxSteps := 20000000) (disch := omega) only [simx, zzC, zzB, tys, ite_self, opnL, callB, callX, readsB, stepOp, nilCmp, ofVal, opBuiltin, opLen, PV.sk, scalBin, scalUn, intBin, opLoad, natOf, opConvert, opField, cellsP, oneP, Value.oneCell', opStore, toIV, scalT, scalA, scalC, boxesA, boxesC, zipB_none, zipB_mx, isZ, opZip, zeroP, opAppendZ, opMakeMap, opLookup, mboxB, opUpdate, ↓reduceIte, Nat.reduceSub, Nat.reduceEqDiff, Nat.reduceAdd, Nat.reduceMul, Nat.reduceLT, Nat.reduceLeDiff, Int.reduceToNat, Int.reduceLE, Int.reduceLT, Int.reduceNeg, reduceCtorEq, zzR, gos, Int.reduceAdd, Int.reduceSub, Int.reduceMul, Int.reduceEq, h1, h2])
  · rw [decide_eq_false h1]
    refine X_startP (n := 32) (m := 1) (rs := [.tmp 2]) Try.func91 rfl rfl rfl rfl (by decide) fun base => ?_
    repeat (first | refine X_opc rfl ?_ | refine X_dopc rfl ?_ | refine ⟨(by show drawK _ _ = true; kernel_rfl : drawX _ _ _), ?_⟩ | exact (by show drawK _ _ = true; kernel_rfl : drawX _ _ _) | simp -dsimp (maxSteps := 20000000) (disch := omega) only [simx, zzC, zzB, tys, ite_self, opnL, callB, callX, readsB, stepOp, nilCmp, ofVal, opBuiltin, opLen, PV.sk, scalBin, scalUn, intBin, opLoad, natOf, opConvert, opField, cellsP, oneP, Value.oneCell', opStore, toIV, scalT, scalA, scalC, boxesA, boxesC, zipB_none, zipB_mx, isZ, opZip, zeroP, opAppendZ, opMakeMap, opLookup, mboxB, opUpdate, ↓reduceIte, Nat.reduceSub, Nat.reduceEqDiff, Nat.reduceAdd, Nat.reduceMul, Nat.reduceLT, Nat.reduceLeDiff, Int.reduceToNat, Int.reduceLE, Int.reduceLT, Int.reduceNeg, reduceCtorEq, zzR, gos, Int.reduceAdd, Int.reduceSub, Int.reduceMul, Int.reduceEq, h1])
def rowsL (p : List Int) (c : Nat) (l : List Int) : List Int := p.flatMap fun a => (l.drop (a.toNat * c)).take c
theorem done_parts {p : List Int} {R c : Nat} {l : List Int} (hm : ∀ a ∈ p, 0 ≤ a ∧ a < R) (hl : l.length = R * c) :
    doneL p ((List.range R).map (part (l.map iu) c)) = (p.map fun a => ((l.drop (a.toNat * c)).take c).map iu).map ivN := by
  unfold doneL
  rw [List.map_map]
  refine List.map_congr_left fun a ha => ?_
  obtain ⟨h0, h1⟩ := hm a ha
  obtain ⟨k, rfl⟩ := Int.eq_ofNat_of_zero_le h0
  have hk : k < R := by omega
  have hkc : k * c + c ≤ R * c := by have := Nat.mul_le_mul_right c hk; rw [Nat.succ_mul] at this; exact this
  rw [Int.toNat_natCast, List.getD_eq_getElem?_getD, List.getElem?_map, List.getElem?_range hk]
  simp only [Option.map_some, Option.getD_some, Function.comp, part, ivN, Int.toNat_natCast, List.length_map, List.length_take, List.length_drop, List.map_take, List.map_drop]
  rw [show min c (l.length - k * c) = c by omega]
theorem flat_parts (p : List Int) (c : Nat) (l : List Int) : (p.map fun a => ((l.drop (a.toNat * c)).take c).map iu).flatten = (rowsL p c l).map iu := by
  unfold rowsL
  induction p with
  | nil => rfl
  | cons a p ih => simp only [List.map_cons, List.flatten_cons, List.flatMap_cons, List.map_append, ih]
theorem rowsL_len {p : List Int} {R c : Nat} {l : List Int} (hm : ∀ a ∈ p, 0 ≤ a ∧ a < R) (hl : l.length = R * c) : (rowsL p c l).length = p.length * c := by
  unfold rowsL
  induction p with
  | nil => simp
  | cons a p ih =>
    obtain ⟨h0, h1⟩ := hm a (by simp)
    have hk : a.toNat < R := by omega
    have hkc : a.toNat * c + c ≤ R * c := by have := Nat.mul_le_mul_right c hk; rw [Nat.succ_mul] at this; exact this
    rw [List.flatMap_cons, List.length_append, ih (fun b hb => hm b (by simp [hb])), List.length_take, List.length_drop, List.length_cons, Nat.succ_mul]
    omega
abbrev mat2P (q : (Int × Int × List Int) × Int) : PV := .tup [matP q.1.1 q.1.2.1 q.1.2.2, i64 q.2]
def rowsR (p : List Int) (r c : Int) (l : List Int) : (Int × Int × List Int) × Int :=
  if orderB p && (shapeB r c l && decide ((p.length : Int) = r)) then ((r, c, rowsL p c.toNat l), 0) else ((0, 0, []), 1)
theorem shape_iff {r c : Int} {l : List Int} : shapeB r c l = true ↔ 1 ≤ r ∧ r ≤ 64 ∧ 1 ≤ c ∧ c ≤ 64 ∧ (l.length : Int) = r * c := by simp [shapeB]
theorem rows_walk (p : List Int) (r c : Int) (l : List Int) (hp : p.length ≤ maxLen) (hl : l.length ≤ maxLen) : CallsP Try.prog 52 [li p, matP r c l] (mat2P (rowsR p r c l)) := by
  have q1 := pright_walk p hp
  have q2 := shaped_walk r c l hl
  unfold rowsR
  cases h1 : orderB p with
  | false =>
    rw [h1] at q1
    refine X_startP (n := 38) (m := 2) (rs := [.cell 4 25, .tmp 5]) Try.func52 rfl rfl rfl rfl (by decide) fun base => ?_
    repeat (first | ((first | refine X_call_fn2 rfl (by simp only [tys]) ?_ | refine X_dcall_fn2 rfl (by simp only [tys]) ?_); apply Exists.intro; apply And.intro; (focus (simp -dsimp only [simx, zzC, zzB, tys, ite_self, opnL, callB, callX, readsB, stepOp, nilCmp, ofVal, opBuiltin, opLen, PV.sk, scalBin, scalUn, intBin, opLoad, natOf, opConvert, opField, cellsP, oneP, Value.oneCell', opStore, toIV, scalT, scalA, scalC, boxesA, boxesC, zipB_none, zipB_mx, isZ, opZip, zeroP, opAppendZ, opMakeMap, opLookup, mboxB, opUpdate, ↓reduceIte, Nat.reduceSub, Nat.reduceEqDiff, Nat.reduceAdd, Nat.reduceMul, Nat.reduceLT, Nat.reduceLeDiff, Int.reduceToNat, Int.reduceLE, Int.reduceLT, Int.reduceNeg, reduceCtorEq, zzL, if_true, if_false] <;> rfl)); apply Exists.intro; apply And.intro; (focus (first | exact q1 | exact q2))) | refine X_opc rfl ?_ | refine X_dopc rfl ?_ | refine ⟨(by show drawK _ _ = true; kernel_rfl : drawX _ _ _), ?_⟩ | exact (by show drawK _ _ = true; kernel_rfl : drawX _ _ _) | simp -dsimp (maxSteps := 20000000) (disch := omega) only [simx, zzC, zzB, tys, ite_self, opnL, callB, callX, readsB, stepOp, nilCmp, ofVal, opBuiltin, opLen, PV.sk, scalBin, scalUn, intBin, opLoad, natOf, opConvert, opField, cellsP, oneP, Value.oneCell', opStore, toIV, scalT, scalA, scalC, boxesA, boxesC, zipB_none, zipB_mx, isZ, opZip, zeroP, opAppendZ, opMakeMap, opLookup, mboxB, opUpdate, ↓reduceIte, Nat.reduceSub, Nat.reduceEqDiff, Nat.reduceAdd, Nat.reduceMul, Nat.reduceLT, Nat.reduceLeDiff, Int.reduceToNat, Int.reduceLE, Int.reduceLT, Int.reduceNeg, reduceCtorEq, zzR, gos, Int.reduceAdd, Int.reduceSub, Int.reduceMul, Int.reduceEq])
    rfl
  | true =>
    rw [h1] at q1
    cases h2 : shapeB r c l with
    | false =>
      rw [h2] at q2
      refine X_startP (n := 38) (m := 2) (rs := [.cell 4 25, .tmp 5]) Try.func52 rfl rfl rfl rfl (by decide) fun base => ?_
      repeat (first | ((first | refine X_call_fn2 rfl (by simp only [tys]) ?_ | refine X_dcall_fn2 rfl (by simp only [tys]) ?_); apply Exists.intro; apply And.intro; (focus (simp -dsimp only [simx, zzC, zzB, tys, ite_self, opnL, callB, callX, readsB, stepOp, nilCmp, ofVal, opBuiltin, opLen, PV.sk, scalBin, scalUn, intBin, opLoad, natOf, opConvert, opField, cellsP, oneP, Value.oneCell', opStore, toIV, scalT, scalA, scalC, boxesA, boxesC, zipB_none, zipB_mx, isZ, opZip, zeroP, opAppendZ, opMakeMap, opLookup, mboxB, opUpdate, ↓reduceIte, Nat.reduceSub, Nat.reduceEqDiff, Nat.reduceAdd, Nat.reduceMul, Nat.reduceLT, Nat.reduceLeDiff, Int.reduceToNat, Int.reduceLE, Int.reduceLT, Int.reduceNeg, reduceCtorEq, zzL, if_true, if_false] <;> rfl)); apply Exists.intro; apply And.intro; (focus (first | exact q1 | exact q2))) | refine X_opc rfl ?_ | refine X_dopc rfl ?_ | refine ⟨(by show drawK _ _ = true; kernel_rfl : drawX _ _ _), ?_⟩ | exact (by show drawK _ _ = true; kernel_rfl : drawX _ _ _) | simp -dsimp (maxSteps := 20000000) (disch := omega) only [simx, zzC, zzB, tys, ite_self, opnL, callB, callX, readsB, stepOp, nilCmp, ofVal, opBuiltin, opLen, PV.sk, scalBin, scalUn, intBin, opLoad, natOf, opConvert, opField, cellsP, oneP, Value.oneCell', opStore, toIV, scalT, scalA, scalC, boxesA, boxesC, zipB_none, zipB_mx, isZ, opZip, zeroP, opAppendZ, opMakeMap, opLookup, mboxB, opUpdate, ↓reduceIte, Nat.reduceSub, Nat.reduceEqDiff, Nat.reduceAdd, Nat.reduceMul, Nat.reduceLT, Nat.reduceLeDiff, Int.reduceToNat, Int.reduceLE, Int.reduceLT, Int.reduceNeg, reduceCtorEq, zzR, gos, Int.reduceAdd, Int.reduceSub, Int.reduceMul, Int.reduceEq])
      rfl
    | true =>
      rw [h2] at q2
      by_cases h3 : (p.length : Int) = r
      · rw [decide_eq_true h3]
        simp only [Bool.and_self, if_true]
        have o1 := (orderB_iff p).1 h1
        obtain ⟨b1, b2, b3, b4, b5⟩ := shape_iff.1 h2
        obtain ⟨C, rfl⟩ := Int.eq_ofNat_of_zero_le (show 0 ≤ c by omega)
        subst h3
        have hlc : l.length = p.length * C := by omega
        have hC : 1 ≤ C := by omega
        have hb : p.length * C ≤ 64 * 64 := Nat.mul_le_mul (by omega) (by omega)
        have d1 := chunkU_walk l.length (l.map iu) C hC
        have d2 := collectU_walk p.length C (l.map iu) (by rw [List.length_map]; exact hlc) hC (by omega)
        rw [← hlc] at d2
        have dp := done_parts (c := C) o1.mem hlc
        have d3 := done_l_walk p ((List.range p.length).map (part (l.map iu) C)) o1.pos o1.le (fun a ha => by rw [List.length_map, List.length_range]; exact o1.mem a ha) (fun i y hy => by
          rw [List.getElem?_map] at hy
          cases hi : (List.range p.length)[i]? with
          | none => rw [hi] at hy; cases hy
          | some k => rw [hi] at hy; cases hy; exact ⟨_, _, rfl⟩)
        have rl := rowsL_len (c := C) o1.mem hlc
        have d4 := concatU_walk (p.map fun a => ((l.drop (a.toNat * C)).take C).map iu) (by rw [List.length_map]; have := o1.le; omega) (by rw [flat_parts, List.length_map, rl]; omega)
        rw [llL, ← dp, List.length_map, flat_parts] at d4
        simp only [ivN, List.length_map] at d4
        have d5 : CallsP Try.prog 94 [llN (doneL p ((List.range p.length).map (part (l.map iu) C)))] (lu (rowsL p C l)) := by rw [llN, doneL_len]; exact d4
        clear d4
        rw [Int.toNat_natCast]
        generalize rowsL p C l = Z at rl d5
        generalize doneL p ((List.range p.length).map (part (l.map iu) C)) = Y at d3 d5
        generalize (List.range p.length).map (part (l.map iu) C) = X at d2 d3
        refine X_startP (n := 38) (m := 2) (rs := [.cell 4 25, .tmp 5]) Try.func52 rfl rfl rfl rfl (by decide) fun base => ?_
        repeat (first | ((first | refine X_call_fn2 rfl (by simp only [tys]) ?_ | refine X_dcall_fn2 rfl (by simp only [tys]) ?_); apply Exists.intro; apply And.intro; (focus (simp -dsimp only [simx, zzC, zzB, tys, ite_self, opnL, callB, callX, readsB, stepOp, nilCmp, ofVal, opBuiltin, opLen, PV.sk, scalBin, scalUn, intBin, opLoad, natOf, opConvert, opField, cellsP, oneP, Value.oneCell', opStore, toIV, scalT, scalA, scalC, boxesA, boxesC, zipB_none, zipB_mx, isZ, opZip, zeroP, opAppendZ, opMakeMap, opLookup, mboxB, opUpdate, ↓reduceIte, Nat.reduceSub, Nat.reduceEqDiff, Nat.reduceAdd, Nat.reduceMul, Nat.reduceLT, Nat.reduceLeDiff, Int.reduceToNat, Int.reduceLE, Int.reduceLT, Int.reduceNeg, reduceCtorEq, zzL, if_true, if_false] <;> rfl)); apply Exists.intro; apply And.intro; (focus (first | exact q1 | exact q2 | exact d1 | exact d2 | exact d3 | exact d5))) | refine X_opc rfl ?_ | refine X_dopc rfl ?_ | refine ⟨(by show drawK _ _ = true; kernel_rfl : drawX _ _ _), ?_⟩ | exact (by show drawK _ _ = true; kernel_rfl : drawX _ _ _) | simp -dsimp (maxSteps := 20000000) (disch := omega) only [simx, zzC, zzB, tys, ite_self, opnL, callB, callX, readsB, stepOp, nilCmp, ofVal, opBuiltin, opLen, PV.sk, scalBin, scalUn, intBin, opLoad, natOf, opConvert, opField, cellsP, oneP, Value.oneCell', opStore, toIV, scalT, scalA, scalC, boxesA, boxesC, zipB_none, zipB_mx, isZ, opZip, zeroP, opAppendZ, opMakeMap, opLookup, mboxB, opUpdate, ↓reduceIte, Nat.reduceSub, Nat.reduceEqDiff, Nat.reduceAdd, Nat.reduceMul, Nat.reduceLT, Nat.reduceLeDiff, Int.reduceToNat, Int.reduceLE, Int.reduceLT, Int.reduceNeg, reduceCtorEq, zzR, gos, Int.reduceAdd, Int.reduceSub, Int.reduceMul, Int.reduceEq])
      · rw [decide_eq_false h3]
        simp only [Bool.and_false, Bool.false_eq_true, if_false]
        refine X_startP (n := 38) (m := 2) (rs := [.cell 4 25, .tmp 5]) Try.func52 rfl rfl rfl rfl (by decide) fun base => ?_
        repeat (first | ((first | refine X_call_fn2 rfl (by simp only [tys]) ?_ | refine X_dcall_fn2 rfl (by simp only [tys]) ?_); apply Exists.intro; apply And.intro; (focus (simp -dsimp only [simx, zzC, zzB, tys, ite_self, opnL, callB, callX, readsB, stepOp, nilCmp, ofVal, opBuiltin, opLen, PV.sk, scalBin, scalUn, intBin, opLoad, natOf, opConvert, opField, cellsP, oneP, Value.oneCell', opStore, toIV, scalT, scalA, scalC, boxesA, boxesC, zipB_none, zipB_mx, isZ, opZip, zeroP, opAppendZ, opMakeMap, opLookup, mboxB, opUpdate, ↓reduceIte, Nat.reduceSub, Nat.reduceEqDiff, Nat.reduceAdd, Nat.reduceMul, Nat.reduceLT, Nat.reduceLeDiff, Int.reduceToNat, Int.reduceLE, Int.reduceLT, Int.reduceNeg, reduceCtorEq, zzL, if_true, if_false] <;> rfl)); apply Exists.intro; apply And.intro; (focus (first | exact q1 | exact q2))) | refine X_opc rfl ?_ | refine X_dopc rfl ?_ | refine ⟨(by show drawK _ _ = true; kernel_rfl : drawX _ _ _), ?_⟩ | exact (by show drawK _ _ = true; kernel_rfl : drawX _ _ _) | simp -dsimp (maxSteps := 20000000) (disch := omega) only [simx, zzC, zzB, tys, ite_self, opnL, callB, callX, readsB, stepOp, nilCmp, ofVal, opBuiltin, opLen, PV.sk, scalBin, scalUn, intBin, opLoad, natOf, opConvert, opField, cellsP, oneP, Value.oneCell', opStore, toIV, scalT, scalA, scalC, boxesA, boxesC, zipB_none, zipB_mx, isZ, opZip, zeroP, opAppendZ, opMakeMap, opLookup, mboxB, opUpdate, ↓reduceIte, Nat.reduceSub, Nat.reduceEqDiff, Nat.reduceAdd, Nat.reduceMul, Nat.reduceLT, Nat.reduceLeDiff, Int.reduceToNat, Int.reduceLE, Int.reduceLT, Int.reduceNeg, reduceCtorEq, zzR, gos, Int.reduceAdd, Int.reduceSub, Int.reduceMul, Int.reduceEq, h3])
        rfl
end Go.Proofs.Ythnfphgjfpcpbaa.TM
namespace Go.Proofs.Ythnfphgjfpcpbaa.TM
open Go Go.RowKit
theorem rowsL_cl7 {R c : Nat} {l : List Int} (hl : l.length = R * c) : ∀ {p : List Int}, (∀ a ∈ p, 0 ≤ a ∧ a < R) → ∀ {i k : Nat}, i < p.length → k < c → cl c (rowsL p c l) i k = cl c l (p.getD i 0).toNat k
  | [], _, i, k, hi, _ => by simp at hi
  | a :: p, hm, i, k, hi, hk => by
    obtain ⟨h0, h1⟩ := hm a (by simp)
    have hkc : a.toNat * c + c ≤ R * c := ic_bd (by omega)
    have hd : ((l.drop (a.toNat * c)).take c).length = c := by rw [List.length_take, List.length_drop]; omega
    have e : rowsL (a :: p) c l = (l.drop (a.toNat * c)).take c ++ rowsL p c l := by unfold rowsL; rw [List.flatMap_cons]
    unfold cl
    rw [e, List.getD_eq_getElem?_getD, List.getElem?_append, hd]
    cases i with
    | zero =>
      rw [if_pos (by omega)]
      simp only [Nat.zero_mul, Nat.zero_add, List.getD_cons_zero]
      rw [List.getElem?_take, if_pos hk, List.getElem?_drop, List.getD_eq_getElem?_getD]
    | succ i =>
      have hm1 : (i + 1) * c = i * c + c := Nat.succ_mul i c
      rw [if_neg (by omega), List.getD_cons_succ, show (i + 1) * c + k - c = i * c + k by omega]
      have := rowsL_cl7 hl (p := p) (fun b hb => hm b (by simp [hb])) (i := i) (k := k) (by simpa using hi) hk
      unfold cl at this
      rw [← this, List.getD_eq_getElem?_getD]
theorem rowsL_mem {p : List Int} {c : Nat} {l : List Int} {a : Int} (h : a ∈ rowsL p c l) : a ∈ l := by
  unfold rowsL at h
  obtain ⟨b, _, h⟩ := List.mem_flatMap.1 h
  exact List.mem_of_mem_drop (List.mem_of_mem_take h)
theorem rows_mt {P : Int} {R C : Nat} {p l : List Int} (M : Mt P R C l) (o : Ord p) (hR : p.length = R) : Mt P R C (rowsL p C l) := by
  subst hR
  exact ⟨M.hp, M.r1, M.r2, M.c1, M.c2, rowsL_len o.mem M.len, fun a ha => M.has a (rowsL_mem ha)⟩
theorem ap_rows {C : Nat} {A B : Mx} {i j : Nat} (x : Nat → Int) (h : ∀ k, k < C → B i k = A j k) : apX C B x i = apX C A x j := sumN_congr fun k hk => by rw [h k hk]
theorem Rk.rows_eq {P R S C r s : Nat} {A B : Mx} (hP : Prm P) (H : Rk P R C r A) (K : Rk P S C s B) (h1 : ∀ i, i < S → ∃ j, j < R ∧ ∀ k, k < C → B i k = A j k) (h2 : ∀ j, j < R → ∃ i, i < S ∧ ∀ k, k < C → A j k = B i k) : s = r := by
  refine Nat.le_antisymm (H.ker_le hP K fun x hx i hi => ?_) (K.ker_le hP H fun x hx i hi => ?_)
  · obtain ⟨j, hj, e⟩ := h1 i hi
    rw [ap_rows x e]; exact hx j hj
  · obtain ⟨j, hj, e⟩ := h2 i hi
    rw [ap_rows x e]; exact hx j hj
theorem rows_rank {P R C : Nat} {p l : List Int} (hP : Prm P) (M : Mt P R C l) (hin : ∀ a ∈ l, In P a) (o : Ord p) (hR : p.length = R) : (tkCup P C R (rowsL p C l)).1.length = (tkCup P C R l).1.length := by
  have H := Cp.rk (tkCup_Cp hP M hin)
  have K := Cp.rk (tkCup_Cp hP (rows_mt M o hR) fun a ha => hin a (rowsL_mem ha))
  subst hR
  have hb : ∀ i, i < p.length → 0 ≤ p.getD i 0 ∧ p.getD i 0 < p.length := fun i hi => fnI_in o i hi
  refine Rk.rows_eq hP H K (fun i hi => ⟨(p.getD i 0).toNat, by have := hb i hi; omega, fun k hk => rowsL_cl7 M.len o.mem hi hk⟩) fun j hj => ?_
  obtain ⟨i, hi, e⟩ := surjN (fnI_inj o) (fnI_in o) j hj
  refine ⟨i, hi, fun k hk => ?_⟩
  rw [rowsL_cl7 M.len o.mem hi hk, show p.getD i 0 = j from e, Int.toNat_natCast]
theorem rows_det {P R : Nat} {p l : List Int} (hP : Prm P) (M : Mt P R R l) (o : Ord p) (hR : p.length = R) : Lp R (cl R (rowsL p R l)) % P = sgnR p * Lp R (cl R l) % P := by
  subst hR
  have e : ∀ i j, i < p.length → j < p.length → cl p.length (rowsL p p.length l) i j % P = mulX p.length (pmX (fnI p)) (cl p.length l) i j % P := fun i j hi hj => by
    have hb := fnI_in o i hi
    have e2 : mulX p.length (pmX (fnI p)) (cl p.length l) i j % P = pmX (fnI p) i (fnI p i).toNat * cl p.length l (fnI p i).toNat j % P := sumN_only (by omega) fun k hk hne => by
      unfold pmX
      rw [if_neg (by omega), Int.zero_mul]; rfl
    rw [e2, rowsL_cl7 M.len o.mem hi hj]
    unfold pmX
    rw [if_pos (by omega), Int.one_mul]; rfl
  rw [Lp_mod p.length e, Lp_mulX hP M.hp, sgnR_eq o]
  have h := Alt.perm (Lp_alt P p.length) p.length (fnI p) (Nat.le_refl _) (fnI_inj o) (fnI_in o) fun i h1 h2 => by omega
  rw [Lp_id, Int.mul_one] at h
  exact em_mul h rfl
theorem two_mt {P : Int} {R C : Nat} {l : List Int} (M : Mt P R C l) (h : R ≤ 32) : Mt P (2 * R) C (l ++ l) := by
  have ml := M.len
  have r1 := M.r1
  refine ⟨M.hp, by omega, by omega, M.c1, M.c2, ?_, fun a ha => M.has a (by simpa using ha)⟩
  rw [List.length_append, ml, Nat.mul_assoc, Nat.two_mul]
theorem two_profile {P R C : Nat} {l : List Int} (hP : Prm P) (M : Mt P R C l) (h : R ≤ 32) (hin : ∀ a ∈ l, In P a) : (tkCup P C (2 * R) (l ++ l)).1 = (tkCup P C R l).1 := by
  have N := two_mt M h
  have nin : ∀ a ∈ l ++ l, In P a := fun a ha => hin a (by simpa using ha)
  have H := Cp.rk (tkCup_Cp hP M hin)
  have K := Cp.rk (tkCup_Cp hP N nin)
  have ml := M.len
  have g0 : ∀ i k, i < R → k < C → cl C (l ++ l) i k = cl C l i k := fun i k hi hk => by
    have := ic_bd (c := C) hi
    unfold cl
    rw [List.getD_eq_getElem?_getD, List.getElem?_append_left (by omega), ← List.getD_eq_getElem?_getD]
  have g1 : ∀ i k, i < R → k < C → cl C (l ++ l) (R + i) k = cl C l i k := fun i k hi hk => by
    have := ic_bd (c := C) hi
    have e : (R + i) * C = R * C + i * C := Nat.add_mul ..
    unfold cl
    rw [List.getD_eq_getElem?_getD, List.getElem?_append_right (by omega), ← List.getD_eq_getElem?_getD, show (R + i) * C + k - l.length = i * C + k by omega]
  have hr : (tkCup P C (2 * R) (l ++ l)).1.length = (tkCup P C R l).1.length := by
    refine Rk.rows_eq hP H K (fun i hi => ?_) fun j hj => ⟨j, by omega, fun k hk => (g0 j k hj hk).symm⟩
    rcases Nat.lt_or_ge i R with h | h
    · exact ⟨i, h, fun k hk => g0 i k h hk⟩
    · exact ⟨i - R, by omega, fun k hk => by rw [← g1 (i - R) k (by omega) hk, show R + (i - R) = i by omega]⟩
  obtain ⟨s, e, _⟩ := cut_profile (p := P) (C := C) (R := 2 * R) (k := R) (l := l ++ l) (by omega)
  rw [show (l ++ l).take (R * C) = l by rw [← ml, List.take_left']; rfl] at e
  rw [e, List.length_append] at hr
  have : s = [] := List.eq_nil_of_length_eq_zero (by omega)
  rw [e, this, List.append_nil]
end Go.Proofs.Ythnfphgjfpcpbaa.TM
namespace Go.Proofs.Ythnfphgjfpcpbaa.TM
open Go Go.RowKit
theorem X_dapp_full {P : Program} {C : CallRel} {h0 : Heap} {base : Name} {Qf : Ex → List PV → Heap → Prop} {k : List It} {t : List PV} {h : Heap} {d : Option Tmp} {p : Op} {nm : Name} {id : Nat} {ops : Array Oper} {ds : List (Option Tmp)} {i : Nat} {os : List Oper} {pf : XPf ops ds i os} {acc : List Keys} {s b : Name} {ty : TypeId} (e : TypeId) (zs : List Value) {n m : Nat} {cs : List IV} (xs : List IV)
    (he : elemB P ty = some e) (hz : zeroB P e = some zs) (hzl : zs.length = 1) (hb : h b = some (.row false cs)) (hl : cs.length = n) (hm : 0 < m) (hx : xs.length = m)
    (hby : (n + m) * P.bytesOf e ≤ 140737488355328) (hmx : n + m ≤ maxLen)
    (hk : K P C h0 base Qf (.xdops id ops ds i os pf ((keysU [(b, Box.row false (cs ++ xs))], keysT nm p ((opnL p).map (St.opnd t))) :: acc) :: k) .normal (putT t d (.view b 0 1 (n + m) (n + m))) (h.put b (.row false (cs ++ xs)))) :
    Xdr P C h0 base Qf (opAppend P h s ty (.view b 0 1 n n) (.i (.l m xs))) d p nm (mkD id ops ds i os pf) acc k t h := by
  refine Xdr_eq (out := ⟨.view b 0 1 (n + m) (n + m), [(b, .row false (cs ++ xs))]⟩) ?_ hk
  have h1 : ¬ m = 0 := by omega
  subst hl
  simp only [opAppend, he, hz, hzl, PV.sk, SK.cells, SK.len, hx, hb, Nat.mul_one, if_true, h1, if_false, hby, hmx, Nat.zero_lt_one, and_self, true_and, List.length_append]
end Go.Proofs.Ythnfphgjfpcpbaa.TM
namespace Go.Proofs.Ythnfphgjfpcpbaa.TM
open Go Go.RowKit
attribute [local irreducible] K W WOps Effs Xg Xo Xr Xdg Xdo Xdr Xif CallsP CallR
theorem same6_self (l : List Int) (h : l.length ≤ maxLen) : CallsP Try.prog 50 [li l, li l] (bl true) := by
  have s := same6_walk l l h
  rwa [decide_eq_true rfl] at s
set_option maxHeartbeats 8000000 in
theorem cupOrder_true (a0 : Int) (a1 : Int × Int × List Int) (a2 : List Int) (w0 : (Lit.int .u64 a0).wf = true) (w1 : ((Lit.int .i64 a1.1).wf = true ∧ (Lit.int .i64 a1.2.1).wf = true ∧ (a1.2.2.length ≤ maxLen ∧ ∀ e23_ ∈ a1.2.2, (Lit.int .u64 e23_).wf = true))) (w2 : (a2.length ≤ maxLen ∧ ∀ e23_ ∈ a2, (Lit.int .i64 e23_).wf = true)) :
    CallsP Try.prog 12 [.i (IV.v (.int .u64 a0)), .agg [.i (IV.v (.int .i64 a1.1)), .i (IV.v (.int .i64 a1.2.1)), .i (IV.l a1.2.2.length (a1.2.2.map fun y => IV.v (.int .u64 y)))], .i (IV.l a2.length (a2.map fun y => IV.v (.int .i64 y)))] (bl true) := by
  obtain ⟨r, c, l⟩ := a1
  obtain ⟨v1, v2, v3, v4⟩ := w1
  obtain ⟨v5, _⟩ := w2
  simp only at v1 v2 v3 v4 ⊢
  have wp := w64_of w0
  obtain ⟨P, rfl⟩ : ∃ P : Nat, a0 = P := ⟨a0.toNat, by have := wp.1; omega⟩
  have wl := w64_all v4
  have d0 := awake07_walk
  obtain ⟨sb, d1, hs⟩ := small7_walk P (by have := wp.2; omega) r c l 100 v3
  change CallsP Try.prog 12 [u64 P, matP r c l, li a2] (bl true)
  cases sb with
  | false =>
    refine X_startP (n := 125) (m := 3) (rs := [.tmp 6]) Try.func12 rfl rfl rfl rfl (by decide) fun base => ?_
    repeat (first | ((first | refine X_call_fn2 rfl (by simp only [tys]) ?_ | refine X_dcall_fn2 rfl (by simp only [tys]) ?_); apply Exists.intro; apply And.intro; (focus (simp -dsimp only [simx, zzC, zzB, tys, ite_self, opnL, callB, callX, readsB, stepOp, nilCmp, ofVal, opBuiltin, opLen, PV.sk, scalBin, scalUn, intBin, opLoad, natOf, opConvert, opField, cellsP, oneP, Value.oneCell', opStore, toIV, scalT, scalA, scalC, boxesA, boxesC, zipB_none, zipB_mx, isZ, opZip, zeroP, opAppendZ, opMakeMap, opLookup, mboxB, opUpdate, ↓reduceIte, Nat.reduceSub, Nat.reduceEqDiff, Nat.reduceAdd, Nat.reduceMul, Nat.reduceLT, Nat.reduceLeDiff, Int.reduceToNat, Int.reduceLE, Int.reduceLT, Int.reduceNeg, reduceCtorEq, zzL, if_true, if_false] <;> rfl)); apply Exists.intro; apply And.intro; (focus (first | exact d0 | exact d1))) | refine X_opc rfl ?_ | refine X_dopc rfl ?_ | refine ⟨(by show drawK _ _ = true; kernel_rfl : drawX _ _ _), ?_⟩ | exact (by show drawK _ _ = true; kernel_rfl : drawX _ _ _) | simp -dsimp (maxSteps := 20000000) (disch := omega) only [simx, zzC, zzB, tys, ite_self, opnL, callB, callX, readsB, stepOp, nilCmp, ofVal, opBuiltin, opLen, PV.sk, scalBin, scalUn, intBin, opLoad, natOf, opConvert, opField, cellsP, oneP, Value.oneCell', opStore, toIV, scalT, scalA, scalC, boxesA, boxesC, zipB_none, zipB_mx, isZ, opZip, zeroP, opAppendZ, opMakeMap, opLookup, mboxB, opUpdate, ↓reduceIte, Nat.reduceSub, Nat.reduceEqDiff, Nat.reduceAdd, Nat.reduceMul, Nat.reduceLT, Nat.reduceLeDiff, Int.reduceToNat, Int.reduceLE, Int.reduceLT, Int.reduceNeg, reduceCtorEq, zzR, gos, Int.reduceAdd, Int.reduceSub, Int.reduceMul, Int.reduceEq])
  | true =>
    obtain ⟨_, hP, hm⟩ := hs rfl
    obtain ⟨R, C, rfl, rfl, M⟩ := mat_of hm
    have hin : ∀ a ∈ l, In P a := fun a ha => in_of M.has wl ha
    have s1 := rows_walk a2 R C l v5 v3
    have s2 := rank_of hP M hin
    have ml := M.len
    have r1 := M.r1
    have r2 := M.r2
    have c1 := M.c1
    have c2 := M.c2
    have l0 : 0 < l.length := by rw [ml]; exact Nat.mul_pos (by omega) (by omega)
    have bd := rc_bd r2 c2
    have s3 : (R : Int) ≤ 32 → ∃ L, CallsP Try.prog 35 [u64 P, matP R C l] (.tup [li L, i64 0]) ∧ CallsP Try.prog 35 [u64 P, .agg [i64 ((2 * R : Nat) : Int), i64 C, .i (.l (l.length + l.length) (l.map iu ++ l.map iu))]] (.tup [li L, i64 0]) ∧ CallsP Try.prog 50 [li L, li L] (bl true) := fun h => by
      have t1 := profile_of hP M hin
      have t2 := profile_of hP (two_mt M (by omega)) fun a ha => hin a (by simpa using ha)
      rw [two_profile hP M (by omega) hin] at t2
      rw [show matP ((2 * R : Nat) : Int) C (l ++ l) = .agg [i64 ((2 * R : Nat) : Int), i64 C, .i (.l (l.length + l.length) (l.map iu ++ l.map iu))] by rw [matP, lu, List.length_append, List.map_append]] at t2
      exact ⟨_, t1, t2, same6_self _ (by have := (tkCup_W hP M hin).rle; rw [mx_len]; omega)⟩
    have e1 : IntKind.i64.wrap (2 * (R : Int)) = ((2 * R : Nat) : Int) := by rw [show 2 * (R : Int) = ((2 * R : Nat) : Int) by push_cast; rfl]; exact iw_of (by omega) (by omega)
    have e2 : (l ++ l).map iu = l.map iu ++ l.map iu := List.map_append
    have e3 : (l ++ l).length = l.length + l.length := List.length_append
    have l2 : 0 < l.length + l.length := by omega
    have e6 : (l.map iu ++ l.map iu).take (l.length + l.length) = l.map iu ++ l.map iu := List.take_of_length_le (by simp)
    by_cases h : orderB a2 = true ∧ a2.length = R
    · obtain ⟨h1, h2⟩ := h
      have o := (orderB_iff a2).1 h1
      have hsh : shapeB R C l = true := shape_iff.2 ⟨by omega, by omega, by omega, by omega, by rw [ml]; push_cast; rfl⟩
      have hr : rowsR a2 R C l = (((R : Int), (C : Int), rowsL a2 C l), 0) := by
        unfold rowsR
        rw [if_pos (by rw [h1, hsh, decide_eq_true (by omega : (a2.length : Int) = R)]; rfl), Int.toNat_natCast]
      rw [hr] at s1
      have N := rows_mt M o h2
      have nin : ∀ a ∈ rowsL a2 C l, In P a := fun a ha => hin a (rowsL_mem ha)
      have u1 := rank_of hP N nin
      rw [rows_rank hP M hin o h2] at u1
      by_cases e : R = C
      · subst e
        have u2 := sign_walk a2 v5
        unfold signR at u2
        rw [if_pos h1] at u2
        have u3 := det_yes hP M hin
        have u4 := det_yes hP N nin
        rw [rows_det hP M o h2] at u4
        generalize Lp R (cl R l) = D at u3 u4
        have u5 := Sub_in M.hp (a := 0) (b := D % P) ⟨Int.le_refl 0, by have := M.hp.1; omega⟩ (in_emod M.hp D)
        generalize (tkCup P R R l).1.length = K at s2 u1
        generalize rowsL a2 R l = nl at *
        have sg1 : sgnR a2 = 1 ∨ sgnR a2 = -1 := sgnP_one _ _
        rcases sg1 with g | g
        · rw [g, Int.one_mul] at u4
          rw [g] at u2
          clear u5 hr
          generalize D % (P : Int) = d at u3 u4
          by_cases h32 : (R : Int) ≤ 32
          · obtain ⟨L, t1, t2, t3⟩ := s3 h32
            have h32' : ¬ (32 : Int) < R := by omega
            refine X_startP (n := 125) (m := 3) (rs := [.tmp 6]) Try.func12 rfl rfl rfl rfl (by decide) fun base => ?_
            repeat (first | ((first | refine X_call_fn2 rfl (by simp only [tys]) ?_ | refine X_dcall_fn2 rfl (by simp only [tys]) ?_); apply Exists.intro; apply And.intro; (focus (simp -dsimp only [simx, zzC, zzB, tys, ite_self, opnL, callB, callX, readsB, stepOp, nilCmp, ofVal, opBuiltin, opLen, PV.sk, scalBin, scalUn, intBin, opLoad, natOf, opConvert, opField, cellsP, oneP, Value.oneCell', opStore, toIV, scalT, scalA, scalC, boxesA, boxesC, zipB_none, zipB_mx, isZ, opZip, zeroP, opAppendZ, opMakeMap, opLookup, mboxB, opUpdate, ↓reduceIte, Nat.reduceSub, Nat.reduceEqDiff, Nat.reduceAdd, Nat.reduceMul, Nat.reduceLT, Nat.reduceLeDiff, Int.reduceToNat, Int.reduceLE, Int.reduceLT, Int.reduceNeg, reduceCtorEq, zzL, if_true, if_false] <;> rfl)); apply Exists.intro; apply And.intro; (focus (first | exact d0 | exact d1 | exact s1 | exact s2 | exact u1 | exact u2 | exact u3 | exact u4 | exact t1))) | refine X_opc rfl ?_ | refine X_dopc rfl ?_ | refine ⟨(by show drawK _ _ = true; kernel_rfl : drawX _ _ _), ?_⟩ | exact (by show drawK _ _ = true; kernel_rfl : drawX _ _ _) | simp -dsimp (maxSteps := 20000000) (disch := omega) only [simx, zzC, zzB, tys, ite_self, opnL, callB, callX, readsB, stepOp, nilCmp, ofVal, opBuiltin, opLen, PV.sk, scalBin, scalUn, intBin, opLoad, natOf, opConvert, opField, cellsP, oneP, Value.oneCell', opStore, toIV, scalT, scalA, scalC, boxesA, boxesC, zipB_none, zipB_mx, isZ, opZip, zeroP, opAppendZ, opMakeMap, opLookup, mboxB, opUpdate, ↓reduceIte, Nat.reduceSub, Nat.reduceEqDiff, Nat.reduceAdd, Nat.reduceMul, Nat.reduceLT, Nat.reduceLeDiff, Int.reduceToNat, Int.reduceLE, Int.reduceLT, Int.reduceNeg, reduceCtorEq, gos, Int.reduceAdd, Int.reduceSub, Int.reduceMul, Int.reduceEq, h32', e1])
            refine X_dapp_full (cs := []) 22 [.int .u64 0] (l.map iu) (by simp only [tys]) (by simp only [tys]) rfl (by simp [Heap.put_at]) rfl l0 (by simp) (by simp only [tys]; omega) (by rw [mx_len]; omega) ?_
            repeat (first | refine X_opc rfl ?_ | refine X_dopc rfl ?_ | refine ⟨(by show drawK _ _ = true; kernel_rfl : drawX _ _ _), ?_⟩ | exact (by show drawK _ _ = true; kernel_rfl : drawX _ _ _) | simp -dsimp (maxSteps := 20000000) (disch := omega) only [simx, zzC, zzB, tys, ite_self, opnL, callB, callX, readsB, stepOp, nilCmp, ofVal, opBuiltin, opLen, PV.sk, scalBin, scalUn, intBin, opLoad, natOf, opConvert, opField, cellsP, oneP, Value.oneCell', opStore, toIV, scalT, scalA, scalC, boxesA, boxesC, zipB_none, zipB_mx, isZ, opZip, zeroP, opAppendZ, opMakeMap, opLookup, mboxB, opUpdate, ↓reduceIte, Nat.reduceSub, Nat.reduceEqDiff, Nat.reduceAdd, Nat.reduceMul, Nat.reduceLT, Nat.reduceLeDiff, Int.reduceToNat, Int.reduceLE, Int.reduceLT, Int.reduceNeg, reduceCtorEq, gos, Int.reduceAdd, Int.reduceSub, Int.reduceMul, Int.reduceEq, Nat.zero_add, List.nil_append])
            refine X_dapp_full (cs := l.map iu) 22 [.int .u64 0] (l.map iu) (by simp only [tys]) (by simp only [tys]) rfl (by simp [Heap.put_at]) (by simp) l0 (by simp) (by simp only [tys]; omega) (by rw [mx_len]; omega) ?_
            repeat (first | ((first | refine X_call_fn2 rfl (by simp only [tys]) ?_ | refine X_dcall_fn2 rfl (by simp only [tys]) ?_); apply Exists.intro; apply And.intro; (focus (simp -dsimp only [simx, zzC, zzB, tys, ite_self, opnL, callB, callX, readsB, stepOp, nilCmp, ofVal, opBuiltin, opLen, PV.sk, scalBin, scalUn, intBin, opLoad, natOf, opConvert, opField, cellsP, oneP, Value.oneCell', opStore, toIV, scalT, scalA, scalC, boxesA, boxesC, zipB_none, zipB_mx, isZ, opZip, zeroP, opAppendZ, opMakeMap, opLookup, mboxB, opUpdate, ↓reduceIte, Nat.reduceSub, Nat.reduceEqDiff, Nat.reduceAdd, Nat.reduceMul, Nat.reduceLT, Nat.reduceLeDiff, Int.reduceToNat, Int.reduceLE, Int.reduceLT, Int.reduceNeg, reduceCtorEq, zzL, if_true, if_false, l2, e6, List.length_append, List.length_map] <;> rfl)); apply Exists.intro; apply And.intro; (focus (first | exact t2 | exact t3))) | refine X_opc rfl ?_ | refine X_dopc rfl ?_ | refine ⟨(by show drawK _ _ = true; kernel_rfl : drawX _ _ _), ?_⟩ | exact (by show drawK _ _ = true; kernel_rfl : drawX _ _ _) | simp -dsimp (maxSteps := 20000000) (disch := omega) only [simx, zzC, zzB, tys, ite_self, opnL, callB, callX, readsB, stepOp, nilCmp, ofVal, opBuiltin, opLen, PV.sk, scalBin, scalUn, intBin, opLoad, natOf, opConvert, opField, cellsP, oneP, Value.oneCell', opStore, toIV, scalT, scalA, scalC, boxesA, boxesC, zipB_none, zipB_mx, isZ, opZip, zeroP, opAppendZ, opMakeMap, opLookup, mboxB, opUpdate, ↓reduceIte, Nat.reduceSub, Nat.reduceEqDiff, Nat.reduceAdd, Nat.reduceMul, Nat.reduceLT, Nat.reduceLeDiff, Int.reduceToNat, Int.reduceLE, Int.reduceLT, Int.reduceNeg, reduceCtorEq, zzR, gos, Int.reduceAdd, Int.reduceSub, Int.reduceMul, Int.reduceEq, l0, l2, e6, List.length_append, List.length_map])
          · have h32' : (32 : Int) < R := by omega
            refine X_startP (n := 125) (m := 3) (rs := [.tmp 6]) Try.func12 rfl rfl rfl rfl (by decide) fun base => ?_
            repeat (first | ((first | refine X_call_fn2 rfl (by simp only [tys]) ?_ | refine X_dcall_fn2 rfl (by simp only [tys]) ?_); apply Exists.intro; apply And.intro; (focus (simp -dsimp only [simx, zzC, zzB, tys, ite_self, opnL, callB, callX, readsB, stepOp, nilCmp, ofVal, opBuiltin, opLen, PV.sk, scalBin, scalUn, intBin, opLoad, natOf, opConvert, opField, cellsP, oneP, Value.oneCell', opStore, toIV, scalT, scalA, scalC, boxesA, boxesC, zipB_none, zipB_mx, isZ, opZip, zeroP, opAppendZ, opMakeMap, opLookup, mboxB, opUpdate, ↓reduceIte, Nat.reduceSub, Nat.reduceEqDiff, Nat.reduceAdd, Nat.reduceMul, Nat.reduceLT, Nat.reduceLeDiff, Int.reduceToNat, Int.reduceLE, Int.reduceLT, Int.reduceNeg, reduceCtorEq, zzL, if_true, if_false] <;> rfl)); apply Exists.intro; apply And.intro; (focus (first | exact d0 | exact d1 | exact s1 | exact s2 | exact u1 | exact u2 | exact u3 | exact u4))) | refine X_opc rfl ?_ | refine X_dopc rfl ?_ | refine ⟨(by show drawK _ _ = true; kernel_rfl : drawX _ _ _), ?_⟩ | exact (by show drawK _ _ = true; kernel_rfl : drawX _ _ _) | simp -dsimp (maxSteps := 20000000) (disch := omega) only [simx, zzC, zzB, tys, ite_self, opnL, callB, callX, readsB, stepOp, nilCmp, ofVal, opBuiltin, opLen, PV.sk, scalBin, scalUn, intBin, opLoad, natOf, opConvert, opField, cellsP, oneP, Value.oneCell', opStore, toIV, scalT, scalA, scalC, boxesA, boxesC, zipB_none, zipB_mx, isZ, opZip, zeroP, opAppendZ, opMakeMap, opLookup, mboxB, opUpdate, ↓reduceIte, Nat.reduceSub, Nat.reduceEqDiff, Nat.reduceAdd, Nat.reduceMul, Nat.reduceLT, Nat.reduceLeDiff, Int.reduceToNat, Int.reduceLE, Int.reduceLT, Int.reduceNeg, reduceCtorEq, zzR, gos, Int.reduceAdd, Int.reduceSub, Int.reduceMul, Int.reduceEq, h32'])
        · rw [g] at u2 u4
          have e5 : (0 - D % (P : Int)) % P = -1 * D % P := by
            rw [show -1 * D = 0 - D by omega]; exact em_sub rfl em_refl
          rw [e5] at u5
          clear e5 hr
          generalize -1 * D % (P : Int) = d' at u4 u5
          generalize D % (P : Int) = d at u3 u5
          by_cases h32 : (R : Int) ≤ 32
          · obtain ⟨L, t1, t2, t3⟩ := s3 h32
            have h32' : ¬ (32 : Int) < R := by omega
            refine X_startP (n := 125) (m := 3) (rs := [.tmp 6]) Try.func12 rfl rfl rfl rfl (by decide) fun base => ?_
            repeat (first | ((first | refine X_call_fn2 rfl (by simp only [tys]) ?_ | refine X_dcall_fn2 rfl (by simp only [tys]) ?_); apply Exists.intro; apply And.intro; (focus (simp -dsimp only [simx, zzC, zzB, tys, ite_self, opnL, callB, callX, readsB, stepOp, nilCmp, ofVal, opBuiltin, opLen, PV.sk, scalBin, scalUn, intBin, opLoad, natOf, opConvert, opField, cellsP, oneP, Value.oneCell', opStore, toIV, scalT, scalA, scalC, boxesA, boxesC, zipB_none, zipB_mx, isZ, opZip, zeroP, opAppendZ, opMakeMap, opLookup, mboxB, opUpdate, ↓reduceIte, Nat.reduceSub, Nat.reduceEqDiff, Nat.reduceAdd, Nat.reduceMul, Nat.reduceLT, Nat.reduceLeDiff, Int.reduceToNat, Int.reduceLE, Int.reduceLT, Int.reduceNeg, reduceCtorEq, zzL, if_true, if_false] <;> rfl)); apply Exists.intro; apply And.intro; (focus (first | exact d0 | exact d1 | exact s1 | exact s2 | exact u1 | exact u2 | exact u3 | exact u4 | exact u5 | exact t1))) | refine X_opc rfl ?_ | refine X_dopc rfl ?_ | refine ⟨(by show drawK _ _ = true; kernel_rfl : drawX _ _ _), ?_⟩ | exact (by show drawK _ _ = true; kernel_rfl : drawX _ _ _) | simp -dsimp (maxSteps := 20000000) (disch := omega) only [simx, zzC, zzB, tys, ite_self, opnL, callB, callX, readsB, stepOp, nilCmp, ofVal, opBuiltin, opLen, PV.sk, scalBin, scalUn, intBin, opLoad, natOf, opConvert, opField, cellsP, oneP, Value.oneCell', opStore, toIV, scalT, scalA, scalC, boxesA, boxesC, zipB_none, zipB_mx, isZ, opZip, zeroP, opAppendZ, opMakeMap, opLookup, mboxB, opUpdate, ↓reduceIte, Nat.reduceSub, Nat.reduceEqDiff, Nat.reduceAdd, Nat.reduceMul, Nat.reduceLT, Nat.reduceLeDiff, Int.reduceToNat, Int.reduceLE, Int.reduceLT, Int.reduceNeg, reduceCtorEq, gos, Int.reduceAdd, Int.reduceSub, Int.reduceMul, Int.reduceEq, h32', e1])
            refine X_dapp_full (cs := []) 22 [.int .u64 0] (l.map iu) (by simp only [tys]) (by simp only [tys]) rfl (by simp [Heap.put_at]) rfl l0 (by simp) (by simp only [tys]; omega) (by rw [mx_len]; omega) ?_
            repeat (first | refine X_opc rfl ?_ | refine X_dopc rfl ?_ | refine ⟨(by show drawK _ _ = true; kernel_rfl : drawX _ _ _), ?_⟩ | exact (by show drawK _ _ = true; kernel_rfl : drawX _ _ _) | simp -dsimp (maxSteps := 20000000) (disch := omega) only [simx, zzC, zzB, tys, ite_self, opnL, callB, callX, readsB, stepOp, nilCmp, ofVal, opBuiltin, opLen, PV.sk, scalBin, scalUn, intBin, opLoad, natOf, opConvert, opField, cellsP, oneP, Value.oneCell', opStore, toIV, scalT, scalA, scalC, boxesA, boxesC, zipB_none, zipB_mx, isZ, opZip, zeroP, opAppendZ, opMakeMap, opLookup, mboxB, opUpdate, ↓reduceIte, Nat.reduceSub, Nat.reduceEqDiff, Nat.reduceAdd, Nat.reduceMul, Nat.reduceLT, Nat.reduceLeDiff, Int.reduceToNat, Int.reduceLE, Int.reduceLT, Int.reduceNeg, reduceCtorEq, gos, Int.reduceAdd, Int.reduceSub, Int.reduceMul, Int.reduceEq, Nat.zero_add, List.nil_append])
            refine X_dapp_full (cs := l.map iu) 22 [.int .u64 0] (l.map iu) (by simp only [tys]) (by simp only [tys]) rfl (by simp [Heap.put_at]) (by simp) l0 (by simp) (by simp only [tys]; omega) (by rw [mx_len]; omega) ?_
            repeat (first | ((first | refine X_call_fn2 rfl (by simp only [tys]) ?_ | refine X_dcall_fn2 rfl (by simp only [tys]) ?_); apply Exists.intro; apply And.intro; (focus (simp -dsimp only [simx, zzC, zzB, tys, ite_self, opnL, callB, callX, readsB, stepOp, nilCmp, ofVal, opBuiltin, opLen, PV.sk, scalBin, scalUn, intBin, opLoad, natOf, opConvert, opField, cellsP, oneP, Value.oneCell', opStore, toIV, scalT, scalA, scalC, boxesA, boxesC, zipB_none, zipB_mx, isZ, opZip, zeroP, opAppendZ, opMakeMap, opLookup, mboxB, opUpdate, ↓reduceIte, Nat.reduceSub, Nat.reduceEqDiff, Nat.reduceAdd, Nat.reduceMul, Nat.reduceLT, Nat.reduceLeDiff, Int.reduceToNat, Int.reduceLE, Int.reduceLT, Int.reduceNeg, reduceCtorEq, zzL, if_true, if_false, l2, e6, List.length_append, List.length_map] <;> rfl)); apply Exists.intro; apply And.intro; (focus (first | exact t2 | exact t3))) | refine X_opc rfl ?_ | refine X_dopc rfl ?_ | refine ⟨(by show drawK _ _ = true; kernel_rfl : drawX _ _ _), ?_⟩ | exact (by show drawK _ _ = true; kernel_rfl : drawX _ _ _) | simp -dsimp (maxSteps := 20000000) (disch := omega) only [simx, zzC, zzB, tys, ite_self, opnL, callB, callX, readsB, stepOp, nilCmp, ofVal, opBuiltin, opLen, PV.sk, scalBin, scalUn, intBin, opLoad, natOf, opConvert, opField, cellsP, oneP, Value.oneCell', opStore, toIV, scalT, scalA, scalC, boxesA, boxesC, zipB_none, zipB_mx, isZ, opZip, zeroP, opAppendZ, opMakeMap, opLookup, mboxB, opUpdate, ↓reduceIte, Nat.reduceSub, Nat.reduceEqDiff, Nat.reduceAdd, Nat.reduceMul, Nat.reduceLT, Nat.reduceLeDiff, Int.reduceToNat, Int.reduceLE, Int.reduceLT, Int.reduceNeg, reduceCtorEq, zzR, gos, Int.reduceAdd, Int.reduceSub, Int.reduceMul, Int.reduceEq, l0, l2, e6, List.length_append, List.length_map])
          · have h32' : (32 : Int) < R := by omega
            refine X_startP (n := 125) (m := 3) (rs := [.tmp 6]) Try.func12 rfl rfl rfl rfl (by decide) fun base => ?_
            repeat (first | ((first | refine X_call_fn2 rfl (by simp only [tys]) ?_ | refine X_dcall_fn2 rfl (by simp only [tys]) ?_); apply Exists.intro; apply And.intro; (focus (simp -dsimp only [simx, zzC, zzB, tys, ite_self, opnL, callB, callX, readsB, stepOp, nilCmp, ofVal, opBuiltin, opLen, PV.sk, scalBin, scalUn, intBin, opLoad, natOf, opConvert, opField, cellsP, oneP, Value.oneCell', opStore, toIV, scalT, scalA, scalC, boxesA, boxesC, zipB_none, zipB_mx, isZ, opZip, zeroP, opAppendZ, opMakeMap, opLookup, mboxB, opUpdate, ↓reduceIte, Nat.reduceSub, Nat.reduceEqDiff, Nat.reduceAdd, Nat.reduceMul, Nat.reduceLT, Nat.reduceLeDiff, Int.reduceToNat, Int.reduceLE, Int.reduceLT, Int.reduceNeg, reduceCtorEq, zzL, if_true, if_false] <;> rfl)); apply Exists.intro; apply And.intro; (focus (first | exact d0 | exact d1 | exact s1 | exact s2 | exact u1 | exact u2 | exact u3 | exact u4 | exact u5))) | refine X_opc rfl ?_ | refine X_dopc rfl ?_ | refine ⟨(by show drawK _ _ = true; kernel_rfl : drawX _ _ _), ?_⟩ | exact (by show drawK _ _ = true; kernel_rfl : drawX _ _ _) | simp -dsimp (maxSteps := 20000000) (disch := omega) only [simx, zzC, zzB, tys, ite_self, opnL, callB, callX, readsB, stepOp, nilCmp, ofVal, opBuiltin, opLen, PV.sk, scalBin, scalUn, intBin, opLoad, natOf, opConvert, opField, cellsP, oneP, Value.oneCell', opStore, toIV, scalT, scalA, scalC, boxesA, boxesC, zipB_none, zipB_mx, isZ, opZip, zeroP, opAppendZ, opMakeMap, opLookup, mboxB, opUpdate, ↓reduceIte, Nat.reduceSub, Nat.reduceEqDiff, Nat.reduceAdd, Nat.reduceMul, Nat.reduceLT, Nat.reduceLeDiff, Int.reduceToNat, Int.reduceLE, Int.reduceLT, Int.reduceNeg, reduceCtorEq, zzR, gos, Int.reduceAdd, Int.reduceSub, Int.reduceMul, Int.reduceEq, h32'])
      · have e' : ¬ (R : Int) = C := by omega
        generalize (tkCup P C R l).1.length = K at s2 u1
        generalize rowsL a2 C l = nl at *
        clear hr
        by_cases h32 : (R : Int) ≤ 32
        · obtain ⟨L, t1, t2, t3⟩ := s3 h32
          have h32' : ¬ (32 : Int) < R := by omega
          refine X_startP (n := 125) (m := 3) (rs := [.tmp 6]) Try.func12 rfl rfl rfl rfl (by decide) fun base => ?_
          repeat (first | ((first | refine X_call_fn2 rfl (by simp only [tys]) ?_ | refine X_dcall_fn2 rfl (by simp only [tys]) ?_); apply Exists.intro; apply And.intro; (focus (simp -dsimp only [simx, zzC, zzB, tys, ite_self, opnL, callB, callX, readsB, stepOp, nilCmp, ofVal, opBuiltin, opLen, PV.sk, scalBin, scalUn, intBin, opLoad, natOf, opConvert, opField, cellsP, oneP, Value.oneCell', opStore, toIV, scalT, scalA, scalC, boxesA, boxesC, zipB_none, zipB_mx, isZ, opZip, zeroP, opAppendZ, opMakeMap, opLookup, mboxB, opUpdate, ↓reduceIte, Nat.reduceSub, Nat.reduceEqDiff, Nat.reduceAdd, Nat.reduceMul, Nat.reduceLT, Nat.reduceLeDiff, Int.reduceToNat, Int.reduceLE, Int.reduceLT, Int.reduceNeg, reduceCtorEq, zzL, if_true, if_false] <;> rfl)); apply Exists.intro; apply And.intro; (focus (first | exact d0 | exact d1 | exact s1 | exact s2 | exact u1 | exact t1))) | refine X_opc rfl ?_ | refine X_dopc rfl ?_ | refine ⟨(by show drawK _ _ = true; kernel_rfl : drawX _ _ _), ?_⟩ | exact (by show drawK _ _ = true; kernel_rfl : drawX _ _ _) | simp -dsimp (maxSteps := 20000000) (disch := omega) only [simx, zzC, zzB, tys, ite_self, opnL, callB, callX, readsB, stepOp, nilCmp, ofVal, opBuiltin, opLen, PV.sk, scalBin, scalUn, intBin, opLoad, natOf, opConvert, opField, cellsP, oneP, Value.oneCell', opStore, toIV, scalT, scalA, scalC, boxesA, boxesC, zipB_none, zipB_mx, isZ, opZip, zeroP, opAppendZ, opMakeMap, opLookup, mboxB, opUpdate, ↓reduceIte, Nat.reduceSub, Nat.reduceEqDiff, Nat.reduceAdd, Nat.reduceMul, Nat.reduceLT, Nat.reduceLeDiff, Int.reduceToNat, Int.reduceLE, Int.reduceLT, Int.reduceNeg, reduceCtorEq, gos, Int.reduceAdd, Int.reduceSub, Int.reduceMul, Int.reduceEq, e', h32', e1])
          refine X_dapp_full (cs := []) 22 [.int .u64 0] (l.map iu) (by simp only [tys]) (by simp only [tys]) rfl (by simp [Heap.put_at]) rfl l0 (by simp) (by simp only [tys]; omega) (by rw [mx_len]; omega) ?_
          repeat (first | refine X_opc rfl ?_ | refine X_dopc rfl ?_ | refine ⟨(by show drawK _ _ = true; kernel_rfl : drawX _ _ _), ?_⟩ | exact (by show drawK _ _ = true; kernel_rfl : drawX _ _ _) | simp -dsimp (maxSteps := 20000000) (disch := omega) only [simx, zzC, zzB, tys, ite_self, opnL, callB, callX, readsB, stepOp, nilCmp, ofVal, opBuiltin, opLen, PV.sk, scalBin, scalUn, intBin, opLoad, natOf, opConvert, opField, cellsP, oneP, Value.oneCell', opStore, toIV, scalT, scalA, scalC, boxesA, boxesC, zipB_none, zipB_mx, isZ, opZip, zeroP, opAppendZ, opMakeMap, opLookup, mboxB, opUpdate, ↓reduceIte, Nat.reduceSub, Nat.reduceEqDiff, Nat.reduceAdd, Nat.reduceMul, Nat.reduceLT, Nat.reduceLeDiff, Int.reduceToNat, Int.reduceLE, Int.reduceLT, Int.reduceNeg, reduceCtorEq, gos, Int.reduceAdd, Int.reduceSub, Int.reduceMul, Int.reduceEq, Nat.zero_add, List.nil_append])
          refine X_dapp_full (cs := l.map iu) 22 [.int .u64 0] (l.map iu) (by simp only [tys]) (by simp only [tys]) rfl (by simp [Heap.put_at]) (by simp) l0 (by simp) (by simp only [tys]; omega) (by rw [mx_len]; omega) ?_
          repeat (first | ((first | refine X_call_fn2 rfl (by simp only [tys]) ?_ | refine X_dcall_fn2 rfl (by simp only [tys]) ?_); apply Exists.intro; apply And.intro; (focus (simp -dsimp only [simx, zzC, zzB, tys, ite_self, opnL, callB, callX, readsB, stepOp, nilCmp, ofVal, opBuiltin, opLen, PV.sk, scalBin, scalUn, intBin, opLoad, natOf, opConvert, opField, cellsP, oneP, Value.oneCell', opStore, toIV, scalT, scalA, scalC, boxesA, boxesC, zipB_none, zipB_mx, isZ, opZip, zeroP, opAppendZ, opMakeMap, opLookup, mboxB, opUpdate, ↓reduceIte, Nat.reduceSub, Nat.reduceEqDiff, Nat.reduceAdd, Nat.reduceMul, Nat.reduceLT, Nat.reduceLeDiff, Int.reduceToNat, Int.reduceLE, Int.reduceLT, Int.reduceNeg, reduceCtorEq, zzL, if_true, if_false, l2, e6, List.length_append, List.length_map] <;> rfl)); apply Exists.intro; apply And.intro; (focus (first | exact t2 | exact t3))) | refine X_opc rfl ?_ | refine X_dopc rfl ?_ | refine ⟨(by show drawK _ _ = true; kernel_rfl : drawX _ _ _), ?_⟩ | exact (by show drawK _ _ = true; kernel_rfl : drawX _ _ _) | simp -dsimp (maxSteps := 20000000) (disch := omega) only [simx, zzC, zzB, tys, ite_self, opnL, callB, callX, readsB, stepOp, nilCmp, ofVal, opBuiltin, opLen, PV.sk, scalBin, scalUn, intBin, opLoad, natOf, opConvert, opField, cellsP, oneP, Value.oneCell', opStore, toIV, scalT, scalA, scalC, boxesA, boxesC, zipB_none, zipB_mx, isZ, opZip, zeroP, opAppendZ, opMakeMap, opLookup, mboxB, opUpdate, ↓reduceIte, Nat.reduceSub, Nat.reduceEqDiff, Nat.reduceAdd, Nat.reduceMul, Nat.reduceLT, Nat.reduceLeDiff, Int.reduceToNat, Int.reduceLE, Int.reduceLT, Int.reduceNeg, reduceCtorEq, zzR, gos, Int.reduceAdd, Int.reduceSub, Int.reduceMul, Int.reduceEq, l0, l2, e6, List.length_append, List.length_map])
        · have h32' : (32 : Int) < R := by omega
          refine X_startP (n := 125) (m := 3) (rs := [.tmp 6]) Try.func12 rfl rfl rfl rfl (by decide) fun base => ?_
          repeat (first | ((first | refine X_call_fn2 rfl (by simp only [tys]) ?_ | refine X_dcall_fn2 rfl (by simp only [tys]) ?_); apply Exists.intro; apply And.intro; (focus (simp -dsimp only [simx, zzC, zzB, tys, ite_self, opnL, callB, callX, readsB, stepOp, nilCmp, ofVal, opBuiltin, opLen, PV.sk, scalBin, scalUn, intBin, opLoad, natOf, opConvert, opField, cellsP, oneP, Value.oneCell', opStore, toIV, scalT, scalA, scalC, boxesA, boxesC, zipB_none, zipB_mx, isZ, opZip, zeroP, opAppendZ, opMakeMap, opLookup, mboxB, opUpdate, ↓reduceIte, Nat.reduceSub, Nat.reduceEqDiff, Nat.reduceAdd, Nat.reduceMul, Nat.reduceLT, Nat.reduceLeDiff, Int.reduceToNat, Int.reduceLE, Int.reduceLT, Int.reduceNeg, reduceCtorEq, zzL, if_true, if_false] <;> rfl)); apply Exists.intro; apply And.intro; (focus (first | exact d0 | exact d1 | exact s1 | exact s2 | exact u1))) | refine X_opc rfl ?_ | refine X_dopc rfl ?_ | refine ⟨(by show drawK _ _ = true; kernel_rfl : drawX _ _ _), ?_⟩ | exact (by show drawK _ _ = true; kernel_rfl : drawX _ _ _) | simp -dsimp (maxSteps := 20000000) (disch := omega) only [simx, zzC, zzB, tys, ite_self, opnL, callB, callX, readsB, stepOp, nilCmp, ofVal, opBuiltin, opLen, PV.sk, scalBin, scalUn, intBin, opLoad, natOf, opConvert, opField, cellsP, oneP, Value.oneCell', opStore, toIV, scalT, scalA, scalC, boxesA, boxesC, zipB_none, zipB_mx, isZ, opZip, zeroP, opAppendZ, opMakeMap, opLookup, mboxB, opUpdate, ↓reduceIte, Nat.reduceSub, Nat.reduceEqDiff, Nat.reduceAdd, Nat.reduceMul, Nat.reduceLT, Nat.reduceLeDiff, Int.reduceToNat, Int.reduceLE, Int.reduceLT, Int.reduceNeg, reduceCtorEq, zzR, gos, Int.reduceAdd, Int.reduceSub, Int.reduceMul, Int.reduceEq, e', h32'])
    · have h1 : rowsR a2 R C l = ((0, 0, []), 1) := by
        unfold rowsR
        rw [if_neg]
        simp only [Bool.and_eq_true, decide_eq_true_eq]
        rintro ⟨h1, _, h2⟩
        exact h ⟨h1, by omega⟩
      rw [h1] at s1
      generalize (tkCup P C R l).1.length = K at s2
      by_cases h32 : (R : Int) ≤ 32
      · obtain ⟨L, t1, t2, t3⟩ := s3 h32
        have h32' : ¬ (32 : Int) < R := by omega
        refine X_startP (n := 125) (m := 3) (rs := [.tmp 6]) Try.func12 rfl rfl rfl rfl (by decide) fun base => ?_
        repeat (first | ((first | refine X_call_fn2 rfl (by simp only [tys]) ?_ | refine X_dcall_fn2 rfl (by simp only [tys]) ?_); apply Exists.intro; apply And.intro; (focus (simp -dsimp only [simx, zzC, zzB, tys, ite_self, opnL, callB, callX, readsB, stepOp, nilCmp, ofVal, opBuiltin, opLen, PV.sk, scalBin, scalUn, intBin, opLoad, natOf, opConvert, opField, cellsP, oneP, Value.oneCell', opStore, toIV, scalT, scalA, scalC, boxesA, boxesC, zipB_none, zipB_mx, isZ, opZip, zeroP, opAppendZ, opMakeMap, opLookup, mboxB, opUpdate, ↓reduceIte, Nat.reduceSub, Nat.reduceEqDiff, Nat.reduceAdd, Nat.reduceMul, Nat.reduceLT, Nat.reduceLeDiff, Int.reduceToNat, Int.reduceLE, Int.reduceLT, Int.reduceNeg, reduceCtorEq, zzL, if_true, if_false] <;> rfl)); apply Exists.intro; apply And.intro; (focus (first | exact d0 | exact d1 | exact s1 | exact s2 | exact t1))) | refine X_opc rfl ?_ | refine X_dopc rfl ?_ | refine ⟨(by show drawK _ _ = true; kernel_rfl : drawX _ _ _), ?_⟩ | exact (by show drawK _ _ = true; kernel_rfl : drawX _ _ _) | simp -dsimp (maxSteps := 20000000) (disch := omega) only [simx, zzC, zzB, tys, ite_self, opnL, callB, callX, readsB, stepOp, nilCmp, ofVal, opBuiltin, opLen, PV.sk, scalBin, scalUn, intBin, opLoad, natOf, opConvert, opField, cellsP, oneP, Value.oneCell', opStore, toIV, scalT, scalA, scalC, boxesA, boxesC, zipB_none, zipB_mx, isZ, opZip, zeroP, opAppendZ, opMakeMap, opLookup, mboxB, opUpdate, ↓reduceIte, Nat.reduceSub, Nat.reduceEqDiff, Nat.reduceAdd, Nat.reduceMul, Nat.reduceLT, Nat.reduceLeDiff, Int.reduceToNat, Int.reduceLE, Int.reduceLT, Int.reduceNeg, reduceCtorEq, gos, Int.reduceAdd, Int.reduceSub, Int.reduceMul, Int.reduceEq, h32', e1])
        refine X_dapp_full (cs := []) 22 [.int .u64 0] (l.map iu) (by simp only [tys]) (by simp only [tys]) rfl (by simp [Heap.put_at]) rfl l0 (by simp) (by simp only [tys]; omega) (by rw [mx_len]; omega) ?_
        repeat (first | refine X_opc rfl ?_ | refine X_dopc rfl ?_ | refine ⟨(by show drawK _ _ = true; kernel_rfl : drawX _ _ _), ?_⟩ | exact (by show drawK _ _ = true; kernel_rfl : drawX _ _ _) | simp -dsimp (maxSteps := 20000000) (disch := omega) only [simx, zzC, zzB, tys, ite_self, opnL, callB, callX, readsB, stepOp, nilCmp, ofVal, opBuiltin, opLen, PV.sk, scalBin, scalUn, intBin, opLoad, natOf, opConvert, opField, cellsP, oneP, Value.oneCell', opStore, toIV, scalT, scalA, scalC, boxesA, boxesC, zipB_none, zipB_mx, isZ, opZip, zeroP, opAppendZ, opMakeMap, opLookup, mboxB, opUpdate, ↓reduceIte, Nat.reduceSub, Nat.reduceEqDiff, Nat.reduceAdd, Nat.reduceMul, Nat.reduceLT, Nat.reduceLeDiff, Int.reduceToNat, Int.reduceLE, Int.reduceLT, Int.reduceNeg, reduceCtorEq, gos, Int.reduceAdd, Int.reduceSub, Int.reduceMul, Int.reduceEq, Nat.zero_add, List.nil_append])
        refine X_dapp_full (cs := l.map iu) 22 [.int .u64 0] (l.map iu) (by simp only [tys]) (by simp only [tys]) rfl (by simp [Heap.put_at]) (by simp) l0 (by simp) (by simp only [tys]; omega) (by rw [mx_len]; omega) ?_
        repeat (first | ((first | refine X_call_fn2 rfl (by simp only [tys]) ?_ | refine X_dcall_fn2 rfl (by simp only [tys]) ?_); apply Exists.intro; apply And.intro; (focus (simp -dsimp only [simx, zzC, zzB, tys, ite_self, opnL, callB, callX, readsB, stepOp, nilCmp, ofVal, opBuiltin, opLen, PV.sk, scalBin, scalUn, intBin, opLoad, natOf, opConvert, opField, cellsP, oneP, Value.oneCell', opStore, toIV, scalT, scalA, scalC, boxesA, boxesC, zipB_none, zipB_mx, isZ, opZip, zeroP, opAppendZ, opMakeMap, opLookup, mboxB, opUpdate, ↓reduceIte, Nat.reduceSub, Nat.reduceEqDiff, Nat.reduceAdd, Nat.reduceMul, Nat.reduceLT, Nat.reduceLeDiff, Int.reduceToNat, Int.reduceLE, Int.reduceLT, Int.reduceNeg, reduceCtorEq, zzL, if_true, if_false, l2, e6, List.length_append, List.length_map] <;> rfl)); apply Exists.intro; apply And.intro; (focus (first | exact t2 | exact t3))) | refine X_opc rfl ?_ | refine X_dopc rfl ?_ | refine ⟨(by show drawK _ _ = true; kernel_rfl : drawX _ _ _), ?_⟩ | exact (by show drawK _ _ = true; kernel_rfl : drawX _ _ _) | simp -dsimp (maxSteps := 20000000) (disch := omega) only [simx, zzC, zzB, tys, ite_self, opnL, callB, callX, readsB, stepOp, nilCmp, ofVal, opBuiltin, opLen, PV.sk, scalBin, scalUn, intBin, opLoad, natOf, opConvert, opField, cellsP, oneP, Value.oneCell', opStore, toIV, scalT, scalA, scalC, boxesA, boxesC, zipB_none, zipB_mx, isZ, opZip, zeroP, opAppendZ, opMakeMap, opLookup, mboxB, opUpdate, ↓reduceIte, Nat.reduceSub, Nat.reduceEqDiff, Nat.reduceAdd, Nat.reduceMul, Nat.reduceLT, Nat.reduceLeDiff, Int.reduceToNat, Int.reduceLE, Int.reduceLT, Int.reduceNeg, reduceCtorEq, zzR, gos, Int.reduceAdd, Int.reduceSub, Int.reduceMul, Int.reduceEq, l0, l2, e6, List.length_append, List.length_map])
      · have h32' : (32 : Int) < R := by omega
        refine X_startP (n := 125) (m := 3) (rs := [.tmp 6]) Try.func12 rfl rfl rfl rfl (by decide) fun base => ?_
        repeat (first | ((first | refine X_call_fn2 rfl (by simp only [tys]) ?_ | refine X_dcall_fn2 rfl (by simp only [tys]) ?_); apply Exists.intro; apply And.intro; (focus (simp -dsimp only [simx, zzC, zzB, tys, ite_self, opnL, callB, callX, readsB, stepOp, nilCmp, ofVal, opBuiltin, opLen, PV.sk, scalBin, scalUn, intBin, opLoad, natOf, opConvert, opField, cellsP, oneP, Value.oneCell', opStore, toIV, scalT, scalA, scalC, boxesA, boxesC, zipB_none, zipB_mx, isZ, opZip, zeroP, opAppendZ, opMakeMap, opLookup, mboxB, opUpdate, ↓reduceIte, Nat.reduceSub, Nat.reduceEqDiff, Nat.reduceAdd, Nat.reduceMul, Nat.reduceLT, Nat.reduceLeDiff, Int.reduceToNat, Int.reduceLE, Int.reduceLT, Int.reduceNeg, reduceCtorEq, zzL, if_true, if_false] <;> rfl)); apply Exists.intro; apply And.intro; (focus (first | exact d0 | exact d1 | exact s1 | exact s2))) | refine X_opc rfl ?_ | refine X_dopc rfl ?_ | refine ⟨(by show drawK _ _ = true; kernel_rfl : drawX _ _ _), ?_⟩ | exact (by show drawK _ _ = true; kernel_rfl : drawX _ _ _) | simp -dsimp (maxSteps := 20000000) (disch := omega) only [simx, zzC, zzB, tys, ite_self, opnL, callB, callX, readsB, stepOp, nilCmp, ofVal, opBuiltin, opLen, PV.sk, scalBin, scalUn, intBin, opLoad, natOf, opConvert, opField, cellsP, oneP, Value.oneCell', opStore, toIV, scalT, scalA, scalC, boxesA, boxesC, zipB_none, zipB_mx, isZ, opZip, zeroP, opAppendZ, opMakeMap, opLookup, mboxB, opUpdate, ↓reduceIte, Nat.reduceSub, Nat.reduceEqDiff, Nat.reduceAdd, Nat.reduceMul, Nat.reduceLT, Nat.reduceLeDiff, Int.reduceToNat, Int.reduceLE, Int.reduceLT, Int.reduceNeg, reduceCtorEq, zzR, gos, Int.reduceAdd, Int.reduceSub, Int.reduceMul, Int.reduceEq, h32'])
end Go.Proofs.Ythnfphgjfpcpbaa.TM
