/- What is proved of functions, and plain facts, part 8. Conditions: none. -/
import Derived.Test.YthnfphgjfpcpbaaSCupDet7
set_option linter.defProp false
set_option linter.unusedSectionVars false
set_option linter.unusedSimpArgs false
set_option linter.unusedVariables false
namespace Go.Proofs.Ythnfphgjfpcpbaa.TM
open Go Go.RowKit
attribute [local irreducible] K W WOps Effs Xg Xo Xr Xdg Xdo Xdr Xif CallsP CallR
def mkP (p : Int) (X Y : Nat → Int) : Nat → Int
  | 0 => 0
  | k + 1 => (mkP p X Y k + X k * Y k % p) % p
theorem mkP_in {p : Int} (hp : Md p) (X Y : Nat → Int) : ∀ k, In p (mkP p X Y k)
  | 0 => ⟨by show (0 : Int) ≤ 0; omega, by have := hp.1; show (0 : Int) < p; omega⟩
  | k + 1 => in_emod hp _
def mkG (p : Int) (cc uu : List (List Int)) (i q k : Nat) : Int := mkP p (fun k => (cc.getD i []).getD k 0) (fun k => (uu.getD k []).getD q 0) k
def mkF (p : Int) (cc uu : List (List Int)) (K C i k q : Nat) : Nat → Int := fun t => if t / C < i then mkG p cc uu (t / C) (t % C) K else if t / C = i then (if t % C < q then mkG p cc uu i (t % C) (k + 1) else mkG p cc uu i (t % C) k) else 0
def makeM (p : Int) (cc uu : List (List Int)) (R K C : Nat) : List Int := tbl (R * C) (fun t => mkG p cc uu (t / C) (t % C) K)
section
variable {p : Int} {cc uu : List (List Int)} {K C i k q R : Nat}
theorem mkF_0 : mkF p cc uu K C 0 0 0 = fun _ => 0 := by
  funext t
  unfold mkF
  rw [if_neg (Nat.not_lt_zero _)]
  split
  · rw [if_neg (Nat.not_lt_zero _)]; rfl
  · rfl
theorem mkF_q (hC : 0 < C) : mkF p cc uu K C i k C = mkF p cc uu K C i (k + 1) 0 := by
  funext t
  unfold mkF
  rw [if_pos (Nat.mod_lt t hC), if_neg (Nat.not_lt_zero (t % C))]
theorem mkF_k : mkF p cc uu K C i K 0 = mkF p cc uu K C (i + 1) 0 0 := by
  funext t
  unfold mkF
  simp only [Nat.not_lt_zero, if_false]
  by_cases c1 : t / C < i
  · rw [if_pos c1, if_pos (by omega)]
  · rw [if_neg c1]
    by_cases c2 : t / C = i
    · rw [if_pos c2, if_pos (by omega), c2]
    · rw [if_neg c2, if_neg (by omega)]
      by_cases c3 : t / C = i + 1
      · rw [if_pos c3]; rfl
      · rw [if_neg c3]
theorem mkF_s (hq : q < C) : (fun t => if t = i * C + q then mkG p cc uu i q (k + 1) else mkF p cc uu K C i k q t) = mkF p cc uu K C i k (q + 1) := by
  funext t
  have d1 : (i * C + q) / C = i := by rw [Nat.mul_comm, Nat.mul_add_div (by omega), Nat.div_eq_of_lt hq, Nat.add_zero]
  have d2 : (i * C + q) % C = q := by rw [Nat.mul_comm, Nat.mul_add_mod, Nat.mod_eq_of_lt hq]
  by_cases e : t = i * C + q
  · subst e
    unfold mkF
    rw [if_pos rfl, d1, d2, if_neg (by omega), if_pos rfl, if_pos (by omega)]
  · rw [if_neg e]
    unfold mkF
    by_cases c1 : t / C < i
    · rw [if_pos c1, if_pos c1]
    · rw [if_neg c1, if_neg c1]
      by_cases c2 : t / C = i
      · rw [if_pos c2, if_pos c2]
        have : t % C ≠ q := fun h => e (by rw [← c2, ← h, Nat.mul_comm]; exact (Nat.div_add_mod t C).symm)
        by_cases c3 : t % C < q
        · rw [if_pos c3, if_pos (by omega)]
        · rw [if_neg c3, if_neg (by omega)]
      · rw [if_neg c2, if_neg c2]
theorem mkF_at (hq : q < C) : mkF p cc uu K C i k q (i * C + q) = mkG p cc uu i q k := by
  have d1 : (i * C + q) / C = i := by rw [Nat.mul_comm, Nat.mul_add_div (by omega), Nat.div_eq_of_lt hq, Nat.add_zero]
  have d2 : (i * C + q) % C = q := by rw [Nat.mul_comm, Nat.mul_add_mod, Nat.mod_eq_of_lt hq]
  unfold mkF
  rw [d1, d2, if_neg (by omega), if_pos rfl, if_neg (by omega)]
theorem mkF_end : tbl (R * C) (mkF p cc uu K C R 0 0) = makeM p cc uu R K C := tbl_congr fun t ht => by
  unfold mkF
  rw [if_pos (Nat.div_lt_of_lt_mul (by rw [Nat.mul_comm]; exact ht))]
end
set_option maxHeartbeats 8000000 in
theorem make_yes {p : Int} {R C K : Nat} {rw0 cw : List Int} {cc uu : List (List Int)} (hp : Md p) (r1 : 1 ≤ R) (r2 : R ≤ 64) (c1 : 1 ≤ C) (c2 : C ≤ 64) (hc : cc.length = R) (hu : uu.length = K) (hK : K ≤ maxLen)
    (hc2 : ∀ x ∈ cc, x.length = K ∧ ∀ a ∈ x, In p a) (hu2 : ∀ x ∈ uu, x.length = C ∧ ∀ a ∈ x, In p a) :
    CallsP Try.prog 47 [u64 p, cupQ (rw0, cw, cc, uu), i64 R, i64 C] (.tup [matP R C (makeM p cc uu R K C), i64 0]) := by
  have q1 := right_walk p
  rw [show RightB p = true by unfold RightB; simp; exact ⟨by have := hp.1; omega, by have := hp.2; omega⟩] at q1
  have q2 := side7_walk (R : Int)
  rw [(side_iff _).2 ⟨by omega, by omega⟩] at q2
  have q3 := side7_walk (C : Int)
  rw [(side_iff _).2 ⟨by omega, by omega⟩] at q3
  have q4 := rows7_walk (p := p) (each := (K : Int)) (l := cc) (by rw [mx_len]; omega) (fun u h => by rw [(hc2 u h).1]; exact hK)
  rw [(rowsB_iff _ _ _).2 fun u h => ⟨by rw [(hc2 u h).1], (has_iff _ _).2 ⟨fun a ha => ((hc2 u h).2 a ha).2, hp⟩⟩] at q4
  have q5 := rows7_walk (p := p) (each := (C : Int)) (l := uu) (by rw [hu]; exact hK) (fun u h => by rw [(hu2 u h).1, mx_len]; omega)
  rw [(rowsB_iff _ _ _).2 fun u h => ⟨by rw [(hu2 u h).1], (has_iff _ _).2 ⟨fun a ha => ((hu2 u h).2 a ha).2, hp⟩⟩] at q5
  have bd := rc_bd r2 c2
  have f1 : IntKind.i64.wrap ((R : Int) * (C : Int)) = ((R * C : Nat) : Int) := by rw [← Int.natCast_mul]; exact iw_of (by omega) (by omega)
  have cb : R * C * 8 ≤ 140737488355328 := by omega
  have cb2 : R * C ≤ 140737488355328 := by omega
  have f0 : (0 : Int) ≤ ((R * C : Nat) : Int) := by omega
  have z0 := zero_tbl (R * C)
  rw [← mkF_0 (p := p) (cc := cc) (uu := uu) (K := K) (C := C)] at z0
  rw [← mkF_end]
  have hcc : (cc.length : Int) = (R : Int) := by omega
  rw [mx_len] at hK
  refine X_startP (n := 126) (m := 4) (rs := [.cell 8 25, .tmp 9]) Try.func47 rfl rfl rfl rfl (by decide) fun base => ?_
  repeat (first | ((first | refine X_call_fn2 rfl (by simp only [tys]) ?_ | refine X_dcall_fn2 rfl (by simp only [tys]) ?_); apply Exists.intro; apply And.intro; (focus (simp -dsimp only [simx, zzC, zzB, tys, ite_self, opnL, callB, callX, readsB, stepOp, nilCmp, ofVal, opBuiltin, opLen, PV.sk, scalBin, scalUn, intBin, opLoad, natOf, opConvert, opField, cellsP, oneP, Value.oneCell', opStore, toIV, scalT, scalA, scalC, boxesA, boxesC, zipB_none, zipB_mx, isZ, opZip, zeroP, opAppendZ, opMakeMap, opLookup, mboxB, opUpdate, ↓reduceIte, Nat.reduceSub, Nat.reduceEqDiff, Nat.reduceAdd, Nat.reduceMul, Nat.reduceLT, Nat.reduceLeDiff, Int.reduceToNat, Int.reduceLE, Int.reduceLT, Int.reduceNeg, reduceCtorEq, zzL, if_true, if_false] <;> rfl)); apply Exists.intro; apply And.intro; (focus (first | exact q1 | exact q2 | exact q3 | exact q4 | exact q5))) | refine X_opc rfl ?_ | refine X_dopc rfl ?_ | refine ⟨(by show drawK _ _ = true; kernel_rfl : drawX _ _ _), ?_⟩ | exact (by show drawK _ _ = true; kernel_rfl : drawX _ _ _) | simp -dsimp (maxSteps := 20000000) (disch := omega) only [simx, zzC, zzB, tys, ite_self, opnL, callB, callX, readsB, stepOp, nilCmp, ofVal, opBuiltin, opLen, PV.sk, scalBin, scalUn, intBin, opLoad, natOf, opConvert, opField, cellsP, oneP, Value.oneCell', opStore, toIV, scalT, scalA, scalC, boxesA, boxesC, zipB_none, zipB_mx, isZ, opZip, zeroP, opAppendZ, opMakeMap, opLookup, mboxB, opUpdate, ↓reduceIte, Nat.reduceSub, Nat.reduceEqDiff, Nat.reduceAdd, Nat.reduceMul, Nat.reduceLT, Nat.reduceLeDiff, Int.reduceToNat, Int.reduceLE, Int.reduceLT, Int.reduceNeg, reduceCtorEq, gos, Int.reduceAdd, Int.reduceSub, Int.reduceMul, Int.reduceEq, SK.len, hcc, hu, f1, f0, cb, cb2, z0])
  clear q1 q2 q3 q4 q5 z0 f0 f1 cb cb2
  refine X_loopH [0, 3, 5, 8, 10, 67, 68, 69] [] (0) (R) (fun j => True) (fun j => [(68, i64 R), (69, i64 j)]) (fun j => ((((Heap.none.put ((0, 0) :: base) (.var [li rw0, li cw, llP cc, llP uu])).put ((0, 1) :: base) (.var [i64 0, i64 0, nilP])).put ((3, 5) :: base) (.row false ((tbl (R * C) (mkF p cc uu K C j 0 0)).map iu))).put ((3, 7) :: base) (.var [i64 R, i64 C, .view ((3, 5) :: base) 0 1 (R * C) (R * C)]))) ?_ ?_ ?_ ?_ ?_ (by decide) ?_
  · exact (fgt_nil)
  · ((simp -dsimp (disch := omega) only [simx, zzB, tys, ite_self, opnL, callB, callX, readsB, stepOp, nilCmp, ofVal, opBuiltin, opLen, PV.sk, scalBin, scalUn, intBin, opLoad, natOf, opConvert, opField, cellsP, oneP, Value.oneCell', opStore, toIV, scalT, scalA, scalC, boxesA, boxesC, zipB_none, zipB_mx, isZ, opZip, zeroP, opAppendZ, opMakeMap, opLookup, mboxB, opUpdate, ↓reduceIte, Nat.reduceSub, Nat.reduceEqDiff, Nat.reduceAdd, Nat.reduceMul, Nat.reduceLT, Nat.reduceLeDiff, Int.reduceToNat, Int.reduceLE, Int.reduceLT, Int.reduceNeg, reduceCtorEq, gos, Int.reduceAdd, Int.reduceSub, Int.reduceMul, Int.reduceEq]) <;> first | rfl | simp)
  · funext c
    simp (maxSteps := 20000000) only [Heap.drop_at, rowH_app, Heap.put_at, Heap.none_at, List.mem_cons, List.not_mem_nil, or_false]
    by_cases e0 : c = (0, 0) :: base
    · subst e0; simp []
    by_cases e1 : c = (0, 1) :: base
    · subst e1; simp []
    by_cases e2 : c = (3, 5) :: base
    · subst e2; simp []
    by_cases e3 : c = (3, 7) :: base
    · subst e3; simp []
    simp [e0, e1, e2, e3]
  · omega
  · trivial
  · intro i hi _
    by_cases ci : i < R
    · obtain ⟨x1, x2⟩ := hc2 (cc.getD i []) (getD_mm (by omega))
      have bi := ic_bd (c := C) ci
      have g1 : (cc.map fun u => IV.l u.length (u.map iu))[i]? = some (.l K ((cc.getD i []).map iu)) := by rw [List.getElem?_map, getD_at' (d := []) (by omega), Option.map_some, x1]
      have m1 : (i + 1) * C = i * C + C := Nat.succ_mul i C
      have f1 : IntKind.i64.wrap ((i : Int) * (C : Int)) = ((i * C : Nat) : Int) := by rw [← Int.natCast_mul]; exact iw_of (by omega) (by omega)
      have f2 : IntKind.i64.wrap (((i : Int) + 1) * (C : Int)) = ((i * C + C : Nat) : Int) := by
        rw [show ((i : Int) + 1) * (C : Int) = ((i * C + C : Nat) : Int) by rw [← m1]; push_cast; rfl]; exact iw_of (by omega) (by omega)
      have f3 : i * C + C - i * C = C := by omega
      have f5 : i * C ≤ i * C + C := by omega
      repeat (first | refine X_opc rfl ?_ | refine X_dopc rfl ?_ | refine ⟨(by show drawK _ _ = true; kernel_rfl : drawX _ _ _), ?_⟩ | exact (by show drawK _ _ = true; kernel_rfl : drawX _ _ _) | simp -dsimp (maxSteps := 20000000) (disch := omega) only [simx, zzC, zzB, tys, ite_self, opnL, callB, callX, readsB, stepOp, nilCmp, ofVal, opBuiltin, opLen, PV.sk, scalBin, scalUn, intBin, opLoad, natOf, opConvert, opField, cellsP, oneP, Value.oneCell', opStore, toIV, scalT, scalA, scalC, boxesA, boxesC, zipB_none, zipB_mx, isZ, opZip, zeroP, opAppendZ, opMakeMap, opLookup, mboxB, opUpdate, ↓reduceIte, Nat.reduceSub, Nat.reduceEqDiff, Nat.reduceAdd, Nat.reduceMul, Nat.reduceLT, Nat.reduceLeDiff, Int.reduceToNat, Int.reduceLE, Int.reduceLT, Int.reduceNeg, reduceCtorEq, gos, Int.reduceAdd, Int.reduceSub, Int.reduceMul, Int.reduceEq, ci, g1, f1, f2, f3, f5, bi, hc, SK.len, Option.isNone_none])
      clear g1 f1 f2 f3 f5
      refine X_loopH [0, 3, 5, 8, 10, 13, 67, 68, 69, 84, 85, 86] [] (0) (K) (fun j => True) (fun j => [(85, i64 K), (86, i64 j)]) (fun j => ((((Heap.none.put ((0, 0) :: base) (.var [li rw0, li cw, llP cc, llP uu])).put ((0, 1) :: base) (.var [i64 0, i64 0, nilP])).put ((3, 5) :: base) (.row false ((tbl (R * C) (mkF p cc uu K C i j 0)).map iu))).put ((3, 7) :: base) (.var [i64 R, i64 C, .view ((3, 5) :: base) 0 1 (R * C) (R * C)]))) ?_ ?_ ?_ ?_ ?_ (by decide) ?_
      · exact (fgt_nil)
      · ((simp -dsimp (disch := omega) only [simx, zzB, tys, ite_self, opnL, callB, callX, readsB, stepOp, nilCmp, ofVal, opBuiltin, opLen, PV.sk, scalBin, scalUn, intBin, opLoad, natOf, opConvert, opField, cellsP, oneP, Value.oneCell', opStore, toIV, scalT, scalA, scalC, boxesA, boxesC, zipB_none, zipB_mx, isZ, opZip, zeroP, opAppendZ, opMakeMap, opLookup, mboxB, opUpdate, ↓reduceIte, Nat.reduceSub, Nat.reduceEqDiff, Nat.reduceAdd, Nat.reduceMul, Nat.reduceLT, Nat.reduceLeDiff, Int.reduceToNat, Int.reduceLE, Int.reduceLT, Int.reduceNeg, reduceCtorEq, gos, Int.reduceAdd, Int.reduceSub, Int.reduceMul, Int.reduceEq]) <;> first | rfl | simp)
      · funext c
        simp (maxSteps := 20000000) only [Heap.drop_at, rowH_app, Heap.put_at, Heap.none_at, List.mem_cons, List.not_mem_nil, or_false]
        by_cases e0 : c = (0, 0) :: base
        · subst e0; simp []
        by_cases e1 : c = (0, 1) :: base
        · subst e1; simp []
        by_cases e2 : c = (3, 5) :: base
        · subst e2; simp []
        by_cases e3 : c = (3, 7) :: base
        · subst e3; simp []
        simp [e0, e1, e2, e3]
      · omega
      · trivial
      · intro k hk _
        by_cases ck : k < K
        · obtain ⟨y1, y2⟩ := hu2 (uu.getD k []) (getD_mm (by omega))
          have g1 : ((cc.getD i []).map iu)[k]? = some (iu ((cc.getD i []).getD k 0)) := by rw [List.getElem?_map, getD_some x1 ck]; rfl
          have g2 : (uu.map fun u => IV.l u.length (u.map iu))[k]? = some (.l C ((uu.getD k []).map iu)) := by rw [List.getElem?_map, getD_at' (d := []) (by omega), Option.map_some, y1]
          have xi := getD_of x2 (i := k) (by omega)
          obtain ⟨x, hx⟩ : ∃ x, (cc.getD i []).getD k 0 = x := ⟨_, rfl⟩
          rw [hx] at g1 xi
          obtain ⟨Y, hY⟩ : ∃ Y, uu.getD k [] = Y := ⟨_, rfl⟩
          rw [hY] at g2 y1 y2
          have gs : ∀ q, mkG p cc uu i q (k + 1) = (mkG p cc uu i q k + x * Y.getD q 0 % p) % p := fun q => by unfold mkG; rw [mkP, hx, hY]
          repeat (first | refine X_opc rfl ?_ | refine X_dopc rfl ?_ | refine ⟨(by show drawK _ _ = true; kernel_rfl : drawX _ _ _), ?_⟩ | exact (by show drawK _ _ = true; kernel_rfl : drawX _ _ _) | simp -dsimp (maxSteps := 20000000) (disch := omega) only [simx, zzC, zzB, tys, ite_self, opnL, callB, callX, readsB, stepOp, nilCmp, ofVal, opBuiltin, opLen, PV.sk, scalBin, scalUn, intBin, opLoad, natOf, opConvert, opField, cellsP, oneP, Value.oneCell', opStore, toIV, scalT, scalA, scalC, boxesA, boxesC, zipB_none, zipB_mx, isZ, opZip, zeroP, opAppendZ, opMakeMap, opLookup, mboxB, opUpdate, ↓reduceIte, Nat.reduceSub, Nat.reduceEqDiff, Nat.reduceAdd, Nat.reduceMul, Nat.reduceLT, Nat.reduceLeDiff, Int.reduceToNat, Int.reduceLE, Int.reduceLT, Int.reduceNeg, reduceCtorEq, gos, Int.reduceAdd, Int.reduceSub, Int.reduceMul, Int.reduceEq, ck, g1, g2, hu, SK.len])
          clear g1 g2
          refine X_loopH [0, 3, 5, 8, 10, 13, 15, 67, 68, 69, 84, 85, 86, 95, 96, 97] [] (0) (C) (fun j => True) (fun j => [(96, i64 C), (97, i64 j)]) (fun j => ((((Heap.none.put ((0, 0) :: base) (.var [li rw0, li cw, llP cc, llP uu])).put ((0, 1) :: base) (.var [i64 0, i64 0, nilP])).put ((3, 5) :: base) (.row false ((tbl (R * C) (mkF p cc uu K C i k j)).map iu))).put ((3, 7) :: base) (.var [i64 R, i64 C, .view ((3, 5) :: base) 0 1 (R * C) (R * C)]))) ?_ ?_ ?_ ?_ ?_ (by decide) ?_
          · exact (fgt_nil)
          · ((simp -dsimp (disch := omega) only [simx, zzB, tys, ite_self, opnL, callB, callX, readsB, stepOp, nilCmp, ofVal, opBuiltin, opLen, PV.sk, scalBin, scalUn, intBin, opLoad, natOf, opConvert, opField, cellsP, oneP, Value.oneCell', opStore, toIV, scalT, scalA, scalC, boxesA, boxesC, zipB_none, zipB_mx, isZ, opZip, zeroP, opAppendZ, opMakeMap, opLookup, mboxB, opUpdate, ↓reduceIte, Nat.reduceSub, Nat.reduceEqDiff, Nat.reduceAdd, Nat.reduceMul, Nat.reduceLT, Nat.reduceLeDiff, Int.reduceToNat, Int.reduceLE, Int.reduceLT, Int.reduceNeg, reduceCtorEq, gos, Int.reduceAdd, Int.reduceSub, Int.reduceMul, Int.reduceEq]) <;> first | rfl | simp)
          · funext c
            simp (maxSteps := 20000000) only [Heap.drop_at, rowH_app, Heap.put_at, Heap.none_at, List.mem_cons, List.not_mem_nil, or_false]
            by_cases e0 : c = (0, 0) :: base
            · subst e0; simp []
            by_cases e1 : c = (0, 1) :: base
            · subst e1; simp []
            by_cases e2 : c = (3, 5) :: base
            · subst e2; simp []
            by_cases e3 : c = (3, 7) :: base
            · subst e3; simp []
            simp [e0, e1, e2, e3]
          · omega
          · trivial
          · intro q hq _
            by_cases cq : q < C
            · have g3 : (Y.map iu)[q]? = some (iu (Y.getD q 0)) := by rw [List.getElem?_map, getD_some y1 cq]; rfl
              have lt : i * C + q < R * C := by omega
              have g4 : ((tbl (R * C) (mkF p cc uu K C i k q)).map iu)[i * C + q]? = some (iu (mkG p cc uu i q k)) := by rw [List.getElem?_map, tbl_get? _ lt, mkF_at cq]; rfl
              have px := tbl_put_iu (mkF p cc uu K C i k q) (mkG p cc uu i q (k + 1)) lt
              rw [mkF_s cq] at px
              have tl := tbl_len (R * C) (mkF p cc uu K C i k q)
              have n1 := Mul_in hp xi (getD_of y2 (i := q) (by omega))
              have n2 := Add_in hp (show In p (mkG p cc uu i q k) from mkP_in hp _ _ k) (in_emod hp (x * Y.getD q 0))
              rw [← gs q] at n2
              generalize mkG p cc uu i q (k + 1) = D1 at n2 px
              generalize mkG p cc uu i q k = D0 at n2 g4
              generalize x * Y.getD q 0 % p = D2 at n1 n2
              generalize Y.getD q 0 = y at g3 n1
              have lt2 : i * C + q + 1 ≤ R * C := by omega
              repeat (first | ((first | refine X_call_fn2 rfl (by simp only [tys]) ?_ | refine X_dcall_fn2 rfl (by simp only [tys]) ?_); apply Exists.intro; apply And.intro; (focus (simp -dsimp only [simx, zzC, zzB, tys, ite_self, opnL, callB, callX, readsB, stepOp, nilCmp, ofVal, opBuiltin, opLen, PV.sk, scalBin, scalUn, intBin, opLoad, natOf, opConvert, opField, cellsP, oneP, Value.oneCell', opStore, toIV, scalT, scalA, scalC, boxesA, boxesC, zipB_none, zipB_mx, isZ, opZip, zeroP, opAppendZ, opMakeMap, opLookup, mboxB, opUpdate, ↓reduceIte, Nat.reduceSub, Nat.reduceEqDiff, Nat.reduceAdd, Nat.reduceMul, Nat.reduceLT, Nat.reduceLeDiff, Int.reduceToNat, Int.reduceLE, Int.reduceLT, Int.reduceNeg, reduceCtorEq, zzL, if_true, if_false] <;> rfl)); apply Exists.intro; apply And.intro; (focus (first | exact n1 | exact n2))) | refine X_opc rfl ?_ | refine X_dopc rfl ?_ | refine ⟨(by show drawK _ _ = true; kernel_rfl : drawX _ _ _), ?_⟩ | exact (by show drawK _ _ = true; kernel_rfl : drawX _ _ _) | simp -dsimp (maxSteps := 20000000) (disch := omega) only [simx, zzC, zzB, tys, ite_self, opnL, callB, callX, readsB, stepOp, nilCmp, ofVal, opBuiltin, opLen, PV.sk, scalBin, scalUn, intBin, opLoad, natOf, opConvert, opField, cellsP, oneP, Value.oneCell', opStore, toIV, scalT, scalA, scalC, boxesA, boxesC, zipB_none, zipB_mx, isZ, opZip, zeroP, opAppendZ, opMakeMap, opLookup, mboxB, opUpdate, ↓reduceIte, Nat.reduceSub, Nat.reduceEqDiff, Nat.reduceAdd, Nat.reduceMul, Nat.reduceLT, Nat.reduceLeDiff, Int.reduceToNat, Int.reduceLE, Int.reduceLT, Int.reduceNeg, reduceCtorEq, gos, Int.reduceAdd, Int.reduceSub, Int.reduceMul, Int.reduceEq, cq, g3, g4, lt, lt2, tl, List.length_map, SK.len])
              refine ⟨cq, (fgt_nil), ?_, ?_⟩
              · rfl
              · rw [drop_nil, ← px]
                funext c
                simp (maxSteps := 20000000) only [Heap.drop_at, rowH_app, Heap.put_at, Heap.none_at, List.mem_cons, List.not_mem_nil, or_false]
                by_cases e0 : c = (0, 0) :: base
                · subst e0; simp []
                by_cases e1 : c = (0, 1) :: base
                · subst e1; simp []
                by_cases e2 : c = (3, 5) :: base
                · subst e2; simp []
                by_cases e3 : c = (3, 7) :: base
                · subst e3; simp []
                simp [e0, e1, e2, e3]
            · have eq : C = q := by omega
              subst eq
              repeat (first | refine X_opc rfl ?_ | refine X_dopc rfl ?_ | refine ⟨(by show drawK _ _ = true; kernel_rfl : drawX _ _ _), ?_⟩ | exact (by show drawK _ _ = true; kernel_rfl : drawX _ _ _) | simp -dsimp (maxSteps := 20000000) (disch := omega) only [simx, zzC, zzB, tys, ite_self, opnL, callB, callX, readsB, stepOp, nilCmp, ofVal, opBuiltin, opLen, PV.sk, scalBin, scalUn, intBin, opLoad, natOf, opConvert, opField, cellsP, oneP, Value.oneCell', opStore, toIV, scalT, scalA, scalC, boxesA, boxesC, zipB_none, zipB_mx, isZ, opZip, zeroP, opAppendZ, opMakeMap, opLookup, mboxB, opUpdate, ↓reduceIte, Nat.reduceSub, Nat.reduceEqDiff, Nat.reduceAdd, Nat.reduceMul, Nat.reduceLT, Nat.reduceLeDiff, Int.reduceToNat, Int.reduceLE, Int.reduceLT, Int.reduceNeg, reduceCtorEq, gos, Int.reduceAdd, Int.reduceSub, Int.reduceMul, Int.reduceEq])
              refine ⟨ck, (fgt_nil), ?_, ?_⟩
              · rfl
              · rw [drop_nil, mkF_q c1]
        · have ek : K = k := by omega
          subst ek
          repeat (first | refine X_opc rfl ?_ | refine X_dopc rfl ?_ | refine ⟨(by show drawK _ _ = true; kernel_rfl : drawX _ _ _), ?_⟩ | exact (by show drawK _ _ = true; kernel_rfl : drawX _ _ _) | simp -dsimp (maxSteps := 20000000) (disch := omega) only [simx, zzC, zzB, tys, ite_self, opnL, callB, callX, readsB, stepOp, nilCmp, ofVal, opBuiltin, opLen, PV.sk, scalBin, scalUn, intBin, opLoad, natOf, opConvert, opField, cellsP, oneP, Value.oneCell', opStore, toIV, scalT, scalA, scalC, boxesA, boxesC, zipB_none, zipB_mx, isZ, opZip, zeroP, opAppendZ, opMakeMap, opLookup, mboxB, opUpdate, ↓reduceIte, Nat.reduceSub, Nat.reduceEqDiff, Nat.reduceAdd, Nat.reduceMul, Nat.reduceLT, Nat.reduceLeDiff, Int.reduceToNat, Int.reduceLE, Int.reduceLT, Int.reduceNeg, reduceCtorEq, gos, Int.reduceAdd, Int.reduceSub, Int.reduceMul, Int.reduceEq])
          refine ⟨ci, (fgt_nil), ?_, ?_⟩
          · rfl
          · rw [drop_nil, mkF_k]
    · have ei : R = i := by omega
      subst ei
      have tk : ((tbl (R * C) (mkF p cc uu K C R 0 0)).map iu).take (R * C) = (tbl (R * C) (mkF p cc uu K C R 0 0)).map iu := List.take_of_length_le (by rw [List.length_map, tbl_len]; exact Nat.le_refl _)
      rw [show matP (R : Int) (C : Int) (tbl (R * C) (mkF p cc uu K C R 0 0)) = .agg [i64 R, i64 C, .i (.l (R * C) ((tbl (R * C) (mkF p cc uu K C R 0 0)).map iu))] by simp [lu, tbl_len]]
      repeat (first | refine X_opc rfl ?_ | refine X_dopc rfl ?_ | refine ⟨(by show drawK _ _ = true; kernel_rfl : drawX _ _ _), ?_⟩ | exact (by show drawK _ _ = true; kernel_rfl : drawX _ _ _) | simp -dsimp (maxSteps := 20000000) (disch := omega) only [simx, zzC, zzB, tys, ite_self, opnL, callB, callX, readsB, stepOp, nilCmp, ofVal, opBuiltin, opLen, PV.sk, scalBin, scalUn, intBin, opLoad, natOf, opConvert, opField, cellsP, oneP, Value.oneCell', opStore, toIV, scalT, scalA, scalC, boxesA, boxesC, zipB_none, zipB_mx, isZ, opZip, zeroP, opAppendZ, opMakeMap, opLookup, mboxB, opUpdate, ↓reduceIte, Nat.reduceSub, Nat.reduceEqDiff, Nat.reduceAdd, Nat.reduceMul, Nat.reduceLT, Nat.reduceLeDiff, Int.reduceToNat, Int.reduceLE, Int.reduceLT, Int.reduceNeg, reduceCtorEq, zzR, gos, Int.reduceAdd, Int.reduceSub, Int.reduceMul, Int.reduceEq, List.length_map, tbl_len])
      rw [tk]
end Go.Proofs.Ythnfphgjfpcpbaa.TM
namespace Go.Proofs.Ythnfphgjfpcpbaa.TM
open Go Go.RowKit
attribute [local irreducible] K W WOps Effs Xg Xo Xr Xdg Xdo Xdr Xif CallsP CallR
def sameMB (r c : Int) (l : List Int) (r' c' : Int) (l' : List Int) : Bool := decide (r = r') && (decide (c = c') && decide (l = l'))
theorem msame_walk (r c : Int) (l : List Int) (r' c' : Int) (l' : List Int) (hl : l.length ≤ maxLen) : CallsP Try.prog 41 [matP r c l, matP r' c' l'] (bl (sameMB r c l r' c' l')) := by
  have q := same_walk l l' hl
  unfold sameMB
  generalize decide (l = l') = s at q
  by_cases h1 : r = r'
  · rw [decide_eq_true h1]
    by_cases h2 : c = c'
    · rw [decide_eq_true h2]
      refine X_startP (n := 24) (m := 2) (rs := [.tmp 4]) Try.func41 rfl rfl rfl rfl (by decide) fun base => ?_
      repeat (first | ((first | refine X_call_fn2 rfl (by simp only [tys]) ?_ | refine X_dcall_fn2 rfl (by simp only [tys]) ?_); apply Exists.intro; apply And.intro; (focus (simp -dsimp only [simx, zzC, zzB, tys, ite_self, opnL, callB, callX, readsB, stepOp, nilCmp, ofVal, opBuiltin, opLen, PV.sk, scalBin, scalUn, intBin, opLoad, natOf, opConvert, opField, cellsP, oneP, Value.oneCell', opStore, toIV, scalT, scalA, scalC, boxesA, boxesC, zipB_none, zipB_mx, isZ, opZip, zeroP, opAppendZ, opMakeMap, opLookup, mboxB, opUpdate, ↓reduceIte, Nat.reduceSub, Nat.reduceEqDiff, Nat.reduceAdd, Nat.reduceMul, Nat.reduceLT, Nat.reduceLeDiff, Int.reduceToNat, Int.reduceLE, Int.reduceLT, Int.reduceNeg, reduceCtorEq, zzL, if_true, if_false] <;> rfl)); apply Exists.intro; apply And.intro; (focus (first | exact q))) | refine X_opc rfl ?_ | refine X_dopc rfl ?_ | refine ⟨(by show drawK _ _ = true; kernel_rfl : drawX _ _ _), ?_⟩ | exact (by show drawK _ _ = true; kernel_rfl : drawX _ _ _) | simp -dsimp (maxSteps := 20000000) (disch := omega) only [simx, zzC, zzB, tys, ite_self, opnL, callB, callX, readsB, stepOp, nilCmp, ofVal, opBuiltin, opLen, PV.sk, scalBin, scalUn, intBin, opLoad, natOf, opConvert, opField, cellsP, oneP, Value.oneCell', opStore, toIV, scalT, scalA, scalC, boxesA, boxesC, zipB_none, zipB_mx, isZ, opZip, zeroP, opAppendZ, opMakeMap, opLookup, mboxB, opUpdate, ↓reduceIte, Nat.reduceSub, Nat.reduceEqDiff, Nat.reduceAdd, Nat.reduceMul, Nat.reduceLT, Nat.reduceLeDiff, Int.reduceToNat, Int.reduceLE, Int.reduceLT, Int.reduceNeg, reduceCtorEq, zzR, gos, Int.reduceAdd, Int.reduceSub, Int.reduceMul, Int.reduceEq])
    · rw [decide_eq_false h2]
      refine X_startP (n := 24) (m := 2) (rs := [.tmp 4]) Try.func41 rfl rfl rfl rfl (by decide) fun base => ?_
      repeat (first | ((first | refine X_call_fn2 rfl (by simp only [tys]) ?_ | refine X_dcall_fn2 rfl (by simp only [tys]) ?_); apply Exists.intro; apply And.intro; (focus (simp -dsimp only [simx, zzC, zzB, tys, ite_self, opnL, callB, callX, readsB, stepOp, nilCmp, ofVal, opBuiltin, opLen, PV.sk, scalBin, scalUn, intBin, opLoad, natOf, opConvert, opField, cellsP, oneP, Value.oneCell', opStore, toIV, scalT, scalA, scalC, boxesA, boxesC, zipB_none, zipB_mx, isZ, opZip, zeroP, opAppendZ, opMakeMap, opLookup, mboxB, opUpdate, ↓reduceIte, Nat.reduceSub, Nat.reduceEqDiff, Nat.reduceAdd, Nat.reduceMul, Nat.reduceLT, Nat.reduceLeDiff, Int.reduceToNat, Int.reduceLE, Int.reduceLT, Int.reduceNeg, reduceCtorEq, zzL, if_true, if_false] <;> rfl)); apply Exists.intro; apply And.intro; (focus (first | exact q))) | refine X_opc rfl ?_ | refine X_dopc rfl ?_ | refine ⟨(by show drawK _ _ = true; kernel_rfl : drawX _ _ _), ?_⟩ | exact (by show drawK _ _ = true; kernel_rfl : drawX _ _ _) | simp -dsimp (maxSteps := 20000000) (disch := omega) only [simx, zzC, zzB, tys, ite_self, opnL, callB, callX, readsB, stepOp, nilCmp, ofVal, opBuiltin, opLen, PV.sk, scalBin, scalUn, intBin, opLoad, natOf, opConvert, opField, cellsP, oneP, Value.oneCell', opStore, toIV, scalT, scalA, scalC, boxesA, boxesC, zipB_none, zipB_mx, isZ, opZip, zeroP, opAppendZ, opMakeMap, opLookup, mboxB, opUpdate, ↓reduceIte, Nat.reduceSub, Nat.reduceEqDiff, Nat.reduceAdd, Nat.reduceMul, Nat.reduceLT, Nat.reduceLeDiff, Int.reduceToNat, Int.reduceLE, Int.reduceLT, Int.reduceNeg, reduceCtorEq, zzR, gos, Int.reduceAdd, Int.reduceSub, Int.reduceMul, Int.reduceEq])
  · rw [decide_eq_false h1]
    refine X_startP (n := 24) (m := 2) (rs := [.tmp 4]) Try.func41 rfl rfl rfl rfl (by decide) fun base => ?_
    repeat (first | ((first | refine X_call_fn2 rfl (by simp only [tys]) ?_ | refine X_dcall_fn2 rfl (by simp only [tys]) ?_); apply Exists.intro; apply And.intro; (focus (simp -dsimp only [simx, zzC, zzB, tys, ite_self, opnL, callB, callX, readsB, stepOp, nilCmp, ofVal, opBuiltin, opLen, PV.sk, scalBin, scalUn, intBin, opLoad, natOf, opConvert, opField, cellsP, oneP, Value.oneCell', opStore, toIV, scalT, scalA, scalC, boxesA, boxesC, zipB_none, zipB_mx, isZ, opZip, zeroP, opAppendZ, opMakeMap, opLookup, mboxB, opUpdate, ↓reduceIte, Nat.reduceSub, Nat.reduceEqDiff, Nat.reduceAdd, Nat.reduceMul, Nat.reduceLT, Nat.reduceLeDiff, Int.reduceToNat, Int.reduceLE, Int.reduceLT, Int.reduceNeg, reduceCtorEq, zzL, if_true, if_false] <;> rfl)); apply Exists.intro; apply And.intro; (focus (first | exact q))) | refine X_opc rfl ?_ | refine X_dopc rfl ?_ | refine ⟨(by show drawK _ _ = true; kernel_rfl : drawX _ _ _), ?_⟩ | exact (by show drawK _ _ = true; kernel_rfl : drawX _ _ _) | simp -dsimp (maxSteps := 20000000) (disch := omega) only [simx, zzC, zzB, tys, ite_self, opnL, callB, callX, readsB, stepOp, nilCmp, ofVal, opBuiltin, opLen, PV.sk, scalBin, scalUn, intBin, opLoad, natOf, opConvert, opField, cellsP, oneP, Value.oneCell', opStore, toIV, scalT, scalA, scalC, boxesA, boxesC, zipB_none, zipB_mx, isZ, opZip, zeroP, opAppendZ, opMakeMap, opLookup, mboxB, opUpdate, ↓reduceIte, Nat.reduceSub, Nat.reduceEqDiff, Nat.reduceAdd, Nat.reduceMul, Nat.reduceLT, Nat.reduceLeDiff, Int.reduceToNat, Int.reduceLE, Int.reduceLT, Int.reduceNeg, reduceCtorEq, zzR, gos, Int.reduceAdd, Int.reduceSub, Int.reduceMul, Int.reduceEq])
theorem at_walk {r c i k : Nat} {l : List Int} (hl : l.length = r * c) (hr : r ≤ 64) (hc : c ≤ 64) (hi : i < r) (hk : k < c) : CallsP Try.prog 74 [matP r c l, i64 i, i64 k] (u64 (l.getD (i * c + k) 0)) := by
  have b1 := ic_bd (c := c) hi
  have b2 := rc_bd hr hc
  have e1 : IntKind.i64.wrap ((i : Int) * (c : Int)) = ((i * c : Nat) : Int) := by rw [← Int.natCast_mul]; exact iw_of (by omega) (by omega)
  have e2 : IntKind.i64.wrap (((i * c : Nat) : Int) + (k : Int)) = ((i * c + k : Nat) : Int) := by rw [← Int.natCast_add]; exact iw_of (by omega) (by omega)
  have e3 : i * c + k < l.length := by omega
  have g : l[i * c + k]? = some l[i * c + k] := List.getElem?_eq_getElem e3
  rw [List.getD_eq_getElem?_getD, g, Option.getD_some]
  refine X_startP (n := 17) (m := 3) (rs := [.tmp 6]) Try.func74 rfl rfl rfl rfl (by decide) fun base => ?_
  repeat (first | refine X_opc rfl ?_ | refine X_dopc rfl ?_ | refine ⟨(by show drawK _ _ = true; kernel_rfl : drawX _ _ _), ?_⟩ | exact (by show drawK _ _ = true; kernel_rfl : drawX _ _ _) | simp -dsimp (maxSteps := 20000000) (disch := omega) only [simx, zzC, zzB, tys, ite_self, opnL, callB, callX, readsB, stepOp, nilCmp, ofVal, opBuiltin, opLen, PV.sk, scalBin, scalUn, intBin, opLoad, natOf, opConvert, opField, cellsP, oneP, Value.oneCell', opStore, toIV, scalT, scalA, scalC, boxesA, boxesC, zipB_none, zipB_mx, isZ, opZip, zeroP, opAppendZ, opMakeMap, opLookup, mboxB, opUpdate, ↓reduceIte, Nat.reduceSub, Nat.reduceEqDiff, Nat.reduceAdd, Nat.reduceMul, Nat.reduceLT, Nat.reduceLeDiff, Int.reduceToNat, Int.reduceLE, Int.reduceLT, Int.reduceNeg, reduceCtorEq, zzR, gos, Int.reduceAdd, Int.reduceSub, Int.reduceMul, Int.reduceEq, e1, e2, e3, g])
end Go.Proofs.Ythnfphgjfpcpbaa.TM
namespace Go.Proofs.Ythnfphgjfpcpbaa.TM
open Go Go.RowKit
attribute [local irreducible] K W WOps Effs Xg Xo Xr Xdg Xdo Xdr Xif CallsP CallR
theorem prm7 : Prm 7 := ⟨by decide, fun a h0 h1 => by
  have : a = 1 ∨ a = 2 ∨ a = 3 ∨ a = 4 ∨ a = 5 ∨ a = 6 := by omega
  rcases this with rfl | rfl | rfl | rfl | rfl | rfl <;> decide⟩
end Go.Proofs.Ythnfphgjfpcpbaa.TM
namespace Go.Proofs.Ythnfphgjfpcpbaa.TM
open Go Go.RowKit
attribute [local irreducible] K W WOps Effs Xg Xo Xr Xdg Xdo Xdr Xif CallsP CallR
theorem w64_of_in {P : Int} (hp : Md P) {l : List Int} (h : ∀ a ∈ l, In P a) : W64s l := fun a ha => in_w64 hp (h a ha)
end Go.Proofs.Ythnfphgjfpcpbaa.TM
namespace Go.Proofs.Ythnfphgjfpcpbaa.TM
open Go Go.RowKit
attribute [local irreducible] K W WOps Effs Xg Xo Xr Xdg Xdo Xdr Xif CallsP CallR
theorem take_nextP {α : Type} {a b : List α} {j : Nat} (h1 : j < a.length) (h2 : j < b.length) (h : a.take j = b.take j) (e : a[j] = b[j]) : a.take (j + 1) = b.take (j + 1) := by
  rw [List.take_succ_eq_append_getElem h1, List.take_succ_eq_append_getElem h2, h, e]
theorem same6_walk (a b : List Int) (hl : a.length ≤ maxLen) : CallsP Try.prog 50 [li a, li b] (bl (decide (a = b))) := by
  rw [mx_len] at hl
  by_cases c0 : a.length = b.length
  · have c0' : (a.length : Int) = (b.length : Int) := by omega
    refine X_startP (n := 26) (m := 2) (rs := [.tmp 4]) Try.func50 rfl rfl rfl rfl (by decide) fun base => ?_
    repeat (first | refine X_opc rfl ?_ | refine X_dopc rfl ?_ | refine ⟨(by show drawK _ _ = true; kernel_rfl : drawX _ _ _), ?_⟩ | exact (by show drawK _ _ = true; kernel_rfl : drawX _ _ _) | simp -dsimp (maxSteps := 20000000) (disch := omega) only [simx, zzC, zzB, tys, ite_self, opnL, callB, callX, readsB, stepOp, nilCmp, ofVal, opBuiltin, opLen, PV.sk, scalBin, scalUn, intBin, opLoad, natOf, opConvert, opField, cellsP, oneP, Value.oneCell', opStore, toIV, scalT, scalA, scalC, boxesA, boxesC, zipB_none, zipB_mx, isZ, opZip, zeroP, opAppendZ, opMakeMap, opLookup, mboxB, opUpdate, ↓reduceIte, Nat.reduceSub, Nat.reduceEqDiff, Nat.reduceAdd, Nat.reduceMul, Nat.reduceLT, Nat.reduceLeDiff, Int.reduceToNat, Int.reduceLE, Int.reduceLT, Int.reduceNeg, reduceCtorEq, gos, Int.reduceAdd, Int.reduceSub, Int.reduceMul, Int.reduceEq, c0'])
    refine X_loopH [0, 1, 5] [] (0) (a.length) (fun j => a.take j = b.take j) (fun j => [(5, i64 j)]) (fun j => Heap.none) ?_ ?_ ?_ ?_ ?_ (by decide) ?_
    · exact (fgt_nil)
    · ((simp -dsimp (disch := omega) only [simx, zzB, tys, ite_self, opnL, callB, callX, readsB, stepOp, nilCmp, ofVal, opBuiltin, opLen, PV.sk, scalBin, scalUn, intBin, opLoad, natOf, opConvert, opField, cellsP, oneP, Value.oneCell', opStore, toIV, scalT, scalA, scalC, boxesA, boxesC, zipB_none, zipB_mx, isZ, opZip, zeroP, opAppendZ, opMakeMap, opLookup, mboxB, opUpdate, ↓reduceIte, Nat.reduceSub, Nat.reduceEqDiff, Nat.reduceAdd, Nat.reduceMul, Nat.reduceLT, Nat.reduceLeDiff, Int.reduceToNat, Int.reduceLE, Int.reduceLT, Int.reduceNeg, reduceCtorEq, gos, Int.reduceAdd, Int.reduceSub, Int.reduceMul, Int.reduceEq]) <;> first | rfl | simp)
    · exact drop_nil _
    · omega
    · rfl
    · intro j hj hf
      by_cases c : j < a.length
      · have c' : j < b.length := by omega
        have g1 : a[j]? = some a[j] := List.getElem?_eq_getElem c
        have g2 : b[j]? = some b[j] := List.getElem?_eq_getElem c'
        by_cases e : a[j] = b[j]
        · have nx := take_nextP c c' hf e
          repeat (first | refine X_opc rfl ?_ | refine X_dopc rfl ?_ | refine ⟨(by show drawK _ _ = true; kernel_rfl : drawX _ _ _), ?_⟩ | exact (by show drawK _ _ = true; kernel_rfl : drawX _ _ _) | simp -dsimp (maxSteps := 20000000) (disch := omega) only [simx, zzC, zzB, tys, ite_self, opnL, callB, callX, readsB, stepOp, nilCmp, ofVal, opBuiltin, opLen, PV.sk, scalBin, scalUn, intBin, opLoad, natOf, opConvert, opField, cellsP, oneP, Value.oneCell', opStore, toIV, scalT, scalA, scalC, boxesA, boxesC, zipB_none, zipB_mx, isZ, opZip, zeroP, opAppendZ, opMakeMap, opLookup, mboxB, opUpdate, ↓reduceIte, Nat.reduceSub, Nat.reduceEqDiff, Nat.reduceAdd, Nat.reduceMul, Nat.reduceLT, Nat.reduceLeDiff, Int.reduceToNat, Int.reduceLE, Int.reduceLT, Int.reduceNeg, reduceCtorEq, gos, Int.reduceAdd, Int.reduceSub, Int.reduceMul, Int.reduceEq, c, c', g1, g2, e])
          exact ⟨c, (fgt_nil), nx, rfl, drop_nil _⟩
        · have ne : ¬ a = b := fun h => e (by subst h; rfl)
          rw [decide_eq_false ne]
          repeat (first | refine X_opc rfl ?_ | refine X_dopc rfl ?_ | refine ⟨(by show drawK _ _ = true; kernel_rfl : drawX _ _ _), ?_⟩ | exact (by show drawK _ _ = true; kernel_rfl : drawX _ _ _) | simp -dsimp (maxSteps := 20000000) (disch := omega) only [simx, zzC, zzB, tys, ite_self, opnL, callB, callX, readsB, stepOp, nilCmp, ofVal, opBuiltin, opLen, PV.sk, scalBin, scalUn, intBin, opLoad, natOf, opConvert, opField, cellsP, oneP, Value.oneCell', opStore, toIV, scalT, scalA, scalC, boxesA, boxesC, zipB_none, zipB_mx, isZ, opZip, zeroP, opAppendZ, opMakeMap, opLookup, mboxB, opUpdate, ↓reduceIte, Nat.reduceSub, Nat.reduceEqDiff, Nat.reduceAdd, Nat.reduceMul, Nat.reduceLT, Nat.reduceLeDiff, Int.reduceToNat, Int.reduceLE, Int.reduceLT, Int.reduceNeg, reduceCtorEq, zzR, gos, Int.reduceAdd, Int.reduceSub, Int.reduceMul, Int.reduceEq, c, c', g1, g2, e])
      · have hj : j = a.length := by omega
        subst hj
        have e : a = b := by rw [List.take_length, c0, List.take_length] at hf; exact hf
        rw [decide_eq_true e]
        repeat (first | refine X_opc rfl ?_ | refine X_dopc rfl ?_ | refine ⟨(by show drawK _ _ = true; kernel_rfl : drawX _ _ _), ?_⟩ | exact (by show drawK _ _ = true; kernel_rfl : drawX _ _ _) | simp -dsimp (maxSteps := 20000000) (disch := omega) only [simx, zzC, zzB, tys, ite_self, opnL, callB, callX, readsB, stepOp, nilCmp, ofVal, opBuiltin, opLen, PV.sk, scalBin, scalUn, intBin, opLoad, natOf, opConvert, opField, cellsP, oneP, Value.oneCell', opStore, toIV, scalT, scalA, scalC, boxesA, boxesC, zipB_none, zipB_mx, isZ, opZip, zeroP, opAppendZ, opMakeMap, opLookup, mboxB, opUpdate, ↓reduceIte, Nat.reduceSub, Nat.reduceEqDiff, Nat.reduceAdd, Nat.reduceMul, Nat.reduceLT, Nat.reduceLeDiff, Int.reduceToNat, Int.reduceLE, Int.reduceLT, Int.reduceNeg, reduceCtorEq, zzR, gos, Int.reduceAdd, Int.reduceSub, Int.reduceMul, Int.reduceEq])
  · have ne : ¬ a = b := fun h => c0 (by rw [h])
    have c0' : ¬ (a.length : Int) = (b.length : Int) := by omega
    rw [decide_eq_false ne]
    refine X_startP (n := 26) (m := 2) (rs := [.tmp 4]) Try.func50 rfl rfl rfl rfl (by decide) fun base => ?_
    repeat (first | refine X_opc rfl ?_ | refine X_dopc rfl ?_ | refine ⟨(by show drawK _ _ = true; kernel_rfl : drawX _ _ _), ?_⟩ | exact (by show drawK _ _ = true; kernel_rfl : drawX _ _ _) | simp -dsimp (maxSteps := 20000000) (disch := omega) only [simx, zzC, zzB, tys, ite_self, opnL, callB, callX, readsB, stepOp, nilCmp, ofVal, opBuiltin, opLen, PV.sk, scalBin, scalUn, intBin, opLoad, natOf, opConvert, opField, cellsP, oneP, Value.oneCell', opStore, toIV, scalT, scalA, scalC, boxesA, boxesC, zipB_none, zipB_mx, isZ, opZip, zeroP, opAppendZ, opMakeMap, opLookup, mboxB, opUpdate, ↓reduceIte, Nat.reduceSub, Nat.reduceEqDiff, Nat.reduceAdd, Nat.reduceMul, Nat.reduceLT, Nat.reduceLeDiff, Int.reduceToNat, Int.reduceLE, Int.reduceLT, Int.reduceNeg, reduceCtorEq, zzR, gos, Int.reduceAdd, Int.reduceSub, Int.reduceMul, Int.reduceEq, c0'])
end Go.Proofs.Ythnfphgjfpcpbaa.TM
namespace Go.Proofs.Ythnfphgjfpcpbaa.TM
open Go Go.RowKit
attribute [local irreducible] K W WOps Effs Xg Xo Xr Xdg Xdo Xdr Xif CallsP CallR
set_option maxHeartbeats 4000000 in
set_option maxRecDepth 100000 in
theorem awake07_walk : CallsP Try.prog 42 [] (bl true) := by
  have M : Mt ((7 : Nat) : Int) 2 2 [0, 2, 3, 4] := ⟨⟨by decide, by decide⟩, by decide, by decide, by decide, by decide, by decide, by decide⟩
  have hi : ∀ a ∈ [0, 2, 3, 4], In ((7 : Nat) : Int) a := by show ∀ x ∈ _, 0 ≤ x ∧ x < _; decide
  have d1 := take_yes prm7 M hi
  have d2 := det_yes prm7 M hi
  have d3 := make_yes (p := ((7 : Nat) : Int)) (R := 2) (C := 2) (K := 2) (rw0 := [0, 1]) (cw := [1, 0]) (cc := [[1, 0], [2, 1]]) (uu := [[0, 2], [3, 0]]) ⟨by decide, by decide⟩ (by decide) (by decide) (by decide) (by decide) rfl rfl (by decide)
    (by show ∀ x ∈ ([[1, 0], [2, 1]] : List (List Int)), x.length = 2 ∧ ∀ a ∈ x, 0 ≤ a ∧ a < ((7 : Nat) : Int); decide) (by show ∀ x ∈ ([[0, 2], [3, 0]] : List (List Int)), x.length = 2 ∧ ∀ a ∈ x, 0 ≤ a ∧ a < ((7 : Nat) : Int); decide)
  have d4 := rank_walk prm7 2 2 [0, 2, 3, 4] (by decide) (w64_of_in M.hp hi)
  have d5 := profile_walk prm7 2 2 [0, 2, 3, 4] (by decide) (w64_of_in M.hp hi)
  have d6 := minor_yes prm7 M hi (by decide +kernel) (by decide +kernel)
  have t : tkCup ((7 : Nat) : Int) 2 2 [0, 2, 3, 4] = ([0, 1], [1, 0], [[1, 0], [2, 1]], [[0, 2], [3, 0]]) := by decide +kernel
  rw [t] at d1 d6
  rw [show Lp 2 (cl 2 [0, 2, 3, 4]) % ((7 : Nat) : Int) = 1 by decide +kernel] at d2
  rw [show makeM ((7 : Nat) : Int) [[1, 0], [2, 1]] [[0, 2], [3, 0]] 2 2 2 = [0, 2, 3, 4] by decide +kernel] at d3
  unfold rankR at d4
  rw [show takeR ((7 : Nat) : Int) 2 2 [0, 2, 3, 4] = (([0, 1], [1, 0], [[1, 0], [2, 1]], [[0, 2], [3, 0]]), 0) by decide +kernel] at d4 d5
  rw [show pickM 2 [0, 2, 3, 4] [0, 1] (colS ([0, 1], [1, 0], [[1, 0], [2, 1]], [[0, 2], [3, 0]])) = [0, 2, 3, 4] by decide +kernel] at d6
  have d7 := msame_walk 2 2 [0, 2, 3, 4] 2 2 [0, 2, 3, 4] (by decide)
  rw [show sameMB 2 2 [0, 2, 3, 4] 2 2 [0, 2, 3, 4] = true by decide] at d7
  have d8 := same6_walk [0, 1] [0, 1] (by decide)
  rw [decide_eq_true rfl] at d8
  refine X_startP (n := 104) (m := 0) (rs := [.tmp 0]) Try.func42 rfl rfl rfl rfl (by decide) fun base => ?_
  repeat (first | ((first | refine X_call_fn2 rfl (by simp only [tys]) ?_ | refine X_dcall_fn2 rfl (by simp only [tys]) ?_); apply Exists.intro; apply And.intro; (focus (simp -dsimp only [simx, zzC, zzB, tys, ite_self, opnL, callB, callX, readsB, stepOp, nilCmp, ofVal, opBuiltin, opLen, PV.sk, scalBin, scalUn, intBin, opLoad, natOf, opConvert, opField, cellsP, oneP, Value.oneCell', opStore, toIV, scalT, scalA, scalC, boxesA, boxesC, zipB_none, zipB_mx, isZ, opZip, zeroP, opAppendZ, opMakeMap, opLookup, mboxB, opUpdate, ↓reduceIte, Nat.reduceSub, Nat.reduceEqDiff, Nat.reduceAdd, Nat.reduceMul, Nat.reduceLT, Nat.reduceLeDiff, Int.reduceToNat, Int.reduceLE, Int.reduceLT, Int.reduceNeg, reduceCtorEq, zzL, if_true, if_false] <;> rfl)); apply Exists.intro; apply And.intro; (focus (first | exact d1 | exact d2 | exact d3 | exact d4 | exact d5 | exact d6 | exact d7 | exact d8))) | refine X_opc rfl ?_ | refine X_dopc rfl ?_ | refine ⟨(by show drawK _ _ = true; kernel_rfl : drawX _ _ _), ?_⟩ | exact (by show drawK _ _ = true; kernel_rfl : drawX _ _ _) | simp -dsimp (maxSteps := 20000000) (disch := omega) only [simx, zzC, zzB, tys, ite_self, opnL, callB, callX, readsB, stepOp, nilCmp, ofVal, opBuiltin, opLen, PV.sk, scalBin, scalUn, intBin, opLoad, natOf, opConvert, opField, cellsP, oneP, Value.oneCell', opStore, toIV, scalT, scalA, scalC, boxesA, boxesC, zipB_none, zipB_mx, isZ, opZip, zeroP, opAppendZ, opMakeMap, opLookup, mboxB, opUpdate, ↓reduceIte, Nat.reduceSub, Nat.reduceEqDiff, Nat.reduceAdd, Nat.reduceMul, Nat.reduceLT, Nat.reduceLeDiff, Int.reduceToNat, Int.reduceLE, Int.reduceLT, Int.reduceNeg, reduceCtorEq, zzR, gos, Int.reduceAdd, Int.reduceSub, Int.reduceMul, Int.reduceEq, SK.len])
theorem prime7_walk (p : Nat) (hp : p < 18446744073709551616) : ∃ b, CallsP Try.prog 43 [u64 p] (bl b) ∧ (b = true → Prm p) := by
  by_cases c1 : (p : Int) = 2147483647
  · refine ⟨true, ?_, fun _ => by obtain rfl : p = 2147483647 := by omega
                                  exact prm31⟩
    refine X_startP (n := 17) (m := 1) (rs := [.tmp 2]) Try.func43 rfl rfl rfl rfl (by decide) fun base => ?_
    repeat (first | refine X_opc rfl ?_ | refine X_dopc rfl ?_ | refine ⟨(by show drawK _ _ = true; kernel_rfl : drawX _ _ _), ?_⟩ | exact (by show drawK _ _ = true; kernel_rfl : drawX _ _ _) | simp -dsimp (maxSteps := 20000000) (disch := omega) only [simx, zzC, zzB, tys, ite_self, opnL, callB, callX, readsB, stepOp, nilCmp, ofVal, opBuiltin, opLen, PV.sk, scalBin, scalUn, intBin, opLoad, natOf, opConvert, opField, cellsP, oneP, Value.oneCell', opStore, toIV, scalT, scalA, scalC, boxesA, boxesC, zipB_none, zipB_mx, isZ, opZip, zeroP, opAppendZ, opMakeMap, opLookup, mboxB, opUpdate, ↓reduceIte, Nat.reduceSub, Nat.reduceEqDiff, Nat.reduceAdd, Nat.reduceMul, Nat.reduceLT, Nat.reduceLeDiff, Int.reduceToNat, Int.reduceLE, Int.reduceLT, Int.reduceNeg, reduceCtorEq, zzR, gos, Int.reduceAdd, Int.reduceSub, Int.reduceMul, Int.reduceEq])
  by_cases c2 : (p : Int) = 2305843009213693951
  · refine ⟨true, ?_, fun _ => by obtain rfl : p = 2305843009213693951 := by omega
                                  exact prm61⟩
    refine X_startP (n := 17) (m := 1) (rs := [.tmp 2]) Try.func43 rfl rfl rfl rfl (by decide) fun base => ?_
    repeat (first | refine X_opc rfl ?_ | refine X_dopc rfl ?_ | refine ⟨(by show drawK _ _ = true; kernel_rfl : drawX _ _ _), ?_⟩ | exact (by show drawK _ _ = true; kernel_rfl : drawX _ _ _) | simp -dsimp (maxSteps := 20000000) (disch := omega) only [simx, zzC, zzB, tys, ite_self, opnL, callB, callX, readsB, stepOp, nilCmp, ofVal, opBuiltin, opLen, PV.sk, scalBin, scalUn, intBin, opLoad, natOf, opConvert, opField, cellsP, oneP, Value.oneCell', opStore, toIV, scalT, scalA, scalC, boxesA, boxesC, zipB_none, zipB_mx, isZ, opZip, zeroP, opAppendZ, opMakeMap, opLookup, mboxB, opUpdate, ↓reduceIte, Nat.reduceSub, Nat.reduceEqDiff, Nat.reduceAdd, Nat.reduceMul, Nat.reduceLT, Nat.reduceLeDiff, Int.reduceToNat, Int.reduceLE, Int.reduceLT, Int.reduceNeg, reduceCtorEq, zzR, gos, Int.reduceAdd, Int.reduceSub, Int.reduceMul, Int.reduceEq])
  by_cases c3 : (p : Int) < 1048576
  · obtain ⟨b, d, h⟩ := is_walk p (by omega)
    refine ⟨b, ?_, h⟩
    refine X_startP (n := 17) (m := 1) (rs := [.tmp 2]) Try.func43 rfl rfl rfl rfl (by decide) fun base => ?_
    repeat (first | ((first | refine X_call_fn2 rfl (by simp only [tys]) ?_ | refine X_dcall_fn2 rfl (by simp only [tys]) ?_); apply Exists.intro; apply And.intro; (focus (simp -dsimp only [simx, zzC, zzB, tys, ite_self, opnL, callB, callX, readsB, stepOp, nilCmp, ofVal, opBuiltin, opLen, PV.sk, scalBin, scalUn, intBin, opLoad, natOf, opConvert, opField, cellsP, oneP, Value.oneCell', opStore, toIV, scalT, scalA, scalC, boxesA, boxesC, zipB_none, zipB_mx, isZ, opZip, zeroP, opAppendZ, opMakeMap, opLookup, mboxB, opUpdate, ↓reduceIte, Nat.reduceSub, Nat.reduceEqDiff, Nat.reduceAdd, Nat.reduceMul, Nat.reduceLT, Nat.reduceLeDiff, Int.reduceToNat, Int.reduceLE, Int.reduceLT, Int.reduceNeg, reduceCtorEq, zzL, if_true, if_false] <;> rfl)); apply Exists.intro; apply And.intro; (focus (first | exact d))) | refine X_opc rfl ?_ | refine X_dopc rfl ?_ | refine ⟨(by show drawK _ _ = true; kernel_rfl : drawX _ _ _), ?_⟩ | exact (by show drawK _ _ = true; kernel_rfl : drawX _ _ _) | simp -dsimp (maxSteps := 20000000) (disch := omega) only [simx, zzC, zzB, tys, ite_self, opnL, callB, callX, readsB, stepOp, nilCmp, ofVal, opBuiltin, opLen, PV.sk, scalBin, scalUn, intBin, opLoad, natOf, opConvert, opField, cellsP, oneP, Value.oneCell', opStore, toIV, scalT, scalA, scalC, boxesA, boxesC, zipB_none, zipB_mx, isZ, opZip, zeroP, opAppendZ, opMakeMap, opLookup, mboxB, opUpdate, ↓reduceIte, Nat.reduceSub, Nat.reduceEqDiff, Nat.reduceAdd, Nat.reduceMul, Nat.reduceLT, Nat.reduceLeDiff, Int.reduceToNat, Int.reduceLE, Int.reduceLT, Int.reduceNeg, reduceCtorEq, zzR, gos, Int.reduceAdd, Int.reduceSub, Int.reduceMul, Int.reduceEq])
  · refine ⟨false, ?_, fun h => by cases h⟩
    refine X_startP (n := 17) (m := 1) (rs := [.tmp 2]) Try.func43 rfl rfl rfl rfl (by decide) fun base => ?_
    repeat (first | refine X_opc rfl ?_ | refine X_dopc rfl ?_ | refine ⟨(by show drawK _ _ = true; kernel_rfl : drawX _ _ _), ?_⟩ | exact (by show drawK _ _ = true; kernel_rfl : drawX _ _ _) | simp -dsimp (maxSteps := 20000000) (disch := omega) only [simx, zzC, zzB, tys, ite_self, opnL, callB, callX, readsB, stepOp, nilCmp, ofVal, opBuiltin, opLen, PV.sk, scalBin, scalUn, intBin, opLoad, natOf, opConvert, opField, cellsP, oneP, Value.oneCell', opStore, toIV, scalT, scalA, scalC, boxesA, boxesC, zipB_none, zipB_mx, isZ, opZip, zeroP, opAppendZ, opMakeMap, opLookup, mboxB, opUpdate, ↓reduceIte, Nat.reduceSub, Nat.reduceEqDiff, Nat.reduceAdd, Nat.reduceMul, Nat.reduceLT, Nat.reduceLeDiff, Int.reduceToNat, Int.reduceLE, Int.reduceLT, Int.reduceNeg, reduceCtorEq, zzR, gos, Int.reduceAdd, Int.reduceSub, Int.reduceMul, Int.reduceEq])
end Go.Proofs.Ythnfphgjfpcpbaa.TM
namespace Go.Proofs.Ythnfphgjfpcpbaa.TM
open Go Go.RowKit
theorem apX_cong {p : Int} {C : Nat} {A B : Mx} {x : Nat → Int} {i : Nat} (h : ∀ j, j < C → A i j % p = B i j % p) : apX C A x i % p = apX C B x i % p := sumN_mod fun j hj => em_mul (h j hj) rfl
theorem apX_id {C : Nat} {x : Nat → Int} {i : Nat} (hi : i < C) : apX C idX x i = x i := by
  unfold apX
  rw [← sumN_one x hi]
  refine sumN_congr fun j _ => ?_
  unfold idX
  by_cases e : j = i
  · rw [if_pos e, if_pos e, Int.one_mul]
  · rw [if_neg e, if_neg e, Int.zero_mul]
def InvX (P R : Nat) (A U : Mx) : Prop := ∀ i j, i < R → j < R → mulX R A U i j % P = idX i j % P
def InjX (P R : Nat) (A : Mx) : Prop := ∀ x : Nat → Int, (∀ i, i < R → apX R A x i % P = 0) → ∀ j, j < R → x j % P = 0
section
variable {P R : Nat} {A B U V : Mx}
theorem InvX.ap (h : InvX P R A U) (x : Nat → Int) {i : Nat} (hi : i < R) : apX R A (apX R U x) i % P = x i % P := by
  rw [← apX_mul, apX_cong (B := idX) (fun j hj => h i j hi hj), apX_id hi]
theorem InvX.left (h : InvX P R A U) (hI : InjX P R A) : InvX P R U A := fun k j hk hj => by
  refine emod_sub0.2 (hI (fun k => mulX R U A k j - idX k j) (fun i hi => ?_) k hk)
  rw [apX_sub]
  refine emod_sub0.1 ?_
  have h1 : apX R A (fun j_1 => mulX R U A j_1 j) i % P = A i j % P := h.ap (fun m => A m j) hi
  rw [h1]
  have h2 : apX R A (fun m => idX m j) i = A i j := by
    unfold apX
    rw [← sumN_one (fun m => A i m) hj]
    refine sumN_congr fun m _ => ?_
    show A i m * (if j = m then 1 else 0) = if m = j then A i m else 0
    by_cases e : m = j
    · rw [if_pos e.symm, if_pos e, Int.mul_one]
    · rw [if_neg (fun h => e h.symm), if_neg e, Int.mul_zero]
  rw [h2]
theorem InvX.mul (h : InvX P R A U) (k : InvX P R B V) : InvX P R (mulX R A B) (mulX R V U) := fun i j hi hj => by
  have e : mulX R (mulX R A B) (mulX R V U) i j = apX R A (apX R B (apX R V (fun k => U k j))) i := by
    show apX R (mulX R A B) (apX R V (fun k => U k j)) i = _
    rw [apX_mul]
  rw [e]
  exact (apX_mod (fun m hm => k.ap (fun k => U k j) hm) i).trans (h i j hi hj)
theorem InvX.cong {A' U' : Mx} (h : InvX P R A U) (ha : ∀ i j, i < R → j < R → A' i j % P = A i j % P) (hu : ∀ i j, i < R → j < R → U' i j % P = U i j % P) : InvX P R A' U' := fun i j hi hj => by
  rw [← h i j hi hj]
  exact sumN_mod fun k hk => em_mul (ha i k hi hk) (hu k j hk hj)
theorem InvX.lp (hP : Prm P) (hp : Md P) (h : InvX P R A U) : Lp R A * Lp R U % P = 1 := by
  rw [← Lp_mulX hP hp, Lp_mod R h, Lp_id]
  exact Int.emod_eq_of_lt (by decide) (by have := hp.1; omega)
end
section
variable {P R : Nat} {l : List Int}
end
end Go.Proofs.Ythnfphgjfpcpbaa.TM
namespace Go.Proofs.Ythnfphgjfpcpbaa.TM
open Go Go.RowKit
def sF (l : List Int) : Nat → Bool
  | 0 => true
  | k + 1 => if l.getD (k + 1) 0 < l.getD k 0 then false else sF l k
def begB (r : Nat) (b k v : List Int) : Bool := decide (b.length = r + 1) && (decide (b.getD 0 0 = 0) && (decide (b.getD r 0 = k.length) && (sF b r && decide (k.length = v.length))))
end Go.Proofs.Ythnfphgjfpcpbaa.TM
namespace Go.Proofs.Ythnfphgjfpcpbaa.TM
open Go Go.RowKit
theorem sF_adj {l : List Int} : ∀ {n : Nat}, sF l n = true → ∀ i, i < n → l.getD i 0 ≤ l.getD (i + 1) 0
  | 0, _, i, hi => by omega
  | n + 1, h, i, hi => by
    rw [sF] at h
    by_cases c : l.getD (n + 1) 0 < l.getD n 0
    · rw [if_pos c] at h; cases h
    · rw [if_neg c] at h
      by_cases e : i = n
      · subst e; omega
      · exact sF_adj h i (by omega)
theorem sF_lo {l : List Int} {n : Nat} (h : sF l n = true) : ∀ i, i ≤ n → l.getD 0 0 ≤ l.getD i 0
  | 0, _ => Int.le_refl _
  | i + 1, hi => Int.le_trans (sF_lo h i (by omega)) (sF_adj h i (by omega))
theorem sF_hi {l : List Int} {n : Nat} (h : sF l n = true) : ∀ d i, i + d = n → l.getD i 0 ≤ l.getD n 0
  | 0, i, hi => by have : i = n := by omega
                   subst this; exact Int.le_refl _
  | d + 1, i, hi => Int.le_trans (sF_adj h i (by omega)) (sF_hi h d (i + 1) (by omega))
def segI (b k : List Int) (i : Nat) : List Int := (k.drop (b.getD i 0).toNat).take ((b.getD (i + 1) 0).toNat - (b.getD i 0).toNat)
theorem beg_facts {r : Nat} {b k v : List Int} (h : begB r b k v = true) (i : Nat) (hi : i < r) : ∃ x y : Nat, b[i]? = some (x : Int) ∧ b[i + 1]? = some (y : Int) ∧ i < b.length ∧ i + 1 < b.length ∧ x ≤ y ∧ y ≤ k.length ∧ segI b k i = (k.drop x).take (y - x) := by
  simp only [begB, Bool.and_eq_true, decide_eq_true_eq] at h
  obtain ⟨h1, h2, h3, h4, h5⟩ := h
  have a1 := sF_adj h4 i hi
  have a2 := sF_lo h4 i (by omega)
  have a3 := sF_hi h4 (r - (i + 1)) (i + 1) (by omega)
  rw [h2] at a2
  rw [h3] at a3
  have l1 : i < b.length := by omega
  have l2 : i + 1 < b.length := by omega
  obtain ⟨x, hx⟩ := Int.eq_ofNat_of_zero_le a2
  obtain ⟨y, hy⟩ := Int.eq_ofNat_of_zero_le (Int.le_trans a2 a1)
  refine ⟨x, y, ?_, ?_, l1, l2, by omega, by omega, ?_⟩
  · rw [List.getElem?_eq_getElem l1, ← hx, List.getD_eq_getElem?_getD, List.getElem?_eq_getElem l1]; rfl
  · rw [List.getElem?_eq_getElem l2, ← hy, List.getD_eq_getElem?_getD, List.getElem?_eq_getElem l2]; rfl
  · unfold segI; rw [hx, hy]; rfl
end Go.Proofs.Ythnfphgjfpcpbaa.TM
namespace Go.Proofs.Ythnfphgjfpcpbaa.TM
open Go Go.RowKit
theorem rowP_pos (s : Name) (z : Nat) (cs : List IV) {n : Nat} (h : 0 < n) : rowP s z n cs = .view s 0 z n cs.length := by
  obtain ⟨m, rfl⟩ : ∃ m, n = m + 1 := ⟨n - 1, by omega⟩
  rfl
theorem rowH_pos (h : Heap) (s : Name) (cs : List IV) {n : Nat} (hn : 0 < n) : rowH h s n cs = h.put s (.row false cs) := by
  obtain ⟨m, rfl⟩ : ∃ m, n = m + 1 := ⟨n - 1, by omega⟩
  rfl
theorem risF_all : ∀ (l : List Int) (last most : Int), risF last l most = true → ∀ c ∈ l, last < c ∧ c < most
  | [], _, _, _, c, hc => by simp at hc
  | a :: l, last, most, h, c, hc => by
    rw [risF] at h
    by_cases e : a ≤ last ∨ most ≤ a
    · rw [if_pos e] at h; cases h
    · rw [if_neg e] at h
      rcases List.mem_cons.1 hc with rfl | hc
      · omega
      · have := risF_all l a most h c hc; omega
theorem risF_drop : ∀ (l : List Int) (last most : Int), risF last l most = true → ∀ i j, i < j → (hj : j < l.length) → l.getD i 0 < l.getD j 0
  | [], _, _, _, i, j, _, hj => by simp at hj
  | a :: l, last, most, h, i, j, hij, hj => by
    rw [risF] at h
    by_cases e : a ≤ last ∨ most ≤ a
    · rw [if_pos e] at h; cases h
    · rw [if_neg e] at h
      obtain ⟨m, rfl⟩ : ∃ m, j = m + 1 := ⟨j - 1, by omega⟩
      have hm : m < l.length := by simpa using hj
      have := risF_all l a most h (l.getD m 0) (by rw [List.getD_eq_getElem?_getD, List.getElem?_eq_getElem hm]; exact List.getElem_mem hm)
      cases i with
      | zero => simpa using this.1
      | succ i => simpa using risF_drop l a most h i m (by omega) hm
structure Sp (p : Int) (R C : Nat) (b k v : List Int) : Prop where
  hp : Md p
  r1 : 1 ≤ R
  r2 : R ≤ 64
  c1 : 1 ≤ C
  c2 : C ≤ 64
  beg : begB R b k v = true
  has : ∀ a ∈ v, a < p
  nz : (0 : Int) ∉ v
  ris : ∀ i, i < R → risF (-1) (segI b k i) C = true
theorem Sp.vlen {p : Int} {R C : Nat} {b k v : List Int} (h : Sp p R C b k v) : k.length = v.length := by
  have := h.beg
  simp only [begB, Bool.and_eq_true, decide_eq_true_eq] at this
  exact this.2.2.2.2
theorem Sp.row {p : Int} {R C : Nat} {b k v : List Int} (h : Sp p R C b k v) {i : Nat} (hi : i < R) :
    ∃ x y : Nat, b[i]? = some (x : Int) ∧ b[i + 1]? = some (y : Int) ∧ i < b.length ∧ i + 1 < b.length ∧ x ≤ y ∧ y ≤ k.length ∧ y ≤ v.length ∧ segI b k i = (k.drop x).take (y - x) ∧ segI b v i = (v.drop x).take (y - x) ∧ (segI b k i).length = y - x ∧ (segI b v i).length = y - x ∧
      (∀ c ∈ segI b k i, 0 ≤ c ∧ c < C) ∧ y - x ≤ C := by
  obtain ⟨x, y, g1, g2, l1, l2, xy, yk, sg⟩ := beg_facts h.beg i hi
  have hv := h.vlen
  have sv : segI b v i = (v.drop x).take (y - x) := by
    unfold segI
    rw [List.getD_eq_getElem?_getD, List.getD_eq_getElem?_getD, g1, g2]; rfl
  have ha : ∀ c ∈ segI b k i, 0 ≤ c ∧ c < C := by
    intro c hc
    have := risF_all _ _ _ (h.ris i hi) c hc
    omega
  have lk : (segI b k i).length = y - x := by rw [sg, List.length_take, List.length_drop]; omega
  refine ⟨x, y, g1, g2, l1, l2, xy, yk, by omega, sg, sv, lk, by rw [sv, List.length_take, List.length_drop]; omega, ha, ?_⟩
  have up : ∀ j, j < (segI b k i).length → (j : Int) ≤ (segI b k i).getD j 0 := by
    intro j
    induction j with
    | zero =>
      intro hj
      have := ha _ (by rw [List.getD_eq_getElem?_getD, List.getElem?_eq_getElem hj]; exact List.getElem_mem hj : (segI b k i).getD 0 0 ∈ segI b k i)
      simpa using this.1
    | succ j ih =>
      intro hj
      have h1 := ih (by omega)
      have h2 := risF_drop _ _ _ (h.ris i hi) j (j + 1) (by omega) hj
      omega
  rw [← lk]
  by_cases e : (segI b k i).length = 0
  · omega
  · have h1 := up ((segI b k i).length - 1) (by omega)
    have h2 := ha ((segI b k i).getD ((segI b k i).length - 1) 0) (by rw [List.getD_eq_getElem?_getD, List.getElem?_eq_getElem (show (segI b k i).length - 1 < (segI b k i).length by omega)]; exact List.getElem_mem _)
    omega
end Go.Proofs.Ythnfphgjfpcpbaa.TM
namespace Go.Proofs.Ythnfphgjfpcpbaa.TM
open Go Go.RowKit
attribute [local irreducible] K W WOps Effs Xg Xo Xr Xdg Xdo Xdr Xif CallsP CallR
theorem take_cell {l : List Int} {q : Nat} (h : q < l.length) : l.take (q + 1) = l.take q ++ [l.getD q 0] := by
  rw [List.take_succ_eq_append_getElem h, List.getD_eq_getElem?_getD, List.getElem?_eq_getElem h]; rfl
end Go.Proofs.Ythnfphgjfpcpbaa.TM
namespace Go.Proofs.Ythnfphgjfpcpbaa.TM
open Go Go.RowKit
attribute [local irreducible] K W WOps Effs Xg Xo Xr Xdg Xdo Xdr Xif CallsP CallR
theorem rsub_walk (p a b : Int) (hp : Md p) (ha : In p a) (hb : In p b) : CallsP Try.prog 73 [u64 p, u64 a, u64 b] (u64 ((a - b) % p)) := by
  have p1 := hp.1; have p2 := hp.2
  have a1 := ha.1; have a2 := ha.2; have b1 := hb.1; have b2 := hb.2
  have e : (a + p - b) % p = (a - b) % p := by rw [show a + p - b = a - b + p * 1 by omega, Int.add_mul_emod_self_left]
  rw [← e]
  refine X_startP (n := 14) (m := 3) (rs := [.tmp 6]) Try.func73 rfl rfl rfl rfl (by decide) fun base => ?_
  repeat (first | refine X_opc rfl ?_ | refine X_dopc rfl ?_ | refine ⟨(by show drawK _ _ = true; kernel_rfl : drawX _ _ _), ?_⟩ | exact (by show drawK _ _ = true; kernel_rfl : drawX _ _ _) | simp -dsimp (maxSteps := 20000000) (disch := omega) only [simx, zzC, zzB, tys, ite_self, opnL, callB, callX, readsB, stepOp, nilCmp, ofVal, opBuiltin, opLen, PV.sk, scalBin, scalUn, intBin, opLoad, natOf, opConvert, opField, cellsP, oneP, Value.oneCell', opStore, toIV, scalT, scalA, scalC, boxesA, boxesC, zipB_none, zipB_mx, isZ, opZip, zeroP, opAppendZ, opMakeMap, opLookup, mboxB, opUpdate, ↓reduceIte, Nat.reduceSub, Nat.reduceEqDiff, Nat.reduceAdd, Nat.reduceMul, Nat.reduceLT, Nat.reduceLeDiff, Int.reduceToNat, Int.reduceLE, Int.reduceLT, Int.reduceNeg, reduceCtorEq, zzR, gos, Int.reduceAdd, Int.reduceSub, Int.reduceMul, Int.reduceEq])
theorem rmul_walk' (p a b : Int) (hp : Md p) (ha : In p a) (hb : W64 b) : CallsP Try.prog 83 [u64 p, u64 a, u64 b] (u64 (a * b % p)) := rmul_walk p a hp ha b.toNat b hb.1 hb.2 (Nat.le_refl _)
end Go.Proofs.Ythnfphgjfpcpbaa.TM
namespace Go.Proofs.Ythnfphgjfpcpbaa.TM
open Go Go.RowKit
attribute [local irreducible] K W WOps Effs Xg Xo Xr Xdg Xdo Xdr Xif CallsP CallR
theorem em_refl0 {p a : Int} : a % p % p = a % p := Int.emod_emod_of_dvd _ (Int.dvd_refl _)
def mnL (n k : Nat) (l : List Int) : List Int := tbl ((n + 1) * (n + 1)) (fun q => cl (n + 2) l (q / (n + 1) + 1) (skip k (q % (n + 1))))
theorem mnL_len (n k : Nat) (l : List Int) : (mnL n k l).length = (n + 1) * (n + 1) := tbl_len ..
theorem mnL_cl {n k : Nat} {l : List Int} {i j : Nat} (hi : i < n + 1) (hj : j < n + 1) : cl (n + 1) (mnL n k l) i j = mnr (cl (n + 2) l) k i j := by
  unfold mnL mnr
  rw [cl_tbl _ hi hj, dc_div hj, dc_mod hj]
theorem mnL_in {p : Int} {n k : Nat} {l : List Int} (hl : l.length = (n + 2) * (n + 2)) (h : ∀ a ∈ l, In p a) : ∀ a ∈ mnL n k l, In p a := fun a ha => by
  obtain ⟨q, hq, rfl⟩ := tbl_mem ha
  have h1 : q / (n + 1) < n + 1 := Nat.div_lt_of_lt_mul hq
  have h2 := skip_lt (k := k) (Nat.mod_lt q (show 0 < n + 1 by omega))
  exact h _ (cl_mem hl (by omega) h2)
def mnC (n k i j : Nat) : Nat := i * (n + 1) + (if j ≤ k then j else j - 1)
theorem mn_cell {n k : Nat} {l : List Int} {i j : Nat} (hi : i < n + 1) (hj : j < n + 2) (hk : k < n + 2) (hne : j ≠ k) : mnC n k i j < (n + 1) * (n + 1) ∧ mnC n k i (j + 1) = mnC n k i j + 1 ∧ (mnL n k l).getD (mnC n k i j) 0 = l.getD ((i + 1) * (n + 2) + j) 0 := by
  have hb := ic_bd (c := n + 1) hi
  obtain ⟨m, hm, hm2⟩ : ∃ m, m < n + 1 ∧ mnC n k i j = i * (n + 1) + m ∧ skip k m = j := by
    unfold mnC skip
    by_cases h : j ≤ k
    · exact ⟨j, by omega, by rw [if_pos h], by rw [if_pos (by omega)]⟩
    · exact ⟨j - 1, by omega, by rw [if_neg h], by rw [if_neg (by omega)]; omega⟩
  obtain ⟨hc, hs⟩ := hm2
  refine ⟨by omega, ?_, ?_⟩
  · unfold mnC
    by_cases h : j ≤ k
    · rw [if_pos (show j + 1 ≤ k by omega), if_pos h]; omega
    · rw [if_neg (show ¬ j + 1 ≤ k by omega), if_neg h]; omega
  · rw [hc]
    have h := mnL_cl (k := k) (l := l) hi hm
    unfold cl mnr at h
    rw [h, hs]
theorem mnC_skip (n k i : Nat) : mnC n k i (k + 1) = mnC n k i k := by
  unfold mnC; rw [if_neg (by omega), if_pos (Nat.le_refl _)]; omega
theorem mnC_end {n k : Nat} (i : Nat) (hk : k < n + 2) : mnC n k i (n + 2) = mnC n k (i + 1) 0 := by
  unfold mnC; rw [if_neg (by omega), if_pos (Nat.zero_le _), Nat.succ_mul]; omega
theorem mnC_zero (n k : Nat) : mnC n k 0 0 = 0 := by unfold mnC; rw [if_pos (Nat.zero_le _)]; omega
theorem mnC_last {n k : Nat} : mnC n k (n + 1) 0 = (n + 1) * (n + 1) := by unfold mnC; rw [if_pos (Nat.zero_le _)]; omega
theorem sg_even {k : Nat} (h : k % 2 = 0) : sg k = 1 := if_pos h
theorem sg_odd {k : Nat} (h : ¬ k % 2 = 0) : sg k = -1 := if_neg h
theorem det_add {p S a D : Int} : (S % p + a * (D % p) % p) % p = (S + 1 * a * D) % p := by
  rw [Int.one_mul]; exact em_add em_refl0 (em_refl0.trans (em_mul rfl em_refl0))
theorem det_sub {p S a D : Int} : (S % p - a * (D % p) % p) % p = (S + -1 * a * D) % p := by
  rw [show S + -1 * a * D = S - a * D by rw [show (-1 : Int) * a * D = -(a * D) by rw [Int.neg_mul, Int.one_mul, Int.neg_mul]]; omega]
  exact em_sub em_refl0 (em_refl0.trans (em_mul rfl em_refl0))
set_option maxHeartbeats 8000000 in
theorem rdet_walk {p : Nat} (hp : Md p) : ∀ (n : Nat) (l : List Int), n + 1 ≤ 64 → l.length = (n + 1) * (n + 1) → (∀ a ∈ l, In p a) → CallsP Try.prog 44 [u64 p, matP ((n + 1 : Nat) : Int) ((n + 1 : Nat) : Int) l] (u64 (Lp (n + 1) (cl (n + 1) l) % p))
  | 0, l, _, hl, hin => by
    have e : Lp 1 (cl 1 l) % p = l.getD 0 0 := by
      have h : In p (l.getD 0 0) := getD_of hin (by omega)
      rw [show Lp 1 (cl 1 l) = l.getD 0 0 by simp [Lp, sumN, sg, cl]]
      exact Int.emod_eq_of_lt h.1 h.2
    rw [e]
    have g : (l.map iu)[0]? = some (iu (l.getD 0 0)) := by rw [List.getElem?_map, getD_some hl (by omega)]; rfl
    have hl1 : 0 < l.length := by omega
    change CallsP Try.prog 44 [u64 p, matP 1 1 l] (u64 (l.getD 0 0))
    refine X_startP (n := 77) (m := 2) (rs := [.tmp 4]) Try.func44 rfl rfl rfl rfl (by decide) fun base => ?_
    repeat (first | refine X_opc rfl ?_ | refine X_dopc rfl ?_ | refine ⟨(by show drawK _ _ = true; kernel_rfl : drawX _ _ _), ?_⟩ | exact (by show drawK _ _ = true; kernel_rfl : drawX _ _ _) | simp -dsimp (maxSteps := 20000000) (disch := omega) only [simx, zzC, zzB, tys, ite_self, opnL, callB, callX, readsB, stepOp, nilCmp, ofVal, opBuiltin, opLen, PV.sk, scalBin, scalUn, intBin, opLoad, natOf, opConvert, opField, cellsP, oneP, Value.oneCell', opStore, toIV, scalT, scalA, scalC, boxesA, boxesC, zipB_none, zipB_mx, isZ, opZip, zeroP, opAppendZ, opMakeMap, opLookup, mboxB, opUpdate, ↓reduceIte, Nat.reduceSub, Nat.reduceEqDiff, Nat.reduceAdd, Nat.reduceMul, Nat.reduceLT, Nat.reduceLeDiff, Int.reduceToNat, Int.reduceLE, Int.reduceLT, Int.reduceNeg, reduceCtorEq, zzR, gos, Int.reduceAdd, Int.reduceSub, Int.reduceMul, Int.reduceEq, g, SK.len, hl1, List.length_map])
  | n + 1, l, h64, hl, hin => by
    have ih := fun k => rdet_walk hp n (mnL n k l) (by omega) (mnL_len n k l) (mnL_in hl hin)
    have hp0 : (0 : Int) < p := by have := hp.1; omega
    have hlp : ∀ k, Lp (n + 1) (cl (n + 1) (mnL n k l)) = Lp (n + 1) (mnr (cl (n + 2) l) k) := fun k => Lp_congr _ fun i j hi hj => mnL_cl hi hj
    have e0 : IntKind.i64.wrap (((n + 1 + 1 : Nat) : Int) - 1) = ((n + 1 : Nat) : Int) := by rw [show ((n + 1 + 1 : Nat) : Int) - 1 = ((n + 1 : Nat) : Int) by omega]; exact iw_of (by omega) (by omega)
    rw [Lp_succ]
    obtain ⟨R, hR⟩ : ∃ R, R = n + 2 := ⟨_, rfl⟩
    have hn : n + 1 + 1 = R := by omega
    rw [hn]
    have r1 : ¬ (R : Int) = 1 := by omega
    rw [hn] at e0
    have hbig : (n + 1) * (n + 1) ≤ 64 * 64 := Nat.mul_le_mul (by omega) (by omega)
    refine X_startP (n := 77) (m := 2) (rs := [.tmp 4]) Try.func44 rfl rfl rfl rfl (by decide) fun base => ?_
    repeat (first | refine X_opc rfl ?_ | refine X_dopc rfl ?_ | refine ⟨(by show drawK _ _ = true; kernel_rfl : drawX _ _ _), ?_⟩ | exact (by show drawK _ _ = true; kernel_rfl : drawX _ _ _) | simp -dsimp (maxSteps := 20000000) (disch := omega) only [simx, zzC, zzB, tys, ite_self, opnL, callB, callX, readsB, stepOp, nilCmp, ofVal, opBuiltin, opLen, PV.sk, scalBin, scalUn, intBin, opLoad, natOf, opConvert, opField, cellsP, oneP, Value.oneCell', opStore, toIV, scalT, scalA, scalC, boxesA, boxesC, zipB_none, zipB_mx, isZ, opZip, zeroP, opAppendZ, opMakeMap, opLookup, mboxB, opUpdate, ↓reduceIte, Nat.reduceSub, Nat.reduceEqDiff, Nat.reduceAdd, Nat.reduceMul, Nat.reduceLT, Nat.reduceLeDiff, Int.reduceToNat, Int.reduceLE, Int.reduceLT, Int.reduceNeg, reduceCtorEq, gos, Int.reduceAdd, Int.reduceSub, Int.reduceMul, Int.reduceEq, r1])
    refine X_loopH [0, 3, 5, 6] [(7, 7) :: base, (15, 7) :: base] (0) (R) (fun j => True) (fun j => [(5, u64 (sumN j (fun k => sg k * cl R l 0 k * Lp (n + 1) (mnr (cl R l) k)) % p)), (6, i64 j)]) (fun j => Heap.none.put ((0, 0) :: base) (.var [i64 R, i64 R, lu l])) ?_ ?_ ?_ ?_ ?_ (by decide) ?_
    · exact (fgt_cons (by simp only [Heap.none_at]) (by (simp -dsimp only [zzB, tys, ite_self, opnL, callB, callX, readsB, stepOp, nilCmp, ofVal, opBuiltin, opLen, PV.sk, scalBin, scalUn, intBin, opLoad, natOf, opConvert, opField, cellsP, oneP, Value.oneCell', opStore, toIV, scalT, scalA, scalC, boxesA, boxesC, zipB_none, zipB_mx, isZ, opZip, zeroP, opAppendZ, opMakeMap, opLookup, mboxB, opUpdate, ↓reduceIte, Nat.reduceSub, Nat.reduceEqDiff, Nat.reduceAdd, Nat.reduceMul, Nat.reduceLT, Nat.reduceLeDiff, Int.reduceToNat, Int.reduceLE, Int.reduceLT, Int.reduceNeg, reduceCtorEq, notIn_cons, notIn_nil]) <;> simp [refsL, refsP, mem_refs_rowP]) (by repeat (first | exact noVar_none _ | refine noVar_row ?_ | refine noVar_map ?_ | refine noVar_rowH ?_ | refine noVar_var ?_ (by simp [refsL, refsP, mem_refs_rowP]))) (fgt_cons (by simp only [Heap.none_at]) (by (simp -dsimp only [zzB, tys, ite_self, opnL, callB, callX, readsB, stepOp, nilCmp, ofVal, opBuiltin, opLen, PV.sk, scalBin, scalUn, intBin, opLoad, natOf, opConvert, opField, cellsP, oneP, Value.oneCell', opStore, toIV, scalT, scalA, scalC, boxesA, boxesC, zipB_none, zipB_mx, isZ, opZip, zeroP, opAppendZ, opMakeMap, opLookup, mboxB, opUpdate, ↓reduceIte, Nat.reduceSub, Nat.reduceEqDiff, Nat.reduceAdd, Nat.reduceMul, Nat.reduceLT, Nat.reduceLeDiff, Int.reduceToNat, Int.reduceLE, Int.reduceLT, Int.reduceNeg, reduceCtorEq, notIn_cons, notIn_nil]) <;> simp [refsL, refsP, mem_refs_rowP]) (by repeat (first | exact noVar_none _ | refine noVar_row ?_ | refine noVar_map ?_ | refine noVar_rowH ?_ | refine noVar_var ?_ (by simp [refsL, refsP, mem_refs_rowP]))) (fgt_nil)))
    · ((simp -dsimp (disch := omega) only [simx, zzB, tys, ite_self, opnL, callB, callX, readsB, stepOp, nilCmp, ofVal, opBuiltin, opLen, PV.sk, scalBin, scalUn, intBin, opLoad, natOf, opConvert, opField, cellsP, oneP, Value.oneCell', opStore, toIV, scalT, scalA, scalC, boxesA, boxesC, zipB_none, zipB_mx, isZ, opZip, zeroP, opAppendZ, opMakeMap, opLookup, mboxB, opUpdate, ↓reduceIte, Nat.reduceSub, Nat.reduceEqDiff, Nat.reduceAdd, Nat.reduceMul, Nat.reduceLT, Nat.reduceLeDiff, Int.reduceToNat, Int.reduceLE, Int.reduceLT, Int.reduceNeg, reduceCtorEq, gos, Int.reduceAdd, Int.reduceSub, Int.reduceMul, Int.reduceEq]) <;> first | rfl | simp [sumN])
    · funext c
      simp (maxSteps := 20000000) only [Heap.drop_at, rowH_app, Heap.put_at, Heap.none_at, List.mem_cons, List.not_mem_nil, or_false]
      by_cases e0 : c = (0, 0) :: base
      · subst e0; simp []
      by_cases e1 : c = (7, 7) :: base
      · subst e1; simp []
      by_cases e2 : c = (15, 7) :: base
      · subst e2; simp []
      simp [e0, e1, e2]
    · omega
    · trivial
    · intro k hk _
      by_cases ck : k < R
      · repeat (first | refine X_opc rfl ?_ | refine X_dopc rfl ?_ | refine ⟨(by show drawK _ _ = true; kernel_rfl : drawX _ _ _), ?_⟩ | exact (by show drawK _ _ = true; kernel_rfl : drawX _ _ _) | simp -dsimp (maxSteps := 20000000) (disch := omega) only [simx, zzC, zzB, tys, ite_self, opnL, callB, callX, readsB, stepOp, nilCmp, ofVal, opBuiltin, opLen, PV.sk, scalBin, scalUn, intBin, opLoad, natOf, opConvert, opField, cellsP, oneP, Value.oneCell', opStore, toIV, scalT, scalA, scalC, boxesA, boxesC, zipB_none, zipB_mx, isZ, opZip, zeroP, opAppendZ, opMakeMap, opLookup, mboxB, opUpdate, ↓reduceIte, Nat.reduceSub, Nat.reduceEqDiff, Nat.reduceAdd, Nat.reduceMul, Nat.reduceLT, Nat.reduceLeDiff, Int.reduceToNat, Int.reduceLE, Int.reduceLT, Int.reduceNeg, reduceCtorEq, gos, Int.reduceAdd, Int.reduceSub, Int.reduceMul, Int.reduceEq, ck, e0])
        refine X_loopH [0, 3, 5, 6, 7, 8] [] (1) (R) (fun j => 1 ≤ j) (fun j => [(5, u64 (sumN k (fun k => sg k * cl R l 0 k * Lp (n + 1) (mnr (cl R l) k)) % p)), (6, i64 k), (8, i64 j)]) (fun j => rowH ((Heap.none.put ((0, 0) :: base) (.var [i64 R, i64 R, lu l])).put ((7, 7) :: base) (.var [i64 ((n + 1 : Nat) : Int), i64 ((n + 1 : Nat) : Int), rowP ((15, 7) :: base) 1 (mnC n k (j - 1) 0) (((mnL n k l).take (mnC n k (j - 1) 0)).map iu)])) ((15, 7) :: base) (mnC n k (j - 1) 0) (((mnL n k l).take (mnC n k (j - 1) 0)).map iu)) ?_ ?_ ?_ ?_ ?_ (by decide) ?_
        · exact (fgt_nil)
        · ((simp -dsimp (disch := omega) only [simx, zzB, tys, ite_self, opnL, callB, callX, readsB, stepOp, nilCmp, ofVal, opBuiltin, opLen, PV.sk, scalBin, scalUn, intBin, opLoad, natOf, opConvert, opField, cellsP, oneP, Value.oneCell', opStore, toIV, scalT, scalA, scalC, boxesA, boxesC, zipB_none, zipB_mx, isZ, opZip, zeroP, opAppendZ, opMakeMap, opLookup, mboxB, opUpdate, ↓reduceIte, Nat.reduceSub, Nat.reduceEqDiff, Nat.reduceAdd, Nat.reduceMul, Nat.reduceLT, Nat.reduceLeDiff, Int.reduceToNat, Int.reduceLE, Int.reduceLT, Int.reduceNeg, reduceCtorEq, gos, Int.reduceAdd, Int.reduceSub, Int.reduceMul, Int.reduceEq]) <;> first | rfl | simp)
        · rw [Nat.sub_self, mnC_zero]
          funext c
          simp (maxSteps := 20000000) only [Heap.drop_at, rowH_app, Heap.put_at, Heap.none_at, List.mem_cons, List.not_mem_nil, or_false]
          by_cases e0 : c = (0, 0) :: base
          · subst e0; simp [rowP]
          by_cases e1 : c = (7, 7) :: base
          · subst e1; simp [rowP]
          by_cases e2 : c = (15, 7) :: base
          · subst e2; simp [rowP]
          simp [e0, e1, e2, rowP]
        · omega
        · exact Nat.le_refl 1
        · intro i1 hi1 hi2
          obtain ⟨i, rfl⟩ : ∃ i, i1 = i + 1 := ⟨i1 - 1, by omega⟩
          rw [Nat.add_sub_cancel]
          by_cases ci : i + 1 < R
          · repeat (first | refine X_opc rfl ?_ | refine X_dopc rfl ?_ | refine ⟨(by show drawK _ _ = true; kernel_rfl : drawX _ _ _), ?_⟩ | exact (by show drawK _ _ = true; kernel_rfl : drawX _ _ _) | simp -dsimp (maxSteps := 20000000) (disch := omega) only [simx, zzC, zzB, tys, ite_self, opnL, callB, callX, readsB, stepOp, nilCmp, ofVal, opBuiltin, opLen, PV.sk, scalBin, scalUn, intBin, opLoad, natOf, opConvert, opField, cellsP, oneP, Value.oneCell', opStore, toIV, scalT, scalA, scalC, boxesA, boxesC, zipB_none, zipB_mx, isZ, opZip, zeroP, opAppendZ, opMakeMap, opLookup, mboxB, opUpdate, ↓reduceIte, Nat.reduceSub, Nat.reduceEqDiff, Nat.reduceAdd, Nat.reduceMul, Nat.reduceLT, Nat.reduceLeDiff, Int.reduceToNat, Int.reduceLE, Int.reduceLT, Int.reduceNeg, reduceCtorEq, gos, Int.reduceAdd, Int.reduceSub, Int.reduceMul, Int.reduceEq, ci])
            refine X_loopH [0, 3, 5, 6, 7, 8, 9] [(15, 6) :: base] (0) (R) (fun j => True) (fun j => [(5, u64 (sumN k (fun k => sg k * cl R l 0 k * Lp (n + 1) (mnr (cl R l) k)) % p)), (6, i64 k), (8, i64 ((i + 1 : Nat) : Int)), (9, i64 j)]) (fun j => rowH ((Heap.none.put ((0, 0) :: base) (.var [i64 R, i64 R, lu l])).put ((7, 7) :: base) (.var [i64 ((n + 1 : Nat) : Int), i64 ((n + 1 : Nat) : Int), rowP ((15, 7) :: base) 1 (mnC n k i j) (((mnL n k l).take (mnC n k i j)).map iu)])) ((15, 7) :: base) (mnC n k i j) (((mnL n k l).take (mnC n k i j)).map iu)) ?_ ?_ ?_ ?_ ?_ (by decide) ?_
            · exact (fgt_cons (by simp only [Heap.none_at]) (by (simp -dsimp only [zzB, tys, ite_self, opnL, callB, callX, readsB, stepOp, nilCmp, ofVal, opBuiltin, opLen, PV.sk, scalBin, scalUn, intBin, opLoad, natOf, opConvert, opField, cellsP, oneP, Value.oneCell', opStore, toIV, scalT, scalA, scalC, boxesA, boxesC, zipB_none, zipB_mx, isZ, opZip, zeroP, opAppendZ, opMakeMap, opLookup, mboxB, opUpdate, ↓reduceIte, Nat.reduceSub, Nat.reduceEqDiff, Nat.reduceAdd, Nat.reduceMul, Nat.reduceLT, Nat.reduceLeDiff, Int.reduceToNat, Int.reduceLE, Int.reduceLT, Int.reduceNeg, reduceCtorEq, notIn_cons, notIn_nil]) <;> simp [refsL, refsP, mem_refs_rowP]) (by repeat (first | exact noVar_none _ | refine noVar_row ?_ | refine noVar_map ?_ | refine noVar_rowH ?_ | refine noVar_var ?_ (by simp [refsL, refsP, mem_refs_rowP]))) (fgt_nil))
            · ((simp -dsimp (disch := omega) only [simx, zzB, tys, ite_self, opnL, callB, callX, readsB, stepOp, nilCmp, ofVal, opBuiltin, opLen, PV.sk, scalBin, scalUn, intBin, opLoad, natOf, opConvert, opField, cellsP, oneP, Value.oneCell', opStore, toIV, scalT, scalA, scalC, boxesA, boxesC, zipB_none, zipB_mx, isZ, opZip, zeroP, opAppendZ, opMakeMap, opLookup, mboxB, opUpdate, ↓reduceIte, Nat.reduceSub, Nat.reduceEqDiff, Nat.reduceAdd, Nat.reduceMul, Nat.reduceLT, Nat.reduceLeDiff, Int.reduceToNat, Int.reduceLE, Int.reduceLT, Int.reduceNeg, reduceCtorEq, gos, Int.reduceAdd, Int.reduceSub, Int.reduceMul, Int.reduceEq]) <;> first | rfl | simp)
            · funext c
              simp (maxSteps := 20000000) only [Heap.drop_at, rowH_app, Heap.put_at, Heap.none_at, List.mem_cons, List.not_mem_nil, or_false]
              by_cases e0 : c = (0, 0) :: base
              · subst e0; simp [rowP]
              by_cases e1 : c = (7, 7) :: base
              · subst e1; simp [rowP]
              by_cases e2 : c = (15, 6) :: base
              · subst e2; simp [rowP]
              by_cases e3 : c = (15, 7) :: base
              · subst e3; simp [rowP]
              simp [e0, e1, e2, e3, rowP]
            · omega
            · trivial
            · intro j hj _
              by_cases cj : j < R
              · by_cases hjk : j = k
                · subst hjk
                  repeat (first | refine X_opc rfl ?_ | refine X_dopc rfl ?_ | refine ⟨(by show drawK _ _ = true; kernel_rfl : drawX _ _ _), ?_⟩ | exact (by show drawK _ _ = true; kernel_rfl : drawX _ _ _) | simp -dsimp (maxSteps := 20000000) (disch := omega) only [simx, zzC, zzB, tys, ite_self, opnL, callB, callX, readsB, stepOp, nilCmp, ofVal, opBuiltin, opLen, PV.sk, scalBin, scalUn, intBin, opLoad, natOf, opConvert, opField, cellsP, oneP, Value.oneCell', opStore, toIV, scalT, scalA, scalC, boxesA, boxesC, zipB_none, zipB_mx, isZ, opZip, zeroP, opAppendZ, opMakeMap, opLookup, mboxB, opUpdate, ↓reduceIte, Nat.reduceSub, Nat.reduceEqDiff, Nat.reduceAdd, Nat.reduceMul, Nat.reduceLT, Nat.reduceLeDiff, Int.reduceToNat, Int.reduceLE, Int.reduceLT, Int.reduceNeg, reduceCtorEq, gos, Int.reduceAdd, Int.reduceSub, Int.reduceMul, Int.reduceEq, cj])
                  refine ⟨cj, (fgt_cons (by simp only [Heap.none_at]) (by (simp -dsimp only [zzB, tys, ite_self, opnL, callB, callX, readsB, stepOp, nilCmp, ofVal, opBuiltin, opLen, PV.sk, scalBin, scalUn, intBin, opLoad, natOf, opConvert, opField, cellsP, oneP, Value.oneCell', opStore, toIV, scalT, scalA, scalC, boxesA, boxesC, zipB_none, zipB_mx, isZ, opZip, zeroP, opAppendZ, opMakeMap, opLookup, mboxB, opUpdate, ↓reduceIte, Nat.reduceSub, Nat.reduceEqDiff, Nat.reduceAdd, Nat.reduceMul, Nat.reduceLT, Nat.reduceLeDiff, Int.reduceToNat, Int.reduceLE, Int.reduceLT, Int.reduceNeg, reduceCtorEq, notIn_cons, notIn_nil]) <;> simp [refsL, refsP, mem_refs_rowP]) (by repeat (first | exact noVar_none _ | refine noVar_row ?_ | refine noVar_map ?_ | refine noVar_rowH ?_ | refine noVar_var ?_ (by simp [refsL, refsP, mem_refs_rowP]))) (fgt_nil)), rfl, ?_⟩
                  rw [mnC_skip]
                  generalize ((mnL n j l).take (mnC n j i j)).map iu = acc
                  generalize mnC n j i j = q
                  funext c
                  simp (maxSteps := 20000000) only [Heap.drop_at, rowH_app, Heap.put_at, Heap.none_at, List.mem_cons, List.not_mem_nil, or_false]
                  by_cases e0 : c = (0, 0) :: base
                  · subst e0; simp []
                  by_cases e1 : c = (7, 7) :: base
                  · subst e1; simp []
                  by_cases e2 : c = (15, 6) :: base
                  · subst e2; simp []
                  by_cases e3 : c = (15, 7) :: base
                  · subst e3; simp []
                  simp [e0, e1, e2, e3]
                · obtain ⟨q1, q2, ce⟩ := mn_cell (n := n) (k := k) (l := l) (i := i) (j := j) (by omega) (by omega) (by omega) hjk
                  have hjk' : ¬ (j : Int) = k := by omega
                  have tk := take_cell (l := mnL n k l) (q := mnC n k i j) (by rw [mnL_len]; exact q1)
                  rw [ce] at tk
                  have a1 := at_walk (r := R) (c := R) (l := l) (by rw [hR]; exact hl) (by omega) (by omega) ci cj
                  rw [← hR] at tk
                  generalize l.getD ((i + 1) * R + j) 0 = v at tk a1
                  have tl : (((mnL n k l).take (mnC n k i j)).map iu).length = (mnC n k i j) * 1 := by rw [List.length_map, List.length_take, mnL_len]; omega
                  have nle : mnC n k i j ≤ 4096 := by omega
                  clear ce
                  generalize (mnL n k l).take (mnC n k i j) = acc at tk tl ⊢
                  generalize hq : mnC n k i j = q at tk tl nle q2 ⊢
                  cases q with
                  | zero =>
                    obtain rfl : acc = [] := by cases acc; rfl; simp at tl
                    repeat (first | ((first | refine X_call_fn2 rfl (by simp only [tys]) ?_ | refine X_dcall_fn2 rfl (by simp only [tys]) ?_); apply Exists.intro; apply And.intro; (focus (simp -dsimp only [simx, zzC, zzB, tys, ite_self, opnL, callB, callX, readsB, stepOp, nilCmp, ofVal, opBuiltin, opLen, PV.sk, scalBin, scalUn, intBin, opLoad, natOf, opConvert, opField, cellsP, oneP, Value.oneCell', opStore, toIV, scalT, scalA, scalC, boxesA, boxesC, zipB_none, zipB_mx, isZ, opZip, zeroP, opAppendZ, opMakeMap, opLookup, mboxB, opUpdate, ↓reduceIte, Nat.reduceSub, Nat.reduceEqDiff, Nat.reduceAdd, Nat.reduceMul, Nat.reduceLT, Nat.reduceLeDiff, Int.reduceToNat, Int.reduceLE, Int.reduceLT, Int.reduceNeg, reduceCtorEq, zzL, if_true, if_false] <;> rfl)); apply Exists.intro; apply And.intro; (focus (first | exact a1))) | refine X_opc rfl ?_ | refine X_dopc rfl ?_ | refine ⟨(by show drawK _ _ = true; kernel_rfl : drawX _ _ _), ?_⟩ | exact (by show drawK _ _ = true; kernel_rfl : drawX _ _ _) | simp -dsimp (maxSteps := 20000000) (disch := omega) only [simx, zzC, zzB, tys, ite_self, opnL, callB, callX, readsB, stepOp, nilCmp, ofVal, opBuiltin, opLen, PV.sk, scalBin, scalUn, intBin, opLoad, natOf, opConvert, opField, cellsP, oneP, Value.oneCell', opStore, toIV, scalT, scalA, scalC, boxesA, boxesC, zipB_none, zipB_mx, isZ, opZip, zeroP, opAppendZ, opMakeMap, opLookup, mboxB, opUpdate, ↓reduceIte, Nat.reduceSub, Nat.reduceEqDiff, Nat.reduceAdd, Nat.reduceMul, Nat.reduceLT, Nat.reduceLeDiff, Int.reduceToNat, Int.reduceLE, Int.reduceLT, Int.reduceNeg, reduceCtorEq, gos, Int.reduceAdd, Int.reduceSub, Int.reduceMul, Int.reduceEq, cj, hjk', keysL_row0, keysL_rowS])
                    refine X_dappend_one 22 [.int .u64 0] [iu v] (by simp only [tys]) (by simp only [tys]) rfl (by decide) (by simp) (by simp [Heap.put_at, Heap.none_at, rowH_app]) (by simp [Heap.put_at]; rfl) rfl (by simp only [tys]; omega) (by rw [mx_len]; omega) ?_
                    repeat (first | refine X_opc rfl ?_ | refine X_dopc rfl ?_ | refine ⟨(by show drawK _ _ = true; kernel_rfl : drawX _ _ _), ?_⟩ | exact (by show drawK _ _ = true; kernel_rfl : drawX _ _ _) | simp -dsimp (maxSteps := 20000000) (disch := omega) only [simx, zzC, zzB, tys, ite_self, opnL, callB, callX, readsB, stepOp, nilCmp, ofVal, opBuiltin, opLen, PV.sk, scalBin, scalUn, intBin, opLoad, natOf, opConvert, opField, cellsP, oneP, Value.oneCell', opStore, toIV, scalT, scalA, scalC, boxesA, boxesC, zipB_none, zipB_mx, isZ, opZip, zeroP, opAppendZ, opMakeMap, opLookup, mboxB, opUpdate, ↓reduceIte, Nat.reduceSub, Nat.reduceEqDiff, Nat.reduceAdd, Nat.reduceMul, Nat.reduceLT, Nat.reduceLeDiff, Int.reduceToNat, Int.reduceLE, Int.reduceLT, Int.reduceNeg, reduceCtorEq, gos, Int.reduceAdd, Int.reduceSub, Int.reduceMul, Int.reduceEq, cj, keysL_row0, keysL_rowS, rowP_succ])
                    refine ⟨cj, (fgt_cons (by simp only [Heap.none_at]) (by (simp -dsimp only [zzB, tys, ite_self, opnL, callB, callX, readsB, stepOp, nilCmp, ofVal, opBuiltin, opLen, PV.sk, scalBin, scalUn, intBin, opLoad, natOf, opConvert, opField, cellsP, oneP, Value.oneCell', opStore, toIV, scalT, scalA, scalC, boxesA, boxesC, zipB_none, zipB_mx, isZ, opZip, zeroP, opAppendZ, opMakeMap, opLookup, mboxB, opUpdate, ↓reduceIte, Nat.reduceSub, Nat.reduceEqDiff, Nat.reduceAdd, Nat.reduceMul, Nat.reduceLT, Nat.reduceLeDiff, Int.reduceToNat, Int.reduceLE, Int.reduceLT, Int.reduceNeg, reduceCtorEq, notIn_cons, notIn_nil]) <;> simp [refsL, refsP, mem_refs_rowP]) (by repeat (first | exact noVar_none _ | refine noVar_row ?_ | refine noVar_map ?_ | refine noVar_rowH ?_ | refine noVar_var ?_ (by simp [refsL, refsP, mem_refs_rowP]))) (fgt_nil)), rfl, ?_⟩
                    rw [q2, tk]
                    funext c
                    simp (maxSteps := 20000000) only [Heap.drop_at, rowH_app, Heap.put_at, Heap.none_at, List.mem_cons, List.not_mem_nil, or_false]
                    by_cases e0 : c = (0, 0) :: base
                    · subst e0; simp [rowP]
                    by_cases e1 : c = (7, 7) :: base
                    · subst e1; simp [rowP]
                    by_cases e2 : c = (15, 6) :: base
                    · subst e2; simp [rowP]
                    by_cases e3 : c = (15, 7) :: base
                    · subst e3; simp [rowP]
                    simp [e0, e1, e2, e3, rowP]
                  | succ q =>
                    repeat (first | ((first | refine X_call_fn2 rfl (by simp only [tys]) ?_ | refine X_dcall_fn2 rfl (by simp only [tys]) ?_); apply Exists.intro; apply And.intro; (focus (simp -dsimp only [simx, zzC, zzB, tys, ite_self, opnL, callB, callX, readsB, stepOp, nilCmp, ofVal, opBuiltin, opLen, PV.sk, scalBin, scalUn, intBin, opLoad, natOf, opConvert, opField, cellsP, oneP, Value.oneCell', opStore, toIV, scalT, scalA, scalC, boxesA, boxesC, zipB_none, zipB_mx, isZ, opZip, zeroP, opAppendZ, opMakeMap, opLookup, mboxB, opUpdate, ↓reduceIte, Nat.reduceSub, Nat.reduceEqDiff, Nat.reduceAdd, Nat.reduceMul, Nat.reduceLT, Nat.reduceLeDiff, Int.reduceToNat, Int.reduceLE, Int.reduceLT, Int.reduceNeg, reduceCtorEq, zzL, if_true, if_false] <;> rfl)); apply Exists.intro; apply And.intro; (focus (first | exact a1))) | refine X_opc rfl ?_ | refine X_dopc rfl ?_ | refine ⟨(by show drawK _ _ = true; kernel_rfl : drawX _ _ _), ?_⟩ | exact (by show drawK _ _ = true; kernel_rfl : drawX _ _ _) | simp -dsimp (maxSteps := 20000000) (disch := omega) only [simx, zzC, zzB, tys, ite_self, opnL, callB, callX, readsB, stepOp, nilCmp, ofVal, opBuiltin, opLen, PV.sk, scalBin, scalUn, intBin, opLoad, natOf, opConvert, opField, cellsP, oneP, Value.oneCell', opStore, toIV, scalT, scalA, scalC, boxesA, boxesC, zipB_none, zipB_mx, isZ, opZip, zeroP, opAppendZ, opMakeMap, opLookup, mboxB, opUpdate, ↓reduceIte, Nat.reduceSub, Nat.reduceEqDiff, Nat.reduceAdd, Nat.reduceMul, Nat.reduceLT, Nat.reduceLeDiff, Int.reduceToNat, Int.reduceLE, Int.reduceLT, Int.reduceNeg, reduceCtorEq, gos, Int.reduceAdd, Int.reduceSub, Int.reduceMul, Int.reduceEq, cj, hjk', keysL_row0, keysL_rowS])
                    refine X_dappend_one 22 [.int .u64 0] [iu v] (by simp only [tys]) (by simp only [tys]) rfl (by decide) tl (by simp [Heap.put_at, Heap.none_at, rowH_app]) (by simp [Heap.put_at]; rfl) rfl (by simp only [tys]; omega) (by rw [mx_len]; omega) ?_
                    repeat (first | refine X_opc rfl ?_ | refine X_dopc rfl ?_ | refine ⟨(by show drawK _ _ = true; kernel_rfl : drawX _ _ _), ?_⟩ | exact (by show drawK _ _ = true; kernel_rfl : drawX _ _ _) | simp -dsimp (maxSteps := 20000000) (disch := omega) only [simx, zzC, zzB, tys, ite_self, opnL, callB, callX, readsB, stepOp, nilCmp, ofVal, opBuiltin, opLen, PV.sk, scalBin, scalUn, intBin, opLoad, natOf, opConvert, opField, cellsP, oneP, Value.oneCell', opStore, toIV, scalT, scalA, scalC, boxesA, boxesC, zipB_none, zipB_mx, isZ, opZip, zeroP, opAppendZ, opMakeMap, opLookup, mboxB, opUpdate, ↓reduceIte, Nat.reduceSub, Nat.reduceEqDiff, Nat.reduceAdd, Nat.reduceMul, Nat.reduceLT, Nat.reduceLeDiff, Int.reduceToNat, Int.reduceLE, Int.reduceLT, Int.reduceNeg, reduceCtorEq, gos, Int.reduceAdd, Int.reduceSub, Int.reduceMul, Int.reduceEq, cj, keysL_row0, keysL_rowS, rowP_succ])
                    refine ⟨cj, (fgt_cons (by simp only [Heap.none_at]) (by (simp -dsimp only [zzB, tys, ite_self, opnL, callB, callX, readsB, stepOp, nilCmp, ofVal, opBuiltin, opLen, PV.sk, scalBin, scalUn, intBin, opLoad, natOf, opConvert, opField, cellsP, oneP, Value.oneCell', opStore, toIV, scalT, scalA, scalC, boxesA, boxesC, zipB_none, zipB_mx, isZ, opZip, zeroP, opAppendZ, opMakeMap, opLookup, mboxB, opUpdate, ↓reduceIte, Nat.reduceSub, Nat.reduceEqDiff, Nat.reduceAdd, Nat.reduceMul, Nat.reduceLT, Nat.reduceLeDiff, Int.reduceToNat, Int.reduceLE, Int.reduceLT, Int.reduceNeg, reduceCtorEq, notIn_cons, notIn_nil]) <;> simp [refsL, refsP, mem_refs_rowP]) (by repeat (first | exact noVar_none _ | refine noVar_row ?_ | refine noVar_map ?_ | refine noVar_rowH ?_ | refine noVar_var ?_ (by simp [refsL, refsP, mem_refs_rowP]))) (fgt_nil)), rfl, ?_⟩
                    rw [q2, tk]
                    funext c
                    simp (maxSteps := 20000000) only [Heap.drop_at, rowH_app, Heap.put_at, Heap.none_at, List.mem_cons, List.not_mem_nil, or_false]
                    by_cases e0 : c = (0, 0) :: base
                    · subst e0; simp [rowP]
                    by_cases e1 : c = (7, 7) :: base
                    · subst e1; simp [rowP]
                    by_cases e2 : c = (15, 6) :: base
                    · subst e2; simp [rowP]
                    by_cases e3 : c = (15, 7) :: base
                    · subst e3; simp [rowP]
                    simp [e0, e1, e2, e3, rowP]
              · obtain rfl : R = j := by omega
                repeat (first | refine X_opc rfl ?_ | refine X_dopc rfl ?_ | refine ⟨(by show drawK _ _ = true; kernel_rfl : drawX _ _ _), ?_⟩ | exact (by show drawK _ _ = true; kernel_rfl : drawX _ _ _) | simp -dsimp (maxSteps := 20000000) (disch := omega) only [simx, zzC, zzB, tys, ite_self, opnL, callB, callX, readsB, stepOp, nilCmp, ofVal, opBuiltin, opLen, PV.sk, scalBin, scalUn, intBin, opLoad, natOf, opConvert, opField, cellsP, oneP, Value.oneCell', opStore, toIV, scalT, scalA, scalC, boxesA, boxesC, zipB_none, zipB_mx, isZ, opZip, zeroP, opAppendZ, opMakeMap, opLookup, mboxB, opUpdate, ↓reduceIte, Nat.reduceSub, Nat.reduceEqDiff, Nat.reduceAdd, Nat.reduceMul, Nat.reduceLT, Nat.reduceLeDiff, Int.reduceToNat, Int.reduceLE, Int.reduceLT, Int.reduceNeg, reduceCtorEq, gos, Int.reduceAdd, Int.reduceSub, Int.reduceMul, Int.reduceEq])
                refine ⟨ci, (fgt_nil), rfl, ?_⟩
                rw [Nat.add_sub_cancel, show R = n + 2 from hR, mnC_end i (by omega)]
                exact drop_nil _
          · have hi : i = n + 1 := by omega
            subst hi
            have q1 := ih k
            have m0 := hlp k
            rw [mnC_last, List.take_of_length_le (by rw [mnL_len]; exact Nat.le_refl _)]
            have ol := mnL_len n k l
            have oin := mnL_in (k := k) hl hin
            generalize mnL n k l = o at q1 ol oin m0 ⊢
            rw [m0] at q1
            have g0 : (l.map iu)[k]? = some (iu (l.getD k 0)) := by rw [List.getElem?_map, getD_some hl (by have := ic_bd (c := n + 1 + 1) (show 0 < n + 1 + 1 by omega); omega)]; rfl
            have kl : k < l.length := by rw [hl]; have := ic_bd (c := n + 1 + 1) (show 0 < n + 1 + 1 by omega); omega
            have in0 : In (p : Int) (l.getD k 0) := getD_of hin kl
            have sk : sumN (k + 1) (fun k => sg k * cl R l 0 k * Lp (n + 1) (mnr (cl R l) k)) = sumN k (fun k => sg k * cl R l 0 k * Lp (n + 1) (mnr (cl R l) k)) + sg k * cl R l 0 k * Lp (n + 1) (mnr (cl R l) k) := rfl
            have c0 : cl R l 0 k = l.getD k 0 := by unfold cl; rw [Nat.zero_mul, Nat.zero_add]
            rw [c0] at sk
            have hpos : 0 < (n + 1) * (n + 1) := Nat.mul_pos (by omega) (by omega)
            have rp := fun s z cs => rowP_pos s z cs hpos
            have rh := fun h s cs => rowH_pos h s cs hpos
            generalize (n + 1) * (n + 1) = N at ol rp rh hbig ⊢
            clear ih hlp hin oin hl
            have k2 : (k : Int).tmod 2 = ((k % 2 : Nat) : Int) := by rw [tmod_nn (by omega)]; rfl
            generalize hD : Lp (n + 1) (mnr (cl R l) k) = D at q1 sk
            rw [show Lp (n + 1) (mnr (cl (n + 2) l) k) = D by rw [← hR]; exact hD] at q1
            have m1 := rmul_walk' p (l.getD k 0) (D % p) hp in0 ⟨Int.emod_nonneg _ (by omega), by have := Int.emod_lt_of_pos D hp0; have := hp.2; omega⟩
            have i1 := emod_in (p := p) (l.getD k 0 * (D % p)) hp0
            generalize sumN k (fun k => sg k * cl R l 0 k * Lp (n + 1) (mnr (cl R l) k)) = S at sk ⊢
            have i2 := emod_in (p := p) S hp0
            rw [show matP ((n + 1 : Nat) : Int) ((n + 1 : Nat) : Int) o = .agg [i64 ((n + 1 : Nat) : Int), i64 ((n + 1 : Nat) : Int), .i (.l N (o.map iu))] by rw [matP, lu, ol]] at q1
            have tkN : (o.map iu).take N = o.map iu := List.take_of_length_le (by rw [List.length_map, ol]; exact Nat.le_refl _)
            rcases Nat.mod_two_eq_zero_or_one k with h2 | h2
            · have m2 := radd_walk p _ _ hp i2 i1
              rw [det_add, ← sg_even h2, ← sk] at m2
              rw [h2] at k2
              repeat (first | ((first | refine X_call_fn2 rfl (by simp only [tys]) ?_ | refine X_dcall_fn2 rfl (by simp only [tys]) ?_); apply Exists.intro; apply And.intro; (focus (simp -dsimp only [simx, zzC, zzB, tys, ite_self, opnL, callB, callX, readsB, stepOp, nilCmp, ofVal, opBuiltin, opLen, PV.sk, scalBin, scalUn, intBin, opLoad, natOf, opConvert, opField, cellsP, oneP, Value.oneCell', opStore, toIV, scalT, scalA, scalC, boxesA, boxesC, zipB_none, zipB_mx, isZ, opZip, zeroP, opAppendZ, opMakeMap, opLookup, mboxB, opUpdate, ↓reduceIte, Nat.reduceSub, Nat.reduceEqDiff, Nat.reduceAdd, Nat.reduceMul, Nat.reduceLT, Nat.reduceLeDiff, Int.reduceToNat, Int.reduceLE, Int.reduceLT, Int.reduceNeg, reduceCtorEq, zzL, if_true, if_false, List.length_map, ol, tkN, hpos] <;> rfl)); apply Exists.intro; apply And.intro; (focus (first | exact q1 | exact m1 | exact m2))) | refine X_opc rfl ?_ | refine X_dopc rfl ?_ | refine ⟨(by show drawK _ _ = true; kernel_rfl : drawX _ _ _), ?_⟩ | exact (by show drawK _ _ = true; kernel_rfl : drawX _ _ _) | simp -dsimp (maxSteps := 20000000) (disch := omega) only [simx, zzC, zzB, tys, ite_self, opnL, callB, callX, readsB, stepOp, nilCmp, ofVal, opBuiltin, opLen, PV.sk, scalBin, scalUn, intBin, opLoad, natOf, opConvert, opField, cellsP, oneP, Value.oneCell', opStore, toIV, scalT, scalA, scalC, boxesA, boxesC, zipB_none, zipB_mx, isZ, opZip, zeroP, opAppendZ, opMakeMap, opLookup, mboxB, opUpdate, ↓reduceIte, Nat.reduceSub, Nat.reduceEqDiff, Nat.reduceAdd, Nat.reduceMul, Nat.reduceLT, Nat.reduceLeDiff, Int.reduceToNat, Int.reduceLE, Int.reduceLT, Int.reduceNeg, reduceCtorEq, gos, Int.reduceAdd, Int.reduceSub, Int.reduceMul, Int.reduceEq, ck, g0, kl, rp, rh, k2, List.length_map, ol, tkN, hpos])
              refine ⟨ck, fgt_mk (h' := Heap.none.put ((0, 0) :: base) (.var [i64 R, i64 R, lu l])) ?_ ?_ ?_ ?_, rfl, ?_⟩
              rotate_left
              · intro b _; rfl
              · intro b hb; simp only [List.mem_cons, List.not_mem_nil, or_false] at hb; rcases hb with rfl | rfl <;> simp [NotIn, refsP, upd, toL]
              · intro b hb; exact noVar_var (noVar_none _) (by simp [refsL, refsP])
              · funext c
                simp (maxSteps := 20000000) only [Heap.drop_at, rowH_app, Heap.put_at, Heap.none_at, List.mem_cons, List.not_mem_nil, or_false]
                by_cases e0 : c = (0, 0) :: base
                · subst e0; simp []
                by_cases e1 : c = (7, 7) :: base
                · subst e1; simp []
                by_cases e2 : c = (15, 7) :: base
                · subst e2; simp []
                simp [e0, e1, e2]
              · funext c
                simp (maxSteps := 20000000) only [Heap.drop_at, rowH_app, Heap.put_at, Heap.none_at, List.mem_cons, List.not_mem_nil, or_false]
                by_cases e0 : c = (0, 0) :: base
                · subst e0; simp []
                by_cases e1 : c = (7, 7) :: base
                · subst e1; simp []
                by_cases e2 : c = (15, 7) :: base
                · subst e2; simp []
                simp [e0, e1, e2]
            · have m2 := rsub_walk p _ _ hp i2 i1
              rw [det_sub, ← sg_odd (show ¬ k % 2 = 0 by omega), ← sk] at m2
              rw [h2] at k2
              repeat (first | ((first | refine X_call_fn2 rfl (by simp only [tys]) ?_ | refine X_dcall_fn2 rfl (by simp only [tys]) ?_); apply Exists.intro; apply And.intro; (focus (simp -dsimp only [simx, zzC, zzB, tys, ite_self, opnL, callB, callX, readsB, stepOp, nilCmp, ofVal, opBuiltin, opLen, PV.sk, scalBin, scalUn, intBin, opLoad, natOf, opConvert, opField, cellsP, oneP, Value.oneCell', opStore, toIV, scalT, scalA, scalC, boxesA, boxesC, zipB_none, zipB_mx, isZ, opZip, zeroP, opAppendZ, opMakeMap, opLookup, mboxB, opUpdate, ↓reduceIte, Nat.reduceSub, Nat.reduceEqDiff, Nat.reduceAdd, Nat.reduceMul, Nat.reduceLT, Nat.reduceLeDiff, Int.reduceToNat, Int.reduceLE, Int.reduceLT, Int.reduceNeg, reduceCtorEq, zzL, if_true, if_false, List.length_map, ol, tkN, hpos] <;> rfl)); apply Exists.intro; apply And.intro; (focus (first | exact q1 | exact m1 | exact m2))) | refine X_opc rfl ?_ | refine X_dopc rfl ?_ | refine ⟨(by show drawK _ _ = true; kernel_rfl : drawX _ _ _), ?_⟩ | exact (by show drawK _ _ = true; kernel_rfl : drawX _ _ _) | simp -dsimp (maxSteps := 20000000) (disch := omega) only [simx, zzC, zzB, tys, ite_self, opnL, callB, callX, readsB, stepOp, nilCmp, ofVal, opBuiltin, opLen, PV.sk, scalBin, scalUn, intBin, opLoad, natOf, opConvert, opField, cellsP, oneP, Value.oneCell', opStore, toIV, scalT, scalA, scalC, boxesA, boxesC, zipB_none, zipB_mx, isZ, opZip, zeroP, opAppendZ, opMakeMap, opLookup, mboxB, opUpdate, ↓reduceIte, Nat.reduceSub, Nat.reduceEqDiff, Nat.reduceAdd, Nat.reduceMul, Nat.reduceLT, Nat.reduceLeDiff, Int.reduceToNat, Int.reduceLE, Int.reduceLT, Int.reduceNeg, reduceCtorEq, gos, Int.reduceAdd, Int.reduceSub, Int.reduceMul, Int.reduceEq, ck, g0, kl, rp, rh, k2, List.length_map, ol, tkN, hpos])
              refine ⟨ck, fgt_mk (h' := Heap.none.put ((0, 0) :: base) (.var [i64 R, i64 R, lu l])) ?_ ?_ ?_ ?_, rfl, ?_⟩
              rotate_left
              · intro b _; rfl
              · intro b hb; simp only [List.mem_cons, List.not_mem_nil, or_false] at hb; rcases hb with rfl | rfl <;> simp [NotIn, refsP, upd, toL]
              · intro b hb; exact noVar_var (noVar_none _) (by simp [refsL, refsP])
              · funext c
                simp (maxSteps := 20000000) only [Heap.drop_at, rowH_app, Heap.put_at, Heap.none_at, List.mem_cons, List.not_mem_nil, or_false]
                by_cases e0 : c = (0, 0) :: base
                · subst e0; simp []
                by_cases e1 : c = (7, 7) :: base
                · subst e1; simp []
                by_cases e2 : c = (15, 7) :: base
                · subst e2; simp []
                simp [e0, e1, e2]
              · funext c
                simp (maxSteps := 20000000) only [Heap.drop_at, rowH_app, Heap.put_at, Heap.none_at, List.mem_cons, List.not_mem_nil, or_false]
                by_cases e0 : c = (0, 0) :: base
                · subst e0; simp []
                by_cases e1 : c = (7, 7) :: base
                · subst e1; simp []
                by_cases e2 : c = (15, 7) :: base
                · subst e2; simp []
                simp [e0, e1, e2]
      · have ek : k = R := by omega
        subst ek
        repeat (first | refine X_opc rfl ?_ | refine X_dopc rfl ?_ | refine ⟨(by show drawK _ _ = true; kernel_rfl : drawX _ _ _), ?_⟩ | exact (by show drawK _ _ = true; kernel_rfl : drawX _ _ _) | simp -dsimp (maxSteps := 20000000) (disch := omega) only [simx, zzC, zzB, tys, ite_self, opnL, callB, callX, readsB, stepOp, nilCmp, ofVal, opBuiltin, opLen, PV.sk, scalBin, scalUn, intBin, opLoad, natOf, opConvert, opField, cellsP, oneP, Value.oneCell', opStore, toIV, scalT, scalA, scalC, boxesA, boxesC, zipB_none, zipB_mx, isZ, opZip, zeroP, opAppendZ, opMakeMap, opLookup, mboxB, opUpdate, ↓reduceIte, Nat.reduceSub, Nat.reduceEqDiff, Nat.reduceAdd, Nat.reduceMul, Nat.reduceLT, Nat.reduceLeDiff, Int.reduceToNat, Int.reduceLE, Int.reduceLT, Int.reduceNeg, reduceCtorEq, zzR, gos, Int.reduceAdd, Int.reduceSub, Int.reduceMul, Int.reduceEq])
end Go.Proofs.Ythnfphgjfpcpbaa.TM
namespace Go.Proofs.Ythnfphgjfpcpbaa.TM
open Go Go.RowKit
attribute [local irreducible] K W WOps Effs Xg Xo Xr Xdg Xdo Xdr Xif CallsP CallR
set_option maxHeartbeats 4000000 in
theorem cupDet_true (a0 : Int) (a1 : Int × Int × List Int) (w0 : (Lit.int .u64 a0).wf = true) (w1 : ((Lit.int .i64 a1.1).wf = true ∧ (Lit.int .i64 a1.2.1).wf = true ∧ (a1.2.2.length ≤ maxLen ∧ ∀ e23_ ∈ a1.2.2, (Lit.int .u64 e23_).wf = true))) :
    CallsP Try.prog 8 [.i (IV.v (.int .u64 a0)), .agg [.i (IV.v (.int .i64 a1.1)), .i (IV.v (.int .i64 a1.2.1)), .i (IV.l a1.2.2.length (a1.2.2.map fun y => IV.v (.int .u64 y)))]] (bl true) := by
  obtain ⟨r, c, l⟩ := a1
  obtain ⟨v1, v2, v3, v4⟩ := w1
  simp only at v1 v2 v3 v4 ⊢
  have wp := w64_of w0
  obtain ⟨P, rfl⟩ : ∃ P : Nat, a0 = P := ⟨a0.toNat, by have := wp.1; omega⟩
  have wl := w64_all v4
  have d0 := awake07_walk
  obtain ⟨pb, d1, hpr⟩ := prime7_walk P (by have := wp.2; omega)
  have d2 := mright_walk P r c l v3
  change CallsP Try.prog 8 [u64 P, matP r c l] (bl true)
  by_cases c0 : (25 : Int) < l.length
  · refine X_startP (n := 50) (m := 2) (rs := [.tmp 4]) Try.func8 rfl rfl rfl rfl (by decide) fun base => ?_
    repeat (first | ((first | refine X_call_fn2 rfl (by simp only [tys]) ?_ | refine X_dcall_fn2 rfl (by simp only [tys]) ?_); apply Exists.intro; apply And.intro; (focus (simp -dsimp only [simx, zzC, zzB, tys, ite_self, opnL, callB, callX, readsB, stepOp, nilCmp, ofVal, opBuiltin, opLen, PV.sk, scalBin, scalUn, intBin, opLoad, natOf, opConvert, opField, cellsP, oneP, Value.oneCell', opStore, toIV, scalT, scalA, scalC, boxesA, boxesC, zipB_none, zipB_mx, isZ, opZip, zeroP, opAppendZ, opMakeMap, opLookup, mboxB, opUpdate, ↓reduceIte, Nat.reduceSub, Nat.reduceEqDiff, Nat.reduceAdd, Nat.reduceMul, Nat.reduceLT, Nat.reduceLeDiff, Int.reduceToNat, Int.reduceLE, Int.reduceLT, Int.reduceNeg, reduceCtorEq, zzL, if_true, if_false] <;> rfl)); apply Exists.intro; apply And.intro; (focus (first | exact d0))) | refine X_opc rfl ?_ | refine X_dopc rfl ?_ | refine ⟨(by show drawK _ _ = true; kernel_rfl : drawX _ _ _), ?_⟩ | exact (by show drawK _ _ = true; kernel_rfl : drawX _ _ _) | simp -dsimp (maxSteps := 20000000) (disch := omega) only [simx, zzC, zzB, tys, ite_self, opnL, callB, callX, readsB, stepOp, nilCmp, ofVal, opBuiltin, opLen, PV.sk, scalBin, scalUn, intBin, opLoad, natOf, opConvert, opField, cellsP, oneP, Value.oneCell', opStore, toIV, scalT, scalA, scalC, boxesA, boxesC, zipB_none, zipB_mx, isZ, opZip, zeroP, opAppendZ, opMakeMap, opLookup, mboxB, opUpdate, ↓reduceIte, Nat.reduceSub, Nat.reduceEqDiff, Nat.reduceAdd, Nat.reduceMul, Nat.reduceLT, Nat.reduceLeDiff, Int.reduceToNat, Int.reduceLE, Int.reduceLT, Int.reduceNeg, reduceCtorEq, zzR, gos, Int.reduceAdd, Int.reduceSub, Int.reduceMul, Int.reduceEq, c0])
  cases pb with
  | false =>
    refine X_startP (n := 50) (m := 2) (rs := [.tmp 4]) Try.func8 rfl rfl rfl rfl (by decide) fun base => ?_
    repeat (first | ((first | refine X_call_fn2 rfl (by simp only [tys]) ?_ | refine X_dcall_fn2 rfl (by simp only [tys]) ?_); apply Exists.intro; apply And.intro; (focus (simp -dsimp only [simx, zzC, zzB, tys, ite_self, opnL, callB, callX, readsB, stepOp, nilCmp, ofVal, opBuiltin, opLen, PV.sk, scalBin, scalUn, intBin, opLoad, natOf, opConvert, opField, cellsP, oneP, Value.oneCell', opStore, toIV, scalT, scalA, scalC, boxesA, boxesC, zipB_none, zipB_mx, isZ, opZip, zeroP, opAppendZ, opMakeMap, opLookup, mboxB, opUpdate, ↓reduceIte, Nat.reduceSub, Nat.reduceEqDiff, Nat.reduceAdd, Nat.reduceMul, Nat.reduceLT, Nat.reduceLeDiff, Int.reduceToNat, Int.reduceLE, Int.reduceLT, Int.reduceNeg, reduceCtorEq, zzL, if_true, if_false] <;> rfl)); apply Exists.intro; apply And.intro; (focus (first | exact d0 | exact d1))) | refine X_opc rfl ?_ | refine X_dopc rfl ?_ | refine ⟨(by show drawK _ _ = true; kernel_rfl : drawX _ _ _), ?_⟩ | exact (by show drawK _ _ = true; kernel_rfl : drawX _ _ _) | simp -dsimp (maxSteps := 20000000) (disch := omega) only [simx, zzC, zzB, tys, ite_self, opnL, callB, callX, readsB, stepOp, nilCmp, ofVal, opBuiltin, opLen, PV.sk, scalBin, scalUn, intBin, opLoad, natOf, opConvert, opField, cellsP, oneP, Value.oneCell', opStore, toIV, scalT, scalA, scalC, boxesA, boxesC, zipB_none, zipB_mx, isZ, opZip, zeroP, opAppendZ, opMakeMap, opLookup, mboxB, opUpdate, ↓reduceIte, Nat.reduceSub, Nat.reduceEqDiff, Nat.reduceAdd, Nat.reduceMul, Nat.reduceLT, Nat.reduceLeDiff, Int.reduceToNat, Int.reduceLE, Int.reduceLT, Int.reduceNeg, reduceCtorEq, zzR, gos, Int.reduceAdd, Int.reduceSub, Int.reduceMul, Int.reduceEq, c0])
  | true =>
    have hP := hpr rfl
    cases hm : MatB P r c l with
    | false =>
      have d3 := det_no hP v3 wl (.inr hm)
      rw [hm] at d2
      refine X_startP (n := 50) (m := 2) (rs := [.tmp 4]) Try.func8 rfl rfl rfl rfl (by decide) fun base => ?_
      repeat (first | ((first | refine X_call_fn2 rfl (by simp only [tys]) ?_ | refine X_dcall_fn2 rfl (by simp only [tys]) ?_); apply Exists.intro; apply And.intro; (focus (simp -dsimp only [simx, zzC, zzB, tys, ite_self, opnL, callB, callX, readsB, stepOp, nilCmp, ofVal, opBuiltin, opLen, PV.sk, scalBin, scalUn, intBin, opLoad, natOf, opConvert, opField, cellsP, oneP, Value.oneCell', opStore, toIV, scalT, scalA, scalC, boxesA, boxesC, zipB_none, zipB_mx, isZ, opZip, zeroP, opAppendZ, opMakeMap, opLookup, mboxB, opUpdate, ↓reduceIte, Nat.reduceSub, Nat.reduceEqDiff, Nat.reduceAdd, Nat.reduceMul, Nat.reduceLT, Nat.reduceLeDiff, Int.reduceToNat, Int.reduceLE, Int.reduceLT, Int.reduceNeg, reduceCtorEq, zzL, if_true, if_false] <;> rfl)); apply Exists.intro; apply And.intro; (focus (first | exact d0 | exact d1 | exact d2 | exact d3))) | refine X_opc rfl ?_ | refine X_dopc rfl ?_ | refine ⟨(by show drawK _ _ = true; kernel_rfl : drawX _ _ _), ?_⟩ | exact (by show drawK _ _ = true; kernel_rfl : drawX _ _ _) | simp -dsimp (maxSteps := 20000000) (disch := omega) only [simx, zzC, zzB, tys, ite_self, opnL, callB, callX, readsB, stepOp, nilCmp, ofVal, opBuiltin, opLen, PV.sk, scalBin, scalUn, intBin, opLoad, natOf, opConvert, opField, cellsP, oneP, Value.oneCell', opStore, toIV, scalT, scalA, scalC, boxesA, boxesC, zipB_none, zipB_mx, isZ, opZip, zeroP, opAppendZ, opMakeMap, opLookup, mboxB, opUpdate, ↓reduceIte, Nat.reduceSub, Nat.reduceEqDiff, Nat.reduceAdd, Nat.reduceMul, Nat.reduceLT, Nat.reduceLeDiff, Int.reduceToNat, Int.reduceLE, Int.reduceLT, Int.reduceNeg, reduceCtorEq, zzR, gos, Int.reduceAdd, Int.reduceSub, Int.reduceMul, Int.reduceEq, c0])
    | true =>
      by_cases e : r = c
      case neg =>
        have d3 := det_no hP v3 wl (.inl e)
        rw [hm] at d2
        refine X_startP (n := 50) (m := 2) (rs := [.tmp 4]) Try.func8 rfl rfl rfl rfl (by decide) fun base => ?_
        repeat (first | ((first | refine X_call_fn2 rfl (by simp only [tys]) ?_ | refine X_dcall_fn2 rfl (by simp only [tys]) ?_); apply Exists.intro; apply And.intro; (focus (simp -dsimp only [simx, zzC, zzB, tys, ite_self, opnL, callB, callX, readsB, stepOp, nilCmp, ofVal, opBuiltin, opLen, PV.sk, scalBin, scalUn, intBin, opLoad, natOf, opConvert, opField, cellsP, oneP, Value.oneCell', opStore, toIV, scalT, scalA, scalC, boxesA, boxesC, zipB_none, zipB_mx, isZ, opZip, zeroP, opAppendZ, opMakeMap, opLookup, mboxB, opUpdate, ↓reduceIte, Nat.reduceSub, Nat.reduceEqDiff, Nat.reduceAdd, Nat.reduceMul, Nat.reduceLT, Nat.reduceLeDiff, Int.reduceToNat, Int.reduceLE, Int.reduceLT, Int.reduceNeg, reduceCtorEq, zzL, if_true, if_false] <;> rfl)); apply Exists.intro; apply And.intro; (focus (first | exact d0 | exact d1 | exact d2 | exact d3))) | refine X_opc rfl ?_ | refine X_dopc rfl ?_ | refine ⟨(by show drawK _ _ = true; kernel_rfl : drawX _ _ _), ?_⟩ | exact (by show drawK _ _ = true; kernel_rfl : drawX _ _ _) | simp -dsimp (maxSteps := 20000000) (disch := omega) only [simx, zzC, zzB, tys, ite_self, opnL, callB, callX, readsB, stepOp, nilCmp, ofVal, opBuiltin, opLen, PV.sk, scalBin, scalUn, intBin, opLoad, natOf, opConvert, opField, cellsP, oneP, Value.oneCell', opStore, toIV, scalT, scalA, scalC, boxesA, boxesC, zipB_none, zipB_mx, isZ, opZip, zeroP, opAppendZ, opMakeMap, opLookup, mboxB, opUpdate, ↓reduceIte, Nat.reduceSub, Nat.reduceEqDiff, Nat.reduceAdd, Nat.reduceMul, Nat.reduceLT, Nat.reduceLeDiff, Int.reduceToNat, Int.reduceLE, Int.reduceLT, Int.reduceNeg, reduceCtorEq, zzR, gos, Int.reduceAdd, Int.reduceSub, Int.reduceMul, Int.reduceEq, c0, e])
      subst e
      obtain ⟨R, R', rfl, e2, M⟩ := mat_of hm
      obtain rfl : R = R' := by omega
      rw [hm] at d2
      have hin : ∀ a ∈ l, In P a := fun a ha => in_of M.has wl ha
      have d3 := det_yes hP M hin
      have r1 := M.r1
      have r2 := M.r2
      have ml := M.len
      obtain ⟨n, rfl⟩ : ∃ n, R = n + 1 := ⟨R - 1, by omega⟩
      have d4 := rdet_walk M.hp n l r2 ml hin
      generalize Lp (n + 1) (cl (n + 1) l) % (P : Int) = D at d3 d4
      clear e2
      generalize n + 1 = R at *
      refine X_startP (n := 50) (m := 2) (rs := [.tmp 4]) Try.func8 rfl rfl rfl rfl (by decide) fun base => ?_
      repeat (first | ((first | refine X_call_fn2 rfl (by simp only [tys]) ?_ | refine X_dcall_fn2 rfl (by simp only [tys]) ?_); apply Exists.intro; apply And.intro; (focus (simp -dsimp only [simx, zzC, zzB, tys, ite_self, opnL, callB, callX, readsB, stepOp, nilCmp, ofVal, opBuiltin, opLen, PV.sk, scalBin, scalUn, intBin, opLoad, natOf, opConvert, opField, cellsP, oneP, Value.oneCell', opStore, toIV, scalT, scalA, scalC, boxesA, boxesC, zipB_none, zipB_mx, isZ, opZip, zeroP, opAppendZ, opMakeMap, opLookup, mboxB, opUpdate, ↓reduceIte, Nat.reduceSub, Nat.reduceEqDiff, Nat.reduceAdd, Nat.reduceMul, Nat.reduceLT, Nat.reduceLeDiff, Int.reduceToNat, Int.reduceLE, Int.reduceLT, Int.reduceNeg, reduceCtorEq, zzL, if_true, if_false] <;> rfl)); apply Exists.intro; apply And.intro; (focus (first | exact d0 | exact d1 | exact d2 | exact d3 | exact d4))) | refine X_opc rfl ?_ | refine X_dopc rfl ?_ | refine ⟨(by show drawK _ _ = true; kernel_rfl : drawX _ _ _), ?_⟩ | exact (by show drawK _ _ = true; kernel_rfl : drawX _ _ _) | simp -dsimp (maxSteps := 20000000) (disch := omega) only [simx, zzC, zzB, tys, ite_self, opnL, callB, callX, readsB, stepOp, nilCmp, ofVal, opBuiltin, opLen, PV.sk, scalBin, scalUn, intBin, opLoad, natOf, opConvert, opField, cellsP, oneP, Value.oneCell', opStore, toIV, scalT, scalA, scalC, boxesA, boxesC, zipB_none, zipB_mx, isZ, opZip, zeroP, opAppendZ, opMakeMap, opLookup, mboxB, opUpdate, ↓reduceIte, Nat.reduceSub, Nat.reduceEqDiff, Nat.reduceAdd, Nat.reduceMul, Nat.reduceLT, Nat.reduceLeDiff, Int.reduceToNat, Int.reduceLE, Int.reduceLT, Int.reduceNeg, reduceCtorEq, zzR, gos, Int.reduceAdd, Int.reduceSub, Int.reduceMul, Int.reduceEq, c0])
end Go.Proofs.Ythnfphgjfpcpbaa.TM
