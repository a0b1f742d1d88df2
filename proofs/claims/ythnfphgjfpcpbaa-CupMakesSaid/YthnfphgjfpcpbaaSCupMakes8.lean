/- What is proved of functions, and plain facts, part 8. Conditions: none. -/
import Derived.Test.YthnfphgjfpcpbaaSCupMakes7
set_option linter.defProp false
set_option linter.unusedSectionVars false
set_option linter.unusedSimpArgs false
set_option linter.unusedVariables false
namespace Go.Proofs.Ythnfphgjfpcpbaa.TM
open Go Go.RowKit
attribute [local irreducible] K W WOps Effs Xg Xo Xr Xdg Xdo Xdr Xif CallsP CallR
def mkP (p : Int) (X Y : Nat → Int) : Nat → Int
  | 0 => 0
  | k + 1 => (mkP p X Y k + X k * Y k % p) % p
theorem mkP_in {p : Int} (hp : Md p) (X Y : Nat → Int) : ∀ k, In p (mkP p X Y k)
  | 0 => ⟨by show (0 : Int) ≤ 0; omega, by have := hp.1; show (0 : Int) < p; omega⟩
  | k + 1 => in_emod hp _
def mkG (p : Int) (cc uu : List (List Int)) (i q k : Nat) : Int := mkP p (fun k => (cc.getD i []).getD k 0) (fun k => (uu.getD k []).getD q 0) k
def mkF (p : Int) (cc uu : List (List Int)) (K C i k q : Nat) : Nat → Int := fun t => if t / C < i then mkG p cc uu (t / C) (t % C) K else if t / C = i then (if t % C < q then mkG p cc uu i (t % C) (k + 1) else mkG p cc uu i (t % C) k) else 0
def makeM (p : Int) (cc uu : List (List Int)) (R K C : Nat) : List Int := tbl (R * C) (fun t => mkG p cc uu (t / C) (t % C) K)
section
variable {p : Int} {cc uu : List (List Int)} {K C i k q R : Nat}
theorem mkF_0 : mkF p cc uu K C 0 0 0 = fun _ => 0 := by
  funext t
  unfold mkF
  rw [if_neg (Nat.not_lt_zero _)]
  split
  · rw [if_neg (Nat.not_lt_zero _)]; rfl
  · rfl
theorem mkF_q (hC : 0 < C) : mkF p cc uu K C i k C = mkF p cc uu K C i (k + 1) 0 := by
  funext t
  unfold mkF
  rw [if_pos (Nat.mod_lt t hC), if_neg (Nat.not_lt_zero (t % C))]
theorem mkF_k : mkF p cc uu K C i K 0 = mkF p cc uu K C (i + 1) 0 0 := by
  funext t
  unfold mkF
  simp only [Nat.not_lt_zero, if_false]
  by_cases c1 : t / C < i
  · rw [if_pos c1, if_pos (by omega)]
  · rw [if_neg c1]
    by_cases c2 : t / C = i
    · rw [if_pos c2, if_pos (by omega), c2]
    · rw [if_neg c2, if_neg (by omega)]
      by_cases c3 : t / C = i + 1
      · rw [if_pos c3]; rfl
      · rw [if_neg c3]
theorem mkF_s (hq : q < C) : (fun t => if t = i * C + q then mkG p cc uu i q (k + 1) else mkF p cc uu K C i k q t) = mkF p cc uu K C i k (q + 1) := by
  funext t
  have d1 : (i * C + q) / C = i := by rw [Nat.mul_comm, Nat.mul_add_div (by omega), Nat.div_eq_of_lt hq, Nat.add_zero]
  have d2 : (i * C + q) % C = q := by rw [Nat.mul_comm, Nat.mul_add_mod, Nat.mod_eq_of_lt hq]
  by_cases e : t = i * C + q
  · subst e
    unfold mkF
    rw [if_pos rfl, d1, d2, if_neg (by omega), if_pos rfl, if_pos (by omega)]
  · rw [if_neg e]
    unfold mkF
    by_cases c1 : t / C < i
    · rw [if_pos c1, if_pos c1]
    · rw [if_neg c1, if_neg c1]
      by_cases c2 : t / C = i
      · rw [if_pos c2, if_pos c2]
        have : t % C ≠ q := fun h => e (by rw [← c2, ← h, Nat.mul_comm]; exact (Nat.div_add_mod t C).symm)
        by_cases c3 : t % C < q
        · rw [if_pos c3, if_pos (by omega)]
        · rw [if_neg c3, if_neg (by omega)]
      · rw [if_neg c2, if_neg c2]
theorem mkF_at (hq : q < C) : mkF p cc uu K C i k q (i * C + q) = mkG p cc uu i q k := by
  have d1 : (i * C + q) / C = i := by rw [Nat.mul_comm, Nat.mul_add_div (by omega), Nat.div_eq_of_lt hq, Nat.add_zero]
  have d2 : (i * C + q) % C = q := by rw [Nat.mul_comm, Nat.mul_add_mod, Nat.mod_eq_of_lt hq]
  unfold mkF
  rw [d1, d2, if_neg (by omega), if_pos rfl, if_neg (by omega)]
theorem mkF_end : tbl (R * C) (mkF p cc uu K C R 0 0) = makeM p cc uu R K C := tbl_congr fun t ht => by
  unfold mkF
  rw [if_pos (Nat.div_lt_of_lt_mul (by rw [Nat.mul_comm]; exact ht))]
end
set_option maxHeartbeats 8000000 in
theorem make_yes {p : Int} {R C K : Nat} {rw0 cw : List Int} {cc uu : List (List Int)} (hp : Md p) (r1 : 1 ≤ R) (r2 : R ≤ 64) (c1 : 1 ≤ C) (c2 : C ≤ 64) (hc : cc.length = R) (hu : uu.length = K) (hK : K ≤ maxLen)
    (hc2 : ∀ x ∈ cc, x.length = K ∧ ∀ a ∈ x, In p a) (hu2 : ∀ x ∈ uu, x.length = C ∧ ∀ a ∈ x, In p a) :
    CallsP Try.prog 47 [u64 p, cupQ (rw0, cw, cc, uu), i64 R, i64 C] (.tup [matP R C (makeM p cc uu R K C), i64 0]) := by
  have q1 := right_walk p
  rw [show RightB p = true by unfold RightB; simp; exact ⟨by have := hp.1; omega, by have := hp.2; omega⟩] at q1
  have q2 := side7_walk (R : Int)
  rw [(side_iff _).2 ⟨by omega, by omega⟩] at q2
  have q3 := side7_walk (C : Int)
  rw [(side_iff _).2 ⟨by omega, by omega⟩] at q3
  have q4 := rows7_walk (p := p) (each := (K : Int)) (l := cc) (by rw [mx_len]; omega) (fun u h => by rw [(hc2 u h).1]; exact hK)
  rw [(rowsB_iff _ _ _).2 fun u h => ⟨by rw [(hc2 u h).1], (has_iff _ _).2 ⟨fun a ha => ((hc2 u h).2 a ha).2, hp⟩⟩] at q4
  have q5 := rows7_walk (p := p) (each := (C : Int)) (l := uu) (by rw [hu]; exact hK) (fun u h => by rw [(hu2 u h).1, mx_len]; omega)
  rw [(rowsB_iff _ _ _).2 fun u h => ⟨by rw [(hu2 u h).1], (has_iff _ _).2 ⟨fun a ha => ((hu2 u h).2 a ha).2, hp⟩⟩] at q5
  have bd := rc_bd r2 c2
  have f1 : IntKind.i64.wrap ((R : Int) * (C : Int)) = ((R * C : Nat) : Int) := by rw [← Int.natCast_mul]; exact iw_of (by omega) (by omega)
  have cb : R * C * 8 ≤ 140737488355328 := by omega
  have cb2 : R * C ≤ 140737488355328 := by omega
  have f0 : (0 : Int) ≤ ((R * C : Nat) : Int) := by omega
  have z0 := zero_tbl (R * C)
  rw [← mkF_0 (p := p) (cc := cc) (uu := uu) (K := K) (C := C)] at z0
  rw [← mkF_end]
  have hcc : (cc.length : Int) = (R : Int) := by omega
  rw [mx_len] at hK
  refine X_startP (n := 126) (m := 4) (rs := [.cell 8 25, .tmp 9]) Try.func47 rfl rfl rfl rfl (by decide) fun base => ?_
  repeat (first | ((first | refine X_call_fn2 rfl (by simp only [tys]) ?_ | refine X_dcall_fn2 rfl (by simp only [tys]) ?_); apply Exists.intro; apply And.intro; (focus (simp -dsimp only [simx, zzC, zzB, tys, ite_self, opnL, callB, callX, readsB, stepOp, nilCmp, ofVal, opBuiltin, opLen, PV.sk, scalBin, scalUn, intBin, opLoad, natOf, opConvert, opField, cellsP, oneP, Value.oneCell', opStore, toIV, scalT, scalA, scalC, boxesA, boxesC, zipB_none, zipB_mx, isZ, opZip, zeroP, opAppendZ, opMakeMap, opLookup, mboxB, opUpdate, ↓reduceIte, Nat.reduceSub, Nat.reduceEqDiff, Nat.reduceAdd, Nat.reduceMul, Nat.reduceLT, Nat.reduceLeDiff, Int.reduceToNat, Int.reduceLE, Int.reduceLT, Int.reduceNeg, reduceCtorEq, zzL, if_true, if_false] <;> rfl)); apply Exists.intro; apply And.intro; (focus (first | exact q1 | exact q2 | exact q3 | exact q4 | exact q5))) | refine X_opc rfl ?_ | refine X_dopc rfl ?_ | refine ⟨(by show drawK _ _ = true; kernel_rfl : drawX _ _ _), ?_⟩ | exact (by show drawK _ _ = true; kernel_rfl : drawX _ _ _) | simp -dsimp (maxSteps := 20000000) (disch := omega) only [simx, zzC, zzB, tys, ite_self, opnL, callB, callX, readsB, stepOp, nilCmp, ofVal, opBuiltin, opLen, PV.sk, scalBin, scalUn, intBin, opLoad, natOf, opConvert, opField, cellsP, oneP, Value.oneCell', opStore, toIV, scalT, scalA, scalC, boxesA, boxesC, zipB_none, zipB_mx, isZ, opZip, zeroP, opAppendZ, opMakeMap, opLookup, mboxB, opUpdate, ↓reduceIte, Nat.reduceSub, Nat.reduceEqDiff, Nat.reduceAdd, Nat.reduceMul, Nat.reduceLT, Nat.reduceLeDiff, Int.reduceToNat, Int.reduceLE, Int.reduceLT, Int.reduceNeg, reduceCtorEq, gos, Int.reduceAdd, Int.reduceSub, Int.reduceMul, Int.reduceEq, SK.len, hcc, hu, f1, f0, cb, cb2, z0])
  clear q1 q2 q3 q4 q5 z0 f0 f1 cb cb2
  refine X_loopH [0, 3, 5, 8, 10, 67, 68, 69] [] (0) (R) (fun j => True) (fun j => [(68, i64 R), (69, i64 j)]) (fun j => ((((Heap.none.put ((0, 0) :: base) (.var [li rw0, li cw, llP cc, llP uu])).put ((0, 1) :: base) (.var [i64 0, i64 0, nilP])).put ((3, 5) :: base) (.row false ((tbl (R * C) (mkF p cc uu K C j 0 0)).map iu))).put ((3, 7) :: base) (.var [i64 R, i64 C, .view ((3, 5) :: base) 0 1 (R * C) (R * C)]))) ?_ ?_ ?_ ?_ ?_ (by decide) ?_
  · exact (fgt_nil)
  · ((simp -dsimp (disch := omega) only [simx, zzB, tys, ite_self, opnL, callB, callX, readsB, stepOp, nilCmp, ofVal, opBuiltin, opLen, PV.sk, scalBin, scalUn, intBin, opLoad, natOf, opConvert, opField, cellsP, oneP, Value.oneCell', opStore, toIV, scalT, scalA, scalC, boxesA, boxesC, zipB_none, zipB_mx, isZ, opZip, zeroP, opAppendZ, opMakeMap, opLookup, mboxB, opUpdate, ↓reduceIte, Nat.reduceSub, Nat.reduceEqDiff, Nat.reduceAdd, Nat.reduceMul, Nat.reduceLT, Nat.reduceLeDiff, Int.reduceToNat, Int.reduceLE, Int.reduceLT, Int.reduceNeg, reduceCtorEq, gos, Int.reduceAdd, Int.reduceSub, Int.reduceMul, Int.reduceEq]) <;> first | rfl | simp)
  · funext c
    simp (maxSteps := 20000000) only [Heap.drop_at, rowH_app, Heap.put_at, Heap.none_at, List.mem_cons, List.not_mem_nil, or_false]
    by_cases e0 : c = (0, 0) :: base
    · subst e0; simp []
    by_cases e1 : c = (0, 1) :: base
    · subst e1; simp []
    by_cases e2 : c = (3, 5) :: base
    · subst e2; simp []
    by_cases e3 : c = (3, 7) :: base
    · subst e3; simp []
    simp [e0, e1, e2, e3]
  · omega
  · trivial
  · intro i hi _
    by_cases ci : i < R
    · obtain ⟨x1, x2⟩ := hc2 (cc.getD i []) (getD_mm (by omega))
      have bi := ic_bd (c := C) ci
      have g1 : (cc.map fun u => IV.l u.length (u.map iu))[i]? = some (.l K ((cc.getD i []).map iu)) := by rw [List.getElem?_map, getD_at' (d := []) (by omega), Option.map_some, x1]
      have m1 : (i + 1) * C = i * C + C := Nat.succ_mul i C
      have f1 : IntKind.i64.wrap ((i : Int) * (C : Int)) = ((i * C : Nat) : Int) := by rw [← Int.natCast_mul]; exact iw_of (by omega) (by omega)
      have f2 : IntKind.i64.wrap (((i : Int) + 1) * (C : Int)) = ((i * C + C : Nat) : Int) := by
        rw [show ((i : Int) + 1) * (C : Int) = ((i * C + C : Nat) : Int) by rw [← m1]; push_cast; rfl]; exact iw_of (by omega) (by omega)
      have f3 : i * C + C - i * C = C := by omega
      have f5 : i * C ≤ i * C + C := by omega
      repeat (first | refine X_opc rfl ?_ | refine X_dopc rfl ?_ | refine ⟨(by show drawK _ _ = true; kernel_rfl : drawX _ _ _), ?_⟩ | exact (by show drawK _ _ = true; kernel_rfl : drawX _ _ _) | simp -dsimp (maxSteps := 20000000) (disch := omega) only [simx, zzC, zzB, tys, ite_self, opnL, callB, callX, readsB, stepOp, nilCmp, ofVal, opBuiltin, opLen, PV.sk, scalBin, scalUn, intBin, opLoad, natOf, opConvert, opField, cellsP, oneP, Value.oneCell', opStore, toIV, scalT, scalA, scalC, boxesA, boxesC, zipB_none, zipB_mx, isZ, opZip, zeroP, opAppendZ, opMakeMap, opLookup, mboxB, opUpdate, ↓reduceIte, Nat.reduceSub, Nat.reduceEqDiff, Nat.reduceAdd, Nat.reduceMul, Nat.reduceLT, Nat.reduceLeDiff, Int.reduceToNat, Int.reduceLE, Int.reduceLT, Int.reduceNeg, reduceCtorEq, gos, Int.reduceAdd, Int.reduceSub, Int.reduceMul, Int.reduceEq, ci, g1, f1, f2, f3, f5, bi, hc, SK.len, Option.isNone_none])
      clear g1 f1 f2 f3 f5
      refine X_loopH [0, 3, 5, 8, 10, 13, 67, 68, 69, 84, 85, 86] [] (0) (K) (fun j => True) (fun j => [(85, i64 K), (86, i64 j)]) (fun j => ((((Heap.none.put ((0, 0) :: base) (.var [li rw0, li cw, llP cc, llP uu])).put ((0, 1) :: base) (.var [i64 0, i64 0, nilP])).put ((3, 5) :: base) (.row false ((tbl (R * C) (mkF p cc uu K C i j 0)).map iu))).put ((3, 7) :: base) (.var [i64 R, i64 C, .view ((3, 5) :: base) 0 1 (R * C) (R * C)]))) ?_ ?_ ?_ ?_ ?_ (by decide) ?_
      · exact (fgt_nil)
      · ((simp -dsimp (disch := omega) only [simx, zzB, tys, ite_self, opnL, callB, callX, readsB, stepOp, nilCmp, ofVal, opBuiltin, opLen, PV.sk, scalBin, scalUn, intBin, opLoad, natOf, opConvert, opField, cellsP, oneP, Value.oneCell', opStore, toIV, scalT, scalA, scalC, boxesA, boxesC, zipB_none, zipB_mx, isZ, opZip, zeroP, opAppendZ, opMakeMap, opLookup, mboxB, opUpdate, ↓reduceIte, Nat.reduceSub, Nat.reduceEqDiff, Nat.reduceAdd, Nat.reduceMul, Nat.reduceLT, Nat.reduceLeDiff, Int.reduceToNat, Int.reduceLE, Int.reduceLT, Int.reduceNeg, reduceCtorEq, gos, Int.reduceAdd, Int.reduceSub, Int.reduceMul, Int.reduceEq]) <;> first | rfl | simp)
      · funext c
        simp (maxSteps := 20000000) only [Heap.drop_at, rowH_app, Heap.put_at, Heap.none_at, List.mem_cons, List.not_mem_nil, or_false]
        by_cases e0 : c = (0, 0) :: base
        · subst e0; simp []
        by_cases e1 : c = (0, 1) :: base
        · subst e1; simp []
        by_cases e2 : c = (3, 5) :: base
        · subst e2; simp []
        by_cases e3 : c = (3, 7) :: base
        · subst e3; simp []
        simp [e0, e1, e2, e3]
      · omega
      · trivial
      · intro k hk _
        by_cases ck : k < K
        · obtain ⟨y1, y2⟩ := hu2 (uu.getD k []) (getD_mm (by omega))
          have g1 : ((cc.getD i []).map iu)[k]? = some (iu ((cc.getD i []).getD k 0)) := by rw [List.getElem?_map, getD_some x1 ck]; rfl
          have g2 : (uu.map fun u => IV.l u.length (u.map iu))[k]? = some (.l C ((uu.getD k []).map iu)) := by rw [List.getElem?_map, getD_at' (d := []) (by omega), Option.map_some, y1]
          have xi := getD_of x2 (i := k) (by omega)
          obtain ⟨x, hx⟩ : ∃ x, (cc.getD i []).getD k 0 = x := ⟨_, rfl⟩
          rw [hx] at g1 xi
          obtain ⟨Y, hY⟩ : ∃ Y, uu.getD k [] = Y := ⟨_, rfl⟩
          rw [hY] at g2 y1 y2
          have gs : ∀ q, mkG p cc uu i q (k + 1) = (mkG p cc uu i q k + x * Y.getD q 0 % p) % p := fun q => by unfold mkG; rw [mkP, hx, hY]
          repeat (first | refine X_opc rfl ?_ | refine X_dopc rfl ?_ | refine ⟨(by show drawK _ _ = true; kernel_rfl : drawX _ _ _), ?_⟩ | exact (by show drawK _ _ = true; kernel_rfl : drawX _ _ _) | simp -dsimp (maxSteps := 20000000) (disch := omega) only [simx, zzC, zzB, tys, ite_self, opnL, callB, callX, readsB, stepOp, nilCmp, ofVal, opBuiltin, opLen, PV.sk, scalBin, scalUn, intBin, opLoad, natOf, opConvert, opField, cellsP, oneP, Value.oneCell', opStore, toIV, scalT, scalA, scalC, boxesA, boxesC, zipB_none, zipB_mx, isZ, opZip, zeroP, opAppendZ, opMakeMap, opLookup, mboxB, opUpdate, ↓reduceIte, Nat.reduceSub, Nat.reduceEqDiff, Nat.reduceAdd, Nat.reduceMul, Nat.reduceLT, Nat.reduceLeDiff, Int.reduceToNat, Int.reduceLE, Int.reduceLT, Int.reduceNeg, reduceCtorEq, gos, Int.reduceAdd, Int.reduceSub, Int.reduceMul, Int.reduceEq, ck, g1, g2, hu, SK.len])
          clear g1 g2
          refine X_loopH [0, 3, 5, 8, 10, 13, 15, 67, 68, 69, 84, 85, 86, 95, 96, 97] [] (0) (C) (fun j => True) (fun j => [(96, i64 C), (97, i64 j)]) (fun j => ((((Heap.none.put ((0, 0) :: base) (.var [li rw0, li cw, llP cc, llP uu])).put ((0, 1) :: base) (.var [i64 0, i64 0, nilP])).put ((3, 5) :: base) (.row false ((tbl (R * C) (mkF p cc uu K C i k j)).map iu))).put ((3, 7) :: base) (.var [i64 R, i64 C, .view ((3, 5) :: base) 0 1 (R * C) (R * C)]))) ?_ ?_ ?_ ?_ ?_ (by decide) ?_
          · exact (fgt_nil)
          · ((simp -dsimp (disch := omega) only [simx, zzB, tys, ite_self, opnL, callB, callX, readsB, stepOp, nilCmp, ofVal, opBuiltin, opLen, PV.sk, scalBin, scalUn, intBin, opLoad, natOf, opConvert, opField, cellsP, oneP, Value.oneCell', opStore, toIV, scalT, scalA, scalC, boxesA, boxesC, zipB_none, zipB_mx, isZ, opZip, zeroP, opAppendZ, opMakeMap, opLookup, mboxB, opUpdate, ↓reduceIte, Nat.reduceSub, Nat.reduceEqDiff, Nat.reduceAdd, Nat.reduceMul, Nat.reduceLT, Nat.reduceLeDiff, Int.reduceToNat, Int.reduceLE, Int.reduceLT, Int.reduceNeg, reduceCtorEq, gos, Int.reduceAdd, Int.reduceSub, Int.reduceMul, Int.reduceEq]) <;> first | rfl | simp)
          · funext c
            simp (maxSteps := 20000000) only [Heap.drop_at, rowH_app, Heap.put_at, Heap.none_at, List.mem_cons, List.not_mem_nil, or_false]
            by_cases e0 : c = (0, 0) :: base
            · subst e0; simp []
            by_cases e1 : c = (0, 1) :: base
            · subst e1; simp []
            by_cases e2 : c = (3, 5) :: base
            · subst e2; simp []
            by_cases e3 : c = (3, 7) :: base
            · subst e3; simp []
            simp [e0, e1, e2, e3]
          · omega
          · trivial
          · intro q hq _
            by_cases cq : q < C
            · have g3 : (Y.map iu)[q]? = some (iu (Y.getD q 0)) := by rw [List.getElem?_map, getD_some y1 cq]; rfl
              have lt : i * C + q < R * C := by omega
              have g4 : ((tbl (R * C) (mkF p cc uu K C i k q)).map iu)[i * C + q]? = some (iu (mkG p cc uu i q k)) := by rw [List.getElem?_map, tbl_get? _ lt, mkF_at cq]; rfl
              have px := tbl_put_iu (mkF p cc uu K C i k q) (mkG p cc uu i q (k + 1)) lt
              rw [mkF_s cq] at px
              have tl := tbl_len (R * C) (mkF p cc uu K C i k q)
              have n1 := Mul_in hp xi (getD_of y2 (i := q) (by omega))
              have n2 := Add_in hp (show In p (mkG p cc uu i q k) from mkP_in hp _ _ k) (in_emod hp (x * Y.getD q 0))
              rw [← gs q] at n2
              generalize mkG p cc uu i q (k + 1) = D1 at n2 px
              generalize mkG p cc uu i q k = D0 at n2 g4
              generalize x * Y.getD q 0 % p = D2 at n1 n2
              generalize Y.getD q 0 = y at g3 n1
              have lt2 : i * C + q + 1 ≤ R * C := by omega
              repeat (first | ((first | refine X_call_fn2 rfl (by simp only [tys]) ?_ | refine X_dcall_fn2 rfl (by simp only [tys]) ?_); apply Exists.intro; apply And.intro; (focus (simp -dsimp only [simx, zzC, zzB, tys, ite_self, opnL, callB, callX, readsB, stepOp, nilCmp, ofVal, opBuiltin, opLen, PV.sk, scalBin, scalUn, intBin, opLoad, natOf, opConvert, opField, cellsP, oneP, Value.oneCell', opStore, toIV, scalT, scalA, scalC, boxesA, boxesC, zipB_none, zipB_mx, isZ, opZip, zeroP, opAppendZ, opMakeMap, opLookup, mboxB, opUpdate, ↓reduceIte, Nat.reduceSub, Nat.reduceEqDiff, Nat.reduceAdd, Nat.reduceMul, Nat.reduceLT, Nat.reduceLeDiff, Int.reduceToNat, Int.reduceLE, Int.reduceLT, Int.reduceNeg, reduceCtorEq, zzL, if_true, if_false] <;> rfl)); apply Exists.intro; apply And.intro; (focus (first | exact n1 | exact n2))) | refine X_opc rfl ?_ | refine X_dopc rfl ?_ | refine ⟨(by show drawK _ _ = true; kernel_rfl : drawX _ _ _), ?_⟩ | exact (by show drawK _ _ = true; kernel_rfl : drawX _ _ _) | simp -dsimp (maxSteps := 20000000) (disch := omega) only [simx, zzC, zzB, tys, ite_self, opnL, callB, callX, readsB, stepOp, nilCmp, ofVal, opBuiltin, opLen, PV.sk, scalBin, scalUn, intBin, opLoad, natOf, opConvert, opField, cellsP, oneP, Value.oneCell', opStore, toIV, scalT, scalA, scalC, boxesA, boxesC, zipB_none, zipB_mx, isZ, opZip, zeroP, opAppendZ, opMakeMap, opLookup, mboxB, opUpdate, ↓reduceIte, Nat.reduceSub, Nat.reduceEqDiff, Nat.reduceAdd, Nat.reduceMul, Nat.reduceLT, Nat.reduceLeDiff, Int.reduceToNat, Int.reduceLE, Int.reduceLT, Int.reduceNeg, reduceCtorEq, gos, Int.reduceAdd, Int.reduceSub, Int.reduceMul, Int.reduceEq, cq, g3, g4, lt, lt2, tl, List.length_map, SK.len])
              refine ⟨cq, (fgt_nil), ?_, ?_⟩
              · rfl
              · rw [drop_nil, ← px]
                funext c
                simp (maxSteps := 20000000) only [Heap.drop_at, rowH_app, Heap.put_at, Heap.none_at, List.mem_cons, List.not_mem_nil, or_false]
                by_cases e0 : c = (0, 0) :: base
                · subst e0; simp []
                by_cases e1 : c = (0, 1) :: base
                · subst e1; simp []
                by_cases e2 : c = (3, 5) :: base
                · subst e2; simp []
                by_cases e3 : c = (3, 7) :: base
                · subst e3; simp []
                simp [e0, e1, e2, e3]
            · have eq : C = q := by omega
              subst eq
              repeat (first | refine X_opc rfl ?_ | refine X_dopc rfl ?_ | refine ⟨(by show drawK _ _ = true; kernel_rfl : drawX _ _ _), ?_⟩ | exact (by show drawK _ _ = true; kernel_rfl : drawX _ _ _) | simp -dsimp (maxSteps := 20000000) (disch := omega) only [simx, zzC, zzB, tys, ite_self, opnL, callB, callX, readsB, stepOp, nilCmp, ofVal, opBuiltin, opLen, PV.sk, scalBin, scalUn, intBin, opLoad, natOf, opConvert, opField, cellsP, oneP, Value.oneCell', opStore, toIV, scalT, scalA, scalC, boxesA, boxesC, zipB_none, zipB_mx, isZ, opZip, zeroP, opAppendZ, opMakeMap, opLookup, mboxB, opUpdate, ↓reduceIte, Nat.reduceSub, Nat.reduceEqDiff, Nat.reduceAdd, Nat.reduceMul, Nat.reduceLT, Nat.reduceLeDiff, Int.reduceToNat, Int.reduceLE, Int.reduceLT, Int.reduceNeg, reduceCtorEq, gos, Int.reduceAdd, Int.reduceSub, Int.reduceMul, Int.reduceEq])
              refine ⟨ck, (fgt_nil), ?_, ?_⟩
              · rfl
              · rw [drop_nil, mkF_q c1]
        · have ek : K = k := by omega
          subst ek
          repeat (first | refine X_opc rfl ?_ | refine X_dopc rfl ?_ | refine ⟨(by show drawK _ _ = true; kernel_rfl : drawX _ _ _), ?_⟩ | exact (by show drawK _ _ = true; kernel_rfl : drawX _ _ _) | simp -dsimp (maxSteps := 20000000) (disch := omega) only [simx, zzC, zzB, tys, ite_self, opnL, callB, callX, readsB, stepOp, nilCmp, ofVal, opBuiltin, opLen, PV.sk, scalBin, scalUn, intBin, opLoad, natOf, opConvert, opField, cellsP, oneP, Value.oneCell', opStore, toIV, scalT, scalA, scalC, boxesA, boxesC, zipB_none, zipB_mx, isZ, opZip, zeroP, opAppendZ, opMakeMap, opLookup, mboxB, opUpdate, ↓reduceIte, Nat.reduceSub, Nat.reduceEqDiff, Nat.reduceAdd, Nat.reduceMul, Nat.reduceLT, Nat.reduceLeDiff, Int.reduceToNat, Int.reduceLE, Int.reduceLT, Int.reduceNeg, reduceCtorEq, gos, Int.reduceAdd, Int.reduceSub, Int.reduceMul, Int.reduceEq])
          refine ⟨ci, (fgt_nil), ?_, ?_⟩
          · rfl
          · rw [drop_nil, mkF_k]
    · have ei : R = i := by omega
      subst ei
      have tk : ((tbl (R * C) (mkF p cc uu K C R 0 0)).map iu).take (R * C) = (tbl (R * C) (mkF p cc uu K C R 0 0)).map iu := List.take_of_length_le (by rw [List.length_map, tbl_len]; exact Nat.le_refl _)
      rw [show matP (R : Int) (C : Int) (tbl (R * C) (mkF p cc uu K C R 0 0)) = .agg [i64 R, i64 C, .i (.l (R * C) ((tbl (R * C) (mkF p cc uu K C R 0 0)).map iu))] by simp [lu, tbl_len]]
      repeat (first | refine X_opc rfl ?_ | refine X_dopc rfl ?_ | refine ⟨(by show drawK _ _ = true; kernel_rfl : drawX _ _ _), ?_⟩ | exact (by show drawK _ _ = true; kernel_rfl : drawX _ _ _) | simp -dsimp (maxSteps := 20000000) (disch := omega) only [simx, zzC, zzB, tys, ite_self, opnL, callB, callX, readsB, stepOp, nilCmp, ofVal, opBuiltin, opLen, PV.sk, scalBin, scalUn, intBin, opLoad, natOf, opConvert, opField, cellsP, oneP, Value.oneCell', opStore, toIV, scalT, scalA, scalC, boxesA, boxesC, zipB_none, zipB_mx, isZ, opZip, zeroP, opAppendZ, opMakeMap, opLookup, mboxB, opUpdate, ↓reduceIte, Nat.reduceSub, Nat.reduceEqDiff, Nat.reduceAdd, Nat.reduceMul, Nat.reduceLT, Nat.reduceLeDiff, Int.reduceToNat, Int.reduceLE, Int.reduceLT, Int.reduceNeg, reduceCtorEq, zzR, gos, Int.reduceAdd, Int.reduceSub, Int.reduceMul, Int.reduceEq, List.length_map, tbl_len])
      rw [tk]
end Go.Proofs.Ythnfphgjfpcpbaa.TM
namespace Go.Proofs.Ythnfphgjfpcpbaa.TM
open Go Go.RowKit
attribute [local irreducible] K W WOps Effs Xg Xo Xr Xdg Xdo Xdr Xif CallsP CallR
def sameMB (r c : Int) (l : List Int) (r' c' : Int) (l' : List Int) : Bool := decide (r = r') && (decide (c = c') && decide (l = l'))
theorem msame_walk (r c : Int) (l : List Int) (r' c' : Int) (l' : List Int) (hl : l.length ≤ maxLen) : CallsP Try.prog 41 [matP r c l, matP r' c' l'] (bl (sameMB r c l r' c' l')) := by
  have q := same_walk l l' hl
  unfold sameMB
  generalize decide (l = l') = s at q
  by_cases h1 : r = r'
  · rw [decide_eq_true h1]
    by_cases h2 : c = c'
    · rw [decide_eq_true h2]
      refine X_startP (n := 24) (m := 2) (rs := [.tmp 4]) Try.func41 rfl rfl rfl rfl (by decide) fun base => ?_
      repeat (first | ((first | refine X_call_fn2 rfl (by simp only [tys]) ?_ | refine X_dcall_fn2 rfl (by simp only [tys]) ?_); apply Exists.intro; apply And.intro; (focus (simp -dsimp only [simx, zzC, zzB, tys, ite_self, opnL, callB, callX, readsB, stepOp, nilCmp, ofVal, opBuiltin, opLen, PV.sk, scalBin, scalUn, intBin, opLoad, natOf, opConvert, opField, cellsP, oneP, Value.oneCell', opStore, toIV, scalT, scalA, scalC, boxesA, boxesC, zipB_none, zipB_mx, isZ, opZip, zeroP, opAppendZ, opMakeMap, opLookup, mboxB, opUpdate, ↓reduceIte, Nat.reduceSub, Nat.reduceEqDiff, Nat.reduceAdd, Nat.reduceMul, Nat.reduceLT, Nat.reduceLeDiff, Int.reduceToNat, Int.reduceLE, Int.reduceLT, Int.reduceNeg, reduceCtorEq, zzL, if_true, if_false] <;> rfl)); apply Exists.intro; apply And.intro; (focus (first | exact q))) | refine X_opc rfl ?_ | refine X_dopc rfl ?_ | refine ⟨(by show drawK _ _ = true; kernel_rfl : drawX _ _ _), ?_⟩ | exact (by show drawK _ _ = true; kernel_rfl : drawX _ _ _) | simp -dsimp (maxSteps := 20000000) (disch := omega) only [simx, zzC, zzB, tys, ite_self, opnL, callB, callX, readsB, stepOp, nilCmp, ofVal, opBuiltin, opLen, PV.sk, scalBin, scalUn, intBin, opLoad, natOf, opConvert, opField, cellsP, oneP, Value.oneCell', opStore, toIV, scalT, scalA, scalC, boxesA, boxesC, zipB_none, zipB_mx, isZ, opZip, zeroP, opAppendZ, opMakeMap, opLookup, mboxB, opUpdate, ↓reduceIte, Nat.reduceSub, Nat.reduceEqDiff, Nat.reduceAdd, Nat.reduceMul, Nat.reduceLT, Nat.reduceLeDiff, Int.reduceToNat, Int.reduceLE, Int.reduceLT, Int.reduceNeg, reduceCtorEq, zzR, gos, Int.reduceAdd, Int.reduceSub, Int.reduceMul, Int.reduceEq])
    · rw [decide_eq_false h2]
      refine X_startP (n := 24) (m := 2) (rs := [.tmp 4]) Try.func41 rfl rfl rfl rfl (by decide) fun base => ?_
      repeat (first | ((first | refine X_call_fn2 rfl (by simp only [tys]) ?_ | refine X_dcall_fn2 rfl (by simp only [tys]) ?_); apply Exists.intro; apply And.intro; (focus (simp -dsimp only [simx, zzC, zzB, tys, ite_self, opnL, callB, callX, readsB, stepOp, nilCmp, ofVal, opBuiltin, opLen, PV.sk, scalBin, scalUn, intBin, opLoad, natOf, opConvert, opField, cellsP, oneP, Value.oneCell', opStore, toIV, scalT, scalA, scalC, boxesA, boxesC, zipB_none, zipB_mx, isZ, opZip, zeroP, opAppendZ, opMakeMap, opLookup, mboxB, opUpdate, ↓reduceIte, Nat.reduceSub, Nat.reduceEqDiff, Nat.reduceAdd, Nat.reduceMul, Nat.reduceLT, Nat.reduceLeDiff, Int.reduceToNat, Int.reduceLE, Int.reduceLT, Int.reduceNeg, reduceCtorEq, zzL, if_true, if_false] <;> rfl)); apply Exists.intro; apply And.intro; (focus (first | exact q))) | refine X_opc rfl ?_ | refine X_dopc rfl ?_ | refine ⟨(by show drawK _ _ = true; kernel_rfl : drawX _ _ _), ?_⟩ | exact (by show drawK _ _ = true; kernel_rfl : drawX _ _ _) | simp -dsimp (maxSteps := 20000000) (disch := omega) only [simx, zzC, zzB, tys, ite_self, opnL, callB, callX, readsB, stepOp, nilCmp, ofVal, opBuiltin, opLen, PV.sk, scalBin, scalUn, intBin, opLoad, natOf, opConvert, opField, cellsP, oneP, Value.oneCell', opStore, toIV, scalT, scalA, scalC, boxesA, boxesC, zipB_none, zipB_mx, isZ, opZip, zeroP, opAppendZ, opMakeMap, opLookup, mboxB, opUpdate, ↓reduceIte, Nat.reduceSub, Nat.reduceEqDiff, Nat.reduceAdd, Nat.reduceMul, Nat.reduceLT, Nat.reduceLeDiff, Int.reduceToNat, Int.reduceLE, Int.reduceLT, Int.reduceNeg, reduceCtorEq, zzR, gos, Int.reduceAdd, Int.reduceSub, Int.reduceMul, Int.reduceEq])
  · rw [decide_eq_false h1]
    refine X_startP (n := 24) (m := 2) (rs := [.tmp 4]) Try.func41 rfl rfl rfl rfl (by decide) fun base => ?_
    repeat (first | ((first | refine X_call_fn2 rfl (by simp only [tys]) ?_ | refine X_dcall_fn2 rfl (by simp only [tys]) ?_); apply Exists.intro; apply And.intro; (focus (simp -dsimp only [simx, zzC, zzB, tys, ite_self, opnL, callB, callX, readsB, stepOp, nilCmp, ofVal, opBuiltin, opLen, PV.sk, scalBin, scalUn, intBin, opLoad, natOf, opConvert, opField, cellsP, oneP, Value.oneCell', opStore, toIV, scalT, scalA, scalC, boxesA, boxesC, zipB_none, zipB_mx, isZ, opZip, zeroP, opAppendZ, opMakeMap, opLookup, mboxB, opUpdate, ↓reduceIte, Nat.reduceSub, Nat.reduceEqDiff, Nat.reduceAdd, Nat.reduceMul, Nat.reduceLT, Nat.reduceLeDiff, Int.reduceToNat, Int.reduceLE, Int.reduceLT, Int.reduceNeg, reduceCtorEq, zzL, if_true, if_false] <;> rfl)); apply Exists.intro; apply And.intro; (focus (first | exact q))) | refine X_opc rfl ?_ | refine X_dopc rfl ?_ | refine ⟨(by show drawK _ _ = true; kernel_rfl : drawX _ _ _), ?_⟩ | exact (by show drawK _ _ = true; kernel_rfl : drawX _ _ _) | simp -dsimp (maxSteps := 20000000) (disch := omega) only [simx, zzC, zzB, tys, ite_self, opnL, callB, callX, readsB, stepOp, nilCmp, ofVal, opBuiltin, opLen, PV.sk, scalBin, scalUn, intBin, opLoad, natOf, opConvert, opField, cellsP, oneP, Value.oneCell', opStore, toIV, scalT, scalA, scalC, boxesA, boxesC, zipB_none, zipB_mx, isZ, opZip, zeroP, opAppendZ, opMakeMap, opLookup, mboxB, opUpdate, ↓reduceIte, Nat.reduceSub, Nat.reduceEqDiff, Nat.reduceAdd, Nat.reduceMul, Nat.reduceLT, Nat.reduceLeDiff, Int.reduceToNat, Int.reduceLE, Int.reduceLT, Int.reduceNeg, reduceCtorEq, zzR, gos, Int.reduceAdd, Int.reduceSub, Int.reduceMul, Int.reduceEq])
end Go.Proofs.Ythnfphgjfpcpbaa.TM
namespace Go.Proofs.Ythnfphgjfpcpbaa.TM
open Go Go.RowKit
attribute [local irreducible] K W WOps Effs Xg Xo Xr Xdg Xdo Xdr Xif CallsP CallR
theorem prm7 : Prm 7 := ⟨by decide, fun a h0 h1 => by
  have : a = 1 ∨ a = 2 ∨ a = 3 ∨ a = 4 ∨ a = 5 ∨ a = 6 := by omega
  rcases this with rfl | rfl | rfl | rfl | rfl | rfl <;> decide⟩
end Go.Proofs.Ythnfphgjfpcpbaa.TM
namespace Go.Proofs.Ythnfphgjfpcpbaa.TM
open Go Go.RowKit
attribute [local irreducible] K W WOps Effs Xg Xo Xr Xdg Xdo Xdr Xif CallsP CallR
theorem w64_of_in {P : Int} (hp : Md P) {l : List Int} (h : ∀ a ∈ l, In P a) : W64s l := fun a ha => in_w64 hp (h a ha)
end Go.Proofs.Ythnfphgjfpcpbaa.TM
namespace Go.Proofs.Ythnfphgjfpcpbaa.TM
open Go Go.RowKit
attribute [local irreducible] K W WOps Effs Xg Xo Xr Xdg Xdo Xdr Xif CallsP CallR
theorem take_nextP {α : Type} {a b : List α} {j : Nat} (h1 : j < a.length) (h2 : j < b.length) (h : a.take j = b.take j) (e : a[j] = b[j]) : a.take (j + 1) = b.take (j + 1) := by
  rw [List.take_succ_eq_append_getElem h1, List.take_succ_eq_append_getElem h2, h, e]
theorem same6_walk (a b : List Int) (hl : a.length ≤ maxLen) : CallsP Try.prog 50 [li a, li b] (bl (decide (a = b))) := by
  rw [mx_len] at hl
  by_cases c0 : a.length = b.length
  · have c0' : (a.length : Int) = (b.length : Int) := by omega
    refine X_startP (n := 26) (m := 2) (rs := [.tmp 4]) Try.func50 rfl rfl rfl rfl (by decide) fun base => ?_
    repeat (first | refine X_opc rfl ?_ | refine X_dopc rfl ?_ | refine ⟨(by show drawK _ _ = true; kernel_rfl : drawX _ _ _), ?_⟩ | exact (by show drawK _ _ = true; kernel_rfl : drawX _ _ _) | simp -dsimp (maxSteps := 20000000) (disch := omega) only [simx, zzC, zzB, tys, ite_self, opnL, callB, callX, readsB, stepOp, nilCmp, ofVal, opBuiltin, opLen, PV.sk, scalBin, scalUn, intBin, opLoad, natOf, opConvert, opField, cellsP, oneP, Value.oneCell', opStore, toIV, scalT, scalA, scalC, boxesA, boxesC, zipB_none, zipB_mx, isZ, opZip, zeroP, opAppendZ, opMakeMap, opLookup, mboxB, opUpdate, ↓reduceIte, Nat.reduceSub, Nat.reduceEqDiff, Nat.reduceAdd, Nat.reduceMul, Nat.reduceLT, Nat.reduceLeDiff, Int.reduceToNat, Int.reduceLE, Int.reduceLT, Int.reduceNeg, reduceCtorEq, gos, Int.reduceAdd, Int.reduceSub, Int.reduceMul, Int.reduceEq, c0'])
    refine X_loopH [0, 1, 5] [] (0) (a.length) (fun j => a.take j = b.take j) (fun j => [(5, i64 j)]) (fun j => Heap.none) ?_ ?_ ?_ ?_ ?_ (by decide) ?_
    · exact (fgt_nil)
    · ((simp -dsimp (disch := omega) only [simx, zzB, tys, ite_self, opnL, callB, callX, readsB, stepOp, nilCmp, ofVal, opBuiltin, opLen, PV.sk, scalBin, scalUn, intBin, opLoad, natOf, opConvert, opField, cellsP, oneP, Value.oneCell', opStore, toIV, scalT, scalA, scalC, boxesA, boxesC, zipB_none, zipB_mx, isZ, opZip, zeroP, opAppendZ, opMakeMap, opLookup, mboxB, opUpdate, ↓reduceIte, Nat.reduceSub, Nat.reduceEqDiff, Nat.reduceAdd, Nat.reduceMul, Nat.reduceLT, Nat.reduceLeDiff, Int.reduceToNat, Int.reduceLE, Int.reduceLT, Int.reduceNeg, reduceCtorEq, gos, Int.reduceAdd, Int.reduceSub, Int.reduceMul, Int.reduceEq]) <;> first | rfl | simp)
    · exact drop_nil _
    · omega
    · rfl
    · intro j hj hf
      by_cases c : j < a.length
      · have c' : j < b.length := by omega
        have g1 : a[j]? = some a[j] := List.getElem?_eq_getElem c
        have g2 : b[j]? = some b[j] := List.getElem?_eq_getElem c'
        by_cases e : a[j] = b[j]
        · have nx := take_nextP c c' hf e
          repeat (first | refine X_opc rfl ?_ | refine X_dopc rfl ?_ | refine ⟨(by show drawK _ _ = true; kernel_rfl : drawX _ _ _), ?_⟩ | exact (by show drawK _ _ = true; kernel_rfl : drawX _ _ _) | simp -dsimp (maxSteps := 20000000) (disch := omega) only [simx, zzC, zzB, tys, ite_self, opnL, callB, callX, readsB, stepOp, nilCmp, ofVal, opBuiltin, opLen, PV.sk, scalBin, scalUn, intBin, opLoad, natOf, opConvert, opField, cellsP, oneP, Value.oneCell', opStore, toIV, scalT, scalA, scalC, boxesA, boxesC, zipB_none, zipB_mx, isZ, opZip, zeroP, opAppendZ, opMakeMap, opLookup, mboxB, opUpdate, ↓reduceIte, Nat.reduceSub, Nat.reduceEqDiff, Nat.reduceAdd, Nat.reduceMul, Nat.reduceLT, Nat.reduceLeDiff, Int.reduceToNat, Int.reduceLE, Int.reduceLT, Int.reduceNeg, reduceCtorEq, gos, Int.reduceAdd, Int.reduceSub, Int.reduceMul, Int.reduceEq, c, c', g1, g2, e])
          exact ⟨c, (fgt_nil), nx, rfl, drop_nil _⟩
        · have ne : ¬ a = b := fun h => e (by subst h; rfl)
          rw [decide_eq_false ne]
          repeat (first | refine X_opc rfl ?_ | refine X_dopc rfl ?_ | refine ⟨(by show drawK _ _ = true; kernel_rfl : drawX _ _ _), ?_⟩ | exact (by show drawK _ _ = true; kernel_rfl : drawX _ _ _) | simp -dsimp (maxSteps := 20000000) (disch := omega) only [simx, zzC, zzB, tys, ite_self, opnL, callB, callX, readsB, stepOp, nilCmp, ofVal, opBuiltin, opLen, PV.sk, scalBin, scalUn, intBin, opLoad, natOf, opConvert, opField, cellsP, oneP, Value.oneCell', opStore, toIV, scalT, scalA, scalC, boxesA, boxesC, zipB_none, zipB_mx, isZ, opZip, zeroP, opAppendZ, opMakeMap, opLookup, mboxB, opUpdate, ↓reduceIte, Nat.reduceSub, Nat.reduceEqDiff, Nat.reduceAdd, Nat.reduceMul, Nat.reduceLT, Nat.reduceLeDiff, Int.reduceToNat, Int.reduceLE, Int.reduceLT, Int.reduceNeg, reduceCtorEq, zzR, gos, Int.reduceAdd, Int.reduceSub, Int.reduceMul, Int.reduceEq, c, c', g1, g2, e])
      · have hj : j = a.length := by omega
        subst hj
        have e : a = b := by rw [List.take_length, c0, List.take_length] at hf; exact hf
        rw [decide_eq_true e]
        repeat (first | refine X_opc rfl ?_ | refine X_dopc rfl ?_ | refine ⟨(by show drawK _ _ = true; kernel_rfl : drawX _ _ _), ?_⟩ | exact (by show drawK _ _ = true; kernel_rfl : drawX _ _ _) | simp -dsimp (maxSteps := 20000000) (disch := omega) only [simx, zzC, zzB, tys, ite_self, opnL, callB, callX, readsB, stepOp, nilCmp, ofVal, opBuiltin, opLen, PV.sk, scalBin, scalUn, intBin, opLoad, natOf, opConvert, opField, cellsP, oneP, Value.oneCell', opStore, toIV, scalT, scalA, scalC, boxesA, boxesC, zipB_none, zipB_mx, isZ, opZip, zeroP, opAppendZ, opMakeMap, opLookup, mboxB, opUpdate, ↓reduceIte, Nat.reduceSub, Nat.reduceEqDiff, Nat.reduceAdd, Nat.reduceMul, Nat.reduceLT, Nat.reduceLeDiff, Int.reduceToNat, Int.reduceLE, Int.reduceLT, Int.reduceNeg, reduceCtorEq, zzR, gos, Int.reduceAdd, Int.reduceSub, Int.reduceMul, Int.reduceEq])
  · have ne : ¬ a = b := fun h => c0 (by rw [h])
    have c0' : ¬ (a.length : Int) = (b.length : Int) := by omega
    rw [decide_eq_false ne]
    refine X_startP (n := 26) (m := 2) (rs := [.tmp 4]) Try.func50 rfl rfl rfl rfl (by decide) fun base => ?_
    repeat (first | refine X_opc rfl ?_ | refine X_dopc rfl ?_ | refine ⟨(by show drawK _ _ = true; kernel_rfl : drawX _ _ _), ?_⟩ | exact (by show drawK _ _ = true; kernel_rfl : drawX _ _ _) | simp -dsimp (maxSteps := 20000000) (disch := omega) only [simx, zzC, zzB, tys, ite_self, opnL, callB, callX, readsB, stepOp, nilCmp, ofVal, opBuiltin, opLen, PV.sk, scalBin, scalUn, intBin, opLoad, natOf, opConvert, opField, cellsP, oneP, Value.oneCell', opStore, toIV, scalT, scalA, scalC, boxesA, boxesC, zipB_none, zipB_mx, isZ, opZip, zeroP, opAppendZ, opMakeMap, opLookup, mboxB, opUpdate, ↓reduceIte, Nat.reduceSub, Nat.reduceEqDiff, Nat.reduceAdd, Nat.reduceMul, Nat.reduceLT, Nat.reduceLeDiff, Int.reduceToNat, Int.reduceLE, Int.reduceLT, Int.reduceNeg, reduceCtorEq, zzR, gos, Int.reduceAdd, Int.reduceSub, Int.reduceMul, Int.reduceEq, c0'])
end Go.Proofs.Ythnfphgjfpcpbaa.TM
namespace Go.Proofs.Ythnfphgjfpcpbaa.TM
open Go Go.RowKit
attribute [local irreducible] K W WOps Effs Xg Xo Xr Xdg Xdo Xdr Xif CallsP CallR
set_option maxHeartbeats 4000000 in
set_option maxRecDepth 100000 in
theorem awake07_walk : CallsP Try.prog 42 [] (bl true) := by
  have M : Mt ((7 : Nat) : Int) 2 2 [0, 2, 3, 4] := ⟨⟨by decide, by decide⟩, by decide, by decide, by decide, by decide, by decide, by decide⟩
  have hi : ∀ a ∈ [0, 2, 3, 4], In ((7 : Nat) : Int) a := by show ∀ x ∈ _, 0 ≤ x ∧ x < _; decide
  have d1 := take_yes prm7 M hi
  have d2 := det_yes prm7 M hi
  have d3 := make_yes (p := ((7 : Nat) : Int)) (R := 2) (C := 2) (K := 2) (rw0 := [0, 1]) (cw := [1, 0]) (cc := [[1, 0], [2, 1]]) (uu := [[0, 2], [3, 0]]) ⟨by decide, by decide⟩ (by decide) (by decide) (by decide) (by decide) rfl rfl (by decide)
    (by show ∀ x ∈ ([[1, 0], [2, 1]] : List (List Int)), x.length = 2 ∧ ∀ a ∈ x, 0 ≤ a ∧ a < ((7 : Nat) : Int); decide) (by show ∀ x ∈ ([[0, 2], [3, 0]] : List (List Int)), x.length = 2 ∧ ∀ a ∈ x, 0 ≤ a ∧ a < ((7 : Nat) : Int); decide)
  have d4 := rank_walk prm7 2 2 [0, 2, 3, 4] (by decide) (w64_of_in M.hp hi)
  have d5 := profile_walk prm7 2 2 [0, 2, 3, 4] (by decide) (w64_of_in M.hp hi)
  have d6 := minor_yes prm7 M hi (by decide +kernel) (by decide +kernel)
  have t : tkCup ((7 : Nat) : Int) 2 2 [0, 2, 3, 4] = ([0, 1], [1, 0], [[1, 0], [2, 1]], [[0, 2], [3, 0]]) := by decide +kernel
  rw [t] at d1 d6
  rw [show Lp 2 (cl 2 [0, 2, 3, 4]) % ((7 : Nat) : Int) = 1 by decide +kernel] at d2
  rw [show makeM ((7 : Nat) : Int) [[1, 0], [2, 1]] [[0, 2], [3, 0]] 2 2 2 = [0, 2, 3, 4] by decide +kernel] at d3
  unfold rankR at d4
  rw [show takeR ((7 : Nat) : Int) 2 2 [0, 2, 3, 4] = (([0, 1], [1, 0], [[1, 0], [2, 1]], [[0, 2], [3, 0]]), 0) by decide +kernel] at d4 d5
  rw [show pickM 2 [0, 2, 3, 4] [0, 1] (colS ([0, 1], [1, 0], [[1, 0], [2, 1]], [[0, 2], [3, 0]])) = [0, 2, 3, 4] by decide +kernel] at d6
  have d7 := msame_walk 2 2 [0, 2, 3, 4] 2 2 [0, 2, 3, 4] (by decide)
  rw [show sameMB 2 2 [0, 2, 3, 4] 2 2 [0, 2, 3, 4] = true by decide] at d7
  have d8 := same6_walk [0, 1] [0, 1] (by decide)
  rw [decide_eq_true rfl] at d8
  refine X_startP (n := 104) (m := 0) (rs := [.tmp 0]) Try.func42 rfl rfl rfl rfl (by decide) fun base => ?_
  repeat (first | ((first | refine X_call_fn2 rfl (by simp only [tys]) ?_ | refine X_dcall_fn2 rfl (by simp only [tys]) ?_); apply Exists.intro; apply And.intro; (focus (simp -dsimp only [simx, zzC, zzB, tys, ite_self, opnL, callB, callX, readsB, stepOp, nilCmp, ofVal, opBuiltin, opLen, PV.sk, scalBin, scalUn, intBin, opLoad, natOf, opConvert, opField, cellsP, oneP, Value.oneCell', opStore, toIV, scalT, scalA, scalC, boxesA, boxesC, zipB_none, zipB_mx, isZ, opZip, zeroP, opAppendZ, opMakeMap, opLookup, mboxB, opUpdate, ↓reduceIte, Nat.reduceSub, Nat.reduceEqDiff, Nat.reduceAdd, Nat.reduceMul, Nat.reduceLT, Nat.reduceLeDiff, Int.reduceToNat, Int.reduceLE, Int.reduceLT, Int.reduceNeg, reduceCtorEq, zzL, if_true, if_false] <;> rfl)); apply Exists.intro; apply And.intro; (focus (first | exact d1 | exact d2 | exact d3 | exact d4 | exact d5 | exact d6 | exact d7 | exact d8))) | refine X_opc rfl ?_ | refine X_dopc rfl ?_ | refine ⟨(by show drawK _ _ = true; kernel_rfl : drawX _ _ _), ?_⟩ | exact (by show drawK _ _ = true; kernel_rfl : drawX _ _ _) | simp -dsimp (maxSteps := 20000000) (disch := omega) only [simx, zzC, zzB, tys, ite_self, opnL, callB, callX, readsB, stepOp, nilCmp, ofVal, opBuiltin, opLen, PV.sk, scalBin, scalUn, intBin, opLoad, natOf, opConvert, opField, cellsP, oneP, Value.oneCell', opStore, toIV, scalT, scalA, scalC, boxesA, boxesC, zipB_none, zipB_mx, isZ, opZip, zeroP, opAppendZ, opMakeMap, opLookup, mboxB, opUpdate, ↓reduceIte, Nat.reduceSub, Nat.reduceEqDiff, Nat.reduceAdd, Nat.reduceMul, Nat.reduceLT, Nat.reduceLeDiff, Int.reduceToNat, Int.reduceLE, Int.reduceLT, Int.reduceNeg, reduceCtorEq, zzR, gos, Int.reduceAdd, Int.reduceSub, Int.reduceMul, Int.reduceEq, SK.len])
theorem prime7_walk (p : Nat) (hp : p < 18446744073709551616) : ∃ b, CallsP Try.prog 43 [u64 p] (bl b) ∧ (b = true → Prm p) := by
  by_cases c1 : (p : Int) = 2147483647
  · refine ⟨true, ?_, fun _ => by obtain rfl : p = 2147483647 := by omega
                                  exact prm31⟩
    refine X_startP (n := 17) (m := 1) (rs := [.tmp 2]) Try.func43 rfl rfl rfl rfl (by decide) fun base => ?_
    repeat (first | refine X_opc rfl ?_ | refine X_dopc rfl ?_ | refine ⟨(by show drawK _ _ = true; kernel_rfl : drawX _ _ _), ?_⟩ | exact (by show drawK _ _ = true; kernel_rfl : drawX _ _ _) | simp -dsimp (maxSteps := 20000000) (disch := omega) only [simx, zzC, zzB, tys, ite_self, opnL, callB, callX, readsB, stepOp, nilCmp, ofVal, opBuiltin, opLen, PV.sk, scalBin, scalUn, intBin, opLoad, natOf, opConvert, opField, cellsP, oneP, Value.oneCell', opStore, toIV, scalT, scalA, scalC, boxesA, boxesC, zipB_none, zipB_mx, isZ, opZip, zeroP, opAppendZ, opMakeMap, opLookup, mboxB, opUpdate, ↓reduceIte, Nat.reduceSub, Nat.reduceEqDiff, Nat.reduceAdd, Nat.reduceMul, Nat.reduceLT, Nat.reduceLeDiff, Int.reduceToNat, Int.reduceLE, Int.reduceLT, Int.reduceNeg, reduceCtorEq, zzR, gos, Int.reduceAdd, Int.reduceSub, Int.reduceMul, Int.reduceEq])
  by_cases c2 : (p : Int) = 2305843009213693951
  · refine ⟨true, ?_, fun _ => by obtain rfl : p = 2305843009213693951 := by omega
                                  exact prm61⟩
    refine X_startP (n := 17) (m := 1) (rs := [.tmp 2]) Try.func43 rfl rfl rfl rfl (by decide) fun base => ?_
    repeat (first | refine X_opc rfl ?_ | refine X_dopc rfl ?_ | refine ⟨(by show drawK _ _ = true; kernel_rfl : drawX _ _ _), ?_⟩ | exact (by show drawK _ _ = true; kernel_rfl : drawX _ _ _) | simp -dsimp (maxSteps := 20000000) (disch := omega) only [simx, zzC, zzB, tys, ite_self, opnL, callB, callX, readsB, stepOp, nilCmp, ofVal, opBuiltin, opLen, PV.sk, scalBin, scalUn, intBin, opLoad, natOf, opConvert, opField, cellsP, oneP, Value.oneCell', opStore, toIV, scalT, scalA, scalC, boxesA, boxesC, zipB_none, zipB_mx, isZ, opZip, zeroP, opAppendZ, opMakeMap, opLookup, mboxB, opUpdate, ↓reduceIte, Nat.reduceSub, Nat.reduceEqDiff, Nat.reduceAdd, Nat.reduceMul, Nat.reduceLT, Nat.reduceLeDiff, Int.reduceToNat, Int.reduceLE, Int.reduceLT, Int.reduceNeg, reduceCtorEq, zzR, gos, Int.reduceAdd, Int.reduceSub, Int.reduceMul, Int.reduceEq])
  by_cases c3 : (p : Int) < 1048576
  · obtain ⟨b, d, h⟩ := is_walk p (by omega)
    refine ⟨b, ?_, h⟩
    refine X_startP (n := 17) (m := 1) (rs := [.tmp 2]) Try.func43 rfl rfl rfl rfl (by decide) fun base => ?_
    repeat (first | ((first | refine X_call_fn2 rfl (by simp only [tys]) ?_ | refine X_dcall_fn2 rfl (by simp only [tys]) ?_); apply Exists.intro; apply And.intro; (focus (simp -dsimp only [simx, zzC, zzB, tys, ite_self, opnL, callB, callX, readsB, stepOp, nilCmp, ofVal, opBuiltin, opLen, PV.sk, scalBin, scalUn, intBin, opLoad, natOf, opConvert, opField, cellsP, oneP, Value.oneCell', opStore, toIV, scalT, scalA, scalC, boxesA, boxesC, zipB_none, zipB_mx, isZ, opZip, zeroP, opAppendZ, opMakeMap, opLookup, mboxB, opUpdate, ↓reduceIte, Nat.reduceSub, Nat.reduceEqDiff, Nat.reduceAdd, Nat.reduceMul, Nat.reduceLT, Nat.reduceLeDiff, Int.reduceToNat, Int.reduceLE, Int.reduceLT, Int.reduceNeg, reduceCtorEq, zzL, if_true, if_false] <;> rfl)); apply Exists.intro; apply And.intro; (focus (first | exact d))) | refine X_opc rfl ?_ | refine X_dopc rfl ?_ | refine ⟨(by show drawK _ _ = true; kernel_rfl : drawX _ _ _), ?_⟩ | exact (by show drawK _ _ = true; kernel_rfl : drawX _ _ _) | simp -dsimp (maxSteps := 20000000) (disch := omega) only [simx, zzC, zzB, tys, ite_self, opnL, callB, callX, readsB, stepOp, nilCmp, ofVal, opBuiltin, opLen, PV.sk, scalBin, scalUn, intBin, opLoad, natOf, opConvert, opField, cellsP, oneP, Value.oneCell', opStore, toIV, scalT, scalA, scalC, boxesA, boxesC, zipB_none, zipB_mx, isZ, opZip, zeroP, opAppendZ, opMakeMap, opLookup, mboxB, opUpdate, ↓reduceIte, Nat.reduceSub, Nat.reduceEqDiff, Nat.reduceAdd, Nat.reduceMul, Nat.reduceLT, Nat.reduceLeDiff, Int.reduceToNat, Int.reduceLE, Int.reduceLT, Int.reduceNeg, reduceCtorEq, zzR, gos, Int.reduceAdd, Int.reduceSub, Int.reduceMul, Int.reduceEq])
  · refine ⟨false, ?_, fun h => by cases h⟩
    refine X_startP (n := 17) (m := 1) (rs := [.tmp 2]) Try.func43 rfl rfl rfl rfl (by decide) fun base => ?_
    repeat (first | refine X_opc rfl ?_ | refine X_dopc rfl ?_ | refine ⟨(by show drawK _ _ = true; kernel_rfl : drawX _ _ _), ?_⟩ | exact (by show drawK _ _ = true; kernel_rfl : drawX _ _ _) | simp -dsimp (maxSteps := 20000000) (disch := omega) only [simx, zzC, zzB, tys, ite_self, opnL, callB, callX, readsB, stepOp, nilCmp, ofVal, opBuiltin, opLen, PV.sk, scalBin, scalUn, intBin, opLoad, natOf, opConvert, opField, cellsP, oneP, Value.oneCell', opStore, toIV, scalT, scalA, scalC, boxesA, boxesC, zipB_none, zipB_mx, isZ, opZip, zeroP, opAppendZ, opMakeMap, opLookup, mboxB, opUpdate, ↓reduceIte, Nat.reduceSub, Nat.reduceEqDiff, Nat.reduceAdd, Nat.reduceMul, Nat.reduceLT, Nat.reduceLeDiff, Int.reduceToNat, Int.reduceLE, Int.reduceLT, Int.reduceNeg, reduceCtorEq, zzR, gos, Int.reduceAdd, Int.reduceSub, Int.reduceMul, Int.reduceEq])
end Go.Proofs.Ythnfphgjfpcpbaa.TM
namespace Go.Proofs.Ythnfphgjfpcpbaa.TM
open Go Go.RowKit
theorem cl_ext {R C : Nat} {a b : List Int} (ha : a.length = R * C) (hb : b.length = R * C) (h : ∀ i j, i < R → j < C → cl C a i j = cl C b i j) : a = b := by
  refine list_ext0 ha hb fun q hq => ?_
  have hC : 0 < C := by
    rcases Nat.eq_zero_or_pos C with e | e
    · rw [e, Nat.mul_zero] at hq; omega
    · exact e
  have h1 : q / C < R := Nat.div_lt_of_lt_mul (by rw [Nat.mul_comm]; exact hq)
  have h2 := h (q / C) (q % C) h1 (Nat.mod_lt _ hC)
  unfold cl at h2
  have e : q / C * C + q % C = q := by rw [Nat.mul_comm]; exact Nat.div_add_mod q C
  rw [e] at h2
  exact h2
theorem cl_in {P : Int} {R C : Nat} {a : List Int} (ha : a.length = R * C) (h : ∀ x ∈ a, In P x) {i j : Nat} (hi : i < R) (hj : j < C) : In P (cl C a i j) := by
  unfold cl
  have := ic_bd (c := C) hi
  exact getD_of h (by omega)
theorem apX_cong {p : Int} {C : Nat} {A B : Mx} {x : Nat → Int} {i : Nat} (h : ∀ j, j < C → A i j % p = B i j % p) : apX C A x i % p = apX C B x i % p := sumN_mod fun j hj => em_mul (h j hj) rfl
theorem apX_id {C : Nat} {x : Nat → Int} {i : Nat} (hi : i < C) : apX C idX x i = x i := by
  unfold apX
  rw [← sumN_one x hi]
  refine sumN_congr fun j _ => ?_
  unfold idX
  by_cases e : j = i
  · rw [if_pos e, if_pos e, Int.one_mul]
  · rw [if_neg e, if_neg e, Int.zero_mul]
def InvX (P R : Nat) (A U : Mx) : Prop := ∀ i j, i < R → j < R → mulX R A U i j % P = idX i j % P
def InjX (P R : Nat) (A : Mx) : Prop := ∀ x : Nat → Int, (∀ i, i < R → apX R A x i % P = 0) → ∀ j, j < R → x j % P = 0
section
variable {P R : Nat} {A B U V : Mx}
theorem InvX.ap (h : InvX P R A U) (x : Nat → Int) {i : Nat} (hi : i < R) : apX R A (apX R U x) i % P = x i % P := by
  rw [← apX_mul, apX_cong (B := idX) (fun j hj => h i j hi hj), apX_id hi]
theorem InvX.left (h : InvX P R A U) (hI : InjX P R A) : InvX P R U A := fun k j hk hj => by
  refine emod_sub0.2 (hI (fun k => mulX R U A k j - idX k j) (fun i hi => ?_) k hk)
  rw [apX_sub]
  refine emod_sub0.1 ?_
  have h1 : apX R A (fun j_1 => mulX R U A j_1 j) i % P = A i j % P := h.ap (fun m => A m j) hi
  rw [h1]
  have h2 : apX R A (fun m => idX m j) i = A i j := by
    unfold apX
    rw [← sumN_one (fun m => A i m) hj]
    refine sumN_congr fun m _ => ?_
    show A i m * (if j = m then 1 else 0) = if m = j then A i m else 0
    by_cases e : m = j
    · rw [if_pos e.symm, if_pos e, Int.mul_one]
    · rw [if_neg (fun h => e h.symm), if_neg e, Int.mul_zero]
  rw [h2]
theorem InvX.mul (h : InvX P R A U) (k : InvX P R B V) : InvX P R (mulX R A B) (mulX R V U) := fun i j hi hj => by
  have e : mulX R (mulX R A B) (mulX R V U) i j = apX R A (apX R B (apX R V (fun k => U k j))) i := by
    show apX R (mulX R A B) (apX R V (fun k => U k j)) i = _
    rw [apX_mul]
  rw [e]
  exact (apX_mod (fun m hm => k.ap (fun k => U k j) hm) i).trans (h i j hi hj)
theorem InvX.cong {A' U' : Mx} (h : InvX P R A U) (ha : ∀ i j, i < R → j < R → A' i j % P = A i j % P) (hu : ∀ i j, i < R → j < R → U' i j % P = U i j % P) : InvX P R A' U' := fun i j hi hj => by
  rw [← h i j hi hj]
  exact sumN_mod fun k hk => em_mul (ha i k hi hk) (hu k j hk hj)
theorem InvX.lp (hP : Prm P) (hp : Md P) (h : InvX P R A U) : Lp R A * Lp R U % P = 1 := by
  rw [← Lp_mulX hP hp, Lp_mod R h, Lp_id]
  exact Int.emod_eq_of_lt (by decide) (by have := hp.1; omega)
end
section
variable {P R : Nat} {l : List Int}
end
end Go.Proofs.Ythnfphgjfpcpbaa.TM
namespace Go.Proofs.Ythnfphgjfpcpbaa.TM
open Go Go.RowKit
attribute [local irreducible] K W WOps Effs Xg Xo Xr Xdg Xdo Xdr Xif CallsP CallR
theorem small7_walk (P : Nat) (hp : P < 18446744073709551616) (r c : Int) (l : List Int) (n : Int) (hl : l.length ≤ maxLen) : ∃ b, CallsP Try.prog 45 [u64 P, matP r c l, i64 n] (bl b) ∧ (b = true → (l.length : Int) ≤ n ∧ Prm P ∧ MatB P r c l = true) := by
  obtain ⟨pb, d1, hpr⟩ := prime7_walk P hp
  have d2 := mright_walk P r c l hl
  by_cases c0 : (l.length : Int) ≤ n
  case neg =>
    refine ⟨false, ?_, fun h => by cases h⟩
    refine X_startP (n := 21) (m := 3) (rs := [.tmp 6]) Try.func45 rfl rfl rfl rfl (by decide) fun base => ?_
    repeat (first | refine X_opc rfl ?_ | refine X_dopc rfl ?_ | refine ⟨(by show drawK _ _ = true; kernel_rfl : drawX _ _ _), ?_⟩ | exact (by show drawK _ _ = true; kernel_rfl : drawX _ _ _) | simp -dsimp (maxSteps := 20000000) (disch := omega) only [simx, zzC, zzB, tys, ite_self, opnL, callB, callX, readsB, stepOp, nilCmp, ofVal, opBuiltin, opLen, PV.sk, scalBin, scalUn, intBin, opLoad, natOf, opConvert, opField, cellsP, oneP, Value.oneCell', opStore, toIV, scalT, scalA, scalC, boxesA, boxesC, zipB_none, zipB_mx, isZ, opZip, zeroP, opAppendZ, opMakeMap, opLookup, mboxB, opUpdate, ↓reduceIte, Nat.reduceSub, Nat.reduceEqDiff, Nat.reduceAdd, Nat.reduceMul, Nat.reduceLT, Nat.reduceLeDiff, Int.reduceToNat, Int.reduceLE, Int.reduceLT, Int.reduceNeg, reduceCtorEq, zzR, gos, Int.reduceAdd, Int.reduceSub, Int.reduceMul, Int.reduceEq, c0])
  cases pb with
  | false =>
    refine ⟨false, ?_, fun h => by cases h⟩
    refine X_startP (n := 21) (m := 3) (rs := [.tmp 6]) Try.func45 rfl rfl rfl rfl (by decide) fun base => ?_
    repeat (first | ((first | refine X_call_fn2 rfl (by simp only [tys]) ?_ | refine X_dcall_fn2 rfl (by simp only [tys]) ?_); apply Exists.intro; apply And.intro; (focus (simp -dsimp only [simx, zzC, zzB, tys, ite_self, opnL, callB, callX, readsB, stepOp, nilCmp, ofVal, opBuiltin, opLen, PV.sk, scalBin, scalUn, intBin, opLoad, natOf, opConvert, opField, cellsP, oneP, Value.oneCell', opStore, toIV, scalT, scalA, scalC, boxesA, boxesC, zipB_none, zipB_mx, isZ, opZip, zeroP, opAppendZ, opMakeMap, opLookup, mboxB, opUpdate, ↓reduceIte, Nat.reduceSub, Nat.reduceEqDiff, Nat.reduceAdd, Nat.reduceMul, Nat.reduceLT, Nat.reduceLeDiff, Int.reduceToNat, Int.reduceLE, Int.reduceLT, Int.reduceNeg, reduceCtorEq, zzL, if_true, if_false] <;> rfl)); apply Exists.intro; apply And.intro; (focus (first | exact d1))) | refine X_opc rfl ?_ | refine X_dopc rfl ?_ | refine ⟨(by show drawK _ _ = true; kernel_rfl : drawX _ _ _), ?_⟩ | exact (by show drawK _ _ = true; kernel_rfl : drawX _ _ _) | simp -dsimp (maxSteps := 20000000) (disch := omega) only [simx, zzC, zzB, tys, ite_self, opnL, callB, callX, readsB, stepOp, nilCmp, ofVal, opBuiltin, opLen, PV.sk, scalBin, scalUn, intBin, opLoad, natOf, opConvert, opField, cellsP, oneP, Value.oneCell', opStore, toIV, scalT, scalA, scalC, boxesA, boxesC, zipB_none, zipB_mx, isZ, opZip, zeroP, opAppendZ, opMakeMap, opLookup, mboxB, opUpdate, ↓reduceIte, Nat.reduceSub, Nat.reduceEqDiff, Nat.reduceAdd, Nat.reduceMul, Nat.reduceLT, Nat.reduceLeDiff, Int.reduceToNat, Int.reduceLE, Int.reduceLT, Int.reduceNeg, reduceCtorEq, zzR, gos, Int.reduceAdd, Int.reduceSub, Int.reduceMul, Int.reduceEq, c0])
  | true =>
    refine ⟨MatB P r c l, ?_, fun h => ⟨c0, hpr rfl, h⟩⟩
    generalize MatB P r c l = b at d2
    refine X_startP (n := 21) (m := 3) (rs := [.tmp 6]) Try.func45 rfl rfl rfl rfl (by decide) fun base => ?_
    repeat (first | ((first | refine X_call_fn2 rfl (by simp only [tys]) ?_ | refine X_dcall_fn2 rfl (by simp only [tys]) ?_); apply Exists.intro; apply And.intro; (focus (simp -dsimp only [simx, zzC, zzB, tys, ite_self, opnL, callB, callX, readsB, stepOp, nilCmp, ofVal, opBuiltin, opLen, PV.sk, scalBin, scalUn, intBin, opLoad, natOf, opConvert, opField, cellsP, oneP, Value.oneCell', opStore, toIV, scalT, scalA, scalC, boxesA, boxesC, zipB_none, zipB_mx, isZ, opZip, zeroP, opAppendZ, opMakeMap, opLookup, mboxB, opUpdate, ↓reduceIte, Nat.reduceSub, Nat.reduceEqDiff, Nat.reduceAdd, Nat.reduceMul, Nat.reduceLT, Nat.reduceLeDiff, Int.reduceToNat, Int.reduceLE, Int.reduceLT, Int.reduceNeg, reduceCtorEq, zzL, if_true, if_false] <;> rfl)); apply Exists.intro; apply And.intro; (focus (first | exact d1 | exact d2))) | refine X_opc rfl ?_ | refine X_dopc rfl ?_ | refine ⟨(by show drawK _ _ = true; kernel_rfl : drawX _ _ _), ?_⟩ | exact (by show drawK _ _ = true; kernel_rfl : drawX _ _ _) | simp -dsimp (maxSteps := 20000000) (disch := omega) only [simx, zzC, zzB, tys, ite_self, opnL, callB, callX, readsB, stepOp, nilCmp, ofVal, opBuiltin, opLen, PV.sk, scalBin, scalUn, intBin, opLoad, natOf, opConvert, opField, cellsP, oneP, Value.oneCell', opStore, toIV, scalT, scalA, scalC, boxesA, boxesC, zipB_none, zipB_mx, isZ, opZip, zeroP, opAppendZ, opMakeMap, opLookup, mboxB, opUpdate, ↓reduceIte, Nat.reduceSub, Nat.reduceEqDiff, Nat.reduceAdd, Nat.reduceMul, Nat.reduceLT, Nat.reduceLeDiff, Int.reduceToNat, Int.reduceLE, Int.reduceLT, Int.reduceNeg, reduceCtorEq, zzR, gos, Int.reduceAdd, Int.reduceSub, Int.reduceMul, Int.reduceEq, c0])
theorem Cp.rk {P R C : Nat} {A : Mx} {c : CupT} (H : CpC P R C A c) : Rk P R C c.1.length A := ⟨_, _, _, _, H⟩
end Go.Proofs.Ythnfphgjfpcpbaa.TM
namespace Go.Proofs.Ythnfphgjfpcpbaa.TM
open Go Go.RowKit
theorem pick_cl7 (C : Nat) (l cols : List Int) {m : Nat} (hm : m < cols.length) : ∀ (rows : List Int) (j : Nat), j < rows.length → (pickM C l rows cols).getD (j * cols.length + m) 0 = cl C l (rows.getD j 0).toNat (cols.getD m 0).toNat
  | [], j, hj => by simp at hj
  | i :: rows, j, hj => by
    have hl : (pickRow C l cols i).length = cols.length := by unfold pickRow; rw [List.length_map]
    have e : pickM C l (i :: rows) cols = pickRow C l cols i ++ pickM C l rows cols := rfl
    rw [e, List.getD_eq_getElem?_getD, List.getElem?_append, hl]
    cases j with
    | zero =>
      rw [if_pos (by omega)]
      unfold pickRow
      rw [List.getElem?_map, show 0 * cols.length + m = m by omega, List.getD_cons_zero]
      rw [List.getElem?_eq_getElem hm, List.getD_eq_getElem?_getD, List.getElem?_eq_getElem hm]; rfl
    | succ j =>
      have hm1 : (j + 1) * cols.length = j * cols.length + cols.length := Nat.succ_mul ..
      rw [if_neg (by omega), List.getD_cons_succ, ← pick_cl7 C l cols hm rows j (by simpa using hj), List.getD_eq_getElem?_getD]
      congr 2; omega
theorem mkP_sum {p : Int} (X Y : Nat → Int) : ∀ k, mkP p X Y k % p = sumN k (fun m => X m * Y m) % p
  | 0 => rfl
  | k + 1 => by rw [mkP, em_refl, sumN]; exact em_add (mkP_sum X Y k) em_refl
theorem made_again {P R C : Nat} {l : List Int} (hP : Prm P) (M : Mt P R C l) (hin : ∀ a ∈ l, In P a) : makeM P (tkCup P C R l).2.2.1 (tkCup P C R l).2.2.2 R (tkCup P C R l).1.length C = l := by
  have H := tkCup_Cp hP M hin
  refine cl_ext (tbl_len ..) M.len fun i j hi hj => ?_
  unfold makeM
  rw [cl_tbl _ hi hj, dc_div hj, dc_mod hj]
  have e := H.made i hi j hj
  rw [in_mod (cl_in M.len hin hi hj)] at e
  rw [e]
  unfold mkG
  rw [← in_mod (mkP_in M.hp _ _ _), mkP_sum]; rfl
theorem make_of {P R C : Nat} {l : List Int} (hP : Prm P) (M : Mt P R C l) (hin : ∀ a ∈ l, In P a) : CallsP Try.prog 47 [u64 P, cupQ (tkCup P C R l), i64 R, i64 C] (.tup [matP R C l, i64 0]) := by
  have hw := tkCup_W hP M hin
  have h := make_yes (rw0 := (tkCup P C R l).1) (cw := (tkCup P C R l).2.1) M.hp M.r1 M.r2 M.c1 M.c2 hw.cl hw.ul (by have := hw.rle; have := M.r2; rw [mx_len]; omega) hw.cr hw.ur
  rw [made_again hP M hin] at h
  exact h
theorem insF_inj {n : Nat} : ∀ (j : Nat), j < n → ∀ f : Nat → Int, InjN f n → InjN (insF j f) n
  | 0, _, f, h => h
  | j + 1, hj, f, h => by
    rw [insF]
    split
    · exact insF_inj j (by omega) _ (h.sw (by omega) hj)
    · exact h
theorem srtF_inj {n : Nat} {f : Nat → Int} (h : InjN f n) : ∀ j, j < n → InjN (srtF j f) n
  | 0, _ => h
  | j + 1, hj => by rw [srtF]; exact insF_inj (j + 1) hj _ (srtF_inj h j (by omega))
theorem sumN_at {n k : Nat} {f : Nat → Int} (hk : k < n) (h : ∀ m, m < n → m ≠ k → f m = 0) : sumN n f = f k := by
  rw [← sumN_one f hk]
  exact sumN_congr fun m hm => by
    by_cases e : m = k
    · rw [if_pos e]
    · rw [if_neg e, h m hm e]
def putX (K : Nat) (S : Nat → Nat) (x : Nat → Int) : Nat → Int := fun j => sumN K (fun k => if S k = j then x k else 0)
theorem putX_at {K : Nat} {S : Nat → Nat} {x : Nat → Int} (h : ∀ i j, i < K → j < K → S i = S j → i = j) {k : Nat} (hk : k < K) : putX K S x (S k) = x k := by
  unfold putX
  rw [sumN_at hk (fun m hm hne => if_neg fun e => hne (h m k hm hk e))]
  exact if_pos rfl
theorem putX_no {K : Nat} {S : Nat → Nat} {x : Nat → Int} {j : Nat} (h : ∀ k, k < K → S k ≠ j) : putX K S x j = 0 := by
  unfold putX
  rw [sumN_congr (g := fun _ => 0) fun k hk => if_neg (h k hk), sumN_zero]
theorem putX_ap {K C : Nat} {S : Nat → Nat} {x : Nat → Int} {A : Mx} {i : Nat} (hS : ∀ k, k < K → S k < C) : apX C A (putX K S x) i = sumN K (fun k => A i (S k) * x k) := by
  unfold apX putX
  rw [sumN_congr fun j _ => (sumN_mul K (A i j) (fun k => if S k = j then x k else 0)).symm, sumN_swap]
  refine sumN_congr fun k hk => ?_
  rw [sumN_at (hS k hk) (fun j hj hne => by rw [if_neg (Ne.symm hne), Int.mul_zero]), if_pos rfl]
theorem Cp.minor {P R C r : Nat} {A : Mx} {rw cw : Nat → Nat} {c u : Mx} (hP : Prm P) (H : Cp P R C r A rw cw c u) {S : Nat → Nat} (h1 : ∀ k, k < r → ∃ m, m < r ∧ S k = cw m) (h2 : ∀ i j, i < r → j < r → S i = S j → i = j) {x : Nat → Int} (hx : ∀ i, i < r → sumN r (fun k => A (rw i) (S k) * x k) % P = 0) : ∀ k, k < r → x k % P = 0 := fun k hk => by
  have hS : ∀ k, k < r → S k < C := fun k hk => by obtain ⟨m, hm, e⟩ := h1 k hk; rw [e]; exact H.clt m hm
  have e1 : ∀ i, i < r → sumN r (fun k => c (rw i) k * apX C u (putX r S x) k) % P = 0 := fun i hi => by
    rw [← H.ap (H.rlt i hi), putX_ap hS]; exact hx i hi
  have e2 := H.cinj e1
  have e3 := H.uinj hP (x := putX r S x) (fun j _ hj => by
    rw [putX_no fun k hk e => by obtain ⟨m, hm, e2⟩ := h1 k hk; exact hj m hm (by omega)]; rfl) e2
  have e4 := e3 (S k) (hS k hk)
  rwa [putX_at h2 hk] at e4
theorem rk_full {P n r : Nat} {A : Mx} (hP : Prm P) (hp : Md P) (H : Rk P n n r A) (h : ∀ x : Nat → Int, (∀ i, i < n → apX n A x i % P = 0) → ∀ i, i < n → x i % P = 0) : r = n := by
  obtain ⟨s, K⟩ := rk_ex hP hp n n idX
  have hs : s = n := by
    refine (K.lp_nz hP).1 ?_
    rw [Lp_id, Int.emod_eq_of_lt (by decide) (by have := hp.1; omega)]; decide
  have := H.ker_le hP K fun x hx i hi => by rw [apX_id hi]; exact h x hx i hi
  have := H.le_rows
  omega
theorem minor_det {P R C : Nat} {l : List Int} (hP : Prm P) (M : Mt P R C l) (hin : ∀ a ∈ l, In P a) : Lp (tkCup P C R l).1.length (cl (tkCup P C R l).1.length (pickM C l (tkCup P C R l).1 (colS (tkCup P C R l)))) % P ≠ 0 := by
  have H := tkCup_Cp hP M hin
  have hw := tkCup_W hP M hin
  generalize tkCup P C R l = c at H hw ⊢
  obtain ⟨q, K⟩ := rk_ex hP M.hp c.1.length c.1.length (cl c.1.length (pickM C l c.1 (colS c)))
  refine (K.lp_nz hP).2 (rk_full hP M.hp K fun x hx => ?_)
  have cq : ∀ k, k < c.1.length → c.2.1.getD k 0 = (cwC c k : Int) := fun k hk => by
    have := hw.qb _ (getD_mm (l := c.2.1) (d := 0) (i := k) (by rw [hw.ql]; exact hk))
    unfold cwC; omega
  have sm : ∀ k, k < c.1.length → ∃ m, m < c.1.length ∧ (colS c).getD k 0 = (cwC c m : Int) := fun k hk => by
    unfold colS
    rw [tbl_getD _ hk]
    exact srtF_mem (n := c.1.length) (p := fun a => ∃ m, m < c.1.length ∧ a = (cwC c m : Int)) (fun i hi => ⟨i, hi, cq i hi⟩) (c.1.length - 1) (by omega) k hk
  have si : ∀ i j, i < c.1.length → j < c.1.length → (colS c).getD i 0 = (colS c).getD j 0 → i = j := fun i j hi hj e => by
    unfold colS at e
    rw [tbl_getD _ hi, tbl_getD _ hj] at e
    exact srtF_inj (fun a b ha hb he => H.cdis ha hb (by rw [cq a ha, cq b hb] at he; omega)) (c.1.length - 1) (by omega) i j hi hj e
  refine Cp.minor hP H (S := fun k => ((colS c).getD k 0).toNat) (fun k hk => ?_) (fun i j hi hj e => ?_) (x := x) fun i hi => ?_
  · obtain ⟨m, hm, e⟩ := sm k hk
    exact ⟨m, hm, by show ((colS c).getD k 0).toNat = cwC c m; rw [e, Int.toNat_natCast]⟩
  · obtain ⟨m, hm, e1⟩ := sm i hi
    obtain ⟨m', hm', e2⟩ := sm j hj
    refine si i j hi hj ?_
    simp only [e1, e2, Int.toNat_natCast] at e ⊢
    omega
  · have h := hx i hi
    refine Eq.trans ?_ h
    unfold apX
    congr 1
    refine sumN_congr fun k hk => ?_
    have e := pick_cl7 C l (colS c) (m := k) (by rw [colS_len]; exact hk) c.1 i hi
    rw [colS_len] at e
    rw [show cl c.1.length (pickM C l c.1 (colS c)) i k = _ from e]; rfl
theorem minor_mt {P R C : Nat} {l : List Int} (hP : Prm P) (M : Mt P R C l) (hin : ∀ a ∈ l, In P a) (h0 : (tkCup P C R l).1.length ≠ 0) : Mt P (tkCup P C R l).1.length (tkCup P C R l).1.length (pickM C l (tkCup P C R l).1 (colS (tkCup P C R l))) ∧ ∀ a ∈ pickM C l (tkCup P C R l).1 (colS (tkCup P C R l)), In P a := by
  have hw := tkCup_W hP M hin
  have pin : ∀ a ∈ pickM C l (tkCup P C R l).1 (colS (tkCup P C R l)), In P a := fun a ha => by
    unfold pickM at ha
    obtain ⟨i, hi, h⟩ := List.mem_flatMap.1 ha
    unfold pickRow at h
    obtain ⟨k, hk, rfl⟩ := List.mem_map.1 h
    have := hw.rb i hi
    have := colS_mem hw k hk
    exact cl_in M.len hin (by omega) (by omega)
  have := hw.rle
  have := M.r2
  refine ⟨⟨M.hp, by omega, by omega, by omega, by omega, ?_, fun a ha => (pin a ha).2⟩, pin⟩
  rw [pickM_len, colS_len]
end Go.Proofs.Ythnfphgjfpcpbaa.TM
namespace Go.Proofs.Ythnfphgjfpcpbaa.TM
open Go Go.RowKit
attribute [local irreducible] K W WOps Effs Xg Xo Xr Xdg Xdo Xdr Xif CallsP CallR
theorem msame_self {r c : Int} {l : List Int} (hl : l.length ≤ maxLen) : CallsP Try.prog 41 [matP r c l, matP r c l] (bl true) := by
  have h := msame_walk r c l r c l hl
  unfold sameMB at h
  simpa using h
structure CupV (p : Int) (R C K : Nat) (rw0 cw : List Int) (uu : List (List Int)) : Prop where
  ru : rw0.length = K
  ql : cw.length = K
  ul : uu.length = K
  ur : ∀ j, j < K → (uu.getD j []).length = C
  qb : ∀ j, j < K → ∃ q : Nat, cw.getD j 0 = q ∧ q < C ∧ (uu.getD j []).getD q 0 ≠ 0 ∧ ∀ m, m < q → (uu.getD j []).getD m 0 = 0
  pr : ∀ i j, i < j → j < K → cw.getD i 0 ≠ cw.getD j 0 ∧ rw0.getD i 0 < rw0.getD j 0 ∧ (uu.getD j []).getD (cw.getD i 0).toNat 0 = 0
theorem cup_V {P R C : Nat} {l : List Int} (hP : Prm P) (M : Mt P R C l) (hin : ∀ a ∈ l, In P a) {rw0 cw : List Int} {cc uu : List (List Int)} (e : tkCup P C R l = (rw0, cw, cc, uu)) : CupV P R C rw0.length rw0 cw uu := by
  have H := tkCup_Cp hP M hin
  have hw := tkCup_W hP M hin
  rw [e] at H hw
  have uin : ∀ j m, j < rw0.length → m < C → In P ((uu.getD j []).getD m 0) := fun j m hj hm => by
    obtain ⟨u1, u2⟩ := hw.ur (uu.getD j []) (getD_mm (by rw [hw.ul]; exact hj))
    exact getD_of u2 (by omega)
  have cq : ∀ k, k < rw0.length → cw.getD k 0 = ((cwC (rw0, cw, cc, uu) k : Nat) : Int) := fun k hk => by
    have := hw.qb (cw.getD k 0) (getD_mm (by rw [hw.ql]; exact hk))
    unfold cwC; simp only; omega
  have rq : ∀ k, k < rw0.length → rw0.getD k 0 = ((rwC (rw0, cw, cc, uu) k : Nat) : Int) := fun k hk => by
    have := hw.rb (rw0.getD k 0) (getD_mm hk)
    unfold rwC; simp only; omega
  refine ⟨rfl, hw.ql, hw.ul, fun j hj => (hw.ur _ (getD_mm (by rw [hw.ul]; exact hj))).1, fun j hj => ⟨_, cq j hj, H.clt j hj, ?_, fun m hm => ?_⟩, fun i j hi hj => ⟨fun h => ?_, ?_, ?_⟩⟩
  · intro h
    refine H.upiv j hj ?_
    show (uu.getD j []).getD (cwC (rw0, cw, cc, uu) j) 0 % (P : Int) = 0
    rw [h]; rfl
  · have h := H.uh j hj m hm
    rwa [show uuC (rw0, cw, cc, uu) j m = (uu.getD j []).getD m 0 from rfl, in_mod (uin j m hj (by have := H.clt j hj; omega))] at h
  · rw [cq i (by omega), cq j hj] at h
    have := H.cdis (j := i) (k := j) (by show i < rw0.length; omega) hj (by omega)
    omega
  · rw [rq i (by omega), rq j hj]
    have := H.rinc i j hi hj
    omega
  · have h := H.uz i j hi hj
    rw [cq i (by omega), Int.toNat_natCast]
    rwa [show uuC (rw0, cw, cc, uu) j (cwC (rw0, cw, cc, uu) i) = (uu.getD j []).getD (cwC (rw0, cw, cc, uu) i) 0 from rfl, in_mod (uin j _ hj (H.clt i (by show i < rw0.length; omega)))] at h
theorem sq12 {K R C : Nat} (h1 : K ≤ R) (h2 : K ≤ C) (h : R * C ≤ 150) : K ≤ 12 := by
  rcases Nat.lt_or_ge 12 K with h3 | h3
  · have := Nat.mul_le_mul (show 13 ≤ R by omega) (show 13 ≤ C by omega); omega
  · exact h3
set_option maxHeartbeats 8000000 in
theorem cupMakes_true (a0 : Int) (a1 : Int × Int × List Int) (w0 : (Lit.int .u64 a0).wf = true) (w1 : ((Lit.int .i64 a1.1).wf = true ∧ (Lit.int .i64 a1.2.1).wf = true ∧ (a1.2.2.length ≤ maxLen ∧ ∀ e23_ ∈ a1.2.2, (Lit.int .u64 e23_).wf = true))) :
    CallsP Try.prog 9 [.i (IV.v (.int .u64 a0)), .agg [.i (IV.v (.int .i64 a1.1)), .i (IV.v (.int .i64 a1.2.1)), .i (IV.l a1.2.2.length (a1.2.2.map fun y => IV.v (.int .u64 y)))]] (bl true) := by
  obtain ⟨r, c, l⟩ := a1
  obtain ⟨v1, v2, v3, v4⟩ := w1
  simp only at v1 v2 v3 v4 ⊢
  have wp := w64_of w0
  obtain ⟨P, rfl⟩ : ∃ P : Nat, a0 = P := ⟨a0.toNat, by have := wp.1; omega⟩
  have wl := w64_all v4
  have d0 := awake07_walk
  obtain ⟨sb, d1, hs⟩ := small7_walk P (by have := wp.2; omega) r c l 150 v3
  change CallsP Try.prog 9 [u64 P, matP r c l] (bl true)
  cases sb with
  | false =>
    refine X_startP (n := 215) (m := 2) (rs := [.tmp 4]) Try.func9 rfl rfl rfl rfl (by decide) fun base => ?_
    repeat (first | ((first | refine X_call_fn2 rfl (by simp only [tys]) ?_ | refine X_dcall_fn2 rfl (by simp only [tys]) ?_); apply Exists.intro; apply And.intro; (focus (simp -dsimp only [simx, zzC, zzB, tys, ite_self, opnL, callB, callX, readsB, stepOp, nilCmp, ofVal, opBuiltin, opLen, PV.sk, scalBin, scalUn, intBin, opLoad, natOf, opConvert, opField, cellsP, oneP, Value.oneCell', opStore, toIV, scalT, scalA, scalC, boxesA, boxesC, zipB_none, zipB_mx, isZ, opZip, zeroP, opAppendZ, opMakeMap, opLookup, mboxB, opUpdate, ↓reduceIte, Nat.reduceSub, Nat.reduceEqDiff, Nat.reduceAdd, Nat.reduceMul, Nat.reduceLT, Nat.reduceLeDiff, Int.reduceToNat, Int.reduceLE, Int.reduceLT, Int.reduceNeg, reduceCtorEq, zzL, if_true, if_false] <;> rfl)); apply Exists.intro; apply And.intro; (focus (first | exact d0 | exact d1))) | refine X_opc rfl ?_ | refine X_dopc rfl ?_ | refine ⟨(by show drawK _ _ = true; kernel_rfl : drawX _ _ _), ?_⟩ | exact (by show drawK _ _ = true; kernel_rfl : drawX _ _ _) | simp -dsimp (maxSteps := 20000000) (disch := omega) only [simx, zzC, zzB, tys, ite_self, opnL, callB, callX, readsB, stepOp, nilCmp, ofVal, opBuiltin, opLen, PV.sk, scalBin, scalUn, intBin, opLoad, natOf, opConvert, opField, cellsP, oneP, Value.oneCell', opStore, toIV, scalT, scalA, scalC, boxesA, boxesC, zipB_none, zipB_mx, isZ, opZip, zeroP, opAppendZ, opMakeMap, opLookup, mboxB, opUpdate, ↓reduceIte, Nat.reduceSub, Nat.reduceEqDiff, Nat.reduceAdd, Nat.reduceMul, Nat.reduceLT, Nat.reduceLeDiff, Int.reduceToNat, Int.reduceLE, Int.reduceLT, Int.reduceNeg, reduceCtorEq, zzR, gos, Int.reduceAdd, Int.reduceSub, Int.reduceMul, Int.reduceEq])
  | true =>
    obtain ⟨h150, hP, hm⟩ := hs rfl
    obtain ⟨R, C, rfl, rfl, M⟩ := mat_of hm
    have hin : ∀ a ∈ l, In P a := fun a ha => in_of M.has wl ha
    have s1 := take_yes hP M hin
    have s2 := make_of hP M hin
    have s3 := msame_self (r := R) (c := C) v3
    have mdet := minor_det hP M hin
    have mmt := minor_mt hP M hin
    have hrc := Rk.le_cols hP (Cp.rk (tkCup_Cp hP M hin))
    have hrr := (tkCup_W hP M hin).rle
    have ml := M.len
    have r2 := M.r2
    have c2 := M.c2
    have k12 := sq12 hrr hrc (by omega)
    have m0 := minor_none hP M hin
    have m1 := fun h => minor_yes hP M hin h k12
    have D := fun h => det_yes hP (mmt h).1 (mmt h).2
    have V := @cup_V P R C l hP M hin
    clear mmt
    obtain ⟨mn, hmn⟩ : ∃ mn, pickM C l (tkCup P C R l).1 (colS (tkCup P C R l)) = mn := ⟨_, rfl⟩
    rw [hmn] at m1 D mdet
    clear hmn
    generalize tkCup P C R l = t at *
    obtain ⟨rw0, cw, cc, uu⟩ := t
    have V := V rfl
    simp only at s1 s2 m0 m1 D mdet hrr hrc k12
    obtain ⟨ru, ql, ul, ur, qb, pr⟩ := V
    generalize hK : rw0.length = K at *
    have e1 : (cw.length : Int) = K := by omega
    have e2 : (uu.length : Int) = K := by omega
    have e3 : (rw0.length : Int) = K := by omega
    obtain ⟨mv, hmv, hmk⟩ : ∃ mv : Int, (if (C : Int) < R then (C : Int) else R) = mv ∧ ¬ mv < K := ⟨_, rfl, by split <;> omega⟩
    have tail : K = 0 ∨ (K ≠ 0 ∧ ∃ d : Int, d ≠ 0 ∧ CallsP Try.prog 37 [u64 P, matP K K mn] (.tup [u64 d, i64 0])) := by
      by_cases h : K = 0
      · exact .inl h
      · exact .inr ⟨h, _, mdet, D h⟩
    clear D mdet
    refine X_startP (n := 215) (m := 2) (rs := [.tmp 4]) Try.func9 rfl rfl rfl rfl (by decide) fun base => ?_
    repeat (first | ((first | refine X_call_fn2 rfl (by simp only [tys]) ?_ | refine X_dcall_fn2 rfl (by simp only [tys]) ?_); apply Exists.intro; apply And.intro; (focus (simp -dsimp only [simx, zzC, zzB, tys, ite_self, opnL, callB, callX, readsB, stepOp, nilCmp, ofVal, opBuiltin, opLen, PV.sk, scalBin, scalUn, intBin, opLoad, natOf, opConvert, opField, cellsP, oneP, Value.oneCell', opStore, toIV, scalT, scalA, scalC, boxesA, boxesC, zipB_none, zipB_mx, isZ, opZip, zeroP, opAppendZ, opMakeMap, opLookup, mboxB, opUpdate, ↓reduceIte, Nat.reduceSub, Nat.reduceEqDiff, Nat.reduceAdd, Nat.reduceMul, Nat.reduceLT, Nat.reduceLeDiff, Int.reduceToNat, Int.reduceLE, Int.reduceLT, Int.reduceNeg, reduceCtorEq, zzL, if_true, if_false] <;> rfl)); apply Exists.intro; apply And.intro; (focus (first | exact d0 | exact d1 | exact s1 | exact s2 | exact s3))) | refine X_opc rfl ?_ | refine X_dopc rfl ?_ | refine ⟨(by show drawK _ _ = true; kernel_rfl : drawX _ _ _), ?_⟩ | exact (by show drawK _ _ = true; kernel_rfl : drawX _ _ _) | simp -dsimp (maxSteps := 20000000) (disch := omega) only [simx, zzC, zzB, tys, ite_self, opnL, callB, callX, readsB, stepOp, nilCmp, ofVal, opBuiltin, opLen, PV.sk, scalBin, scalUn, intBin, opLoad, natOf, opConvert, opField, cellsP, oneP, Value.oneCell', opStore, toIV, scalT, scalA, scalC, boxesA, boxesC, zipB_none, zipB_mx, isZ, opZip, zeroP, opAppendZ, opMakeMap, opLookup, mboxB, opUpdate, ↓reduceIte, Nat.reduceSub, Nat.reduceEqDiff, Nat.reduceAdd, Nat.reduceMul, Nat.reduceLT, Nat.reduceLeDiff, Int.reduceToNat, Int.reduceLE, Int.reduceLT, Int.reduceNeg, reduceCtorEq, gos, Int.reduceAdd, Int.reduceSub, Int.reduceMul, Int.reduceEq, e1, e2, e3, hmv, hmk, SK.len])
    refine X_loopH [0, 3, 5, 9] [] (0) (K) (fun j => True) (fun j => [(9, i64 j)]) (fun j => ((Heap.none.put ((0, 0) :: base) (.var [i64 R, i64 C, lu l])).put ((5, 6) :: base) (.var [li rw0, li cw, llP cc, llP uu])).put ((6, 10) :: base) (.var [i64 R, i64 C, lu l])) ?_ ?_ ?_ ?_ ?_ (by decide) ?_
    · exact (fgt_nil)
    · ((simp -dsimp (disch := omega) only [simx, zzB, tys, ite_self, opnL, callB, callX, readsB, stepOp, nilCmp, ofVal, opBuiltin, opLen, PV.sk, scalBin, scalUn, intBin, opLoad, natOf, opConvert, opField, cellsP, oneP, Value.oneCell', opStore, toIV, scalT, scalA, scalC, boxesA, boxesC, zipB_none, zipB_mx, isZ, opZip, zeroP, opAppendZ, opMakeMap, opLookup, mboxB, opUpdate, ↓reduceIte, Nat.reduceSub, Nat.reduceEqDiff, Nat.reduceAdd, Nat.reduceMul, Nat.reduceLT, Nat.reduceLeDiff, Int.reduceToNat, Int.reduceLE, Int.reduceLT, Int.reduceNeg, reduceCtorEq, gos, Int.reduceAdd, Int.reduceSub, Int.reduceMul, Int.reduceEq]) <;> first | rfl | simp)
    · funext c
      simp (maxSteps := 20000000) only [Heap.drop_at, rowH_app, Heap.put_at, Heap.none_at, List.mem_cons, List.not_mem_nil, or_false]
      by_cases e0 : c = (0, 0) :: base
      · subst e0; simp []
      by_cases e1 : c = (5, 6) :: base
      · subst e1; simp []
      by_cases e2 : c = (6, 10) :: base
      · subst e2; simp []
      simp [e0, e1, e2]
    · omega
    · trivial
    · intro J hJ _
      by_cases cj : J < K
      · obtain ⟨q, hqe, qC, qn, qz⟩ := qb J cj
        have u1 := ur J cj
        have prJ := fun i h => pr i J h cj
        obtain ⟨U, hU⟩ : ∃ U, uu.getD J [] = U := ⟨_, rfl⟩
        rw [hU] at u1 qn qz prJ
        have g1 : (uu.map fun u => IV.l u.length (u.map iu))[J]? = some (.l C (U.map iu)) := by rw [List.getElem?_map, getD_at' (d := []) (by omega), Option.map_some, hU, u1]
        have g2 : (cw.map ii)[J]? = some (ii (q : Int)) := by rw [List.getElem?_map, getD_at' (d := 0) (by omega), Option.map_some, hqe]
        have g3 : (U.map iu)[q]? = some (iu (U.getD q 0)) := by rw [List.getElem?_map, getD_some u1 qC]; rfl
        have g4 : (rw0.map ii)[J]? = some (ii (rw0.getD J 0)) := by rw [List.getElem?_map, getD_at' (d := 0) (by omega), Option.map_some]
        have q0 : ¬ (q : Int) < 0 := by omega
        have q1 : ¬ (C : Int) ≤ q := by omega
        have cj2 : J < uu.length := by omega
        have cj3 : J < cw.length := by omega
        have cj4 : J < rw0.length := by omega
        rw [hqe] at prJ
        generalize rw0.getD J 0 = a at g4 prJ
        generalize hu0 : U.getD q 0 = u0 at g3 qn
        repeat (first | refine X_opc rfl ?_ | refine X_dopc rfl ?_ | refine ⟨(by show drawK _ _ = true; kernel_rfl : drawX _ _ _), ?_⟩ | exact (by show drawK _ _ = true; kernel_rfl : drawX _ _ _) | simp -dsimp (maxSteps := 20000000) (disch := omega) only [simx, zzC, zzB, tys, ite_self, opnL, callB, callX, readsB, stepOp, nilCmp, ofVal, opBuiltin, opLen, PV.sk, scalBin, scalUn, intBin, opLoad, natOf, opConvert, opField, cellsP, oneP, Value.oneCell', opStore, toIV, scalT, scalA, scalC, boxesA, boxesC, zipB_none, zipB_mx, isZ, opZip, zeroP, opAppendZ, opMakeMap, opLookup, mboxB, opUpdate, ↓reduceIte, Nat.reduceSub, Nat.reduceEqDiff, Nat.reduceAdd, Nat.reduceMul, Nat.reduceLT, Nat.reduceLeDiff, Int.reduceToNat, Int.reduceLE, Int.reduceLT, Int.reduceNeg, reduceCtorEq, gos, Int.reduceAdd, Int.reduceSub, Int.reduceMul, Int.reduceEq, cj, cj2, cj3, g1, g2, g3, q0, q1, qn, qC, List.length_map])
        refine X_loopH [0, 3, 5, 9, 10] [] (0) (J) (fun j => True) (fun j => [(9, i64 J), (10, i64 j)]) (fun j => ((Heap.none.put ((0, 0) :: base) (.var [i64 R, i64 C, lu l])).put ((5, 6) :: base) (.var [li rw0, li cw, llP cc, llP uu])).put ((6, 10) :: base) (.var [i64 R, i64 C, lu l])) ?_ ?_ ?_ ?_ ?_ (by decide) ?_
        · exact (fgt_nil)
        · ((simp -dsimp (disch := omega) only [simx, zzB, tys, ite_self, opnL, callB, callX, readsB, stepOp, nilCmp, ofVal, opBuiltin, opLen, PV.sk, scalBin, scalUn, intBin, opLoad, natOf, opConvert, opField, cellsP, oneP, Value.oneCell', opStore, toIV, scalT, scalA, scalC, boxesA, boxesC, zipB_none, zipB_mx, isZ, opZip, zeroP, opAppendZ, opMakeMap, opLookup, mboxB, opUpdate, ↓reduceIte, Nat.reduceSub, Nat.reduceEqDiff, Nat.reduceAdd, Nat.reduceMul, Nat.reduceLT, Nat.reduceLeDiff, Int.reduceToNat, Int.reduceLE, Int.reduceLT, Int.reduceNeg, reduceCtorEq, gos, Int.reduceAdd, Int.reduceSub, Int.reduceMul, Int.reduceEq]) <;> first | rfl | simp)
        · funext c
          simp (maxSteps := 20000000) only [Heap.drop_at, rowH_app, Heap.put_at, Heap.none_at, List.mem_cons, List.not_mem_nil, or_false]
          by_cases e0 : c = (0, 0) :: base
          · subst e0; simp []
          by_cases e1 : c = (5, 6) :: base
          · subst e1; simp []
          by_cases e2 : c = (6, 10) :: base
          · subst e2; simp []
          simp [e0, e1, e2]
        · omega
        · trivial
        · intro m hm _
          by_cases cm : m < J
          · obtain ⟨p1, p2, p3⟩ := prJ m cm
            obtain ⟨q', hqe', qC', _, _⟩ := qb m (by omega)
            rw [hqe', Int.toNat_natCast] at p3
            have f1 : (cw.map ii)[m]? = some (ii (q' : Int)) := by rw [List.getElem?_map, getD_at' (d := 0) (by omega), Option.map_some, hqe']
            have f2 : (U.map iu)[q']? = some (iu 0) := by rw [List.getElem?_map, getD_some u1 qC', p3]; rfl
            have f3 : (rw0.map ii)[m]? = some (ii (rw0.getD m 0)) := by rw [List.getElem?_map, getD_at' (d := 0) (by omega), Option.map_some]
            have f4 : ¬ (q' : Int) = q := by omega
            have f5 : ¬ a ≤ rw0.getD m 0 := by omega
            have f6 : m < cw.length := by omega
            have f7 : m < rw0.length := by omega
            generalize rw0.getD m 0 = b at f3 f5
            repeat (first | refine X_opc rfl ?_ | refine X_dopc rfl ?_ | refine ⟨(by show drawK _ _ = true; kernel_rfl : drawX _ _ _), ?_⟩ | exact (by show drawK _ _ = true; kernel_rfl : drawX _ _ _) | simp -dsimp (maxSteps := 20000000) (disch := omega) only [simx, zzC, zzB, tys, ite_self, opnL, callB, callX, readsB, stepOp, nilCmp, ofVal, opBuiltin, opLen, PV.sk, scalBin, scalUn, intBin, opLoad, natOf, opConvert, opField, cellsP, oneP, Value.oneCell', opStore, toIV, scalT, scalA, scalC, boxesA, boxesC, zipB_none, zipB_mx, isZ, opZip, zeroP, opAppendZ, opMakeMap, opLookup, mboxB, opUpdate, ↓reduceIte, Nat.reduceSub, Nat.reduceEqDiff, Nat.reduceAdd, Nat.reduceMul, Nat.reduceLT, Nat.reduceLeDiff, Int.reduceToNat, Int.reduceLE, Int.reduceLT, Int.reduceNeg, reduceCtorEq, gos, Int.reduceAdd, Int.reduceSub, Int.reduceMul, Int.reduceEq, cm, cj2, cj3, cj4, g1, g2, g4, f1, f2, f3, f4, f5, f6, f7, qC', List.length_map])
            exact ⟨cm, (fgt_nil), rfl, drop_nil _⟩
          · have em : J = m := by omega
            subst em
            repeat (first | refine X_opc rfl ?_ | refine X_dopc rfl ?_ | refine ⟨(by show drawK _ _ = true; kernel_rfl : drawX _ _ _), ?_⟩ | exact (by show drawK _ _ = true; kernel_rfl : drawX _ _ _) | simp -dsimp (maxSteps := 20000000) (disch := omega) only [simx, zzC, zzB, tys, ite_self, opnL, callB, callX, readsB, stepOp, nilCmp, ofVal, opBuiltin, opLen, PV.sk, scalBin, scalUn, intBin, opLoad, natOf, opConvert, opField, cellsP, oneP, Value.oneCell', opStore, toIV, scalT, scalA, scalC, boxesA, boxesC, zipB_none, zipB_mx, isZ, opZip, zeroP, opAppendZ, opMakeMap, opLookup, mboxB, opUpdate, ↓reduceIte, Nat.reduceSub, Nat.reduceEqDiff, Nat.reduceAdd, Nat.reduceMul, Nat.reduceLT, Nat.reduceLeDiff, Int.reduceToNat, Int.reduceLE, Int.reduceLT, Int.reduceNeg, reduceCtorEq, gos, Int.reduceAdd, Int.reduceSub, Int.reduceMul, Int.reduceEq, SK.len])
            refine X_loopH [0, 3, 5, 9, 11] [] (0) (q) (fun j => True) (fun j => [(9, i64 J), (11, i64 j)]) (fun j => ((Heap.none.put ((0, 0) :: base) (.var [i64 R, i64 C, lu l])).put ((5, 6) :: base) (.var [li rw0, li cw, llP cc, llP uu])).put ((6, 10) :: base) (.var [i64 R, i64 C, lu l])) ?_ ?_ ?_ ?_ ?_ (by decide) ?_
            · exact (fgt_nil)
            · ((simp -dsimp (disch := omega) only [simx, zzB, tys, ite_self, opnL, callB, callX, readsB, stepOp, nilCmp, ofVal, opBuiltin, opLen, PV.sk, scalBin, scalUn, intBin, opLoad, natOf, opConvert, opField, cellsP, oneP, Value.oneCell', opStore, toIV, scalT, scalA, scalC, boxesA, boxesC, zipB_none, zipB_mx, isZ, opZip, zeroP, opAppendZ, opMakeMap, opLookup, mboxB, opUpdate, ↓reduceIte, Nat.reduceSub, Nat.reduceEqDiff, Nat.reduceAdd, Nat.reduceMul, Nat.reduceLT, Nat.reduceLeDiff, Int.reduceToNat, Int.reduceLE, Int.reduceLT, Int.reduceNeg, reduceCtorEq, gos, Int.reduceAdd, Int.reduceSub, Int.reduceMul, Int.reduceEq]) <;> first | rfl | simp)
            · funext c
              simp (maxSteps := 20000000) only [Heap.drop_at, rowH_app, Heap.put_at, Heap.none_at, List.mem_cons, List.not_mem_nil, or_false]
              by_cases e0 : c = (0, 0) :: base
              · subst e0; simp []
              by_cases e1 : c = (5, 6) :: base
              · subst e1; simp []
              by_cases e2 : c = (6, 10) :: base
              · subst e2; simp []
              simp [e0, e1, e2]
            · omega
            · trivial
            · intro m hm _
              by_cases cm : m < q
              · have f2 : (U.map iu)[m]? = some (iu 0) := by rw [List.getElem?_map, getD_some u1 (by omega), qz m cm]; rfl
                have mC : m < C := by omega
                have cm' : (m : Int) < q := by omega
                repeat (first | refine X_opc rfl ?_ | refine X_dopc rfl ?_ | refine ⟨(by show drawK _ _ = true; kernel_rfl : drawX _ _ _), ?_⟩ | exact (by show drawK _ _ = true; kernel_rfl : drawX _ _ _) | simp -dsimp (maxSteps := 20000000) (disch := omega) only [simx, zzC, zzB, tys, ite_self, opnL, callB, callX, readsB, stepOp, nilCmp, ofVal, opBuiltin, opLen, PV.sk, scalBin, scalUn, intBin, opLoad, natOf, opConvert, opField, cellsP, oneP, Value.oneCell', opStore, toIV, scalT, scalA, scalC, boxesA, boxesC, zipB_none, zipB_mx, isZ, opZip, zeroP, opAppendZ, opMakeMap, opLookup, mboxB, opUpdate, ↓reduceIte, Nat.reduceSub, Nat.reduceEqDiff, Nat.reduceAdd, Nat.reduceMul, Nat.reduceLT, Nat.reduceLeDiff, Int.reduceToNat, Int.reduceLE, Int.reduceLT, Int.reduceNeg, reduceCtorEq, gos, Int.reduceAdd, Int.reduceSub, Int.reduceMul, Int.reduceEq, cm, cm', cj2, cj3, g1, g2, f2, mC, List.length_map])
                exact ⟨cm, (fgt_nil), rfl, drop_nil _⟩
              · have em : q = m := by omega
                subst em
                repeat (first | refine X_opc rfl ?_ | refine X_dopc rfl ?_ | refine ⟨(by show drawK _ _ = true; kernel_rfl : drawX _ _ _), ?_⟩ | exact (by show drawK _ _ = true; kernel_rfl : drawX _ _ _) | simp -dsimp (maxSteps := 20000000) (disch := omega) only [simx, zzC, zzB, tys, ite_self, opnL, callB, callX, readsB, stepOp, nilCmp, ofVal, opBuiltin, opLen, PV.sk, scalBin, scalUn, intBin, opLoad, natOf, opConvert, opField, cellsP, oneP, Value.oneCell', opStore, toIV, scalT, scalA, scalC, boxesA, boxesC, zipB_none, zipB_mx, isZ, opZip, zeroP, opAppendZ, opMakeMap, opLookup, mboxB, opUpdate, ↓reduceIte, Nat.reduceSub, Nat.reduceEqDiff, Nat.reduceAdd, Nat.reduceMul, Nat.reduceLT, Nat.reduceLeDiff, Int.reduceToNat, Int.reduceLE, Int.reduceLT, Int.reduceNeg, reduceCtorEq, gos, Int.reduceAdd, Int.reduceSub, Int.reduceMul, Int.reduceEq, cj2, cj3, g2, SK.len])
                exact ⟨cj, (fgt_nil), rfl, drop_nil _⟩
      · have ej : K = J := by omega
        subst ej
        rcases tail with rfl | ⟨h0, d, dn, s5⟩
        · have s4 := m0 rfl
          repeat (first | ((first | refine X_call_fn2 rfl (by simp only [tys]) ?_ | refine X_dcall_fn2 rfl (by simp only [tys]) ?_); apply Exists.intro; apply And.intro; (focus (simp -dsimp only [simx, zzC, zzB, tys, ite_self, opnL, callB, callX, readsB, stepOp, nilCmp, ofVal, opBuiltin, opLen, PV.sk, scalBin, scalUn, intBin, opLoad, natOf, opConvert, opField, cellsP, oneP, Value.oneCell', opStore, toIV, scalT, scalA, scalC, boxesA, boxesC, zipB_none, zipB_mx, isZ, opZip, zeroP, opAppendZ, opMakeMap, opLookup, mboxB, opUpdate, ↓reduceIte, Nat.reduceSub, Nat.reduceEqDiff, Nat.reduceAdd, Nat.reduceMul, Nat.reduceLT, Nat.reduceLeDiff, Int.reduceToNat, Int.reduceLE, Int.reduceLT, Int.reduceNeg, reduceCtorEq, zzL, if_true, if_false] <;> rfl)); apply Exists.intro; apply And.intro; (focus (first | exact s4))) | refine X_opc rfl ?_ | refine X_dopc rfl ?_ | refine ⟨(by show drawK _ _ = true; kernel_rfl : drawX _ _ _), ?_⟩ | exact (by show drawK _ _ = true; kernel_rfl : drawX _ _ _) | simp -dsimp (maxSteps := 20000000) (disch := omega) only [simx, zzC, zzB, tys, ite_self, opnL, callB, callX, readsB, stepOp, nilCmp, ofVal, opBuiltin, opLen, PV.sk, scalBin, scalUn, intBin, opLoad, natOf, opConvert, opField, cellsP, oneP, Value.oneCell', opStore, toIV, scalT, scalA, scalC, boxesA, boxesC, zipB_none, zipB_mx, isZ, opZip, zeroP, opAppendZ, opMakeMap, opLookup, mboxB, opUpdate, ↓reduceIte, Nat.reduceSub, Nat.reduceEqDiff, Nat.reduceAdd, Nat.reduceMul, Nat.reduceLT, Nat.reduceLeDiff, Int.reduceToNat, Int.reduceLE, Int.reduceLT, Int.reduceNeg, reduceCtorEq, zzR, gos, Int.reduceAdd, Int.reduceSub, Int.reduceMul, Int.reduceEq, e1, e2, e3, SK.len])
        · have s4 := m1 h0
          have h0' : ¬ (K : Int) = 0 := by omega
          repeat (first | ((first | refine X_call_fn2 rfl (by simp only [tys]) ?_ | refine X_dcall_fn2 rfl (by simp only [tys]) ?_); apply Exists.intro; apply And.intro; (focus (simp -dsimp only [simx, zzC, zzB, tys, ite_self, opnL, callB, callX, readsB, stepOp, nilCmp, ofVal, opBuiltin, opLen, PV.sk, scalBin, scalUn, intBin, opLoad, natOf, opConvert, opField, cellsP, oneP, Value.oneCell', opStore, toIV, scalT, scalA, scalC, boxesA, boxesC, zipB_none, zipB_mx, isZ, opZip, zeroP, opAppendZ, opMakeMap, opLookup, mboxB, opUpdate, ↓reduceIte, Nat.reduceSub, Nat.reduceEqDiff, Nat.reduceAdd, Nat.reduceMul, Nat.reduceLT, Nat.reduceLeDiff, Int.reduceToNat, Int.reduceLE, Int.reduceLT, Int.reduceNeg, reduceCtorEq, zzL, if_true, if_false] <;> rfl)); apply Exists.intro; apply And.intro; (focus (first | exact s4 | exact s5))) | refine X_opc rfl ?_ | refine X_dopc rfl ?_ | refine ⟨(by show drawK _ _ = true; kernel_rfl : drawX _ _ _), ?_⟩ | exact (by show drawK _ _ = true; kernel_rfl : drawX _ _ _) | simp -dsimp (maxSteps := 20000000) (disch := omega) only [simx, zzC, zzB, tys, ite_self, opnL, callB, callX, readsB, stepOp, nilCmp, ofVal, opBuiltin, opLen, PV.sk, scalBin, scalUn, intBin, opLoad, natOf, opConvert, opField, cellsP, oneP, Value.oneCell', opStore, toIV, scalT, scalA, scalC, boxesA, boxesC, zipB_none, zipB_mx, isZ, opZip, zeroP, opAppendZ, opMakeMap, opLookup, mboxB, opUpdate, ↓reduceIte, Nat.reduceSub, Nat.reduceEqDiff, Nat.reduceAdd, Nat.reduceMul, Nat.reduceLT, Nat.reduceLeDiff, Int.reduceToNat, Int.reduceLE, Int.reduceLT, Int.reduceNeg, reduceCtorEq, zzR, gos, Int.reduceAdd, Int.reduceSub, Int.reduceMul, Int.reduceEq, e1, e2, e3, SK.len, h0', dn])
end Go.Proofs.Ythnfphgjfpcpbaa.TM
