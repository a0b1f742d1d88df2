/- What is proved of functions, and plain facts, part 7. Conditions: none. -/
import Derived.Test.YtmalpmnmknpphaaSWitnessParts6
set_option linter.defProp false
set_option linter.unusedSectionVars false
set_option linter.unusedSimpArgs false
set_option linter.unusedVariables false
namespace Go.Proofs.Ytmalpmnmknpphaa.TM
open Go Go.RowKit
attribute [local irreducible] K W WOps Effs Xg Xo Xr Xdg Xdo Xdr Xif CallsP CallR
structure CupW (p : Int) (R C : Nat) (c : CupT) : Prop where
  ql : c.2.1.length = c.1.length
  ul : c.2.2.2.length = c.1.length
  cl : c.2.2.1.length = R
  rb : ∀ a ∈ c.1, 0 ≤ a ∧ a < R
  qb : ∀ a ∈ c.2.1, 0 ≤ a ∧ a < C
  ur : ∀ u ∈ c.2.2.2, u.length = C ∧ ∀ a ∈ u, In p a
  cr : ∀ x ∈ c.2.2.1, x.length = c.1.length ∧ ∀ a ∈ x, In p a
  nz : ∀ k, k < c.1.length → (c.2.2.2.getD k []).getD (c.2.1.getD k 0).toNat 0 ≠ 0
  rle : c.1.length ≤ R
theorem getD_mm {α : Type} {l : List α} {d : α} {i : Nat} (h : i < l.length) : l.getD i d ∈ l := by
  rw [List.getD_eq_getElem?_getD, List.getElem?_eq_getElem h]; exact List.getElem_mem h
theorem getD_at' {α : Type} {l : List α} {d : α} {i : Nat} (h : i < l.length) : l[i]? = some (l.getD i d) := by
  rw [List.getD_eq_getElem?_getD, List.getElem?_eq_getElem h]; rfl
def invsT (p : Int) (c : CupT) : List Int := tbl c.2.2.2.length (fun k => finvC p ((c.2.2.2.getD k []).getD (c.2.1.getD k 0).toNat 0))
abbrev takenP (p r c : Int) (l : List Int) (t : CupT) (vs : List Int) : PV := .agg [li t.1, li t.2.1, llP t.2.2.1, llP t.2.2.2, u64 p, i64 r, i64 c, lu l, lu vs]
theorem tsub_walk {p a b : Int} (r c : Int) (l : List Int) (t : CupT) (vs : List Int) (hp : Md p) (ha : In p a) (hb : In p b) : CallsP Try.prog 110 [takenP p r c l t vs, u64 a, u64 b] (u64 ((a - b) % p)) := by
  have q := Sub_in hp ha hb
  refine X_startP (n := 18) (m := 3) (rs := [.tmp 6]) Try.func110 rfl rfl rfl rfl (by decide) fun base => ?_
  repeat (first | ((first | refine X_call_fn2 rfl (by simp only [tys]) ?_ | refine X_dcall_fn2 rfl (by simp only [tys]) ?_); apply Exists.intro; apply And.intro; (focus (simp -dsimp only [simx, zzC, zzB, tys, ite_self, opnL, callB, callX, readsB, stepOp, nilCmp, ofVal, opBuiltin, opLen, PV.sk, scalBin, scalUn, intBin, opLoad, natOf, opConvert, opField, cellsP, oneP, Value.oneCell', opStore, toIV, scalT, scalA, scalC, boxesA, boxesC, zipB_none, zipB_mx, isZ, opZip, zeroP, opAppendZ, opMakeMap, opLookup, mboxB, opUpdate, ↓reduceIte, Nat.reduceSub, Nat.reduceEqDiff, Nat.reduceAdd, Nat.reduceMul, Nat.reduceLT, Nat.reduceLeDiff, Int.reduceToNat, Int.reduceLE, Int.reduceLT, Int.reduceNeg, reduceCtorEq, zzL, if_true, if_false] <;> rfl)); apply Exists.intro; apply And.intro; (focus (first | exact q))) | refine X_opc rfl ?_ | refine X_dopc rfl ?_ | refine ⟨(by show drawK _ _ = true; kernel_rfl : drawX _ _ _), ?_⟩ | exact (by show drawK _ _ = true; kernel_rfl : drawX _ _ _) | simp -dsimp (maxSteps := 20000000) (disch := omega) only [simx, zzC, zzB, tys, ite_self, opnL, callB, callX, readsB, stepOp, nilCmp, ofVal, opBuiltin, opLen, PV.sk, scalBin, scalUn, intBin, opLoad, natOf, opConvert, opField, cellsP, oneP, Value.oneCell', opStore, toIV, scalT, scalA, scalC, boxesA, boxesC, zipB_none, zipB_mx, isZ, opZip, zeroP, opAppendZ, opMakeMap, opLookup, mboxB, opUpdate, ↓reduceIte, Nat.reduceSub, Nat.reduceEqDiff, Nat.reduceAdd, Nat.reduceMul, Nat.reduceLT, Nat.reduceLeDiff, Int.reduceToNat, Int.reduceLE, Int.reduceLT, Int.reduceNeg, reduceCtorEq, zzR, gos, Int.reduceAdd, Int.reduceSub, Int.reduceMul, Int.reduceEq])
theorem tmul_walk {p a b : Int} (r c : Int) (l : List Int) (t : CupT) (vs : List Int) (hp : Md p) (ha : In p a) (hb : In p b) : CallsP Try.prog 111 [takenP p r c l t vs, u64 a, u64 b] (u64 (a * b % p)) := by
  have q := Mul_in hp ha hb
  refine X_startP (n := 18) (m := 3) (rs := [.tmp 6]) Try.func111 rfl rfl rfl rfl (by decide) fun base => ?_
  repeat (first | ((first | refine X_call_fn2 rfl (by simp only [tys]) ?_ | refine X_dcall_fn2 rfl (by simp only [tys]) ?_); apply Exists.intro; apply And.intro; (focus (simp -dsimp only [simx, zzC, zzB, tys, ite_self, opnL, callB, callX, readsB, stepOp, nilCmp, ofVal, opBuiltin, opLen, PV.sk, scalBin, scalUn, intBin, opLoad, natOf, opConvert, opField, cellsP, oneP, Value.oneCell', opStore, toIV, scalT, scalA, scalC, boxesA, boxesC, zipB_none, zipB_mx, isZ, opZip, zeroP, opAppendZ, opMakeMap, opLookup, mboxB, opUpdate, ↓reduceIte, Nat.reduceSub, Nat.reduceEqDiff, Nat.reduceAdd, Nat.reduceMul, Nat.reduceLT, Nat.reduceLeDiff, Int.reduceToNat, Int.reduceLE, Int.reduceLT, Int.reduceNeg, reduceCtorEq, zzL, if_true, if_false] <;> rfl)); apply Exists.intro; apply And.intro; (focus (first | exact q))) | refine X_opc rfl ?_ | refine X_dopc rfl ?_ | refine ⟨(by show drawK _ _ = true; kernel_rfl : drawX _ _ _), ?_⟩ | exact (by show drawK _ _ = true; kernel_rfl : drawX _ _ _) | simp -dsimp (maxSteps := 20000000) (disch := omega) only [simx, zzC, zzB, tys, ite_self, opnL, callB, callX, readsB, stepOp, nilCmp, ofVal, opBuiltin, opLen, PV.sk, scalBin, scalUn, intBin, opLoad, natOf, opConvert, opField, cellsP, oneP, Value.oneCell', opStore, toIV, scalT, scalA, scalC, boxesA, boxesC, zipB_none, zipB_mx, isZ, opZip, zeroP, opAppendZ, opMakeMap, opLookup, mboxB, opUpdate, ↓reduceIte, Nat.reduceSub, Nat.reduceEqDiff, Nat.reduceAdd, Nat.reduceMul, Nat.reduceLT, Nat.reduceLeDiff, Int.reduceToNat, Int.reduceLE, Int.reduceLT, Int.reduceNeg, reduceCtorEq, zzR, gos, Int.reduceAdd, Int.reduceSub, Int.reduceMul, Int.reduceEq])
theorem vector_walk (p : Int) (b : List Int) (n : Int) (hb : b.length ≤ maxLen) : CallsP Try.prog 67 [u64 p, lu b, i64 n] (bl (HasB p b && decide ((b.length : Int) = n))) := by
  have q := has_walk p b hb
  cases h : HasB p b with
  | false =>
    rw [h] at q
    refine X_startP (n := 16) (m := 3) (rs := [.tmp 6]) Try.func67 rfl rfl rfl rfl (by decide) fun base => ?_
    repeat (first | ((first | refine X_call_fn2 rfl (by simp only [tys]) ?_ | refine X_dcall_fn2 rfl (by simp only [tys]) ?_); apply Exists.intro; apply And.intro; (focus (simp -dsimp only [simx, zzC, zzB, tys, ite_self, opnL, callB, callX, readsB, stepOp, nilCmp, ofVal, opBuiltin, opLen, PV.sk, scalBin, scalUn, intBin, opLoad, natOf, opConvert, opField, cellsP, oneP, Value.oneCell', opStore, toIV, scalT, scalA, scalC, boxesA, boxesC, zipB_none, zipB_mx, isZ, opZip, zeroP, opAppendZ, opMakeMap, opLookup, mboxB, opUpdate, ↓reduceIte, Nat.reduceSub, Nat.reduceEqDiff, Nat.reduceAdd, Nat.reduceMul, Nat.reduceLT, Nat.reduceLeDiff, Int.reduceToNat, Int.reduceLE, Int.reduceLT, Int.reduceNeg, reduceCtorEq, zzL, if_true, if_false] <;> rfl)); apply Exists.intro; apply And.intro; (focus (first | exact q))) | refine X_opc rfl ?_ | refine X_dopc rfl ?_ | refine ⟨(by show drawK _ _ = true; kernel_rfl : drawX _ _ _), ?_⟩ | exact (by show drawK _ _ = true; kernel_rfl : drawX _ _ _) | simp -dsimp (maxSteps := 20000000) (disch := omega) only [simx, zzC, zzB, tys, ite_self, opnL, callB, callX, readsB, stepOp, nilCmp, ofVal, opBuiltin, opLen, PV.sk, scalBin, scalUn, intBin, opLoad, natOf, opConvert, opField, cellsP, oneP, Value.oneCell', opStore, toIV, scalT, scalA, scalC, boxesA, boxesC, zipB_none, zipB_mx, isZ, opZip, zeroP, opAppendZ, opMakeMap, opLookup, mboxB, opUpdate, ↓reduceIte, Nat.reduceSub, Nat.reduceEqDiff, Nat.reduceAdd, Nat.reduceMul, Nat.reduceLT, Nat.reduceLeDiff, Int.reduceToNat, Int.reduceLE, Int.reduceLT, Int.reduceNeg, reduceCtorEq, zzR, gos, Int.reduceAdd, Int.reduceSub, Int.reduceMul, Int.reduceEq])
  | true =>
    rw [h] at q
    refine X_startP (n := 16) (m := 3) (rs := [.tmp 6]) Try.func67 rfl rfl rfl rfl (by decide) fun base => ?_
    repeat (first | ((first | refine X_call_fn2 rfl (by simp only [tys]) ?_ | refine X_dcall_fn2 rfl (by simp only [tys]) ?_); apply Exists.intro; apply And.intro; (focus (simp -dsimp only [simx, zzC, zzB, tys, ite_self, opnL, callB, callX, readsB, stepOp, nilCmp, ofVal, opBuiltin, opLen, PV.sk, scalBin, scalUn, intBin, opLoad, natOf, opConvert, opField, cellsP, oneP, Value.oneCell', opStore, toIV, scalT, scalA, scalC, boxesA, boxesC, zipB_none, zipB_mx, isZ, opZip, zeroP, opAppendZ, opMakeMap, opLookup, mboxB, opUpdate, ↓reduceIte, Nat.reduceSub, Nat.reduceEqDiff, Nat.reduceAdd, Nat.reduceMul, Nat.reduceLT, Nat.reduceLeDiff, Int.reduceToNat, Int.reduceLE, Int.reduceLT, Int.reduceNeg, reduceCtorEq, zzL, if_true, if_false] <;> rfl)); apply Exists.intro; apply And.intro; (focus (first | exact q))) | refine X_opc rfl ?_ | refine X_dopc rfl ?_ | refine ⟨(by show drawK _ _ = true; kernel_rfl : drawX _ _ _), ?_⟩ | exact (by show drawK _ _ = true; kernel_rfl : drawX _ _ _) | simp -dsimp (maxSteps := 20000000) (disch := omega) only [simx, zzC, zzB, tys, ite_self, opnL, callB, callX, readsB, stepOp, nilCmp, ofVal, opBuiltin, opLen, PV.sk, scalBin, scalUn, intBin, opLoad, natOf, opConvert, opField, cellsP, oneP, Value.oneCell', opStore, toIV, scalT, scalA, scalC, boxesA, boxesC, zipB_none, zipB_mx, isZ, opZip, zeroP, opAppendZ, opMakeMap, opLookup, mboxB, opUpdate, ↓reduceIte, Nat.reduceSub, Nat.reduceEqDiff, Nat.reduceAdd, Nat.reduceMul, Nat.reduceLT, Nat.reduceLeDiff, Int.reduceToNat, Int.reduceLE, Int.reduceLT, Int.reduceNeg, reduceCtorEq, zzR, gos, Int.reduceAdd, Int.reduceSub, Int.reduceMul, Int.reduceEq])
    by_cases e : (b.length : Int) = n <;> simp [e]
theorem tkCup_W {P R C : Nat} {l : List Int} (hP : Prm P) (M : Mt P R C l) (hin : ∀ a ∈ l, In P a) : CupW P R C (tkCup P C R l) := by
  have I := tkN_I hP M hin R (Nat.le_refl R)
  unfold tkCup
  generalize hT : tkN P C l R = T at I
  have one : In (P : Int) 0 := ⟨by decide, by have := M.hp.1; omega⟩
  refine ⟨by simp only; rw [I.ql, I.rl], by simp only; rw [I.rl], by simp [I.cl], I.rb, I.qb, I.ul, fun x hx => ?_, ?_, by simp only; rw [I.rl]; exact I.ri⟩
  · obtain ⟨c, hc, rfl⟩ := List.mem_map.1 hx
    obtain ⟨h1, h2⟩ := I.cb c hc
    refine ⟨by unfold padF; simp [I.rl]; omega, fun a ha => ?_⟩
    unfold padF at ha
    rcases List.mem_append.1 ha with ha | ha
    · exact h2 a ha
    · rw [List.eq_of_mem_replicate ha]; exact one
  · intro k hk
    have hk2 : k < T.us.length := by rw [← I.rl]; exact hk
    have : ∀ i, i ≤ R → ∀ k, k < (tkN P C l i).us.length → ((tkN P C l i).us.getD k []).getD ((tkN P C l i).cols.getD k 0).toNat 0 ≠ 0 := by
      intro i
      induction i with
      | zero => intro _ k hk; exact absurd hk (Nat.not_lt_zero k)
      | succ i ih =>
        intro hi k hk
        have J := tkN_I hP M hin i (by omega)
        have ih := ih (by omega)
        have e : tkN P C l (i + 1) = tkRow P (tkN P C l i) i (rowM C l i) := rfl
        rw [e] at hk ⊢
        generalize tkN P C l i = T at J ih hk
        rcases nzA_spec (rstT P T (rowM C l i)) 0 with ⟨z1, _⟩ | ⟨n, z1, z2, z3, _⟩
        · obtain ⟨_, t2, t3, _⟩ := tk_no (p := P) (T := T) (row := rowM C l i) (x := i) (by rw [z1]; decide)
          rw [t3] at hk
          rw [t2, t3]; exact ih k hk
        · obtain ⟨_, t2, t3, _⟩ := tk_yes (p := P) (T := T) (row := rowM C l i) (x := i) (by rw [z1]; omega)
          rw [t3, List.length_append, List.length_singleton] at hk
          rw [t2, t3, z1]
          have ql := J.ql
          by_cases c : k < T.us.length
          · have e1 : (T.us ++ [rstT P T (rowM C l i)]).getD k [] = T.us.getD k [] := by rw [List.getD_eq_getElem?_getD, List.getElem?_append_left c, List.getD_eq_getElem?_getD]
            have e2 : (T.cols ++ [((0 + n : Nat) : Int)]).getD k 0 = T.cols.getD k 0 := by rw [List.getD_eq_getElem?_getD, List.getElem?_append_left (by omega), List.getD_eq_getElem?_getD]
            rw [e1, e2]; exact ih k c
          · have ek : k = T.us.length := by omega
            have e1 : (T.us ++ [rstT P T (rowM C l i)]).getD k [] = rstT P T (rowM C l i) := by rw [List.getD_eq_getElem?_getD, List.getElem?_append_right (by omega), ek]; simp
            have e2 : (T.cols ++ [((0 + n : Nat) : Int)]).getD k 0 = ((0 + n : Nat) : Int) := by rw [List.getD_eq_getElem?_getD, List.getElem?_append_right (by omega), ek, ql]; simp
            rw [e1, e2, show (((0 + n : Nat) : Int)).toNat = n by omega]; exact z3
    have := this R (Nat.le_refl R) k (by rw [hT]; exact hk2)
    rw [hT] at this
    exact this
set_option maxHeartbeats 2000000 in
theorem take8_yes {P R C : Nat} {l : List Int} (hP : Prm P) (M : Mt P R C l) (hin : ∀ a ∈ l, In P a) : CallsP Try.prog 68 [u64 P, matP R C l] (.tup [takenP P R C l (tkCup P C R l) (invsT P (tkCup P C R l)), i64 0]) := by
  have q1 := take_yes hP M hin
  have hw := tkCup_W hP M hin
  have r2 := M.r2
  have c1 := M.c1
  have c2 := M.c2
  generalize tkCup P C R l = c at q1 hw
  obtain ⟨rw0, cw, cc, uu⟩ := c
  have rle := hw.rle
  have ul := hw.ul
  have ql := hw.ql
  simp only at rle ul ql
  refine X_startP (n := 53) (m := 2) (rs := [.cell 4 87, .tmp 5]) Try.func68 rfl rfl rfl rfl (by decide) fun base => ?_
  repeat (first | ((first | refine X_call_fn2 rfl (by simp only [tys]) ?_ | refine X_dcall_fn2 rfl (by simp only [tys]) ?_); apply Exists.intro; apply And.intro; (focus (simp -dsimp only [simx, zzC, zzB, tys, ite_self, opnL, callB, callX, readsB, stepOp, nilCmp, ofVal, opBuiltin, opLen, PV.sk, scalBin, scalUn, intBin, opLoad, natOf, opConvert, opField, cellsP, oneP, Value.oneCell', opStore, toIV, scalT, scalA, scalC, boxesA, boxesC, zipB_none, zipB_mx, isZ, opZip, zeroP, opAppendZ, opMakeMap, opLookup, mboxB, opUpdate, ↓reduceIte, Nat.reduceSub, Nat.reduceEqDiff, Nat.reduceAdd, Nat.reduceMul, Nat.reduceLT, Nat.reduceLeDiff, Int.reduceToNat, Int.reduceLE, Int.reduceLT, Int.reduceNeg, reduceCtorEq, zzL, if_true, if_false] <;> rfl)); apply Exists.intro; apply And.intro; (focus (first | exact q1))) | refine X_opc rfl ?_ | refine X_dopc rfl ?_ | refine ⟨(by show drawK _ _ = true; kernel_rfl : drawX _ _ _), ?_⟩ | exact (by show drawK _ _ = true; kernel_rfl : drawX _ _ _) | simp -dsimp (maxSteps := 20000000) (disch := omega) only [simx, zzC, zzB, tys, ite_self, opnL, callB, callX, readsB, stepOp, nilCmp, ofVal, opBuiltin, opLen, PV.sk, scalBin, scalUn, intBin, opLoad, natOf, opConvert, opField, cellsP, oneP, Value.oneCell', opStore, toIV, scalT, scalA, scalC, boxesA, boxesC, zipB_none, zipB_mx, isZ, opZip, zeroP, opAppendZ, opMakeMap, opLookup, mboxB, opUpdate, ↓reduceIte, Nat.reduceSub, Nat.reduceEqDiff, Nat.reduceAdd, Nat.reduceMul, Nat.reduceLT, Nat.reduceLeDiff, Int.reduceToNat, Int.reduceLE, Int.reduceLT, Int.reduceNeg, reduceCtorEq, gos, Int.reduceAdd, Int.reduceSub, Int.reduceMul, Int.reduceEq, SK.len])
  refine X_loopH [0, 4, 6, 7, 8, 24, 25, 26] [(7, 3) :: base] (0) (rw0.length) (fun j => True) (fun j => [(25, i64 rw0.length), (26, i64 j)]) (fun j => rowH ((((Heap.none.put ((0, 0) :: base) (.var [i64 R, i64 C, lu l])).put ((0, 1) :: base) (.var [nilP, nilP, nilP, nilP, u64 0, i64 0, i64 0, nilP, nilP])).put ((1, 6) :: base) (.var [li rw0, li cw, llP cc, llP uu])).put ((2, 4) :: base) (.var [li rw0, li cw, llP cc, llP uu, u64 P, i64 R, i64 C, lu l, rowP ((7, 4) :: base) 1 j ((tbl j (fun k => finvC P ((uu.getD k []).getD (cw.getD k 0).toNat 0))).map iu)])) ((7, 4) :: base) j ((tbl j (fun k => finvC P ((uu.getD k []).getD (cw.getD k 0).toNat 0))).map iu)) ?_ ?_ ?_ ?_ ?_ (by decide) ?_
  · exact (fgt_cons (by simp only [Heap.none_at]) (by (simp -dsimp only [zzB, tys, ite_self, opnL, callB, callX, readsB, stepOp, nilCmp, ofVal, opBuiltin, opLen, PV.sk, scalBin, scalUn, intBin, opLoad, natOf, opConvert, opField, cellsP, oneP, Value.oneCell', opStore, toIV, scalT, scalA, scalC, boxesA, boxesC, zipB_none, zipB_mx, isZ, opZip, zeroP, opAppendZ, opMakeMap, opLookup, mboxB, opUpdate, ↓reduceIte, Nat.reduceSub, Nat.reduceEqDiff, Nat.reduceAdd, Nat.reduceMul, Nat.reduceLT, Nat.reduceLeDiff, Int.reduceToNat, Int.reduceLE, Int.reduceLT, Int.reduceNeg, reduceCtorEq, notIn_cons, notIn_nil]) <;> simp [refsL, refsP, mem_refs_rowP]) (by repeat (first | exact noVar_none _ | refine noVar_row ?_ | refine noVar_map ?_ | refine noVar_rowH ?_ | refine noVar_var ?_ (by simp [refsL, refsP, mem_refs_rowP]))) (fgt_nil))
  · repeat (first | refine X_opc rfl ?_ | refine X_dopc rfl ?_ | refine ⟨(by show drawK _ _ = true; kernel_rfl : drawX _ _ _), ?_⟩ | exact (by show drawK _ _ = true; kernel_rfl : drawX _ _ _) | simp -dsimp (maxSteps := 20000000) (disch := omega) only [simx, zzC, zzB, tys, ite_self, opnL, callB, callX, readsB, stepOp, nilCmp, ofVal, opBuiltin, opLen, PV.sk, scalBin, scalUn, intBin, opLoad, natOf, opConvert, opField, cellsP, oneP, Value.oneCell', opStore, toIV, scalT, scalA, scalC, boxesA, boxesC, zipB_none, zipB_mx, isZ, opZip, zeroP, opAppendZ, opMakeMap, opLookup, mboxB, opUpdate, ↓reduceIte, Nat.reduceSub, Nat.reduceEqDiff, Nat.reduceAdd, Nat.reduceMul, Nat.reduceLT, Nat.reduceLeDiff, Int.reduceToNat, Int.reduceLE, Int.reduceLT, Int.reduceNeg, reduceCtorEq, gos, Int.reduceAdd, Int.reduceSub, Int.reduceMul, Int.reduceEq, rowP_zero, ul])
    rfl
  · funext c
    simp (maxSteps := 20000000) only [Heap.drop_at, rowH_app, Heap.put_at, Heap.none_at, List.mem_cons, List.not_mem_nil, or_false]
    by_cases e0 : c = (0, 0) :: base
    · subst e0; simp [rowP_zero, rowH_zero]
    by_cases e1 : c = (0, 1) :: base
    · subst e1; simp [rowP_zero, rowH_zero]
    by_cases e2 : c = (1, 6) :: base
    · subst e2; simp [rowP_zero, rowH_zero]
    by_cases e3 : c = (2, 4) :: base
    · subst e3; simp [rowP_zero, rowH_zero]
    by_cases e4 : c = (7, 3) :: base
    · subst e4; simp [rowP_zero, rowH_zero]
    simp [e0, e1, e2, e3, e4, rowP_zero, rowH_zero]
  · omega
  · trivial
  · intro j hj _
    by_cases cj : j < rw0.length
    · have hk := hw.nz j cj
      have hq := hw.qb (cw.getD j 0) (getD_mm (by simp only; omega))
      simp only at hk hq
      obtain ⟨q, hqe⟩ : ∃ q : Nat, cw.getD j 0 = q := ⟨(cw.getD j 0).toNat, by omega⟩
      obtain ⟨u1, u2⟩ := hw.ur (uu.getD j []) (getD_mm (by simp only; omega))
      have tn := tbl_succ j (fun k => finvC P ((uu.getD k []).getD (cw.getD k 0).toNat 0))
      have tl := tbl_len j (fun k => finvC P ((uu.getD k []).getD (cw.getD k 0).toNat 0))
      simp only [hqe, Int.toNat_natCast] at hk tn
      have qC : q < C := by omega
      have g1 : (uu.map fun u => IV.l u.length (u.map iu))[j]? = some (.l C ((uu.getD j []).map iu)) := by rw [List.getElem?_map, getD_at' (d := []) (by omega), Option.map_some, u1]
      have g2 : (cw.map ii)[j]? = some (ii (q : Int)) := by rw [List.getElem?_map, getD_at' (d := 0) (by omega), Option.map_some, hqe]
      have g3 : ((uu.getD j []).map iu)[q]? = some (iu ((uu.getD j []).getD q 0)) := by rw [List.getElem?_map, getD_some u1 qC]; rfl
      have m1 := Inv_in hP M.hp (getD_of u2 (i := q) (by omega)) hk
      generalize tbl j (fun k => finvC P ((uu.getD k []).getD (cw.getD k 0).toNat 0)) = TJ at tn tl ⊢
      obtain ⟨U, hU⟩ : ∃ U, uu.getD j [] = U := ⟨_, rfl⟩
      rw [hU] at g1 g3 m1 tn
      generalize U.getD q 0 = x at g3 m1 tn
      repeat (first | ((first | refine X_call_fn2 rfl (by simp only [tys]) ?_ | refine X_dcall_fn2 rfl (by simp only [tys]) ?_); apply Exists.intro; apply And.intro; (focus (simp -dsimp only [simx, zzC, zzB, tys, ite_self, opnL, callB, callX, readsB, stepOp, nilCmp, ofVal, opBuiltin, opLen, PV.sk, scalBin, scalUn, intBin, opLoad, natOf, opConvert, opField, cellsP, oneP, Value.oneCell', opStore, toIV, scalT, scalA, scalC, boxesA, boxesC, zipB_none, zipB_mx, isZ, opZip, zeroP, opAppendZ, opMakeMap, opLookup, mboxB, opUpdate, ↓reduceIte, Nat.reduceSub, Nat.reduceEqDiff, Nat.reduceAdd, Nat.reduceMul, Nat.reduceLT, Nat.reduceLeDiff, Int.reduceToNat, Int.reduceLE, Int.reduceLT, Int.reduceNeg, reduceCtorEq, zzL, if_true, if_false] <;> rfl)); apply Exists.intro; apply And.intro; (focus (first | exact m1))) | refine X_opc rfl ?_ | refine X_dopc rfl ?_ | refine ⟨(by show drawK _ _ = true; kernel_rfl : drawX _ _ _), ?_⟩ | exact (by show drawK _ _ = true; kernel_rfl : drawX _ _ _) | simp -dsimp (maxSteps := 20000000) (disch := omega) only [simx, zzC, zzB, tys, ite_self, opnL, callB, callX, readsB, stepOp, nilCmp, ofVal, opBuiltin, opLen, PV.sk, scalBin, scalUn, intBin, opLoad, natOf, opConvert, opField, cellsP, oneP, Value.oneCell', opStore, toIV, scalT, scalA, scalC, boxesA, boxesC, zipB_none, zipB_mx, isZ, opZip, zeroP, opAppendZ, opMakeMap, opLookup, mboxB, opUpdate, ↓reduceIte, Nat.reduceSub, Nat.reduceEqDiff, Nat.reduceAdd, Nat.reduceMul, Nat.reduceLT, Nat.reduceLeDiff, Int.reduceToNat, Int.reduceLE, Int.reduceLT, Int.reduceNeg, reduceCtorEq, gos, Int.reduceAdd, Int.reduceSub, Int.reduceMul, Int.reduceEq, cj, ul, ql, List.length_map, g1, g2, g3, qC])
      refine X_append_one (s := (7, 4) :: base) (n := j) (z := 1) (cs := TJ.map iu) 22 [.int .u64 0] [iu (finvC P x)] (by simp only [tys]) (by simp only [tys]) rfl (by decide) (by simp [tl]) (by simp [rowH_app, Heap.put_at, Heap.none_at]) (by simp [Heap.put_at]; rfl) rfl (by simp only [tys]; omega) (by rw [mx_len]; omega) ?_
      rw [rowP_succ]
      repeat (first | refine X_opc rfl ?_ | refine X_dopc rfl ?_ | refine ⟨(by show drawK _ _ = true; kernel_rfl : drawX _ _ _), ?_⟩ | exact (by show drawK _ _ = true; kernel_rfl : drawX _ _ _) | simp -dsimp (maxSteps := 20000000) (disch := omega) only [simx, zzC, zzB, tys, ite_self, opnL, callB, callX, readsB, stepOp, nilCmp, ofVal, opBuiltin, opLen, PV.sk, scalBin, scalUn, intBin, opLoad, natOf, opConvert, opField, cellsP, oneP, Value.oneCell', opStore, toIV, scalT, scalA, scalC, boxesA, boxesC, zipB_none, zipB_mx, isZ, opZip, zeroP, opAppendZ, opMakeMap, opLookup, mboxB, opUpdate, ↓reduceIte, Nat.reduceSub, Nat.reduceEqDiff, Nat.reduceAdd, Nat.reduceMul, Nat.reduceLT, Nat.reduceLeDiff, Int.reduceToNat, Int.reduceLE, Int.reduceLT, Int.reduceNeg, reduceCtorEq, gos, Int.reduceAdd, Int.reduceSub, Int.reduceMul, Int.reduceEq])
      refine ⟨cj, (fgt_cons (by simp only [Heap.none_at]) (by (simp -dsimp only [zzB, tys, ite_self, opnL, callB, callX, readsB, stepOp, nilCmp, ofVal, opBuiltin, opLen, PV.sk, scalBin, scalUn, intBin, opLoad, natOf, opConvert, opField, cellsP, oneP, Value.oneCell', opStore, toIV, scalT, scalA, scalC, boxesA, boxesC, zipB_none, zipB_mx, isZ, opZip, zeroP, opAppendZ, opMakeMap, opLookup, mboxB, opUpdate, ↓reduceIte, Nat.reduceSub, Nat.reduceEqDiff, Nat.reduceAdd, Nat.reduceMul, Nat.reduceLT, Nat.reduceLeDiff, Int.reduceToNat, Int.reduceLE, Int.reduceLT, Int.reduceNeg, reduceCtorEq, notIn_cons, notIn_nil]) <;> simp [refsL, refsP, mem_refs_rowP]) (by repeat (first | exact noVar_none _ | refine noVar_row ?_ | refine noVar_map ?_ | refine noVar_rowH ?_ | refine noVar_var ?_ (by simp [refsL, refsP, mem_refs_rowP]))) (fgt_nil)), rfl, ?_⟩
      rw [tn, List.map_append]
      funext c
      simp (maxSteps := 20000000) only [Heap.drop_at, rowH_app, Heap.put_at, Heap.none_at, List.mem_cons, List.not_mem_nil, or_false]
      by_cases e0 : c = (0, 0) :: base
      · subst e0; simp [rowP_succ, rowH_succ]
      by_cases e1 : c = (0, 1) :: base
      · subst e1; simp [rowP_succ, rowH_succ]
      by_cases e2 : c = (1, 6) :: base
      · subst e2; simp [rowP_succ, rowH_succ]
      by_cases e3 : c = (2, 4) :: base
      · subst e3; simp [rowP_succ, rowH_succ]
      by_cases e4 : c = (7, 3) :: base
      · subst e4; simp [rowP_succ, rowH_succ]
      by_cases e5 : c = (7, 4) :: base
      · subst e5; simp [rowP_succ, rowH_succ]
      simp [e0, e1, e2, e3, e4, e5, rowP_succ, rowH_succ]
    · have ej : rw0.length = j := by omega
      have tl := tbl_len rw0.length (fun k => finvC P ((uu.getD k []).getD (cw.getD k 0).toNat 0))
      have iv : invsT P (rw0, cw, cc, uu) = tbl rw0.length (fun k => finvC P ((uu.getD k []).getD (cw.getD k 0).toNat 0)) := by unfold invsT; simp only; rw [ul]
      rw [iv]
      subst ej
      generalize tbl rw0.length (fun k => finvC P ((uu.getD k []).getD (cw.getD k 0).toNat 0)) = TJ at tl ⊢
      rcases hr : rw0.length with _ | r
      · rw [hr] at tl
        have e0 : TJ = [] := List.eq_nil_of_length_eq_zero tl
        subst e0
        repeat (first | refine X_opc rfl ?_ | refine X_dopc rfl ?_ | refine ⟨(by show drawK _ _ = true; kernel_rfl : drawX _ _ _), ?_⟩ | exact (by show drawK _ _ = true; kernel_rfl : drawX _ _ _) | simp -dsimp (maxSteps := 20000000) (disch := omega) only [simx, zzC, zzB, tys, ite_self, opnL, callB, callX, readsB, stepOp, nilCmp, ofVal, opBuiltin, opLen, PV.sk, scalBin, scalUn, intBin, opLoad, natOf, opConvert, opField, cellsP, oneP, Value.oneCell', opStore, toIV, scalT, scalA, scalC, boxesA, boxesC, zipB_none, zipB_mx, isZ, opZip, zeroP, opAppendZ, opMakeMap, opLookup, mboxB, opUpdate, ↓reduceIte, Nat.reduceSub, Nat.reduceEqDiff, Nat.reduceAdd, Nat.reduceMul, Nat.reduceLT, Nat.reduceLeDiff, Int.reduceToNat, Int.reduceLE, Int.reduceLT, Int.reduceNeg, reduceCtorEq, zzR, gos, Int.reduceAdd, Int.reduceSub, Int.reduceMul, Int.reduceEq, hr, rowP_zero, rowH_zero])
        simp [hr]
      · rw [hr] at tl
        have nt : (TJ.map iu).take (r + 1) = TJ.map iu := List.take_of_length_le (by simp [tl])
        repeat (first | refine X_opc rfl ?_ | refine X_dopc rfl ?_ | refine ⟨(by show drawK _ _ = true; kernel_rfl : drawX _ _ _), ?_⟩ | exact (by show drawK _ _ = true; kernel_rfl : drawX _ _ _) | simp -dsimp (maxSteps := 20000000) (disch := omega) only [simx, zzC, zzB, tys, ite_self, opnL, callB, callX, readsB, stepOp, nilCmp, ofVal, opBuiltin, opLen, PV.sk, scalBin, scalUn, intBin, opLoad, natOf, opConvert, opField, cellsP, oneP, Value.oneCell', opStore, toIV, scalT, scalA, scalC, boxesA, boxesC, zipB_none, zipB_mx, isZ, opZip, zeroP, opAppendZ, opMakeMap, opLookup, mboxB, opUpdate, ↓reduceIte, Nat.reduceSub, Nat.reduceEqDiff, Nat.reduceAdd, Nat.reduceMul, Nat.reduceLT, Nat.reduceLeDiff, Int.reduceToNat, Int.reduceLE, Int.reduceLT, Int.reduceNeg, reduceCtorEq, zzR, gos, Int.reduceAdd, Int.reduceSub, Int.reduceMul, Int.reduceEq, hr, rowP_succ, rowH_succ, List.length_map, tl, nt])
        simp [hr, tl]
end Go.Proofs.Ytmalpmnmknpphaa.TM
namespace Go.Proofs.Ytmalpmnmknpphaa.TM
open Go Go.RowKit
attribute [local irreducible] K W WOps Effs Xg Xo Xr Xdg Xdo Xdr Xif CallsP CallR
def hlX (p : Int) (c : CupT) (b z : List Int) (i : Nat) : Nat → Int
  | 0 => b.getD i 0
  | j + 1 => (hlX p c b z i j - (c.2.2.1.getD i []).getD j 0 * z.getD j 0 % p) % p
def hlL (p : Int) (c : CupT) (b : List Int) : Nat → List Int
  | 0 => []
  | k + 1 => hlL p c b k ++ [hlX p c b (hlL p c b k) (c.1.getD k 0).toNat k]
theorem hlL_len (p : Int) (c : CupT) (b : List Int) : ∀ k, (hlL p c b k).length = k
  | 0 => rfl
  | k + 1 => by rw [hlL, List.length_append, hlL_len p c b k]; rfl
theorem hlX_in {p : Int} (hp : Md p) (c : CupT) {b : List Int} (hb : ∀ a ∈ b, In p a) (z : List Int) {i : Nat} (hi : i < b.length) : ∀ j, In p (hlX p c b z i j)
  | 0 => getD_of hb hi
  | j + 1 => in_emod hp _
theorem hlL_in {p : Int} {R C : Nat} (hp : Md p) {c : CupT} (hw : CupW p R C c) {b : List Int} (hb : ∀ a ∈ b, In p a) (hl : b.length = R) : ∀ k, k ≤ c.1.length → ∀ a ∈ hlL p c b k, In p a
  | 0, _, a, ha => by simp [hlL] at ha
  | k + 1, hk, a, ha => by
    rw [hlL] at ha
    rcases List.mem_append.1 ha with ha | ha
    · exact hlL_in hp hw hb hl k (by omega) a ha
    · rw [List.mem_singleton.1 ha]
      have := hw.rb (c.1.getD k 0) (getD_mm (by omega))
      exact hlX_in hp c hb _ (by omega) k
set_option maxHeartbeats 4000000 in
theorem halves_walk {p : Int} {R C : Nat} {l : List Int} {c : CupT} {vs b : List Int} (hp : Md p) (hw : CupW p R C c) (hR : R ≤ 64) (hb : ∀ a ∈ b, In p a) (hl : b.length = R) :
    CallsP Try.prog 70 [takenP p R C l c vs, .i (.l R (b.map iu))] (lu (hlL p c b c.1.length)) := by
  obtain ⟨rw0, cw, cc, uu⟩ := c
  have rle := hw.rle
  have ql := hw.ql
  have ccl := hw.cl
  simp only at rle ql ccl
  refine X_startP (n := 52) (m := 2) (rs := [.tmp 4]) Try.func70 rfl rfl rfl rfl (by decide) fun base => ?_
  repeat (first | refine X_opc rfl ?_ | refine X_dopc rfl ?_ | refine ⟨(by show drawK _ _ = true; kernel_rfl : drawX _ _ _), ?_⟩ | exact (by show drawK _ _ = true; kernel_rfl : drawX _ _ _) | simp -dsimp (maxSteps := 20000000) (disch := omega) only [simx, zzC, zzB, tys, ite_self, opnL, callB, callX, readsB, stepOp, nilCmp, ofVal, opBuiltin, opLen, PV.sk, scalBin, scalUn, intBin, opLoad, natOf, opConvert, opField, cellsP, oneP, Value.oneCell', opStore, toIV, scalT, scalA, scalC, boxesA, boxesC, zipB_none, zipB_mx, isZ, opZip, zeroP, opAppendZ, opMakeMap, opLookup, mboxB, opUpdate, ↓reduceIte, Nat.reduceSub, Nat.reduceEqDiff, Nat.reduceAdd, Nat.reduceMul, Nat.reduceLT, Nat.reduceLeDiff, Int.reduceToNat, Int.reduceLE, Int.reduceLT, Int.reduceNeg, reduceCtorEq, gos, Int.reduceAdd, Int.reduceSub, Int.reduceMul, Int.reduceEq])
  refine X_loopH [1, 2, 5, 12, 13, 14] [(11, 2) :: base] (0) (rw0.length) (fun j => True) (fun j => [(5, rowP ((11, 3) :: base) 1 j ((hlL p (rw0, cw, cc, uu) b j).map iu)), (14, i64 j)]) (fun j => rowH (Heap.none.put ((0, 0) :: base) (.var [li rw0, li cw, llP cc, llP uu, u64 p, i64 R, i64 C, lu l, lu vs])) ((11, 3) :: base) j ((hlL p (rw0, cw, cc, uu) b j).map iu)) ?_ ?_ ?_ ?_ ?_ (by decide) ?_
  · exact (fgt_cons (by simp only [Heap.none_at]) (by (simp -dsimp only [zzB, tys, ite_self, opnL, callB, callX, readsB, stepOp, nilCmp, ofVal, opBuiltin, opLen, PV.sk, scalBin, scalUn, intBin, opLoad, natOf, opConvert, opField, cellsP, oneP, Value.oneCell', opStore, toIV, scalT, scalA, scalC, boxesA, boxesC, zipB_none, zipB_mx, isZ, opZip, zeroP, opAppendZ, opMakeMap, opLookup, mboxB, opUpdate, ↓reduceIte, Nat.reduceSub, Nat.reduceEqDiff, Nat.reduceAdd, Nat.reduceMul, Nat.reduceLT, Nat.reduceLeDiff, Int.reduceToNat, Int.reduceLE, Int.reduceLT, Int.reduceNeg, reduceCtorEq, notIn_cons, notIn_nil]) <;> simp [refsL, refsP, mem_refs_rowP]) (by repeat (first | exact noVar_none _ | refine noVar_row ?_ | refine noVar_map ?_ | refine noVar_rowH ?_ | refine noVar_var ?_ (by simp [refsL, refsP, mem_refs_rowP]))) (fgt_nil))
  · repeat (first | refine X_opc rfl ?_ | refine X_dopc rfl ?_ | refine ⟨(by show drawK _ _ = true; kernel_rfl : drawX _ _ _), ?_⟩ | exact (by show drawK _ _ = true; kernel_rfl : drawX _ _ _) | simp -dsimp (maxSteps := 20000000) (disch := omega) only [simx, zzC, zzB, tys, ite_self, opnL, callB, callX, readsB, stepOp, nilCmp, ofVal, opBuiltin, opLen, PV.sk, scalBin, scalUn, intBin, opLoad, natOf, opConvert, opField, cellsP, oneP, Value.oneCell', opStore, toIV, scalT, scalA, scalC, boxesA, boxesC, zipB_none, zipB_mx, isZ, opZip, zeroP, opAppendZ, opMakeMap, opLookup, mboxB, opUpdate, ↓reduceIte, Nat.reduceSub, Nat.reduceEqDiff, Nat.reduceAdd, Nat.reduceMul, Nat.reduceLT, Nat.reduceLeDiff, Int.reduceToNat, Int.reduceLE, Int.reduceLT, Int.reduceNeg, reduceCtorEq, gos, Int.reduceAdd, Int.reduceSub, Int.reduceMul, Int.reduceEq, rowP_zero])
    rfl
  · funext c
    simp (maxSteps := 20000000) only [Heap.drop_at, rowH_app, Heap.put_at, Heap.none_at, List.mem_cons, List.not_mem_nil, or_false]
    by_cases e0 : c = (0, 0) :: base
    · subst e0; simp [rowH_zero]
    by_cases e1 : c = (11, 2) :: base
    · subst e1; simp [rowH_zero]
    simp [e0, e1, rowH_zero]
  · omega
  · trivial
  · intro k hk _
    by_cases ck : k < rw0.length
    · obtain ⟨i0, i1⟩ := hw.rb (rw0.getD k 0) (getD_mm ck)
      obtain ⟨i, hi⟩ : ∃ i : Nat, rw0.getD k 0 = i := ⟨(rw0.getD k 0).toNat, by omega⟩
      have iR : i < R := by omega
      have g1 : (rw0.map ii)[k]? = some (ii (i : Int)) := by rw [List.getElem?_map, getD_at' (d := 0) ck, Option.map_some, hi]
      have g2 : (b.map iu)[i]? = some (iu (b.getD i 0)) := by rw [List.getElem?_map, getD_some hl iR]; rfl
      obtain ⟨x1, x2⟩ := hw.cr (cc.getD i []) (getD_mm (by simp only; omega))
      simp only at x1
      have g3 : (cc.map fun u => IV.l u.length (u.map iu))[i]? = some (.l rw0.length ((cc.getD i []).map iu)) := by rw [List.getElem?_map, getD_at' (d := []) (by omega), Option.map_some, x1]
      have zl := hlL_len p (rw0, cw, cc, uu) b k
      have zi := hlL_in hp hw hb hl k (by simp only; omega)
      have hx := fun j => hlX_in hp (rw0, cw, cc, uu) hb (hlL p (rw0, cw, cc, uu) b k) (i := i) (by omega) j
      have hx0 : b.getD i 0 = hlX p (rw0, cw, cc, uu) b (hlL p (rw0, cw, cc, uu) b k) i 0 := rfl
      have hxs : ∀ j, hlX p (rw0, cw, cc, uu) b (hlL p (rw0, cw, cc, uu) b k) i (j + 1) = (hlX p (rw0, cw, cc, uu) b (hlL p (rw0, cw, cc, uu) b k) i j - (cc.getD i []).getD j 0 * (hlL p (rw0, cw, cc, uu) b k).getD j 0 % p) % p := fun j => rfl
      have hn : hlL p (rw0, cw, cc, uu) b (k + 1) = hlL p (rw0, cw, cc, uu) b k ++ [hlX p (rw0, cw, cc, uu) b (hlL p (rw0, cw, cc, uu) b k) i k] := by rw [hlL]; simp only [hi, Int.toNat_natCast]
      rw [hx0] at g2
      generalize hlX p (rw0, cw, cc, uu) b (hlL p (rw0, cw, cc, uu) b k) i = X at g2 hx hxs hn
      generalize hZ : hlL p (rw0, cw, cc, uu) b k = Z at zl zi hxs hn ⊢
      generalize cc.getD i [] = D at g3 x1 x2 hxs
      repeat (first | refine X_opc rfl ?_ | refine X_dopc rfl ?_ | refine ⟨(by show drawK _ _ = true; kernel_rfl : drawX _ _ _), ?_⟩ | exact (by show drawK _ _ = true; kernel_rfl : drawX _ _ _) | simp -dsimp (maxSteps := 20000000) (disch := omega) only [simx, zzC, zzB, tys, ite_self, opnL, callB, callX, readsB, stepOp, nilCmp, ofVal, opBuiltin, opLen, PV.sk, scalBin, scalUn, intBin, opLoad, natOf, opConvert, opField, cellsP, oneP, Value.oneCell', opStore, toIV, scalT, scalA, scalC, boxesA, boxesC, zipB_none, zipB_mx, isZ, opZip, zeroP, opAppendZ, opMakeMap, opLookup, mboxB, opUpdate, ↓reduceIte, Nat.reduceSub, Nat.reduceEqDiff, Nat.reduceAdd, Nat.reduceMul, Nat.reduceLT, Nat.reduceLeDiff, Int.reduceToNat, Int.reduceLE, Int.reduceLT, Int.reduceNeg, reduceCtorEq, gos, Int.reduceAdd, Int.reduceSub, Int.reduceMul, Int.reduceEq, ck, List.length_map, g1, g2, iR])
      refine X_loopH [1, 2, 5, 7, 8, 12, 13, 14, 23, 24] [] (0) (k) (fun j => True) (fun j => [(8, u64 (X j)), (24, i64 j)]) (fun j => rowH (Heap.none.put ((0, 0) :: base) (.var [li rw0, li cw, llP cc, llP uu, u64 p, i64 R, i64 C, lu l, lu vs])) ((11, 3) :: base) k (Z.map iu)) ?_ ?_ ?_ ?_ ?_ (by decide) ?_
      · exact (fgt_nil)
      · ((simp -dsimp (disch := omega) only [simx, zzB, tys, ite_self, opnL, callB, callX, readsB, stepOp, nilCmp, ofVal, opBuiltin, opLen, PV.sk, scalBin, scalUn, intBin, opLoad, natOf, opConvert, opField, cellsP, oneP, Value.oneCell', opStore, toIV, scalT, scalA, scalC, boxesA, boxesC, zipB_none, zipB_mx, isZ, opZip, zeroP, opAppendZ, opMakeMap, opLookup, mboxB, opUpdate, ↓reduceIte, Nat.reduceSub, Nat.reduceEqDiff, Nat.reduceAdd, Nat.reduceMul, Nat.reduceLT, Nat.reduceLeDiff, Int.reduceToNat, Int.reduceLE, Int.reduceLT, Int.reduceNeg, reduceCtorEq, gos, Int.reduceAdd, Int.reduceSub, Int.reduceMul, Int.reduceEq]) <;> first | rfl | simp)
      · exact drop_nil _
      · omega
      · trivial
      · intro j hj _
        by_cases cj : j < k
        · have jr : j < rw0.length := by omega
          have rp : rowP ((11, 3) :: base) 1 k (Z.map iu) = .view ((11, 3) :: base) 0 1 k k := by unfold rowP; rw [if_neg (by omega), List.length_map, zl]
          have rh : rowH (Heap.none.put ((0, 0) :: base) (.var [li rw0, li cw, llP cc, llP uu, u64 p, i64 R, i64 C, lu l, lu vs])) ((11, 3) :: base) k (Z.map iu) = (Heap.none.put ((0, 0) :: base) (.var [li rw0, li cw, llP cc, llP uu, u64 p, i64 R, i64 C, lu l, lu vs])).put ((11, 3) :: base) (.row false (Z.map iu)) := if_neg (by omega)
          have g4 : (D.map iu)[j]? = some (iu (D.getD j 0)) := by rw [List.getElem?_map, getD_some x1 jr]; rfl
          have g5 : (Z.map iu)[j]? = some (iu (Z.getD j 0)) := by rw [List.getElem?_map, getD_some zl cj]; rfl
          have m1 := tmul_walk R C l (rw0, cw, cc, uu) vs hp (getD_of x2 (i := j) (by omega)) (getD_of zi (i := j) (by omega))
          have m2 := tsub_walk R C l (rw0, cw, cc, uu) vs hp (hx j) (in_emod hp (D.getD j 0 * Z.getD j 0))
          have hs := hxs j
          rw [← hs] at m2
          rw [rp, rh]
          repeat (first | ((first | refine X_call_fn2 rfl (by simp only [tys]) ?_ | refine X_dcall_fn2 rfl (by simp only [tys]) ?_); apply Exists.intro; apply And.intro; (focus (simp -dsimp only [simx, zzC, zzB, tys, ite_self, opnL, callB, callX, readsB, stepOp, nilCmp, ofVal, opBuiltin, opLen, PV.sk, scalBin, scalUn, intBin, opLoad, natOf, opConvert, opField, cellsP, oneP, Value.oneCell', opStore, toIV, scalT, scalA, scalC, boxesA, boxesC, zipB_none, zipB_mx, isZ, opZip, zeroP, opAppendZ, opMakeMap, opLookup, mboxB, opUpdate, ↓reduceIte, Nat.reduceSub, Nat.reduceEqDiff, Nat.reduceAdd, Nat.reduceMul, Nat.reduceLT, Nat.reduceLeDiff, Int.reduceToNat, Int.reduceLE, Int.reduceLT, Int.reduceNeg, reduceCtorEq, zzL, if_true, if_false] <;> rfl)); apply Exists.intro; apply And.intro; (focus (first | exact m1 | exact m2))) | refine X_opc rfl ?_ | refine X_dopc rfl ?_ | refine ⟨(by show drawK _ _ = true; kernel_rfl : drawX _ _ _), ?_⟩ | exact (by show drawK _ _ = true; kernel_rfl : drawX _ _ _) | simp -dsimp (maxSteps := 20000000) (disch := omega) only [simx, zzC, zzB, tys, ite_self, opnL, callB, callX, readsB, stepOp, nilCmp, ofVal, opBuiltin, opLen, PV.sk, scalBin, scalUn, intBin, opLoad, natOf, opConvert, opField, cellsP, oneP, Value.oneCell', opStore, toIV, scalT, scalA, scalC, boxesA, boxesC, zipB_none, zipB_mx, isZ, opZip, zeroP, opAppendZ, opMakeMap, opLookup, mboxB, opUpdate, ↓reduceIte, Nat.reduceSub, Nat.reduceEqDiff, Nat.reduceAdd, Nat.reduceMul, Nat.reduceLT, Nat.reduceLeDiff, Int.reduceToNat, Int.reduceLE, Int.reduceLT, Int.reduceNeg, reduceCtorEq, gos, Int.reduceAdd, Int.reduceSub, Int.reduceMul, Int.reduceEq, cj, jr, ccl, iR, List.length_map, g3, g4, g5, zl])
          refine ⟨cj, (fgt_nil), rfl, ?_⟩
          exact drop_nil _
        · have ej : k = j := by omega
          subst ej
          repeat (first | refine X_opc rfl ?_ | refine X_dopc rfl ?_ | refine ⟨(by show drawK _ _ = true; kernel_rfl : drawX _ _ _), ?_⟩ | exact (by show drawK _ _ = true; kernel_rfl : drawX _ _ _) | simp -dsimp (maxSteps := 20000000) (disch := omega) only [simx, zzC, zzB, tys, ite_self, opnL, callB, callX, readsB, stepOp, nilCmp, ofVal, opBuiltin, opLen, PV.sk, scalBin, scalUn, intBin, opLoad, natOf, opConvert, opField, cellsP, oneP, Value.oneCell', opStore, toIV, scalT, scalA, scalC, boxesA, boxesC, zipB_none, zipB_mx, isZ, opZip, zeroP, opAppendZ, opMakeMap, opLookup, mboxB, opUpdate, ↓reduceIte, Nat.reduceSub, Nat.reduceEqDiff, Nat.reduceAdd, Nat.reduceMul, Nat.reduceLT, Nat.reduceLeDiff, Int.reduceToNat, Int.reduceLE, Int.reduceLT, Int.reduceNeg, reduceCtorEq, gos, Int.reduceAdd, Int.reduceSub, Int.reduceMul, Int.reduceEq])
          refine X_append_one (s := (11, 3) :: base) (n := k) (z := 1) (cs := Z.map iu) 22 [.int .u64 0] [iu (X k)] (by simp only [tys]) (by simp only [tys]) rfl (by decide) (by simp [zl]) (by simp [rowH_app, Heap.put_at, Heap.none_at]) (by simp [Heap.put_at]; rfl) rfl (by simp only [tys]; omega) (by rw [mx_len]; omega) ?_
          repeat (first | refine X_opc rfl ?_ | refine X_dopc rfl ?_ | refine ⟨(by show drawK _ _ = true; kernel_rfl : drawX _ _ _), ?_⟩ | exact (by show drawK _ _ = true; kernel_rfl : drawX _ _ _) | simp -dsimp (maxSteps := 20000000) (disch := omega) only [simx, zzC, zzB, tys, ite_self, opnL, callB, callX, readsB, stepOp, nilCmp, ofVal, opBuiltin, opLen, PV.sk, scalBin, scalUn, intBin, opLoad, natOf, opConvert, opField, cellsP, oneP, Value.oneCell', opStore, toIV, scalT, scalA, scalC, boxesA, boxesC, zipB_none, zipB_mx, isZ, opZip, zeroP, opAppendZ, opMakeMap, opLookup, mboxB, opUpdate, ↓reduceIte, Nat.reduceSub, Nat.reduceEqDiff, Nat.reduceAdd, Nat.reduceMul, Nat.reduceLT, Nat.reduceLeDiff, Int.reduceToNat, Int.reduceLE, Int.reduceLT, Int.reduceNeg, reduceCtorEq, gos, Int.reduceAdd, Int.reduceSub, Int.reduceMul, Int.reduceEq])
          refine ⟨ck, (fgt_cons (by simp only [Heap.none_at]) (by (simp -dsimp only [zzB, tys, ite_self, opnL, callB, callX, readsB, stepOp, nilCmp, ofVal, opBuiltin, opLen, PV.sk, scalBin, scalUn, intBin, opLoad, natOf, opConvert, opField, cellsP, oneP, Value.oneCell', opStore, toIV, scalT, scalA, scalC, boxesA, boxesC, zipB_none, zipB_mx, isZ, opZip, zeroP, opAppendZ, opMakeMap, opLookup, mboxB, opUpdate, ↓reduceIte, Nat.reduceSub, Nat.reduceEqDiff, Nat.reduceAdd, Nat.reduceMul, Nat.reduceLT, Nat.reduceLeDiff, Int.reduceToNat, Int.reduceLE, Int.reduceLT, Int.reduceNeg, reduceCtorEq, notIn_cons, notIn_nil]) <;> simp [refsL, refsP, mem_refs_rowP]) (by repeat (first | exact noVar_none _ | refine noVar_row ?_ | refine noVar_map ?_ | refine noVar_rowH ?_ | refine noVar_var ?_ (by simp [refsL, refsP, mem_refs_rowP]))) (fgt_nil)), ?_, ?_⟩
          · rw [hn, List.map_append]; exact ⟨rfl, rfl⟩
          · rw [hn, List.map_append, rowH_succ]
            funext c
            simp (maxSteps := 20000000) only [Heap.drop_at, rowH_app, Heap.put_at, Heap.none_at, List.mem_cons, List.not_mem_nil, or_false]
            by_cases e0 : c = (0, 0) :: base
            · subst e0; simp []
            by_cases e1 : c = (11, 2) :: base
            · subst e1; simp []
            by_cases e2 : c = (11, 3) :: base
            · subst e2; simp []
            simp [e0, e1, e2]
    · have ek : rw0.length = k := by omega
      have zl := hlL_len p (rw0, cw, cc, uu) b rw0.length
      subst ek
      simp only
      generalize hlL p (rw0, cw, cc, uu) b rw0.length = Z at zl ⊢
      rcases hr : rw0.length with _ | r
      · rw [hr] at zl
        have e0 : Z = [] := List.eq_nil_of_length_eq_zero zl
        subst e0
        repeat (first | refine X_opc rfl ?_ | refine X_dopc rfl ?_ | refine ⟨(by show drawK _ _ = true; kernel_rfl : drawX _ _ _), ?_⟩ | exact (by show drawK _ _ = true; kernel_rfl : drawX _ _ _) | simp -dsimp (maxSteps := 20000000) (disch := omega) only [simx, zzC, zzB, tys, ite_self, opnL, callB, callX, readsB, stepOp, nilCmp, ofVal, opBuiltin, opLen, PV.sk, scalBin, scalUn, intBin, opLoad, natOf, opConvert, opField, cellsP, oneP, Value.oneCell', opStore, toIV, scalT, scalA, scalC, boxesA, boxesC, zipB_none, zipB_mx, isZ, opZip, zeroP, opAppendZ, opMakeMap, opLookup, mboxB, opUpdate, ↓reduceIte, Nat.reduceSub, Nat.reduceEqDiff, Nat.reduceAdd, Nat.reduceMul, Nat.reduceLT, Nat.reduceLeDiff, Int.reduceToNat, Int.reduceLE, Int.reduceLT, Int.reduceNeg, reduceCtorEq, zzR, gos, Int.reduceAdd, Int.reduceSub, Int.reduceMul, Int.reduceEq, hr, rowP_zero, rowH_zero])
        rfl
      · rw [hr] at zl
        have nt : (Z.map iu).take (r + 1) = Z.map iu := List.take_of_length_le (by simp [zl])
        repeat (first | refine X_opc rfl ?_ | refine X_dopc rfl ?_ | refine ⟨(by show drawK _ _ = true; kernel_rfl : drawX _ _ _), ?_⟩ | exact (by show drawK _ _ = true; kernel_rfl : drawX _ _ _) | simp -dsimp (maxSteps := 20000000) (disch := omega) only [simx, zzC, zzB, tys, ite_self, opnL, callB, callX, readsB, stepOp, nilCmp, ofVal, opBuiltin, opLen, PV.sk, scalBin, scalUn, intBin, opLoad, natOf, opConvert, opField, cellsP, oneP, Value.oneCell', opStore, toIV, scalT, scalA, scalC, boxesA, boxesC, zipB_none, zipB_mx, isZ, opZip, zeroP, opAppendZ, opMakeMap, opLookup, mboxB, opUpdate, ↓reduceIte, Nat.reduceSub, Nat.reduceEqDiff, Nat.reduceAdd, Nat.reduceMul, Nat.reduceLT, Nat.reduceLeDiff, Int.reduceToNat, Int.reduceLE, Int.reduceLT, Int.reduceNeg, reduceCtorEq, zzR, gos, Int.reduceAdd, Int.reduceSub, Int.reduceMul, Int.reduceEq, hr, rowP_succ, rowH_succ, List.length_map, zl, nt])
        simp [zl]
end Go.Proofs.Ytmalpmnmknpphaa.TM
namespace Go.Proofs.Ytmalpmnmknpphaa.TM
open Go Go.RowKit
attribute [local irreducible] K W WOps Effs Xg Xo Xr Xdg Xdo Xdr Xif CallsP CallR
def svN (p : Int) (c : CupT) (z : List Int) (k : Nat) (x : List Int) : Nat → Int
  | 0 => z.getD k 0
  | q + 1 => if (q : Int) = c.2.1.getD k 0 then svN p c z k x q else (svN p c z k x q - (c.2.2.2.getD k []).getD q 0 * x.getD q 0 % p) % p
def svS (p : Int) (C : Nat) (c : CupT) (vs z x : List Int) (k : Nat) : List Int := tbl C (fun j => if j = (c.2.1.getD k 0).toNat then svN p c z k x C * vs.getD k 0 % p else x.getD j 0)
def svL (p : Int) (C : Nat) (c : CupT) (vs z x : List Int) : Nat → List Int
  | 0 => x
  | d + 1 => svS p C c vs z (svL p C c vs z x d) (c.1.length - 1 - d)
theorem svL_len {p : Int} {C : Nat} {c : CupT} {vs z x : List Int} (hx : x.length = C) : ∀ d, (svL p C c vs z x d).length = C
  | 0 => hx
  | d + 1 => tbl_len ..
theorem svN_in {p : Int} (hp : Md p) {c : CupT} {z : List Int} (hz : ∀ a ∈ z, In p a) {k : Nat} (hk : k < z.length) (x : List Int) : ∀ q, In p (svN p c z k x q)
  | 0 => getD_of hz hk
  | q + 1 => by
    rw [svN]; split
    · exact svN_in hp hz hk x q
    · exact in_emod hp _
theorem svL_in {p : Int} {C : Nat} (hp : Md p) {c : CupT} {vs z x : List Int} (hx : ∀ a ∈ x, In p a) (hxl : x.length = C) : ∀ d, ∀ a ∈ svL p C c vs z x d, In p a
  | 0 => hx
  | d + 1 => fun a ha => by
    obtain ⟨j, hj, rfl⟩ := tbl_mem ha
    (try simp only)
    split
    · exact in_emod hp _
    · exact getD_of (svL_in hp hx hxl d) (by rw [svL_len hxl]; exact hj)
set_option maxHeartbeats 4000000 in
theorem solved_walk {p : Int} {R C : Nat} {l : List Int} {c : CupT} {vs z x : List Int} (hp : Md p) (hw : CupW p R C c) (hR : R ≤ 64) (hC : C ≤ 64) (hx : ∀ a ∈ x, In p a) (hxl : x.length = C) (hz : ∀ a ∈ z, In p a) (hzl : z.length = c.1.length) (hv : ∀ a ∈ vs, In p a) (hvl : vs.length = c.1.length) :
    CallsW Try.prog 69 [takenP p R C l c vs, .view wN 0 1 C C, .i (.l c.1.length (z.map iu))] (.tup []) (x.map iu) ((svL p C c vs z x c.1.length).map iu) := by
  obtain ⟨rw0, cw, cc, uu⟩ := c
  have rle := hw.rle
  have ql := hw.ql
  have ul := hw.ul
  simp only at rle ql ul hzl hvl ⊢
  intro base
  show ∃ hu, CallR Try.prog base 69 [takenP p R C l (rw0, cw, cc, uu) vs, .view [(950, 0)] 0 1 C C, .i (.l rw0.length (z.map iu))] (Heap.none.put [(950, 0)] (.row false (x.map iu))) (.tup []) hu ∧ hu [(950, 0)] = _
  refine X_startE (n := 70) (m := 3) (rs := []) Try.func69 rfl rfl rfl rfl (by decide) ?_
  repeat (first | refine X_opc rfl ?_ | refine X_dopc rfl ?_ | refine ⟨(by show drawK _ _ = true; kernel_rfl : drawX _ _ _), ?_⟩ | exact (by show drawK _ _ = true; kernel_rfl : drawX _ _ _) | simp -dsimp (maxSteps := 20000000) (disch := omega) only [simx, zzC, zzB, tys, ite_self, opnL, callB, callX, readsB, stepOp, nilCmp, ofVal, opBuiltin, opLen, PV.sk, scalBin, scalUn, intBin, opLoad, natOf, opConvert, opField, cellsP, oneP, Value.oneCell', opStore, toIV, scalT, scalA, scalC, boxesA, boxesC, zipB_none, zipB_mx, isZ, opZip, zeroP, opAppendZ, opMakeMap, opLookup, mboxB, opUpdate, ↓reduceIte, Nat.reduceSub, Nat.reduceEqDiff, Nat.reduceAdd, Nat.reduceMul, Nat.reduceLT, Nat.reduceLeDiff, Int.reduceToNat, Int.reduceLE, Int.reduceLT, Int.reduceNeg, reduceCtorEq, gos, Int.reduceAdd, Int.reduceSub, Int.reduceMul, Int.reduceEq])
  refine X_loopH [1, 2, 3, 6] [] (0) (rw0.length) (fun j => True) (fun j => [(6, i64 ((rw0.length : Int) - 1 - (j : Int)))]) (fun j => (Heap.none.put [(950, 0)] (.row false ((svL p C (rw0, cw, cc, uu) vs z x j).map iu))).put ((0, 0) :: base) (.var [li rw0, li cw, llP cc, llP uu, u64 p, i64 R, i64 C, lu l, lu vs])) ?_ ?_ ?_ ?_ ?_ (by decide) ?_
  · exact (fgt_nil)
  · repeat (first | refine X_opc rfl ?_ | refine X_dopc rfl ?_ | refine ⟨(by show drawK _ _ = true; kernel_rfl : drawX _ _ _), ?_⟩ | exact (by show drawK _ _ = true; kernel_rfl : drawX _ _ _) | simp -dsimp (maxSteps := 20000000) (disch := omega) only [simx, zzC, zzB, tys, ite_self, opnL, callB, callX, readsB, stepOp, nilCmp, ofVal, opBuiltin, opLen, PV.sk, scalBin, scalUn, intBin, opLoad, natOf, opConvert, opField, cellsP, oneP, Value.oneCell', opStore, toIV, scalT, scalA, scalC, boxesA, boxesC, zipB_none, zipB_mx, isZ, opZip, zeroP, opAppendZ, opMakeMap, opLookup, mboxB, opUpdate, ↓reduceIte, Nat.reduceSub, Nat.reduceEqDiff, Nat.reduceAdd, Nat.reduceMul, Nat.reduceLT, Nat.reduceLeDiff, Int.reduceToNat, Int.reduceLE, Int.reduceLT, Int.reduceNeg, reduceCtorEq, gos, Int.reduceAdd, Int.reduceSub, Int.reduceMul, Int.reduceEq, ul])
    rw [show ((rw0.length : Int) - 1 - ((0 : Nat) : Int)) = (rw0.length : Int) - 1 by omega]
  · rw [drop_nil]; rfl
  · omega
  · trivial
  · intro d hd _
    by_cases cd : d < rw0.length
    · obtain ⟨k, hk⟩ : ∃ k, rw0.length = d + k + 1 := ⟨rw0.length - d - 1, by omega⟩
      have ek : (rw0.length : Int) - 1 - (d : Int) = (k : Int) := by omega
      have kr : k < rw0.length := by omega
      have k0 : (0 : Int) ≤ (k : Int) := by omega
      obtain ⟨q0, q1⟩ := hw.qb (cw.getD k 0) (getD_mm (by simp only; omega))
      (try simp only at q0 q1)
      obtain ⟨q, hq⟩ : ∃ q : Nat, cw.getD k 0 = q := ⟨(cw.getD k 0).toNat, by omega⟩
      have qC : q < C := by omega
      obtain ⟨u1, u2⟩ := hw.ur (uu.getD k []) (getD_mm (by simp only; omega))
      have xl := svL_len (p := p) (c := (rw0, cw, cc, uu)) (vs := vs) (z := z) hxl d
      have xi := svL_in hp (c := (rw0, cw, cc, uu)) (vs := vs) (z := z) hx hxl d
      have sn := fun j => svN_in hp (c := (rw0, cw, cc, uu)) hz (k := k) (by omega) (svL p C (rw0, cw, cc, uu) vs z x d) j
      have s0 : svN p (rw0, cw, cc, uu) z k (svL p C (rw0, cw, cc, uu) vs z x d) 0 = z.getD k 0 := rfl
      have ss : ∀ j, svN p (rw0, cw, cc, uu) z k (svL p C (rw0, cw, cc, uu) vs z x d) (j + 1) = if (j : Int) = (q : Int) then svN p (rw0, cw, cc, uu) z k (svL p C (rw0, cw, cc, uu) vs z x d) j else (svN p (rw0, cw, cc, uu) z k (svL p C (rw0, cw, cc, uu) vs z x d) j - (uu.getD k []).getD j 0 * (svL p C (rw0, cw, cc, uu) vs z x d).getD j 0 % p) % p := fun j => by rw [svN]; simp only [hq]
      have sl : svL p C (rw0, cw, cc, uu) vs z x (d + 1) = tbl C (fun j => if j = q then svN p (rw0, cw, cc, uu) z k (svL p C (rw0, cw, cc, uu) vs z x d) C * vs.getD k 0 % p else (svL p C (rw0, cw, cc, uu) vs z x d).getD j 0) := by
        rw [svL, svS]; simp only [show rw0.length - 1 - d = k by omega, hq, Int.toNat_natCast]
      have g1 : (z.map iu)[k]? = some (iu (z.getD k 0)) := by rw [List.getElem?_map, getD_some hzl kr]; rfl
      have g2 : (uu.map fun u => IV.l u.length (u.map iu))[k]? = some (.l C ((uu.getD k []).map iu)) := by rw [List.getElem?_map, getD_at' (d := []) (by omega), Option.map_some, u1]
      have g3 : (cw.map ii)[k]? = some (ii (q : Int)) := by rw [List.getElem?_map, getD_at' (d := 0) (by omega), Option.map_some, hq]
      have g4 : (vs.map iu)[k]? = some (iu (vs.getD k 0)) := by rw [List.getElem?_map, getD_some hvl kr]; rfl
      have xt := tbl_of xl
      have vi := getD_of hv (i := k) (by omega)
      rw [← s0] at g1
      generalize svN p (rw0, cw, cc, uu) z k (svL p C (rw0, cw, cc, uu) vs z x d) = S at sn ss sl g1
      generalize hX : svL p C (rw0, cw, cc, uu) vs z x d = X at xl xi ss sl xt ⊢
      generalize uu.getD k [] = U at u1 u2 g2 ss
      generalize vs.getD k 0 = V at g4 sl vi
      clear s0
      repeat (first | refine X_opc rfl ?_ | refine X_dopc rfl ?_ | refine ⟨(by show drawK _ _ = true; kernel_rfl : drawX _ _ _), ?_⟩ | exact (by show drawK _ _ = true; kernel_rfl : drawX _ _ _) | simp -dsimp (maxSteps := 20000000) (disch := omega) only [simx, zzC, zzB, tys, ite_self, opnL, callB, callX, readsB, stepOp, nilCmp, ofVal, opBuiltin, opLen, PV.sk, scalBin, scalUn, intBin, opLoad, natOf, opConvert, opField, cellsP, oneP, Value.oneCell', opStore, toIV, scalT, scalA, scalC, boxesA, boxesC, zipB_none, zipB_mx, isZ, opZip, zeroP, opAppendZ, opMakeMap, opLookup, mboxB, opUpdate, ↓reduceIte, Nat.reduceSub, Nat.reduceEqDiff, Nat.reduceAdd, Nat.reduceMul, Nat.reduceLT, Nat.reduceLeDiff, Int.reduceToNat, Int.reduceLE, Int.reduceLT, Int.reduceNeg, reduceCtorEq, gos, Int.reduceAdd, Int.reduceSub, Int.reduceMul, Int.reduceEq, ek, k0, kr, g1, g2, hzl, List.length_map, ul])
      refine X_loopH [1, 2, 3, 6, 7, 28, 29, 30] [] (0) (C) (fun j => True) (fun j => [(7, u64 (S j)), (30, i64 j)]) (fun j => (Heap.none.put [(950, 0)] (.row false (X.map iu))).put ((0, 0) :: base) (.var [li rw0, li cw, llP cc, llP uu, u64 p, i64 R, i64 C, lu l, lu vs])) ?_ ?_ ?_ ?_ ?_ (by decide) ?_
      · exact (fgt_nil)
      · ((simp -dsimp (disch := omega) only [simx, zzB, tys, ite_self, opnL, callB, callX, readsB, stepOp, nilCmp, ofVal, opBuiltin, opLen, PV.sk, scalBin, scalUn, intBin, opLoad, natOf, opConvert, opField, cellsP, oneP, Value.oneCell', opStore, toIV, scalT, scalA, scalC, boxesA, boxesC, zipB_none, zipB_mx, isZ, opZip, zeroP, opAppendZ, opMakeMap, opLookup, mboxB, opUpdate, ↓reduceIte, Nat.reduceSub, Nat.reduceEqDiff, Nat.reduceAdd, Nat.reduceMul, Nat.reduceLT, Nat.reduceLeDiff, Int.reduceToNat, Int.reduceLE, Int.reduceLT, Int.reduceNeg, reduceCtorEq, gos, Int.reduceAdd, Int.reduceSub, Int.reduceMul, Int.reduceEq]) <;> first | rfl | simp)
      · exact drop_nil _
      · omega
      · trivial
      · intro j hj _
        by_cases cj : j < C
        · have g5 : (U.map iu)[j]? = some (iu (U.getD j 0)) := by rw [List.getElem?_map, getD_some u1 cj]; rfl
          have g6 : (X.map iu)[j]? = some (iu (X.getD j 0)) := by rw [List.getElem?_map, getD_some xl cj]; rfl
          have m1 := tmul_walk R C l (rw0, cw, cc, uu) vs hp (getD_of u2 (i := j) (by omega)) (getD_of xi (i := j) (by omega))
          have m2 := tsub_walk R C l (rw0, cw, cc, uu) vs hp (sn j) (in_emod hp (U.getD j 0 * X.getD j 0))
          have s1 := ss j
          by_cases e : (j : Int) = (q : Int)
          · rw [if_pos e] at s1
            rw [← s1]
            have ejq : j = q := by omega
            subst ejq
            repeat (first | refine X_opc rfl ?_ | refine X_dopc rfl ?_ | refine ⟨(by show drawK _ _ = true; kernel_rfl : drawX _ _ _), ?_⟩ | exact (by show drawK _ _ = true; kernel_rfl : drawX _ _ _) | simp -dsimp (maxSteps := 20000000) (disch := omega) only [simx, zzC, zzB, tys, ite_self, opnL, callB, callX, readsB, stepOp, nilCmp, ofVal, opBuiltin, opLen, PV.sk, scalBin, scalUn, intBin, opLoad, natOf, opConvert, opField, cellsP, oneP, Value.oneCell', opStore, toIV, scalT, scalA, scalC, boxesA, boxesC, zipB_none, zipB_mx, isZ, opZip, zeroP, opAppendZ, opMakeMap, opLookup, mboxB, opUpdate, ↓reduceIte, Nat.reduceSub, Nat.reduceEqDiff, Nat.reduceAdd, Nat.reduceMul, Nat.reduceLT, Nat.reduceLeDiff, Int.reduceToNat, Int.reduceLE, Int.reduceLT, Int.reduceNeg, reduceCtorEq, gos, Int.reduceAdd, Int.reduceSub, Int.reduceMul, Int.reduceEq, cj, g5, g3, ek, k0, kr, ql, List.length_map])
            refine ⟨cj, (fgt_nil), rfl, drop_nil _⟩
          · rw [if_neg e] at s1
            rw [← s1] at m2
            repeat (first | ((first | refine X_call_fn2 rfl (by simp only [tys]) ?_ | refine X_dcall_fn2 rfl (by simp only [tys]) ?_); apply Exists.intro; apply And.intro; (focus (simp -dsimp only [simx, zzC, zzB, tys, ite_self, opnL, callB, callX, readsB, stepOp, nilCmp, ofVal, opBuiltin, opLen, PV.sk, scalBin, scalUn, intBin, opLoad, natOf, opConvert, opField, cellsP, oneP, Value.oneCell', opStore, toIV, scalT, scalA, scalC, boxesA, boxesC, zipB_none, zipB_mx, isZ, opZip, zeroP, opAppendZ, opMakeMap, opLookup, mboxB, opUpdate, ↓reduceIte, Nat.reduceSub, Nat.reduceEqDiff, Nat.reduceAdd, Nat.reduceMul, Nat.reduceLT, Nat.reduceLeDiff, Int.reduceToNat, Int.reduceLE, Int.reduceLT, Int.reduceNeg, reduceCtorEq, zzL, if_true, if_false] <;> rfl)); apply Exists.intro; apply And.intro; (focus (first | exact m1 | exact m2))) | refine X_opc rfl ?_ | refine X_dopc rfl ?_ | refine ⟨(by show drawK _ _ = true; kernel_rfl : drawX _ _ _), ?_⟩ | exact (by show drawK _ _ = true; kernel_rfl : drawX _ _ _) | simp -dsimp (maxSteps := 20000000) (disch := omega) only [simx, zzC, zzB, tys, ite_self, opnL, callB, callX, readsB, stepOp, nilCmp, ofVal, opBuiltin, opLen, PV.sk, scalBin, scalUn, intBin, opLoad, natOf, opConvert, opField, cellsP, oneP, Value.oneCell', opStore, toIV, scalT, scalA, scalC, boxesA, boxesC, zipB_none, zipB_mx, isZ, opZip, zeroP, opAppendZ, opMakeMap, opLookup, mboxB, opUpdate, ↓reduceIte, Nat.reduceSub, Nat.reduceEqDiff, Nat.reduceAdd, Nat.reduceMul, Nat.reduceLT, Nat.reduceLeDiff, Int.reduceToNat, Int.reduceLE, Int.reduceLT, Int.reduceNeg, reduceCtorEq, gos, Int.reduceAdd, Int.reduceSub, Int.reduceMul, Int.reduceEq, cj, g5, g6, g3, ek, k0, kr, ql, List.length_map, e, xl])
            refine ⟨cj, (fgt_nil), rfl, drop_nil _⟩
        · have ej : C = j := by omega
          subst ej
          have m1 := tmul_walk R C l (rw0, cw, cc, uu) vs hp (sn C) vi
          have q1' : q + 1 ≤ C := qC
          have px := tbl_put_iu (fun i => X.getD i 0) (S C * V % p) qC
          rw [← xt] at px
          repeat (first | ((first | refine X_call_fn2 rfl (by simp only [tys]) ?_ | refine X_dcall_fn2 rfl (by simp only [tys]) ?_); apply Exists.intro; apply And.intro; (focus (simp -dsimp only [simx, zzC, zzB, tys, ite_self, opnL, callB, callX, readsB, stepOp, nilCmp, ofVal, opBuiltin, opLen, PV.sk, scalBin, scalUn, intBin, opLoad, natOf, opConvert, opField, cellsP, oneP, Value.oneCell', opStore, toIV, scalT, scalA, scalC, boxesA, boxesC, zipB_none, zipB_mx, isZ, opZip, zeroP, opAppendZ, opMakeMap, opLookup, mboxB, opUpdate, ↓reduceIte, Nat.reduceSub, Nat.reduceEqDiff, Nat.reduceAdd, Nat.reduceMul, Nat.reduceLT, Nat.reduceLeDiff, Int.reduceToNat, Int.reduceLE, Int.reduceLT, Int.reduceNeg, reduceCtorEq, zzL, if_true, if_false] <;> rfl)); apply Exists.intro; apply And.intro; (focus (first | exact m1))) | refine X_opc rfl ?_ | refine X_dopc rfl ?_ | refine ⟨(by show drawK _ _ = true; kernel_rfl : drawX _ _ _), ?_⟩ | exact (by show drawK _ _ = true; kernel_rfl : drawX _ _ _) | simp -dsimp (maxSteps := 20000000) (disch := omega) only [simx, zzC, zzB, tys, ite_self, opnL, callB, callX, readsB, stepOp, nilCmp, ofVal, opBuiltin, opLen, PV.sk, scalBin, scalUn, intBin, opLoad, natOf, opConvert, opField, cellsP, oneP, Value.oneCell', opStore, toIV, scalT, scalA, scalC, boxesA, boxesC, zipB_none, zipB_mx, isZ, opZip, zeroP, opAppendZ, opMakeMap, opLookup, mboxB, opUpdate, ↓reduceIte, Nat.reduceSub, Nat.reduceEqDiff, Nat.reduceAdd, Nat.reduceMul, Nat.reduceLT, Nat.reduceLeDiff, Int.reduceToNat, Int.reduceLE, Int.reduceLT, Int.reduceNeg, reduceCtorEq, gos, Int.reduceAdd, Int.reduceSub, Int.reduceMul, Int.reduceEq, g3, g4, ek, k0, kr, ql, hvl, List.length_map, qC, q1', xl])
          refine ⟨cd, (fgt_nil), ?_, ?_⟩
          · rw [show ((rw0.length : Int) - 1 - ((d + 1 : Nat) : Int)) = (k : Int) - 1 by omega]
          · rw [drop_nil, px, sl]
            funext c
            simp (maxSteps := 20000000) only [Heap.drop_at, rowH_app, Heap.put_at, Heap.none_at, List.mem_cons, List.not_mem_nil, or_false]
            by_cases e0 : c = [(950, 0)]
            · subst e0; simp []
            by_cases e1 : c = (0, 0) :: base
            · subst e1; simp []
            simp [e0, e1]
    · have ed : rw0.length = d := by omega
      subst ed
      have e1 : (rw0.length : Int) - 1 - (rw0.length : Int) = -1 := by omega
      repeat (first | refine X_opc rfl ?_ | refine X_dopc rfl ?_ | refine ⟨(by show drawK _ _ = true; kernel_rfl : drawX _ _ _), ?_⟩ | exact (by show drawK _ _ = true; kernel_rfl : drawX _ _ _) | simp -dsimp (maxSteps := 20000000) (disch := omega) only [simx, zzC, zzB, tys, ite_self, opnL, callB, callX, readsB, stepOp, nilCmp, ofVal, opBuiltin, opLen, PV.sk, scalBin, scalUn, intBin, opLoad, natOf, opConvert, opField, cellsP, oneP, Value.oneCell', opStore, toIV, scalT, scalA, scalC, boxesA, boxesC, zipB_none, zipB_mx, isZ, opZip, zeroP, opAppendZ, opMakeMap, opLookup, mboxB, opUpdate, ↓reduceIte, Nat.reduceSub, Nat.reduceEqDiff, Nat.reduceAdd, Nat.reduceMul, Nat.reduceLT, Nat.reduceLeDiff, Int.reduceToNat, Int.reduceLE, Int.reduceLT, Int.reduceNeg, reduceCtorEq, zzR, gos, Int.reduceAdd, Int.reduceSub, Int.reduceMul, Int.reduceEq, e1])
      rfl
end Go.Proofs.Ytmalpmnmknpphaa.TM
namespace Go.Proofs.Ytmalpmnmknpphaa.TM
open Go Go.RowKit
attribute [local irreducible] K W WOps Effs Xg Xo Xr Xdg Xdo Xdr Xif CallsP CallR
def zeroV (n : Nat) : List Int := tbl n (fun _ => 0)
theorem zeroV_len (n : Nat) : (zeroV n).length = n := tbl_len ..
theorem zeroV_in {p : Int} (hp : Md p) (n : Nat) : ∀ a ∈ zeroV n, In p a := fun a ha => by
  obtain ⟨_, _, rfl⟩ := tbl_mem ha; exact ⟨by decide, by have := hp.1; omega⟩
theorem invsT_in {P R C : Nat} (hP : Prm P) (hp : Md P) {c : CupT} (hw : CupW P R C c) : (∀ a ∈ invsT P c, In P a) ∧ (invsT P c).length = c.1.length := by
  refine ⟨fun a ha => ?_, by unfold invsT; rw [tbl_len, hw.ul]⟩
  obtain ⟨k, hk, rfl⟩ := tbl_mem ha
  have hk' : k < c.1.length := by rw [← hw.ul]; exact hk
  obtain ⟨u1, u2⟩ := hw.ur (c.2.2.2.getD k []) (getD_mm hk)
  obtain ⟨q0, q1⟩ := hw.qb (c.2.1.getD k 0) (getD_mm (by rw [hw.ql]; exact hk'))
  have hi := getD_of u2 (i := (c.2.1.getD k 0).toNat) (by omega)
  exact (finvC_in hp.1 hp.2 hi (prm_gcd hP hi (hw.nz k hk'))).1
def solX (p : Int) (C : Nat) (c : CupT) (b : List Int) : List Int := svL p C c (invsT p c) (hlL p c b c.1.length) (zeroV C) c.1.length
theorem solX_len (p : Int) (C : Nat) (c : CupT) (b : List Int) : (solX p C c b).length = C := svL_len (zeroV_len C) _
theorem solX_in {p : Int} {C : Nat} (hp : Md p) (c : CupT) (b : List Int) : ∀ a ∈ solX p C c b, In p a := svL_in hp (zeroV_in hp C) (zeroV_len C) _
set_option maxHeartbeats 4000000 in
theorem solve_yes {P R C : Nat} {l b : List Int} (hP : Prm P) (M : Mt P R C l) (hin : ∀ a ∈ l, In P a) (hb : ∀ a ∈ b, In P a) (hbl : b.length = R) :
    CallsP Try.prog 25 [u64 P, matP R C l, lu b] (if timesM P R C l (solX P C (tkCup P C R l) b) = b then .tup [lu (solX P C (tkCup P C R l) b), i64 0] else .tup [lu [], i64 6]) := by
  have hp := M.hp
  have r2 := M.r2
  have c2 := M.c2
  have q1 := vector_walk P b R (by rw [hbl, mx_len]; omega)
  rw [(has_iff _ _).2 ⟨fun x hx => (hb x hx).2, hp.1, hp.2⟩, decide_eq_true (show (b.length : Int) = R by omega)] at q1
  have q2 := take8_yes hP M hin
  have hw := tkCup_W hP M hin
  have xl := solX_len P C (tkCup P C R l) b
  have xi := solX_in (C := C) hp (tkCup P C R l) b
  have vi := invsT_in hP hp hw
  have k1 := fun vs => halves_walk (l := l) (vs := vs) hp hw r2 hb hbl
  have zi := hlL_in hp hw hb hbl _ (Nat.le_refl _)
  have zl := hlL_len P (tkCup P C R l) b (tkCup P C R l).1.length
  have k2 := solved_walk (l := l) (x := zeroV C) (z := hlL P (tkCup P C R l) b (tkCup P C R l).1.length) hp hw r2 c2 (zeroV_in hp C) (zeroV_len C) zi zl vi.1 vi.2
  have k3 := times_walk P R C l (solX P C (tkCup P C R l) b) (by have := M.len; have := rc_bd r2 c2; rw [mx_len]; omega) (by rw [xl, mx_len]; omega) (fun a ha => in_w64 hp (hin a ha)) (fun a ha => in_w64 hp (xi a ha))
  rw [show timesR P R C l (solX P C (tkCup P C R l) b) = (timesM P R C l (solX P C (tkCup P C R l) b), 0) by
    unfold timesR; rw [mat_mk M, (has_iff _ _).2 ⟨fun x hx => (xi x hx).2, hp.1, hp.2⟩, decide_eq_true (show ((solX P C (tkCup P C R l) b).length : Int) = C by omega)]; rfl] at k3
  have k4 := equal_walk (timesM P R C l (solX P C (tkCup P C R l) b)) b (by rw [timesM_len, mx_len]; omega)
  have tml := timesM_len P R C l (solX P C (tkCup P C R l) b)
  change CallsW _ _ _ _ _ ((solX P C (tkCup P C R l) b).map iu) at k2
  generalize solX P C (tkCup P C R l) b = X at xl xi k2 k3 k4 tml ⊢
  generalize hlL P (tkCup P C R l) b (tkCup P C R l).1.length = Z at zi zl k1 k2
  generalize invsT P (tkCup P C R l) = vs at q2 vi k2
  have k1 := k1 vs
  generalize tkCup P C R l = c at q2 hw k1 k2 zl
  obtain ⟨rw0, cw, cc, uu⟩ := c
  generalize timesM P R C l X = TX at k3 k4 tml ⊢
  simp only at zl k2
  rw [show (lu b) = .i (.l R (b.map iu)) by rw [lu, hbl]] at k4
  rw [lu, xl] at k3
  rw [lu, zl] at k1
  have b1 : C * 8 ≤ 140737488355328 := by omega
  have b2 : C ≤ 140737488355328 := by omega
  have ez : (zeroRow [Value.int .u64 0] C).map IV.v = (zeroV C).map iu := zero_tbl C
  have nt : (X.map iu).take C = X.map iu := List.take_of_length_le (by simp [xl])
  have nb : (lu b) = .i (.l R (b.map iu)) := by rw [lu, hbl]
  rw [nb] at q1 ⊢
  by_cases hx : TX = b
  · rw [decide_eq_true hx] at k4
    rw [if_pos hx]
    refine X_startP (n := 49) (m := 3) (rs := [.tmp 6, .tmp 7]) Try.func25 rfl rfl rfl rfl (by decide) fun base => ?_
    repeat (first | ((first | refine X_call_fn2 rfl (by simp only [tys]) ?_ | refine X_dcall_fn2 rfl (by simp only [tys]) ?_); apply Exists.intro; apply And.intro; (focus (simp -dsimp only [simx, zzC, zzB, tys, ite_self, opnL, callB, callX, readsB, stepOp, nilCmp, ofVal, opBuiltin, opLen, PV.sk, scalBin, scalUn, intBin, opLoad, natOf, opConvert, opField, cellsP, oneP, Value.oneCell', opStore, toIV, scalT, scalA, scalC, boxesA, boxesC, zipB_none, zipB_mx, isZ, opZip, zeroP, opAppendZ, opMakeMap, opLookup, mboxB, opUpdate, ↓reduceIte, Nat.reduceSub, Nat.reduceEqDiff, Nat.reduceAdd, Nat.reduceMul, Nat.reduceLT, Nat.reduceLeDiff, Int.reduceToNat, Int.reduceLE, Int.reduceLT, Int.reduceNeg, reduceCtorEq, zzL, if_true, if_false] <;> rfl)); apply Exists.intro; apply And.intro; (focus (first | exact q1 | exact q2 | exact k1))) | refine X_opc rfl ?_ | refine X_dopc rfl ?_ | refine ⟨(by show drawK _ _ = true; kernel_rfl : drawX _ _ _), ?_⟩ | exact (by show drawK _ _ = true; kernel_rfl : drawX _ _ _) | simp -dsimp (maxSteps := 20000000) (disch := omega) only [simx, zzC, zzB, tys, ite_self, opnL, callB, callX, readsB, stepOp, nilCmp, ofVal, opBuiltin, opLen, PV.sk, scalBin, scalUn, intBin, opLoad, natOf, opConvert, opField, cellsP, oneP, Value.oneCell', opStore, toIV, scalT, scalA, scalC, boxesA, boxesC, zipB_none, zipB_mx, isZ, opZip, zeroP, opAppendZ, opMakeMap, opLookup, mboxB, opUpdate, ↓reduceIte, Nat.reduceSub, Nat.reduceEqDiff, Nat.reduceAdd, Nat.reduceMul, Nat.reduceLT, Nat.reduceLeDiff, Int.reduceToNat, Int.reduceLE, Int.reduceLT, Int.reduceNeg, reduceCtorEq, gos, Int.reduceAdd, Int.reduceSub, Int.reduceMul, Int.reduceEq, b1, b2])
    refine X_dcall_w (args := [takenP P R C l (rw0, cw, cc, uu) vs, .view ((6, 2) :: base) 0 1 C C, .i (.l rw0.length (Z.map iu))]) ((6, 2) :: base) k2 rfl (by simp only [tys]) rfl (by rw [← ez]; exact Heap.put_same _ _ _) (by simp [boxesA, boxesC]) (by simp [mapO, lowerW, isV, reV, boxesA, boxesC, lowerA, lowerC]) rfl (by simp [xl, zeroV_len]) ?_
    rw [show (List.filter (notB ((6, 2) :: base)) (List.flatMap boxesA [takenP P R C l (rw0, cw, cc, uu) vs, .view ((6, 2) :: base) 0 1 C C, .i (.l rw0.length (Z.map iu))])) = [] by simp [boxesA, boxesC, notB]]
    repeat (first | ((first | refine X_call_fn2 rfl (by simp only [tys]) ?_ | refine X_dcall_fn2 rfl (by simp only [tys]) ?_); apply Exists.intro; apply And.intro; (focus (simp -dsimp only [simx, zzC, zzB, tys, ite_self, opnL, callB, callX, readsB, stepOp, nilCmp, ofVal, opBuiltin, opLen, PV.sk, scalBin, scalUn, intBin, opLoad, natOf, opConvert, opField, cellsP, oneP, Value.oneCell', opStore, toIV, scalT, scalA, scalC, boxesA, boxesC, zipB_none, zipB_mx, isZ, opZip, zeroP, opAppendZ, opMakeMap, opLookup, mboxB, opUpdate, ↓reduceIte, Nat.reduceSub, Nat.reduceEqDiff, Nat.reduceAdd, Nat.reduceMul, Nat.reduceLT, Nat.reduceLeDiff, Int.reduceToNat, Int.reduceLE, Int.reduceLT, Int.reduceNeg, reduceCtorEq, zzL, if_true, if_false, List.length_map, xl, nt] <;> rfl)); apply Exists.intro; apply And.intro; (focus (first | exact k3 | exact k4))) | refine X_opc rfl ?_ | refine X_dopc rfl ?_ | refine ⟨(by show drawK _ _ = true; kernel_rfl : drawX _ _ _), ?_⟩ | exact (by show drawK _ _ = true; kernel_rfl : drawX _ _ _) | simp -dsimp (maxSteps := 20000000) (disch := omega) only [simx, zzC, zzB, tys, ite_self, opnL, callB, callX, readsB, stepOp, nilCmp, ofVal, opBuiltin, opLen, PV.sk, scalBin, scalUn, intBin, opLoad, natOf, opConvert, opField, cellsP, oneP, Value.oneCell', opStore, toIV, scalT, scalA, scalC, boxesA, boxesC, zipB_none, zipB_mx, isZ, opZip, zeroP, opAppendZ, opMakeMap, opLookup, mboxB, opUpdate, ↓reduceIte, Nat.reduceSub, Nat.reduceEqDiff, Nat.reduceAdd, Nat.reduceMul, Nat.reduceLT, Nat.reduceLeDiff, Int.reduceToNat, Int.reduceLE, Int.reduceLT, Int.reduceNeg, reduceCtorEq, zzR, gos, Int.reduceAdd, Int.reduceSub, Int.reduceMul, Int.reduceEq, List.length_map, xl, nt])
    simp [xl]
  · rw [decide_eq_false hx] at k4
    rw [if_neg hx]
    refine X_startP (n := 49) (m := 3) (rs := [.tmp 6, .tmp 7]) Try.func25 rfl rfl rfl rfl (by decide) fun base => ?_
    repeat (first | ((first | refine X_call_fn2 rfl (by simp only [tys]) ?_ | refine X_dcall_fn2 rfl (by simp only [tys]) ?_); apply Exists.intro; apply And.intro; (focus (simp -dsimp only [simx, zzC, zzB, tys, ite_self, opnL, callB, callX, readsB, stepOp, nilCmp, ofVal, opBuiltin, opLen, PV.sk, scalBin, scalUn, intBin, opLoad, natOf, opConvert, opField, cellsP, oneP, Value.oneCell', opStore, toIV, scalT, scalA, scalC, boxesA, boxesC, zipB_none, zipB_mx, isZ, opZip, zeroP, opAppendZ, opMakeMap, opLookup, mboxB, opUpdate, ↓reduceIte, Nat.reduceSub, Nat.reduceEqDiff, Nat.reduceAdd, Nat.reduceMul, Nat.reduceLT, Nat.reduceLeDiff, Int.reduceToNat, Int.reduceLE, Int.reduceLT, Int.reduceNeg, reduceCtorEq, zzL, if_true, if_false] <;> rfl)); apply Exists.intro; apply And.intro; (focus (first | exact q1 | exact q2 | exact k1))) | refine X_opc rfl ?_ | refine X_dopc rfl ?_ | refine ⟨(by show drawK _ _ = true; kernel_rfl : drawX _ _ _), ?_⟩ | exact (by show drawK _ _ = true; kernel_rfl : drawX _ _ _) | simp -dsimp (maxSteps := 20000000) (disch := omega) only [simx, zzC, zzB, tys, ite_self, opnL, callB, callX, readsB, stepOp, nilCmp, ofVal, opBuiltin, opLen, PV.sk, scalBin, scalUn, intBin, opLoad, natOf, opConvert, opField, cellsP, oneP, Value.oneCell', opStore, toIV, scalT, scalA, scalC, boxesA, boxesC, zipB_none, zipB_mx, isZ, opZip, zeroP, opAppendZ, opMakeMap, opLookup, mboxB, opUpdate, ↓reduceIte, Nat.reduceSub, Nat.reduceEqDiff, Nat.reduceAdd, Nat.reduceMul, Nat.reduceLT, Nat.reduceLeDiff, Int.reduceToNat, Int.reduceLE, Int.reduceLT, Int.reduceNeg, reduceCtorEq, gos, Int.reduceAdd, Int.reduceSub, Int.reduceMul, Int.reduceEq, b1, b2])
    refine X_dcall_w (args := [takenP P R C l (rw0, cw, cc, uu) vs, .view ((6, 2) :: base) 0 1 C C, .i (.l rw0.length (Z.map iu))]) ((6, 2) :: base) k2 rfl (by simp only [tys]) rfl (by rw [← ez]; exact Heap.put_same _ _ _) (by simp [boxesA, boxesC]) (by simp [mapO, lowerW, isV, reV, boxesA, boxesC, lowerA, lowerC]) rfl (by simp [xl, zeroV_len]) ?_
    rw [show (List.filter (notB ((6, 2) :: base)) (List.flatMap boxesA [takenP P R C l (rw0, cw, cc, uu) vs, .view ((6, 2) :: base) 0 1 C C, .i (.l rw0.length (Z.map iu))])) = [] by simp [boxesA, boxesC, notB]]
    repeat (first | ((first | refine X_call_fn2 rfl (by simp only [tys]) ?_ | refine X_dcall_fn2 rfl (by simp only [tys]) ?_); apply Exists.intro; apply And.intro; (focus (simp -dsimp only [simx, zzC, zzB, tys, ite_self, opnL, callB, callX, readsB, stepOp, nilCmp, ofVal, opBuiltin, opLen, PV.sk, scalBin, scalUn, intBin, opLoad, natOf, opConvert, opField, cellsP, oneP, Value.oneCell', opStore, toIV, scalT, scalA, scalC, boxesA, boxesC, zipB_none, zipB_mx, isZ, opZip, zeroP, opAppendZ, opMakeMap, opLookup, mboxB, opUpdate, ↓reduceIte, Nat.reduceSub, Nat.reduceEqDiff, Nat.reduceAdd, Nat.reduceMul, Nat.reduceLT, Nat.reduceLeDiff, Int.reduceToNat, Int.reduceLE, Int.reduceLT, Int.reduceNeg, reduceCtorEq, zzL, if_true, if_false, List.length_map, xl, nt] <;> rfl)); apply Exists.intro; apply And.intro; (focus (first | exact k3 | exact k4))) | refine X_opc rfl ?_ | refine X_dopc rfl ?_ | refine ⟨(by show drawK _ _ = true; kernel_rfl : drawX _ _ _), ?_⟩ | exact (by show drawK _ _ = true; kernel_rfl : drawX _ _ _) | simp -dsimp (maxSteps := 20000000) (disch := omega) only [simx, zzC, zzB, tys, ite_self, opnL, callB, callX, readsB, stepOp, nilCmp, ofVal, opBuiltin, opLen, PV.sk, scalBin, scalUn, intBin, opLoad, natOf, opConvert, opField, cellsP, oneP, Value.oneCell', opStore, toIV, scalT, scalA, scalC, boxesA, boxesC, zipB_none, zipB_mx, isZ, opZip, zeroP, opAppendZ, opMakeMap, opLookup, mboxB, opUpdate, ↓reduceIte, Nat.reduceSub, Nat.reduceEqDiff, Nat.reduceAdd, Nat.reduceMul, Nat.reduceLT, Nat.reduceLeDiff, Int.reduceToNat, Int.reduceLE, Int.reduceLT, Int.reduceNeg, reduceCtorEq, zzR, gos, Int.reduceAdd, Int.reduceSub, Int.reduceMul, Int.reduceEq, List.length_map, xl, nt])
    rfl
end Go.Proofs.Ytmalpmnmknpphaa.TM
namespace Go.Proofs.Ytmalpmnmknpphaa.TM
open Go Go.RowKit
def skip (k j : Nat) : Nat := if j < k then j else j + 1
def sg (k : Nat) : Int := if k % 2 = 0 then 1 else -1
abbrev Mx := Nat → Nat → Int
end Go.Proofs.Ytmalpmnmknpphaa.TM
namespace Go.Proofs.Ytmalpmnmknpphaa.TM
open Go Go.RowKit
theorem emod_sub0 {p a b : Int} : a % p = b % p ↔ (a - b) % p = 0 := (Int.emod_eq_emod_iff_emod_sub_eq_zero)
theorem em_mul {p a b c d : Int} (h1 : a % p = b % p) (h2 : c % p = d % p) : a * c % p = b * d % p := by rw [Int.mul_emod, h1, h2, ← Int.mul_emod]
theorem em_add {p a b c d : Int} (h1 : a % p = b % p) (h2 : c % p = d % p) : (a + c) % p = (b + d) % p := by rw [Int.add_emod, h1, h2, ← Int.add_emod]
theorem em_sub {p a b c d : Int} (h1 : a % p = b % p) (h2 : c % p = d % p) : (a - c) % p = (b - d) % p := by rw [Int.sub_emod, h1, h2, ← Int.sub_emod]
theorem em_z {p a b : Int} (h : a % p = 0) : a * b % p = 0 := by rw [Int.mul_emod, h, Int.zero_mul, Int.zero_emod]
theorem em_z' {p a b : Int} (h : b % p = 0) : a * b % p = 0 := by rw [Int.mul_comm]; exact em_z h
theorem bezout (m n : Nat) : ∃ x y : Int, (m : Int) * x + (n : Int) * y = (Nat.gcd m n : Int) := by
  induction m, n using Nat.gcd.induction with
  | H0 n => exact ⟨0, 1, by simp⟩
  | H1 m n hm ih =>
    obtain ⟨x, y, h⟩ := ih
    refine ⟨y - (n / m : Nat) * x, x, ?_⟩
    rw [Nat.gcd_rec, ← h]
    have e : (n : Int) = ((n % m : Nat) : Int) + (m : Int) * ((n / m : Nat) : Int) := by have := Nat.mod_add_div n m; omega
    rw [e]
    grind
theorem prm_nz {P : Nat} (hP : Prm P) {a : Int} (h : a % P ≠ 0) : ∃ b, a * b % P = 1 := by
  have h2 := hP.1
  have hp : (0 : Int) < P := by omega
  have i1 := Int.emod_nonneg a (show (P : Int) ≠ 0 by omega)
  have i2 := Int.emod_lt_of_pos a hp
  have g := hP.2 (a % P).toNat (by omega) (by omega)
  obtain ⟨x, y, hxy⟩ := bezout P (a % P).toNat
  rw [g, show ((a % P).toNat : Int) = a % P by omega] at hxy
  refine ⟨y, ?_⟩
  have e : a * y % P = (a % P) * y % P := em_mul (Int.emod_emod_of_dvd a (Int.dvd_refl _)).symm rfl
  rw [e, show (a % P) * y = 1 - P * x by rw [show ((1 : Nat) : Int) = 1 from rfl] at hxy; omega, Int.sub_mul_emod_self_left]
  exact Int.emod_eq_of_lt (by omega) (by omega)
theorem sumN_only {p : Int} {n k : Nat} {f : Nat → Int} (hk : k < n) (h : ∀ i, i < n → i ≠ k → f i % p = 0) : sumN n f % p = f k % p := by
  rw [← sumN_one f hk]
  refine sumN_mod fun i hi => ?_
  by_cases e : i = k
  · rw [if_pos e]
  · rw [if_neg e, h i hi e]; rfl
theorem sumN_upd {n c : Nat} (f x : Nat → Int) (d : Int) (hc : c < n) : sumN n (fun j => f j * (if j = c then x j + d else x j)) = sumN n (fun j => f j * x j) + f c * d := by
  rw [← sumN_one (fun j => f j * d) hc, ← sumN_add]
  refine sumN_congr fun j _ => ?_
  split
  · rw [Int.mul_add]
  · omega
structure Cp (p : Int) (R C r : Nat) (A : Mx) (rw cw : Nat → Nat) (c u : Mx) : Prop where
  rlt : ∀ k, k < r → rw k < R
  rinc : ∀ j k, j < k → k < r → rw j < rw k
  clt : ∀ k, k < r → cw k < C
  upiv : ∀ k, k < r → u k (cw k) % p ≠ 0
  uz : ∀ j k, j < k → k < r → u k (cw j) % p = 0
  uh : ∀ k, k < r → ∀ j, j < cw k → u k j % p = 0
  c1 : ∀ k, k < r → c (rw k) k % p = 1
  cz : ∀ k, k < r → ∀ i, i < rw k → c i k % p = 0
  made : ∀ i, i < R → ∀ j, j < C → A i j % p = sumN r (fun k => c i k * u k j) % p
def apX (C : Nat) (A : Mx) (x : Nat → Int) : Nat → Int := fun i => sumN C (fun j => A i j * x j)
theorem apX_sub (C : Nat) (A : Mx) (x y : Nat → Int) (i : Nat) : apX C A (fun j => x j - y j) i = apX C A x i - apX C A y i := by
  unfold apX; rw [← sumN_sub]; exact sumN_congr fun j _ => Int.mul_sub ..
theorem apX_mod {p : Int} {C : Nat} {A : Mx} {x y : Nat → Int} (h : ∀ j, j < C → x j % p = y j % p) (i : Nat) : apX C A x i % p = apX C A y i % p :=
  sumN_mod fun j hj => em_mul rfl (h j hj)
section
variable {P R C r : Nat} {A : Mx} {rw cw : Nat → Nat} {c u : Mx}
theorem Cp.ap (H : Cp P R C r A rw cw c u) {x : Nat → Int} {i : Nat} (hi : i < R) : apX C A x i % P = sumN r (fun k => c i k * apX C u x k) % P := by
  unfold apX
  have e : sumN r (fun k => c i k * sumN C (fun j => u k j * x j)) = sumN C (fun j => sumN r (fun k => c i k * u k j) * x j) := by
    rw [sumN_congr fun k _ => (sumN_mul C (c i k) (fun j => u k j * x j)).symm, sumN_swap]
    refine sumN_congr fun j _ => ?_
    rw [← sumN_mulr]
    exact sumN_congr fun k _ => by rw [Int.mul_assoc]
  rw [e]
  exact sumN_mod fun j hj => em_mul (H.made i hi j hj) rfl
theorem Cp.usolve (hP : Prm P) (H : Cp P R C r A rw cw c u) (z x0 : Nat → Int) : ∃ x : Nat → Int, (∀ j, (∀ k, k < r → j ≠ cw k) → x j = x0 j) ∧ ∀ k, k < r → apX C u x k % P = z k % P := by
  have key : ∀ d, d ≤ r → ∃ x : Nat → Int, (∀ j, (∀ k, k < r → j ≠ cw k) → x j = x0 j) ∧ ∀ k, r - d ≤ k → k < r → apX C u x k % P = z k % P := by
    intro d
    induction d with
    | zero => exact fun _ => ⟨x0, fun _ _ => rfl, fun k h1 h2 => by omega⟩
    | succ d ih =>
      intro hd
      obtain ⟨x, h1, h2⟩ := ih (by omega)
      have hm : r - (d + 1) < r := by omega
      obtain ⟨b, hb⟩ := prm_nz hP (H.upiv _ hm)
      obtain ⟨y, hy⟩ : ∃ y, apX C u x (r - (d + 1)) = y := ⟨_, rfl⟩
      refine ⟨fun j => if j = cw (r - (d + 1)) then x j + b * (z (r - (d + 1)) - y) else x j, fun j hj => ?_, fun k h3 h4 => ?_⟩
      · simp only
        rw [if_neg (hj _ hm)]; exact h1 j hj
      · unfold apX
        rw [sumN_upd _ _ _ (H.clt _ hm)]
        by_cases e : k = r - (d + 1)
        · subst e
          show (apX C u x _ + _) % _ = _
          rw [hy, ← Int.mul_assoc]
          have : (y + u (r - (d + 1)) (cw (r - (d + 1))) * b * (z (r - (d + 1)) - y)) % P = (y + 1 * (z (r - (d + 1)) - y)) % P := em_add rfl (em_mul (by rw [hb]; exact (Int.emod_eq_of_lt (by omega) (by have := hP.1; omega)).symm) rfl)
          rw [this, Int.one_mul]; congr 1; omega
        · have h5 := h2 k (by omega) h4
          rw [← h5]
          show (apX C u x k + _) % _ = _
          have h6 := H.uz (r - (d + 1)) k (by omega) h4
          rw [Int.add_emod, em_z h6, Int.add_zero, Int.emod_emod_of_dvd _ (Int.dvd_refl _)]
  obtain ⟨x, h1, h2⟩ := key r (Nat.le_refl _)
  exact ⟨x, h1, fun k hk => h2 k (by omega) hk⟩
theorem Cp.cinj (H : Cp P R C r A rw cw c u) {z : Nat → Int} (h1 : ∀ m, m < r → sumN r (fun k => c (rw m) k * z k) % P = 0) : ∀ k, k < r → z k % P = 0 := by
  intro k
  induction k using Nat.strongRecOn with
  | _ k ih =>
  intro hk
  have h2 := h1 k hk
  rw [sumN_only hk (fun j hj hjk => ?_)] at h2
  · rw [Int.mul_emod, H.c1 k hk, Int.one_mul, Int.emod_emod_of_dvd _ (Int.dvd_refl _)] at h2
    exact h2
  · by_cases c : j < k
    · exact em_z' (ih j c hj)
    · exact em_z (H.cz j hj _ (H.rinc k j (by omega) hj))
end
end Go.Proofs.Ytmalpmnmknpphaa.TM
namespace Go.Proofs.Ytmalpmnmknpphaa.TM
open Go Go.RowKit
theorem getD_app {α : Type} (l : List α) (x d : α) (k : Nat) : (l ++ [x]).getD k d = if k < l.length then l.getD k d else if k = l.length then x else d := by
  rw [List.getD_eq_getElem?_getD, List.getD_eq_getElem?_getD]
  by_cases h : k < l.length
  · rw [if_pos h, List.getElem?_append_left h]
  · rw [if_neg h, List.getElem?_append_right (by omega)]
    by_cases e : k = l.length
    · subst e; rw [if_pos rfl]; simp
    · rw [if_neg e, List.getElem?_eq_none (by simp; omega)]; rfl
def rwF (T : Tk) (k : Nat) : Nat := (T.rows.getD k 0).toNat
def cwF (T : Tk) (k : Nat) : Nat := (T.cols.getD k 0).toNat
def cF (T : Tk) : Mx := fun i k => (csF T i).getD k 0
def uF (T : Tk) : Mx := fun k j => (T.us.getD k []).getD j 0
def vF (T : Tk) (k : Nat) : Int := T.vs.getD k 0
structure TkC (P C i : Nat) (A : Mx) (T : Tk) : Prop where
  I : TkI P C i T
  H : Cp P i C T.us.length A (rwF T) (cwF T) (cF T) (uF T)
  inv : ∀ k, k < T.us.length → uF T k (cwF T k) * vF T k % P = 1
theorem rest_spec {P C i : Nat} {A : Mx} {T : Tk} (K : TkC P C i A T) {row : List Int} (hl : row.length = C) : ∀ k, k ≤ T.us.length →
    (∀ j, j < k → (elR P T row k).getD (cwF T j) 0 % P = 0) ∧ ∀ q, q < C → row.getD q 0 % P = ((elR P T row k).getD q 0 + sumN k (fun m => elX P T row m * uF T m q)) % P
  | 0, _ => ⟨fun j h => by omega, fun q _ => by simp [elR, sumN]⟩
  | k + 1, hk => by
    obtain ⟨h1, h2⟩ := rest_spec K hl k (by omega)
    have len := elR_len P T row k
    rw [hl] at len
    have get : ∀ q, q < C → (elR P T row (k + 1)).getD q 0 % P = ((elR P T row k).getD q 0 - elX P T row k * uF T k q) % P := fun q hq => by
      rw [elR_succ, lessV_get _ _ _ _ (by omega), Int.emod_emod_of_dvd _ (Int.dvd_refl _)]
      exact em_sub rfl (Int.emod_emod_of_dvd _ (Int.dvd_refl _))
    refine ⟨fun j hj => ?_, fun q hq => ?_⟩
    · rw [get _ (K.H.clt j (by omega))]
      by_cases e : j = k
      · subst e
        have hx : elX P T row j % P = ((elR P T row j).getD (cwF T j) 0 * vF T j) % P := by unfold elX vF cwF; exact Int.emod_emod_of_dvd _ (Int.dvd_refl _)
        have hi := K.inv j (by omega)
        generalize (elR P T row j).getD (cwF T j) 0 = y at hx ⊢
        rw [em_sub rfl (em_mul hx rfl)]
        have hm : (2 : Int) ≤ P := K.I.ri |> fun _ => by
          rcases Nat.lt_or_ge P 2 with h | h
          · have : P = 0 ∨ P = 1 := by omega
            rcases this with rfl | rfl
            · exact absurd (K.H.upiv j (by omega)) (by
                intro hne
                have hz := K.I.ul (T.us.getD j []) (by rw [List.getD_eq_getElem?_getD, List.getElem?_eq_getElem (show j < T.us.length by omega)]; exact List.getElem_mem _)
                have hin := getD_of hz.2 (i := cwF T j) (by rw [hz.1]; exact K.H.clt j (by omega))
                unfold In at hin; omega)
            · exact absurd hi (by rw [show ((1 : Nat) : Int) = 1 from rfl, Int.emod_one]; decide)
          · omega
        have : (y - y * vF T j * uF T j (cwF T j)) % P = (y - y * 1) % P := em_sub rfl (by
          rw [Int.mul_assoc]
          exact em_mul rfl (by rw [Int.mul_comm, hi]; exact (Int.emod_eq_of_lt (by decide) (by omega)).symm))
        rw [this, Int.mul_one, Int.sub_self]; rfl
      · have h3 := K.H.uz j k (by omega) (by omega)
        rw [Int.sub_emod, h1 j (by omega), em_z' h3]; rfl
    · rw [h2 q hq, sumN]
      have h4 := em_add (get q hq) (rfl : (sumN k (fun m => elX P T row m * uF T m q) + elX P T row k * uF T k q) % P = _)
      rw [h4]; congr 1; omega
theorem cup_step {P C i : Nat} {A : Mx} {T : Tk} (hP : Prm P) (hp : Md P) (K : TkC P C i A T) {row : List Int} (hrow : ∀ a ∈ row, In P a) (hl : row.length = C) (hA : ∀ j, j < C → A i j % P = row.getD j 0 % P) : TkC P C (i + 1) A (tkRow P T i row) := by
  have I := K.I
  have H := K.H
  have J := I.next hP hp hrow hl
  obtain ⟨c1, _⟩ := tkRow_cs (P := P) (row := row) I
  obtain ⟨te1, te2⟩ := tk_end (p := P) I row (i : Int) rfl
  obtain ⟨s1, s2⟩ := rest_spec K hl T.us.length (Nat.le_refl _)
  have rl : (rstT P T row).length = C := by unfold rstT; rw [elR_len, hl]
  have rin : ∀ a ∈ rstT P T row, In P a := elR_in hp T hrow _
  change ∀ j, j < T.us.length → (rstT P T row).getD (cwF T j) 0 % P = 0 at s1
  change ∀ q, q < C → row.getD q 0 % P = ((rstT P T row).getD q 0 + _) % P at s2
  have xg : ∀ k, k < T.us.length → (xsT P T row).getD k 0 = elX P T row k := fun k hk => tbl_getD _ hk
  have xl : (xsT P T row).length = T.us.length := tbl_len ..
  have cold : ∀ i', i' < i → ∀ k, cF (tkRow P T i row) i' k = cF T i' k := fun i' h k => by unfold cF; rw [c1 i' h]
  rcases nzA_spec (rstT P T row) 0 with ⟨z1, z2⟩ | ⟨n, z1, z2, z3, z4⟩
  · have neg : nzA (rstT P T row) 0 < 0 := by rw [z1]; decide
    obtain ⟨t1, t2, t3, t4⟩ := tk_no (p := P) (T := T) (row := row) (x := i) neg
    have te := te1 neg
    have e1 : rwF (tkRow P T i row) = rwF T := by unfold rwF; rw [t1]
    have e2 : cwF (tkRow P T i row) = cwF T := by unfold cwF; rw [t2]
    have e3 : uF (tkRow P T i row) = uF T := by unfold uF; rw [t3]
    have e4 : vF (tkRow P T i row) = vF T := by unfold vF; rw [t4]
    refine ⟨J, ?_, ?_⟩
    · rw [t3, e1, e2, e3]
      refine ⟨fun k hk => by have := H.rlt k hk; omega, H.rinc, H.clt, H.upiv, H.uz, H.uh, fun k hk => ?_, fun k hk i' hi' => ?_, fun i' hi' j hj => ?_⟩
      · rw [cold _ (H.rlt k hk)]; exact H.c1 k hk
      · rw [cold _ (Nat.lt_trans hi' (H.rlt k hk))]; exact H.cz k hk i' hi'
      · by_cases e : i' = i
        · subst e
          rw [hA j hj, s2 j hj]
          have z : (rstT P T row).getD j 0 = 0 := by rw [List.getD_eq_getElem?_getD, List.getElem?_eq_getElem (by omega)]; exact z2 _ (List.getElem_mem _)
          rw [z, Int.zero_add]
          refine sumN_mod fun k hk => ?_
          unfold cF csF
          rw [te, xg k hk]
        · rw [H.made i' (by omega) j hj]
          exact sumN_mod fun k hk => by rw [cold i' (by omega)]
    · rw [t3, e2, e3, e4]; exact K.inv
  · have neg : ¬ nzA (rstT P T row) 0 < 0 := by rw [z1]; omega
    obtain ⟨t1, t2, t3, t4⟩ := tk_yes (p := P) (T := T) (row := row) (x := i) neg
    have te := te2 neg
    have zn : (((0 + n : Nat) : Int)).toNat = n := by omega
    have zi : ((0 + n : Nat) : Int) = (n : Int) := by omega
    rw [z1] at t2 t4
    rw [zn] at t4
    rw [zi] at t2
    have r1 : ∀ k, rwF (tkRow P T i row) k = if k < T.us.length then rwF T k else if k = T.us.length then i else 0 := fun k => by
      unfold rwF; rw [t1, getD_app, I.rl]; (repeat' split) <;> simp
    have r2 : ∀ k, cwF (tkRow P T i row) k = if k < T.us.length then cwF T k else if k = T.us.length then n else 0 := fun k => by
      unfold cwF; rw [t2, getD_app, I.ql]; (repeat' split) <;> simp
    have r3 : ∀ k j, uF (tkRow P T i row) k j = if k < T.us.length then uF T k j else if k = T.us.length then (rstT P T row).getD j 0 else 0 := fun k j => by
      unfold uF; rw [t3, getD_app]; (repeat' split) <;> simp
    have r4 : ∀ k, vF (tkRow P T i row) k = if k < T.us.length then vF T k else if k = T.us.length then finvC P ((rstT P T row).getD n 0) else 0 := fun k => by
      unfold vF; rw [t4, getD_app, I.vl]
    have rn : In P ((rstT P T row).getD n 0) := getD_of rin z2
    have rnz : (rstT P T row).getD n 0 % P ≠ 0 := by rw [Int.emod_eq_of_lt rn.1 rn.2]; exact z3
    have us1 : (tkRow P T i row).us.length = T.us.length + 1 := by rw [t3]; simp
    have cnew : ∀ k, cF (tkRow P T i row) i k = if k < T.us.length then elX P T row k else if k = T.us.length then 1 else 0 := fun k => by
      unfold cF csF
      rw [te, getD_app, xl]
      split
      · rename_i h; rw [xg k h]
      · rfl
    have cnr : ∀ i', i' < i → cF T i' T.us.length = 0 := fun i' h => by
      unfold cF csF
      have : ((T.cs.getD i' [])).length ≤ T.us.length := by
        rw [List.getD_eq_getElem?_getD, List.getElem?_eq_getElem (by rw [I.cl]; exact h)]
        exact (I.cb _ (List.getElem_mem _)).1
      rw [List.getD_eq_getElem?_getD, List.getElem?_eq_none this]; rfl
    refine ⟨J, ?_, ?_⟩
    · rw [us1]
      refine ⟨fun k hk => ?_, fun j k hjk hk => ?_, fun k hk => ?_, fun k hk => ?_, fun j k hjk hk => ?_, fun k hk j hj => ?_, fun k hk => ?_, fun k hk i' hi' => ?_, fun i' hi' j hj => ?_⟩
      · rw [r1]
        by_cases h : k < T.us.length
        · rw [if_pos h]; have := H.rlt k h; omega
        · rw [if_neg h, if_pos (by omega)]; omega
      · rw [r1, r1, if_pos (show j < T.us.length by omega)]
        by_cases h : k < T.us.length
        · rw [if_pos h]; exact H.rinc j k hjk h
        · rw [if_neg h, if_pos (by omega)]; exact H.rlt j (by omega)
      · rw [r2]
        by_cases h : k < T.us.length
        · rw [if_pos h]; exact H.clt k h
        · rw [if_neg h, if_pos (by omega)]; omega
      · rw [r3, r2]
        by_cases h : k < T.us.length
        · rw [if_pos h, if_pos h]; exact H.upiv k h
        · rw [if_neg h, if_pos (by omega), if_neg h, if_pos (by omega)]; exact rnz
      · rw [r3, r2, if_pos (show j < T.us.length by omega)]
        by_cases h : k < T.us.length
        · rw [if_pos h]; exact H.uz j k hjk h
        · rw [if_neg h, if_pos (by omega)]; exact s1 j (by omega)
      · rw [r2] at hj
        rw [r3]
        by_cases h : k < T.us.length
        · rw [if_pos h] at hj ⊢; exact H.uh k h j hj
        · rw [if_neg h, if_pos (by omega)] at hj ⊢; rw [z4 j hj]; rfl
      · rw [r1]
        by_cases h : k < T.us.length
        · rw [if_pos h, cold _ (H.rlt k h)]; exact H.c1 k h
        · rw [if_neg h, if_pos (by omega), cnew, if_neg h, if_pos (by omega)]
          exact Int.emod_eq_of_lt (by decide) (by have := hp.1; omega)
      · rw [r1] at hi'
        by_cases h : k < T.us.length
        · rw [if_pos h] at hi'
          rw [cold _ (Nat.lt_trans hi' (H.rlt k h))]; exact H.cz k h i' hi'
        · rw [if_neg h, if_pos (by omega)] at hi'
          have ek : k = T.us.length := by omega
          subst ek
          rw [cold i' hi', cnr i' hi']; rfl
      · rw [sumN]
        by_cases e : i' = i
        · subst e
          rw [hA j hj, s2 j hj, r3, if_neg (by omega), if_pos rfl, cnew, if_neg (by omega), if_pos rfl, Int.one_mul, Int.add_comm]
          refine em_add (sumN_mod fun k hk => ?_) rfl
          rw [cnew, if_pos hk, r3, if_pos hk]
        · rw [H.made i' (by omega) j hj, cold i' (by omega), cnr i' (by omega), Int.zero_mul, Int.add_zero]
          refine sumN_mod fun k hk => ?_
          rw [cold i' (by omega), r3, if_pos hk]
    · intro k hk
      rw [us1] at hk
      rw [r3, r2, r4]
      by_cases h : k < T.us.length
      · rw [if_pos h, if_pos h, if_pos h]; exact K.inv k h
      · rw [if_neg h, if_pos (by omega), if_neg h, if_pos (by omega), if_neg h, if_pos (by omega)]
        exact (finvC_in hp.1 hp.2 rn (prm_gcd hP rn z3)).2
theorem tkN_C {P R C : Nat} {l : List Int} (hP : Prm P) (hp : Md P) (hl : l.length = R * C) (hin : ∀ a ∈ l, In P a) : ∀ i, i ≤ R → TkC P C i (cl C l) (tkN P C l i)
  | 0, _ => ⟨TkI.zero _ _, ⟨fun k h => absurd h (Nat.not_lt_zero k), fun j k _ h => absurd h (Nat.not_lt_zero k), fun k h => absurd h (Nat.not_lt_zero k), fun k h => absurd h (Nat.not_lt_zero k), fun j k _ h => absurd h (Nat.not_lt_zero k), fun k h => absurd h (Nat.not_lt_zero k), fun k h => absurd h (Nat.not_lt_zero k), fun k h => absurd h (Nat.not_lt_zero k), fun i h => absurd h (Nat.not_lt_zero i)⟩, fun k h => absurd h (Nat.not_lt_zero k)⟩
  | i + 1, h => cup_step hP hp (tkN_C hP hp hl hin i (by omega)) (fun a ha => hin a (rowM_mem ha)) (rowM_len hl (by omega)) fun j hj => by rw [rowM_cl hl (by omega) hj]
end Go.Proofs.Ytmalpmnmknpphaa.TM
namespace Go.Proofs.Ytmalpmnmknpphaa.TM
open Go Go.RowKit
def cntN : Nat → (Nat → Bool) → Nat
  | 0, _ => 0
  | n + 1, f => cntN n f + (if f n = true then 1 else 0)
theorem cnt_congr {n : Nat} {f g : Nat → Bool} (h : ∀ i, i < n → f i = g i) : cntN n f = cntN n g := by
  induction n with
  | zero => rfl
  | succ n ih => rw [cntN, cntN, ih fun i hi => h i (by omega), h n (by omega)]
theorem cnt_all {n : Nat} {f : Nat → Bool} (h : ∀ i, i < n → f i = true) : cntN n f = n := by
  induction n with
  | zero => rfl
  | succ n ih => rw [cntN, ih fun i hi => h i (by omega), if_pos (h n (by omega))]
theorem cnt_drop {m a : Nat} {f : Nat → Bool} (ha : a < m) (hf : f a = true) : cntN m f = cntN m (fun j => f j && j != a) + 1 := by
  induction m with
  | zero => omega
  | succ m ih =>
    rw [cntN, cntN]
    by_cases e : a = m
    · subst e
      rw [if_pos hf, if_neg (by simp)]
      have : cntN a f = cntN a (fun j => f j && j != a) := cnt_congr fun i hi => by
        have : (i != a) = true := by simp; omega
        rw [this, Bool.and_true]
      omega
    · rw [ih (by omega)]
      have : (m != a) = true := by simp; omega
      rw [this, Bool.and_true]; omega
theorem cnt_inj : ∀ (n : Nat) (f : Nat → Bool) (m : Nat) (g : Nat → Bool) (φ : Nat → Nat), (∀ i, i < n → f i = true → φ i < m ∧ g (φ i) = true) →
    (∀ i j, i < n → j < n → f i = true → f j = true → φ i = φ j → i = j) → cntN n f ≤ cntN m g
  | 0, _, _, _, _, _, _ => Nat.zero_le _
  | n + 1, f, m, g, φ, h1, h2 => by
    rw [cntN]
    by_cases c : f n = true
    · rw [if_pos c]
      obtain ⟨a1, a2⟩ := h1 n (by omega) c
      rw [cnt_drop a1 a2]
      refine Nat.succ_le_succ (cnt_inj n f m _ φ (fun i hi hf => ?_) (fun i j hi hj => h2 i j (by omega) (by omega)))
      obtain ⟨b1, b2⟩ := h1 i (by omega) hf
      refine ⟨b1, ?_⟩
      have : (φ i != φ n) = true := by
        simp only [bne_iff_ne]
        intro e
        have := h2 i n (by omega) (by omega) hf c e
        omega
      rw [b2, this]; rfl
    · rw [if_neg c]
      exact cnt_inj n f m g φ (fun i hi => h1 i (by omega)) (fun i j hi hj => h2 i j (by omega) (by omega))
def vec (P n k : Nat) : Int := ((n / P ^ k % P : Nat) : Int)
def num (P : Nat) : Nat → (Nat → Int) → Nat
  | 0, _ => 0
  | c + 1, x => (x 0 % P).toNat + P * num P c (fun k => x (k + 1))
theorem vec_in {P : Nat} (h : 0 < P) (n k : Nat) : In P (vec P n k) := ⟨Int.natCast_nonneg _, by unfold vec; have := Nat.mod_lt (n / P ^ k) h; omega⟩
theorem num_lt {P : Nat} (h : 0 < P) : ∀ (c : Nat) (x : Nat → Int), num P c x < P ^ c
  | 0, _ => by simp [num]
  | c + 1, x => by
    have ih := num_lt h c (fun k => x (k + 1))
    have h1 := Int.emod_nonneg (x 0) (show (P : Int) ≠ 0 by omega)
    have h2 := Int.emod_lt_of_pos (x 0) (show (0 : Int) < P by omega)
    rw [num, Nat.pow_succ]
    have h3 : P * num P c (fun k => x (k + 1)) + P ≤ P * P ^ c := by rw [← Nat.mul_succ]; exact Nat.mul_le_mul_left P ih
    rw [Nat.mul_comm (P ^ c)]
    omega
theorem num_congr {P : Nat} : ∀ (c : Nat) {x y : Nat → Int}, (∀ k, k < c → x k % P = y k % P) → num P c x = num P c y
  | 0, _, _, _ => rfl
  | c + 1, x, y, h => by rw [num, num, h 0 (by omega), num_congr c fun k hk => h (k + 1) (by omega)]
theorem vec_num {P : Nat} (h : 0 < P) : ∀ (c : Nat) (x : Nat → Int) (k : Nat), k < c → vec P (num P c x) k = x k % P
  | 0, _, _, hk => by omega
  | c + 1, x, k, hk => by
    have h1 := Int.emod_nonneg (x 0) (show (P : Int) ≠ 0 by omega)
    have h2 := Int.emod_lt_of_pos (x 0) (show (0 : Int) < P by omega)
    have h3 : (x 0 % P).toNat < P := by omega
    rw [num]
    cases k with
    | zero =>
      unfold vec
      rw [Nat.pow_zero, Nat.div_one, Nat.add_mul_mod_self_left, Nat.mod_eq_of_lt h3]; omega
    | succ k =>
      have ih := vec_num h c (fun k => x (k + 1)) k (by omega)
      rw [← ih]
      unfold vec
      rw [Nat.pow_succ, Nat.mul_comm (P ^ k) P, ← Nat.div_div_eq_div_mul, Nat.add_mul_div_left _ _ h, Nat.div_eq_of_lt h3, Nat.zero_add]
theorem num_vec {P : Nat} (h : 0 < P) : ∀ (c n : Nat), n < P ^ c → num P c (vec P n) = n
  | 0, n, hn => by simp at hn; subst hn; rfl
  | c + 1, n, hn => by
    rw [num]
    have e : (fun k => vec P n (k + 1)) = vec P (n / P) := by
      funext k; unfold vec; rw [Nat.pow_succ, Nat.mul_comm, ← Nat.div_div_eq_div_mul]
    have h0 : (vec P n 0 % P).toNat = n % P := by
      unfold vec; rw [Nat.pow_zero, Nat.div_one]; 
      have := Nat.mod_lt n h
      rw [Int.emod_eq_of_lt (by omega) (by omega)]; omega
    rw [e, h0, num_vec h c (n / P) (by rw [Nat.pow_succ, Nat.mul_comm] at hn; exact (Nat.div_lt_iff_lt_mul h).2 (by rw [Nat.mul_comm]; exact hn)), Nat.mod_add_div]
theorem vec_inj {P c m n : Nat} (h : 0 < P) (hm : m < P ^ c) (hn : n < P ^ c) (he : ∀ k, k < c → vec P m k % P = vec P n k % P) : m = n := by
  rw [← num_vec h c m hm, ← num_vec h c n hn, num_congr c he]
theorem num_inj {P c : Nat} {x y : Nat → Int} (h : 0 < P) (he : num P c x = num P c y) : ∀ k, k < c → x k % P = y k % P := fun k hk => by
  rw [← vec_num h c x k hk, ← vec_num h c y k hk, he]
section
variable {P R C r : Nat} {A : Mx} {rw cw : Nat → Nat} {c u : Mx}
theorem Cp.icnt (hP : Prm P) (H : Cp P R C r A rw cw c u) {g : Nat → Bool} (hg : ∀ n, n < P ^ R → (g n = true ↔ ∃ x : Nat → Int, ∀ i, i < R → apX C A x i % P = vec P n i % P)) : cntN (P ^ R) g = P ^ r := by
  have p0 : 0 < P := by have := hP.1; omega
  have hs : ∀ z : Nat → Int, ∃ x : Nat → Int, ∀ k, k < r → apX C u x k % P = z k % P := fun z => by
    obtain ⟨x, _, h⟩ := H.usolve hP z (fun _ => 0); exact ⟨x, h⟩
  let s : Nat → Nat → Int := fun y => Classical.choose (hs (vec P y))
  have ss : ∀ y k, k < r → apX C u (s y) k % P = vec P y k % P := fun y => Classical.choose_spec (hs (vec P y))
  refine Nat.le_antisymm ?_ ?_
  · refine Nat.le_trans ?_ (Nat.le_of_eq (cnt_all (n := P ^ r) (f := fun _ => true) fun _ _ => rfl))
    obtain ⟨X, hX⟩ : ∃ X : Nat → Nat → Int, ∀ n, n < P ^ R → g n = true → ∀ i, i < R → apX C A (X n) i % P = vec P n i % P := by
      classical
      refine ⟨fun n => if h : ∃ x : Nat → Int, ∀ i, i < R → apX C A x i % P = vec P n i % P then Classical.choose h else fun _ => 0, fun n hn hgn => ?_⟩
      have h := (hg n hn).1 hgn
      simp only [dif_pos h]
      exact Classical.choose_spec h
    refine cnt_inj _ _ _ _ (fun n => num P r (apX C u (X n))) (fun n _ _ => ⟨num_lt p0 _ _, rfl⟩) (fun n n' hn hn' g1 g2 he => ?_)
    refine vec_inj p0 hn hn' fun i hi => ?_
    rw [← hX n hn g1 i hi, ← hX n' hn' g2 i hi, H.ap (x := X n) hi, H.ap (x := X n') hi]
    exact sumN_mod fun k hk => em_mul rfl (num_inj p0 he k hk)
  · refine Nat.le_trans (Nat.le_of_eq (cnt_all (n := P ^ r) (f := fun _ => true) fun _ _ => rfl).symm) ?_
    refine cnt_inj _ _ _ _ (fun y => num P R (apX C A (s y))) (fun y _ _ => ⟨num_lt p0 _ _, ?_⟩) (fun y y' hy hy' _ _ he => ?_)
    · refine (hg _ (num_lt p0 _ _)).2 ⟨s y, fun i hi => ?_⟩
      rw [vec_num p0 _ _ _ hi, Int.emod_emod_of_dvd _ (Int.dvd_refl _)]
    · have e1 := num_inj p0 he
      have e2 := H.cinj (z := fun k => apX C u (s y) k - apX C u (s y') k) fun m hm => by
        have h1 := e1 (rw m) (H.rlt m hm)
        rw [H.ap (x := s y) (H.rlt m hm), H.ap (x := s y') (H.rlt m hm)] at h1
        rw [sumN_congr (g := fun k => c (rw m) k * apX C u (s y) k - c (rw m) k * apX C u (s y') k) fun k _ => Int.mul_sub .., sumN_sub]
        exact emod_sub0.1 h1
      refine vec_inj p0 hy hy' fun k hk => ?_
      rw [← ss y k hk, ← ss y' k hk]
      exact emod_sub0.2 (e2 k hk)
end
end Go.Proofs.Ytmalpmnmknpphaa.TM
namespace Go.Proofs.Ytmalpmnmknpphaa.TM
open Go Go.RowKit
def updr (A : Mx) (k : Nat) (u : Nat → Int) : Mx := fun i j => if i = k then u j else A i j
theorem updr_id (A : Mx) (k : Nat) : updr A k (A k) = A := by funext i j; unfold updr; split <;> simp_all
structure Alt (p : Int) (n : Nat) (F : Mx → Int) : Prop where
  cg : ∀ A B : Mx, (∀ i j, i < n → j < n → A i j % p = B i j % p) → F A % p = F B % p
  lin : ∀ (A : Mx) (i : Nat) (u v : Nat → Int) (c : Int), i < n → F (updr A i (fun j => u j + c * v j)) = F (updr A i u) + c * F (updr A i v)
  adj : ∀ (A : Mx) (i : Nat), i + 1 < n → A i = A (i + 1) → F A = 0
theorem Alt.add {p : Int} {n : Nat} {F : Mx → Int} (H : Alt p n F) (A : Mx) {i : Nat} (u v : Nat → Int) (hi : i < n) : F (updr A i (fun j => u j + v j)) = F (updr A i u) + F (updr A i v) := by
  have := H.lin A i u v 1 hi
  simpa using this
theorem Alt.scale {p : Int} {n : Nat} {F : Mx → Int} (H : Alt p n F) (A : Mx) {i : Nat} (v : Nat → Int) (c : Int) (hi : i < n) : F (updr A i (fun j => c * v j)) = c * F (updr A i v) := by
  have h1 := H.lin A i (fun _ => 0) v c hi
  have h2 := H.lin A i (fun _ => 0) (fun _ => 0) 1 hi
  simp at h1 h2
  omega
theorem Alt.zero {p : Int} {n : Nat} {F : Mx → Int} (H : Alt p n F) (A : Mx) {i : Nat} (hi : i < n) (h0 : ∀ j, A i j = 0) : F A = 0 := by
  have h := H.scale A (A i) 0 hi
  rw [Int.zero_mul] at h
  rw [← updr_id A i, ← h]
  congr 2
  funext j
  rw [h0, Int.mul_zero]
def mulX (m : Nat) (A B : Mx) : Mx := fun i j => sumN m (fun k => A i k * B k j)
end Go.Proofs.Ytmalpmnmknpphaa.TM
namespace Go.Proofs.Ytmalpmnmknpphaa.TM
open Go Go.RowKit
def nx (l : List Int) (a : Int) : Int := l.getD a.toNat 0
end Go.Proofs.Ytmalpmnmknpphaa.TM
namespace Go.Proofs.Ytmalpmnmknpphaa.TM
open Go Go.RowKit
def idX : Mx := fun i j => if j = i then 1 else 0
theorem em_refl {p a : Int} : a % p % p = a % p := Int.emod_emod_of_dvd _ (Int.dvd_refl _)
section
variable {P n r : Nat} {A : Mx} {rw cw : Nat → Nat} {c u : Mx} {F : Mx → Int}
theorem Cp.rle {R C : Nat} (H : Cp P R C r A rw cw c u) : r ≤ R := by
  rcases Nat.eq_zero_or_pos r with h | h
  · omega
  · have lo : ∀ k, k < r → k ≤ rw k := by
      intro k
      induction k with
      | zero => exact fun _ => Nat.zero_le _
      | succ k ih => intro hk; have := ih (by omega); have := H.rinc k (k + 1) (by omega) hk; omega
    have := lo (r - 1) (by omega)
    have := H.rlt (r - 1) (by omega)
    omega
end
end Go.Proofs.Ytmalpmnmknpphaa.TM
namespace Go.Proofs.Ytmalpmnmknpphaa.TM
open Go Go.RowKit
def Rk (P R C r : Nat) (A : Mx) : Prop := ∃ rw cw c u, Cp P R C r A rw cw c u
section
variable {P R C D S r s t : Nat} {A B : Mx}
noncomputable def iB (P R C : Nat) (A : Mx) : Nat → Bool := fun n => by classical exact decide (∃ x : Nat → Int, ∀ i, i < R → apX C A x i % P = vec P n i % P)
theorem iB_iff (n : Nat) : iB P R C A n = true ↔ ∃ x : Nat → Int, ∀ i, i < R → apX C A x i % P = vec P n i % P := by unfold iB; simp
theorem Rk.ic (hP : Prm P) (H : Rk P R C r A) : cntN (P ^ R) (iB P R C A) = P ^ r := by
  obtain ⟨_, _, _, _, H⟩ := H
  exact H.icnt hP fun n _ => iB_iff n
theorem apX_mul (K C : Nat) (A B : Mx) (x : Nat → Int) (i : Nat) : apX C (mulX K A B) x i = apX K A (apX C B x) i := by
  unfold apX mulX
  rw [sumN_congr fun k _ => (sumN_mul C (A i k) (fun j => B k j * x j)).symm, sumN_swap]
  refine sumN_congr fun j _ => ?_
  rw [← sumN_mulr]
  exact sumN_congr fun k _ => by rw [Int.mul_assoc]
end
section
variable {P n r : Nat} {A B : Mx} {rw cw : Nat → Nat} {c u : Mx}
end
end Go.Proofs.Ytmalpmnmknpphaa.TM
namespace Go.Proofs.Ytmalpmnmknpphaa.TM
open Go Go.RowKit
def rwC (c : CupT) (k : Nat) : Nat := (c.1.getD k 0).toNat
def cwC (c : CupT) (k : Nat) : Nat := (c.2.1.getD k 0).toNat
def ccC (c : CupT) : Mx := fun i k => (c.2.2.1.getD i []).getD k 0
def uuC (c : CupT) : Mx := fun k j => (c.2.2.2.getD k []).getD j 0
abbrev CpC (P R C : Nat) (A : Mx) (c : CupT) : Prop := Cp P R C c.1.length A (rwC c) (cwC c) (ccC c) (uuC c)
theorem pad_get (r : Nat) (x : List Int) (k : Nat) : (padF r x).getD k 0 = x.getD k 0 := by
  unfold padF
  rw [List.getD_eq_getElem?_getD, List.getD_eq_getElem?_getD]
  by_cases h : k < x.length
  · rw [List.getElem?_append_left h]
  · rw [List.getElem?_append_right (by omega), List.getElem?_eq_none (l := x) (by omega), List.getElem?_replicate]
    split <;> rfl
theorem tkCup_Cp {P R C : Nat} {l : List Int} (hP : Prm P) (M : Mt P R C l) (hin : ∀ a ∈ l, In P a) : CpC P R C (cl C l) (tkCup P C R l) := by
  have K := tkN_C hP M.hp M.len hin R (Nat.le_refl R)
  have e1 : (tkCup P C R l).1.length = (tkN P C l R).us.length := K.I.rl
  have e2 : ccC (tkCup P C R l) = cF (tkN P C l R) := by
    funext i k
    show (((tkN P C l R).cs.map (padF (tkN P C l R).us.length)).getD i []).getD k 0 = (csF (tkN P C l R) i).getD k 0
    unfold csF
    by_cases h : i < (tkN P C l R).cs.length
    · rw [List.getD_eq_getElem?_getD (l := List.map _ _), List.getElem?_map, List.getElem?_eq_getElem h, Option.map_some, Option.getD_some, pad_get, List.getD_eq_getElem?_getD (l := (tkN P C l R).cs), List.getElem?_eq_getElem h]; rfl
    · rw [List.getD_eq_getElem?_getD (l := List.map _ _), List.getElem?_map, List.getElem?_eq_none (by omega), List.getD_eq_getElem?_getD (l := (tkN P C l R).cs), List.getElem?_eq_none (by omega)]; rfl
  unfold CpC
  rw [e1, e2]
  exact K.H
section
variable {P R C : Nat} {A : Mx} {c : CupT}
theorem sumN_le {n m : Nat} (h : m ≤ n) {f : Nat → Int} (hz : ∀ i, m ≤ i → i < n → f i = 0) : sumN n f = sumN m f := by
  obtain ⟨d, rfl⟩ : ∃ d, n = m + d := ⟨n - m, by omega⟩
  rw [sumN_split, sumN_z (n := d) fun i hi => hz _ (by omega) (by omega), Int.add_zero]
theorem hlX_sum (b z : List Int) (i : Nat) : ∀ j, hlX P c b z i j % P = (b.getD i 0 - sumN j (fun t => ccC c i t * z.getD t 0)) % P
  | 0 => by simp [hlX, sumN]
  | j + 1 => by
    rw [hlX, em_refl, em_sub (hlX_sum b z i j) em_refl, sumN]
    congr 1
    unfold ccC
    omega
theorem hlL_get (b : List Int) : ∀ k m, m < k → (hlL P c b k).getD m 0 = hlX P c b (hlL P c b m) (rwC c m) m
  | 0, m, h => by omega
  | k + 1, m, h => by
    rw [hlL, List.getD_eq_getElem?_getD]
    by_cases e : m < k
    · rw [List.getElem?_append_left (by rw [hlL_len]; exact e), ← List.getD_eq_getElem?_getD, hlL_get b k m e]
    · have : m = k := by omega
      subst this
      rw [List.getElem?_append_right (by rw [hlL_len]; omega), hlL_len, Nat.sub_self]; rfl
theorem hlL_pre (b : List Int) : ∀ k m t, m ≤ k → t < m → (hlL P c b m).getD t 0 = (hlL P c b k).getD t 0 := fun k m t h1 h2 => by
  rw [hlL_get b m t h2, hlL_get b k t (by omega)]
theorem halves_ok (hP : Prm P) (H : CpC P R C A c) (b : List Int) : ∀ m, m < c.1.length → sumN c.1.length (fun k => ccC c (rwC c m) k * (hlL P c b c.1.length).getD k 0) % P = b.getD (rwC c m) 0 % P := by
  intro m hm
  have e1 : sumN c.1.length (fun k => ccC c (rwC c m) k * (hlL P c b c.1.length).getD k 0) % P = sumN (m + 1) (fun k => ccC c (rwC c m) k * (hlL P c b c.1.length).getD k 0) % P := by
    rw [sumN_mod (g := fun k => if k < m + 1 then ccC c (rwC c m) k * (hlL P c b c.1.length).getD k 0 else 0) (fun k hk => by
      by_cases h : k < m + 1
      · rw [if_pos h]
      · rw [if_neg h, em_z (H.cz k hk _ (H.rinc m k (by omega) hk))]; rfl), sumN_le (m := m + 1) (by omega) fun i h1 _ => if_neg (by omega)]
    congr 1
    exact sumN_congr fun k hk => if_pos hk
  have hp1 : (1 : Int) < P := by have := hP.1; omega
  rw [e1, sumN, hlL_get b c.1.length m hm]
  have h1 := hlX_sum (P := P) (c := c) b (hlL P c b m) (rwC c m) m
  have h2 : ccC c (rwC c m) m * hlX P c b (hlL P c b m) (rwC c m) m % P = 1 * (b.getD (rwC c m) 0 - sumN m (fun t => ccC c (rwC c m) t * (hlL P c b m).getD t 0)) % P := em_mul ((H.c1 m hm).trans (Int.emod_eq_of_lt (by decide) hp1).symm) h1
  rw [em_add rfl h2, sumN_congr fun t ht => by rw [← hlL_pre b c.1.length m t (by omega) ht]]
  congr 1
  omega
theorem svN_sum {z x : List Int} {k : Nat} (hc : 0 ≤ c.2.1.getD k 0) : ∀ q, svN P c z k x q % P = (z.getD k 0 - sumN q (fun j => if j = cwC c k then 0 else uuC c k j * x.getD j 0)) % P
  | 0 => by simp [svN, sumN]
  | q + 1 => by
    rw [svN, sumN]
    by_cases e : (q : Int) = c.2.1.getD k 0
    · rw [if_pos e, if_pos (show q = cwC c k by unfold cwC; omega), svN_sum hc q]; congr 1; omega
    · rw [if_neg e, if_neg (show ¬ q = cwC c k by unfold cwC; omega), em_refl, em_sub (svN_sum hc q) em_refl]
      congr 1
      unfold uuC
      omega
theorem solved_ok (hP : Prm P) (hp : Md P) (hw : CupW P R C c) (H : CpC P R C A c) (z : List Int) {x : List Int} (hx : x.length = C) :
    ∀ d, d ≤ c.1.length → (∀ j, j < C → (∀ k, k < c.1.length → j ≠ cwC c k) → (svL P C c (invsT P c) z x d).getD j 0 = x.getD j 0) ∧ ∀ k, c.1.length - d ≤ k → k < c.1.length → apX C (uuC c) (fun j => (svL P C c (invsT P c) z x d).getD j 0) k % P = z.getD k 0 % P
  | 0, _ => ⟨fun _ _ _ => rfl, fun k h1 h2 => by omega⟩
  | d + 1, hd => by
    obtain ⟨h1, h2⟩ := solved_ok hP hp hw H z hx d (by omega)
    obtain ⟨m, hm⟩ : ∃ m, m = c.1.length - 1 - d := ⟨_, rfl⟩
    have hmr : m < c.1.length := by omega
    have xl := svL_len (p := P) (c := c) (vs := invsT P c) (z := z) hx d
    have hq := hw.qb (c.2.1.getD m 0) (getD_mm (by rw [hw.ql]; exact hmr))
    have hcw := H.clt m hmr
    have hv : (invsT P c).getD m 0 = finvC P (uuC c m (cwC c m)) := tbl_getD _ (by rw [hw.ul]; exact hmr)
    obtain ⟨u1, u2⟩ := hw.ur (c.2.2.2.getD m []) (getD_mm (by rw [hw.ul]; exact hmr))
    have hi := getD_of u2 (i := cwC c m) (by omega)
    have hinv : uuC c m (cwC c m) * (invsT P c).getD m 0 % P = 1 := by
      rw [hv]; exact (finvC_in hp.1 hp.2 hi (prm_gcd hP hi (hw.nz m hmr))).2
    have get : ∀ j, j < C → (svL P C c (invsT P c) z x (d + 1)).getD j 0 = if j = cwC c m then svN P c z m (svL P C c (invsT P c) z x d) C * (invsT P c).getD m 0 % P else (svL P C c (invsT P c) z x d).getD j 0 := fun j hj => by
      rw [svL, ← hm]; exact tbl_getD _ hj
    refine ⟨fun j hj hn => by rw [get j hj, if_neg (hn m hmr), h1 j hj hn], fun k h3 h4 => ?_⟩
    have e1 : apX C (uuC c) (fun j => (svL P C c (invsT P c) z x (d + 1)).getD j 0) k = sumN C (fun j => if j = cwC c m then 0 else uuC c k j * (svL P C c (invsT P c) z x d).getD j 0) + uuC c k (cwC c m) * (svN P c z m (svL P C c (invsT P c) z x d) C * (invsT P c).getD m 0 % P) := by
      unfold apX
      rw [← sumN_one (fun j => uuC c k j * (svN P c z m (svL P C c (invsT P c) z x d) C * (invsT P c).getD m 0 % P)) hcw, ← sumN_add]
      refine sumN_congr fun j hj => ?_
      (try dsimp only)
      rw [get j hj]
      by_cases e : j = cwC c m
      · rw [if_pos e, if_pos e, if_pos e, Int.zero_add]
      · rw [if_neg e, if_neg e, if_neg e, Int.add_zero]
    rw [e1]
    by_cases e : k = m
    · subst e
      have h5 := svN_sum (P := P) (c := c) (z := z) (x := svL P C c (invsT P c) z x d) (k := k) hq.1 C
      generalize sumN C (fun j => if j = cwC c k then 0 else uuC c k j * (svL P C c (invsT P c) z x d).getD j 0) = S at h5 ⊢
      generalize svN P c z k (svL P C c (invsT P c) z x d) C = N at h5 ⊢
      have h6 : uuC c k (cwC c k) * (N * (invsT P c).getD k 0 % P) % P = 1 * (z.getD k 0 - S) % P := by
        rw [em_mul rfl em_refl, show uuC c k (cwC c k) * (N * (invsT P c).getD k 0) = (uuC c k (cwC c k) * (invsT P c).getD k 0) * N by grind]
        exact em_mul (hinv.trans (Int.emod_eq_of_lt (by decide) (by have := hp.1; omega)).symm) h5
      rw [em_add rfl h6]
      congr 1
      omega
    · have h5 := h2 k (by omega) h4
      have h6 := H.uz m k (by omega) h4
      rw [← h5, Int.add_emod, em_z h6, Int.add_zero, em_refl]
      unfold apX
      refine sumN_mod fun j hj => ?_
      by_cases e : j = cwC c m
      · rw [if_pos e, e, em_z h6]; rfl
      · rw [if_neg e]
end
end Go.Proofs.Ytmalpmnmknpphaa.TM
namespace Go.Proofs.Ytmalpmnmknpphaa.TM
open Go Go.RowKit
def Sol (P R C : Nat) (l b : List Int) : Prop := ∃ x : Nat → Int, ∀ i, i < R → apX C (cl C l) x i % P = b.getD i 0 % P
theorem timesM_ap {p : Int} {R C : Nat} {l x : List Int} (hl : l.length = R * C) (hx : x.length = C) {i : Nat} (hi : i < R) : (timesM p R C l x).getD i 0 = apX C (cl C l) (fun j => x.getD j 0) i % p := timesM_get hl hx hi
theorem in_mod {p a : Int} (h : In p a) : a % p = a := Int.emod_eq_of_lt h.1 h.2
theorem list_ext0 {a b : List Int} {n : Nat} (ha : a.length = n) (hb : b.length = n) (h : ∀ i, i < n → a.getD i 0 = b.getD i 0) : a = b := by
  rw [tbl_of ha, tbl_of hb]; exact tbl_congr h
section
variable {P R C : Nat} {l b : List Int}
theorem times_sol (hl : l.length = R * C) {x : List Int} (hx : x.length = C) (h : timesM P R C l x = b) : Sol P R C l b :=
  ⟨fun j => x.getD j 0, fun i hi => by rw [← h, timesM_ap hl hx hi, em_refl]⟩
theorem solX_rows (hP : Prm P) (M : Mt P R C l) (hin : ∀ a ∈ l, In P a) (b : List Int) : ∀ k, k < (tkCup P C R l).1.length → apX C (cl C l) (fun j => (solX P C (tkCup P C R l) b).getD j 0) (rwC (tkCup P C R l) k) % P = b.getD (rwC (tkCup P C R l) k) 0 % P := by
  have H := tkCup_Cp hP M hin
  have hw := tkCup_W hP M hin
  intro k hk
  rw [H.ap (H.rlt k hk), ← halves_ok hP H b k hk]
  refine sumN_mod fun m hm => em_mul rfl ?_
  exact (solved_ok hP M.hp hw H _ (zeroV_len C) _ (Nat.le_refl _)).2 m (by omega) hm
theorem sol_iff (hP : Prm P) (M : Mt P R C l) (hin : ∀ a ∈ l, In P a) (hb : ∀ a ∈ b, In P a) (hbl : b.length = R) : timesM P R C l (solX P C (tkCup P C R l) b) = b ↔ Sol P R C l b := by
  have H := tkCup_Cp hP M hin
  constructor
  · exact times_sol M.len (solX_len ..)
  · rintro ⟨x, hx⟩
    refine list_ext0 (timesM_len ..) hbl fun i hi => ?_
    rw [timesM_ap M.len (solX_len ..) hi, ← in_mod (getD_of hb (i := i) (by omega)), ← hx i hi, H.ap hi, H.ap hi]
    refine sumN_mod fun k hk => em_mul rfl ?_
    have h0 := H.cinj (z := fun k => apX C (uuC (tkCup P C R l)) (fun j => (solX P C (tkCup P C R l) b).getD j 0) k - apX C (uuC (tkCup P C R l)) x k) fun m hm => by
      rw [sumN_congr fun k _ => Int.mul_sub .., sumN_sub]
      refine emod_sub0.1 ?_
      have h1 := solX_rows hP M hin b m hm
      have h2 := hx _ (H.rlt m hm)
      rw [H.ap (H.rlt m hm)] at h1 h2
      rw [h1, h2]
    exact emod_sub0.2 (h0 k hk)
structure RowV (P R C : Nat) (l : List Int) (c : CupT) (i : Nat) (y : List Int) : Prop where
  len : y.length = R
  inn : ∀ a ∈ y, In P a
  one : y.getD i 0 = 1
  sup : ∀ m, m < R → m ≠ i → (∀ k, k < c.1.length → m ≠ rwC c k) → y.getD m 0 = 0
  zero : ∀ j, j < C → sumN R (fun m => y.getD m 0 * cl C l m j) % P = 0
theorem RowV.left {c : CupT} {i : Nat} {y : List Int} (hp : Md P) (V : RowV P R C l c i y) (hl : l.length = R * C) : leftM P y R C l = zeroV C :=
  list_ext0 (leftM_len ..) (zeroV_len C) fun k hk => by rw [leftM_get V.len hk, V.zero k hk]; exact (show (zeroV C).getD k 0 = 0 from tbl_getD _ hk).symm
end
end Go.Proofs.Ytmalpmnmknpphaa.TM
namespace Go.Proofs.Ytmalpmnmknpphaa.TM
open Go Go.RowKit
theorem len_ok {P R C : Nat} {l : List Int} (M : Mt P R C l) : l.length ≤ maxLen := by have := M.len; have := rc_bd M.r2 M.c2; rw [mx_len]; omega
theorem w64_of_in {P : Int} (hp : Md P) {l : List Int} (h : ∀ a ∈ l, In P a) : W64s l := fun a ha => in_w64 hp (h a ha)
theorem solve_sol {P R C : Nat} {l b : List Int} (hP : Prm P) (M : Mt P R C l) (hin : ∀ a ∈ l, In P a) (hb : ∀ a ∈ b, In P a) (hbl : b.length = R) (hs : Sol P R C l b) : CallsP Try.prog 25 [u64 P, matP R C l, lu b] (.tup [lu (solX P C (tkCup P C R l) b), i64 0]) := by
  have h := solve_yes hP M hin hb hbl
  rw [if_pos ((sol_iff hP M hin hb hbl).2 hs)] at h; exact h
theorem solve_none {P R C : Nat} {l b : List Int} (hP : Prm P) (M : Mt P R C l) (hin : ∀ a ∈ l, In P a) (hb : ∀ a ∈ b, In P a) (hbl : b.length = R) (hs : ¬ Sol P R C l b) : CallsP Try.prog 25 [u64 P, matP R C l, lu b] (.tup [lu [], i64 6]) := by
  have h := solve_yes hP M hin hb hbl
  rw [if_neg fun e => hs ((sol_iff hP M hin hb hbl).1 e)] at h; exact h
end Go.Proofs.Ytmalpmnmknpphaa.TM
namespace Go.Proofs.Ytmalpmnmknpphaa.TM
open Go Go.RowKit
theorem apX_cong {p : Int} {C : Nat} {A B : Mx} {x : Nat → Int} {i : Nat} (h : ∀ j, j < C → A i j % p = B i j % p) : apX C A x i % p = apX C B x i % p := sumN_mod fun j hj => em_mul (h j hj) rfl
theorem apX_id {C : Nat} {x : Nat → Int} {i : Nat} (hi : i < C) : apX C idX x i = x i := by
  unfold apX
  rw [← sumN_one x hi]
  refine sumN_congr fun j _ => ?_
  unfold idX
  by_cases e : j = i
  · rw [if_pos e, if_pos e, Int.one_mul]
  · rw [if_neg e, if_neg e, Int.zero_mul]
def InvX (P R : Nat) (A U : Mx) : Prop := ∀ i j, i < R → j < R → mulX R A U i j % P = idX i j % P
def InjX (P R : Nat) (A : Mx) : Prop := ∀ x : Nat → Int, (∀ i, i < R → apX R A x i % P = 0) → ∀ j, j < R → x j % P = 0
section
variable {P R : Nat} {A B U V : Mx}
theorem InvX.ap (h : InvX P R A U) (x : Nat → Int) {i : Nat} (hi : i < R) : apX R A (apX R U x) i % P = x i % P := by
  rw [← apX_mul, apX_cong (B := idX) (fun j hj => h i j hi hj), apX_id hi]
theorem InvX.left (h : InvX P R A U) (hI : InjX P R A) : InvX P R U A := fun k j hk hj => by
  refine emod_sub0.2 (hI (fun k => mulX R U A k j - idX k j) (fun i hi => ?_) k hk)
  rw [apX_sub]
  refine emod_sub0.1 ?_
  have h1 : apX R A (fun j_1 => mulX R U A j_1 j) i % P = A i j % P := h.ap (fun m => A m j) hi
  rw [h1]
  have h2 : apX R A (fun m => idX m j) i = A i j := by
    unfold apX
    rw [← sumN_one (fun m => A i m) hj]
    refine sumN_congr fun m _ => ?_
    show A i m * (if j = m then 1 else 0) = if m = j then A i m else 0
    by_cases e : m = j
    · rw [if_pos e.symm, if_pos e, Int.mul_one]
    · rw [if_neg (fun h => e h.symm), if_neg e, Int.mul_zero]
  rw [h2]
theorem InvX.mul (h : InvX P R A U) (k : InvX P R B V) : InvX P R (mulX R A B) (mulX R V U) := fun i j hi hj => by
  have e : mulX R (mulX R A B) (mulX R V U) i j = apX R A (apX R B (apX R V (fun k => U k j))) i := by
    show apX R (mulX R A B) (apX R V (fun k => U k j)) i = _
    rw [apX_mul]
  rw [e]
  exact (apX_mod (fun m hm => k.ap (fun k => U k j) hm) i).trans (h i j hi hj)
end
section
variable {P R : Nat} {l : List Int}
end
end Go.Proofs.Ytmalpmnmknpphaa.TM
namespace Go.Proofs.Ytmalpmnmknpphaa.TM
open Go Go.RowKit
section
variable {P R C : Nat} {l b : List Int}
theorem has_in' (hp : Md P) {x : List Int} (h : ∀ a ∈ x, In P a) : HasB P x = true := (has_iff _ _).2 ⟨fun a ha => (h a ha).2, hp.1, hp.2⟩
theorem solvesB_yes (M : Mt P R C l) (hb : ∀ a ∈ b, In P a) (hbl : b.length = R) {x : List Int} (hx : ∀ a ∈ x, In P a) (hxl : x.length = C) (h : timesM P R C l x = b) : solvesB P R C l b x = true :=
  solves_iff.2 ⟨R, C, rfl, rfl, M, has_in' M.hp hx, hxl, hbl, has_in' M.hp hb, h⟩
end
end Go.Proofs.Ytmalpmnmknpphaa.TM
namespace Go.Proofs.Ytmalpmnmknpphaa.TM
open Go Go.RowKit
def vecL (P n C : Nat) : List Int := tbl C (vec P n)
theorem vecL_len (P n C : Nat) : (vecL P n C).length = C := tbl_len ..
theorem vecL_get {P n C i : Nat} (h : i < C) : (vecL P n C).getD i 0 = vec P n i := tbl_getD _ h
theorem vecL_in {P : Nat} (h : 0 < P) (n C : Nat) : ∀ a ∈ vecL P n C, In P a := fun a ha => by
  obtain ⟨q, _, rfl⟩ := tbl_mem ha
  exact vec_in h n q
theorem cnt_le (f : Nat → Bool) : ∀ n, cntN n f ≤ n
  | 0 => Nat.le_refl 0
  | n + 1 => by rw [cntN]; have := cnt_le f n; split <;> omega
theorem rk_of {P R C : Nat} {l : List Int} (hP : Prm P) (M : Mt P R C l) (hin : ∀ a ∈ l, In P a) : Rk P R C (tkCup P C R l).1.length (cl C l) := ⟨_, _, _, _, tkCup_Cp hP M hin⟩
section
variable {P R C : Nat} {l b : List Int}
theorem sol_vec {n : Nat} : iB P R C (cl C l) n = true ↔ Sol P R C l (vecL P n R) := by
  rw [iB_iff]
  unfold Sol
  constructor
  · rintro ⟨x, h⟩
    exact ⟨x, fun i hi => by rw [vecL_get hi]; exact h i hi⟩
  · rintro ⟨x, h⟩
    exact ⟨x, fun i hi => by rw [← vecL_get hi]; exact h i hi⟩
theorem cnt_sol (hP : Prm P) (M : Mt P R C l) (hin : ∀ a ∈ l, In P a) : cntN (P ^ R) (iB P R C (cl C l)) = P ^ (tkCup P C R l).1.length := (rk_of hP M hin).ic hP
end
section
variable {P R S C : Nat} {a b c : List Int}
end
end Go.Proofs.Ytmalpmnmknpphaa.TM
namespace Go.Proofs.Ytmalpmnmknpphaa.TM
open Go Go.RowKit
attribute [local irreducible] K W WOps Effs Xg Xo Xr Xdg Xdo Xdr Xif CallsP CallR
theorem vec_u64 {P n j : Nat} (hn : n < 18446744073709551616) : ((n / P ^ j : Nat) : Int) < 18446744073709551616 := by
  have := Nat.div_le_self n (P ^ j); omega
set_option maxHeartbeats 4000000 in
theorem vector12_walk {P : Nat} (hp : 1 ≤ P) (n C : Nat) (c1 : 1 ≤ C) (c2 : C ≤ 64) (hn : n < 18446744073709551616) : CallsP Try.prog 16 [u64 P, u64 n, i64 C] (lu (vecL P n C)) := by
  have p0 : ¬ (P : Int) = 0 := by omega
  unfold vecL
  have hq : ∀ j, (((n / P ^ j : Nat) : Int)) / (P : Int) = ((n / P ^ (j + 1) : Nat) : Int) := fun j => by
    rw [Nat.pow_succ, ← Nat.div_div_eq_div_mul]; rfl
  have hr : ∀ j, (((n / P ^ j : Nat) : Int)) % (P : Int) = vec P n j := fun j => rfl
  have hb : ∀ j, ((n / P ^ j : Nat) : Int) < 18446744073709551616 := fun j => vec_u64 hn
  have q0 : ((n : Nat) : Int) = ((n / P ^ 0 : Nat) : Int) := by rw [Nat.pow_zero, Nat.div_one]
  obtain ⟨F, hF⟩ : ∃ F, F = vec P n := ⟨_, rfl⟩
  obtain ⟨G, hG⟩ : ∃ G : Nat → Nat, G = fun j => n / P ^ j := ⟨_, rfl⟩
  have hq' : ∀ j, ((G j : Nat) : Int) / (P : Int) = ((G (j + 1) : Nat) : Int) := fun j => by rw [hG]; exact hq j
  have hr' : ∀ j, ((G j : Nat) : Int) % (P : Int) = F j := fun j => by rw [hG, hF]; exact hr j
  have hb' : ∀ j, ((G j : Nat) : Int) < 18446744073709551616 := fun j => by rw [hG]; exact hb j
  have q0' : ((n : Nat) : Int) = ((G 0 : Nat) : Int) := by rw [hG]; exact q0
  rw [← hF, q0']
  clear hq hr hb q0 hF hG q0'
  refine X_startP (n := 24) (m := 3) (rs := [.tmp 6]) Try.func16 rfl rfl rfl rfl (by decide) fun base => ?_
  repeat (first | refine X_opc rfl ?_ | refine X_dopc rfl ?_ | refine ⟨(by show drawK _ _ = true; kernel_rfl : drawX _ _ _), ?_⟩ | exact (by show drawK _ _ = true; kernel_rfl : drawX _ _ _) | simp -dsimp (maxSteps := 20000000) (disch := omega) only [simx, zzC, zzB, tys, ite_self, opnL, callB, callX, readsB, stepOp, nilCmp, ofVal, opBuiltin, opLen, PV.sk, scalBin, scalUn, intBin, opLoad, natOf, opConvert, opField, cellsP, oneP, Value.oneCell', opStore, toIV, scalT, scalA, scalC, boxesA, boxesC, zipB_none, zipB_mx, isZ, opZip, zeroP, opAppendZ, opMakeMap, opLookup, mboxB, opUpdate, ↓reduceIte, Nat.reduceSub, Nat.reduceEqDiff, Nat.reduceAdd, Nat.reduceMul, Nat.reduceLT, Nat.reduceLeDiff, Int.reduceToNat, Int.reduceLE, Int.reduceLT, Int.reduceNeg, reduceCtorEq, gos, Int.reduceAdd, Int.reduceSub, Int.reduceMul, Int.reduceEq])
  refine X_loopH [0, 1, 2, 7, 8] [(5, 4) :: base] (0) (C) (fun j => True) (fun j => [(1, u64 (G j : Int)), (7, rowP ((5, 5) :: base) 1 j ((tbl j F).map iu)), (8, i64 j)]) (fun j => rowH Heap.none ((5, 5) :: base) j ((tbl j F).map iu)) ?_ ?_ ?_ ?_ ?_ (by decide) ?_
  · exact (fgt_cons (by simp only [Heap.none_at]) (by (simp -dsimp only [zzB, tys, ite_self, opnL, callB, callX, readsB, stepOp, nilCmp, ofVal, opBuiltin, opLen, PV.sk, scalBin, scalUn, intBin, opLoad, natOf, opConvert, opField, cellsP, oneP, Value.oneCell', opStore, toIV, scalT, scalA, scalC, boxesA, boxesC, zipB_none, zipB_mx, isZ, opZip, zeroP, opAppendZ, opMakeMap, opLookup, mboxB, opUpdate, ↓reduceIte, Nat.reduceSub, Nat.reduceEqDiff, Nat.reduceAdd, Nat.reduceMul, Nat.reduceLT, Nat.reduceLeDiff, Int.reduceToNat, Int.reduceLE, Int.reduceLT, Int.reduceNeg, reduceCtorEq, notIn_cons, notIn_nil]) <;> simp [refsL, refsP, mem_refs_rowP]) (by repeat (first | exact noVar_none _ | refine noVar_row ?_ | refine noVar_map ?_ | refine noVar_rowH ?_ | refine noVar_var ?_ (by simp [refsL, refsP, mem_refs_rowP]))) (fgt_nil))
  · ((simp -dsimp (disch := omega) only [simx, zzB, tys, ite_self, opnL, callB, callX, readsB, stepOp, nilCmp, ofVal, opBuiltin, opLen, PV.sk, scalBin, scalUn, intBin, opLoad, natOf, opConvert, opField, cellsP, oneP, Value.oneCell', opStore, toIV, scalT, scalA, scalC, boxesA, boxesC, zipB_none, zipB_mx, isZ, opZip, zeroP, opAppendZ, opMakeMap, opLookup, mboxB, opUpdate, ↓reduceIte, Nat.reduceSub, Nat.reduceEqDiff, Nat.reduceAdd, Nat.reduceMul, Nat.reduceLT, Nat.reduceLeDiff, Int.reduceToNat, Int.reduceLE, Int.reduceLT, Int.reduceNeg, reduceCtorEq, gos, Int.reduceAdd, Int.reduceSub, Int.reduceMul, Int.reduceEq]) <;> first | rfl | simp [rowP])
  · funext c
    simp (maxSteps := 20000000) only [Heap.drop_at, rowH_app, Heap.put_at, Heap.none_at, List.mem_cons, List.not_mem_nil, or_false]
    by_cases e0 : c = (5, 4) :: base
    · subst e0; simp []
    by_cases e1 : c = (5, 5) :: base
    · subst e1; simp []
    simp [e0, e1]
  · omega
  · trivial
  · intro j hj _
    by_cases cj : j < C
    · have t1 := tbl_succ j F
      have l1 := tbl_len j F
      have h1 := hq' j
      have h2 := hr' j
      have h3 := hb' j
      have h5 : IntKind.u64.wrap ((G (j + 1) : Nat) : Int) = ((G (j + 1) : Nat) : Int) := uw_of (by omega) (hb' (j + 1))
      generalize F j = s at h2 t1
      generalize hg : G (j + 1) = g' at h1 h5
      generalize G j = g at h1 h2 h3 ⊢
      repeat (first | refine X_opc rfl ?_ | refine X_dopc rfl ?_ | refine ⟨(by show drawK _ _ = true; kernel_rfl : drawX _ _ _), ?_⟩ | exact (by show drawK _ _ = true; kernel_rfl : drawX _ _ _) | simp -dsimp (maxSteps := 20000000) (disch := omega) only [simx, zzC, zzB, tys, ite_self, opnL, callB, callX, readsB, stepOp, nilCmp, ofVal, opBuiltin, opLen, PV.sk, scalBin, scalUn, intBin, opLoad, natOf, opConvert, opField, cellsP, oneP, Value.oneCell', opStore, toIV, scalT, scalA, scalC, boxesA, boxesC, zipB_none, zipB_mx, isZ, opZip, zeroP, opAppendZ, opMakeMap, opLookup, mboxB, opUpdate, ↓reduceIte, Nat.reduceSub, Nat.reduceEqDiff, Nat.reduceAdd, Nat.reduceMul, Nat.reduceLT, Nat.reduceLeDiff, Int.reduceToNat, Int.reduceLE, Int.reduceLT, Int.reduceNeg, reduceCtorEq, gos, Int.reduceAdd, Int.reduceSub, Int.reduceMul, Int.reduceEq, cj, p0, h2])
      refine X_append_one 22 [.int .u64 0] [iu s] (by simp only [tys]) (by simp only [tys]) rfl (by decide) (by rw [List.length_map, l1, Nat.mul_one]) (by simp [Heap.put_at, Heap.none_at, rowH_app]) (by simp [Heap.put_at]; rfl) rfl (by simp only [tys]; omega) (by rw [mx_len]; omega) ?_
      repeat (first | refine X_opc rfl ?_ | refine X_dopc rfl ?_ | refine ⟨(by show drawK _ _ = true; kernel_rfl : drawX _ _ _), ?_⟩ | exact (by show drawK _ _ = true; kernel_rfl : drawX _ _ _) | simp -dsimp (maxSteps := 20000000) (disch := omega) only [simx, zzC, zzB, tys, ite_self, opnL, callB, callX, readsB, stepOp, nilCmp, ofVal, opBuiltin, opLen, PV.sk, scalBin, scalUn, intBin, opLoad, natOf, opConvert, opField, cellsP, oneP, Value.oneCell', opStore, toIV, scalT, scalA, scalC, boxesA, boxesC, zipB_none, zipB_mx, isZ, opZip, zeroP, opAppendZ, opMakeMap, opLookup, mboxB, opUpdate, ↓reduceIte, Nat.reduceSub, Nat.reduceEqDiff, Nat.reduceAdd, Nat.reduceMul, Nat.reduceLT, Nat.reduceLeDiff, Int.reduceToNat, Int.reduceLE, Int.reduceLT, Int.reduceNeg, reduceCtorEq, gos, Int.reduceAdd, Int.reduceSub, Int.reduceMul, Int.reduceEq, cj, p0, h1, h5])
      refine ⟨cj, (fgt_cons (by simp only [Heap.none_at]) (by (simp -dsimp only [zzB, tys, ite_self, opnL, callB, callX, readsB, stepOp, nilCmp, ofVal, opBuiltin, opLen, PV.sk, scalBin, scalUn, intBin, opLoad, natOf, opConvert, opField, cellsP, oneP, Value.oneCell', opStore, toIV, scalT, scalA, scalC, boxesA, boxesC, zipB_none, zipB_mx, isZ, opZip, zeroP, opAppendZ, opMakeMap, opLookup, mboxB, opUpdate, ↓reduceIte, Nat.reduceSub, Nat.reduceEqDiff, Nat.reduceAdd, Nat.reduceMul, Nat.reduceLT, Nat.reduceLeDiff, Int.reduceToNat, Int.reduceLE, Int.reduceLT, Int.reduceNeg, reduceCtorEq, notIn_cons, notIn_nil]) <;> simp [refsL, refsP, mem_refs_rowP]) (by repeat (first | exact noVar_none _ | refine noVar_row ?_ | refine noVar_map ?_ | refine noVar_rowH ?_ | refine noVar_var ?_ (by simp [refsL, refsP, mem_refs_rowP]))) (fgt_nil)), ?_, ?_⟩
      · rw [t1, hg]; simp
      · funext c
        simp (maxSteps := 20000000) only [Heap.drop_at, rowH_app, Heap.put_at, Heap.none_at, List.mem_cons, List.not_mem_nil, or_false]
        by_cases e0 : c = (5, 4) :: base
        · subst e0; simp [t1]
        by_cases e1 : c = (5, 5) :: base
        · subst e1; simp [t1]
        simp [e0, e1, t1]
    · obtain rfl : C = j := by omega
      have rp := fun s z cs => rowP_pos s z cs (show 0 < C by omega)
      have rh := fun h s cs => rowH_pos h s cs (show 0 < C by omega)
      have l1 := tbl_len C F
      have e2 : ((tbl C F).map iu).take C = (tbl C F).map iu := List.take_of_length_le (by rw [List.length_map, l1]; exact Nat.le_refl _)
      repeat (first | refine X_opc rfl ?_ | refine X_dopc rfl ?_ | refine ⟨(by show drawK _ _ = true; kernel_rfl : drawX _ _ _), ?_⟩ | exact (by show drawK _ _ = true; kernel_rfl : drawX _ _ _) | simp -dsimp (maxSteps := 20000000) (disch := omega) only [simx, zzC, zzB, tys, ite_self, opnL, callB, callX, readsB, stepOp, nilCmp, ofVal, opBuiltin, opLen, PV.sk, scalBin, scalUn, intBin, opLoad, natOf, opConvert, opField, cellsP, oneP, Value.oneCell', opStore, toIV, scalT, scalA, scalC, boxesA, boxesC, zipB_none, zipB_mx, isZ, opZip, zeroP, opAppendZ, opMakeMap, opLookup, mboxB, opUpdate, ↓reduceIte, Nat.reduceSub, Nat.reduceEqDiff, Nat.reduceAdd, Nat.reduceMul, Nat.reduceLT, Nat.reduceLeDiff, Int.reduceToNat, Int.reduceLE, Int.reduceLT, Int.reduceNeg, reduceCtorEq, zzR, gos, Int.reduceAdd, Int.reduceSub, Int.reduceMul, Int.reduceEq, rp, rh, List.length_map, l1, e2, lu])
end Go.Proofs.Ytmalpmnmknpphaa.TM
namespace Go.Proofs.Ytmalpmnmknpphaa.TM
open Go Go.RowKit
attribute [local irreducible] K W WOps Effs Xg Xo Xr Xdg Xdo Xdr Xif CallsP CallR
theorem rank14_of {P R C : Nat} {l : List Int} (hP : Prm P) (M : Mt P R C l) (hin : ∀ a ∈ l, In P a) : CallsP Try.prog 24 [u64 P, matP R C l] (.tup [i64 (tkCup P C R l).1.length, i64 0]) := by
  have h := rank_walk hP R C l (len_ok M) (w64_of_in M.hp hin)
  unfold rankR at h
  rw [takeR_mk M] at h; exact h
set_option maxHeartbeats 16000000 in
theorem witnessParts_true (a0 : Int) (a1 : Int × Int × List Int) (w0 : (Lit.int .u64 a0).wf = true) (w1 : ((Lit.int .i64 a1.1).wf = true ∧ (Lit.int .i64 a1.2.1).wf = true ∧ (a1.2.2.length ≤ maxLen ∧ ∀ e23_ ∈ a1.2.2, (Lit.int .u64 e23_).wf = true))) :
    CallsP Try.prog 5 [.i (IV.v (.int .u64 a0)), .agg [.i (IV.v (.int .i64 a1.1)), .i (IV.v (.int .i64 a1.2.1)), .i (IV.l a1.2.2.length (a1.2.2.map fun y => IV.v (.int .u64 y)))]] (bl true) := by
  obtain ⟨r, c, l⟩ := a1
  obtain ⟨v1, v2, v3, v4⟩ := w1
  simp only at v1 v2 v3 v4 ⊢
  have wp := w64_of w0
  obtain ⟨P, rfl⟩ : ∃ P : Nat, a0 = P := ⟨a0.toNat, by have := wp.1; omega⟩
  have wl := w64_all v4
  have d0 := awake14_walk
  change CallsP Try.prog 5 [u64 P, matP r c l] (bl true)
  by_cases c0 : (11 : Int) < P
  · refine X_startP (n := 114) (m := 2) (rs := [.tmp 4]) Try.func5 rfl rfl rfl rfl (by decide) fun base => ?_
    repeat (first | ((first | refine X_call_fn2 rfl (by simp only [tys]) ?_ | refine X_dcall_fn2 rfl (by simp only [tys]) ?_); apply Exists.intro; apply And.intro; (focus (simp -dsimp only [simx, zzC, zzB, tys, ite_self, opnL, callB, callX, readsB, stepOp, nilCmp, ofVal, opBuiltin, opLen, PV.sk, scalBin, scalUn, intBin, opLoad, natOf, opConvert, opField, cellsP, oneP, Value.oneCell', opStore, toIV, scalT, scalA, scalC, boxesA, boxesC, zipB_none, zipB_mx, isZ, opZip, zeroP, opAppendZ, opMakeMap, opLookup, mboxB, opUpdate, ↓reduceIte, Nat.reduceSub, Nat.reduceEqDiff, Nat.reduceAdd, Nat.reduceMul, Nat.reduceLT, Nat.reduceLeDiff, Int.reduceToNat, Int.reduceLE, Int.reduceLT, Int.reduceNeg, reduceCtorEq, zzL, if_true, if_false] <;> rfl)); apply Exists.intro; apply And.intro; (focus (first | exact d0))) | refine X_opc rfl ?_ | refine X_dopc rfl ?_ | refine ⟨(by show drawK _ _ = true; kernel_rfl : drawX _ _ _), ?_⟩ | exact (by show drawK _ _ = true; kernel_rfl : drawX _ _ _) | simp -dsimp (maxSteps := 20000000) (disch := omega) only [simx, zzC, zzB, tys, ite_self, opnL, callB, callX, readsB, stepOp, nilCmp, ofVal, opBuiltin, opLen, PV.sk, scalBin, scalUn, intBin, opLoad, natOf, opConvert, opField, cellsP, oneP, Value.oneCell', opStore, toIV, scalT, scalA, scalC, boxesA, boxesC, zipB_none, zipB_mx, isZ, opZip, zeroP, opAppendZ, opMakeMap, opLookup, mboxB, opUpdate, ↓reduceIte, Nat.reduceSub, Nat.reduceEqDiff, Nat.reduceAdd, Nat.reduceMul, Nat.reduceLT, Nat.reduceLeDiff, Int.reduceToNat, Int.reduceLE, Int.reduceLT, Int.reduceNeg, reduceCtorEq, zzR, gos, Int.reduceAdd, Int.reduceSub, Int.reduceMul, Int.reduceEq, c0])
  obtain ⟨pb, d1, hpr⟩ := is_walk P (by omega)
  have d2 := mright_walk P r c l v3
  cases pb with
  | false =>
    refine X_startP (n := 114) (m := 2) (rs := [.tmp 4]) Try.func5 rfl rfl rfl rfl (by decide) fun base => ?_
    repeat (first | ((first | refine X_call_fn2 rfl (by simp only [tys]) ?_ | refine X_dcall_fn2 rfl (by simp only [tys]) ?_); apply Exists.intro; apply And.intro; (focus (simp -dsimp only [simx, zzC, zzB, tys, ite_self, opnL, callB, callX, readsB, stepOp, nilCmp, ofVal, opBuiltin, opLen, PV.sk, scalBin, scalUn, intBin, opLoad, natOf, opConvert, opField, cellsP, oneP, Value.oneCell', opStore, toIV, scalT, scalA, scalC, boxesA, boxesC, zipB_none, zipB_mx, isZ, opZip, zeroP, opAppendZ, opMakeMap, opLookup, mboxB, opUpdate, ↓reduceIte, Nat.reduceSub, Nat.reduceEqDiff, Nat.reduceAdd, Nat.reduceMul, Nat.reduceLT, Nat.reduceLeDiff, Int.reduceToNat, Int.reduceLE, Int.reduceLT, Int.reduceNeg, reduceCtorEq, zzL, if_true, if_false] <;> rfl)); apply Exists.intro; apply And.intro; (focus (first | exact d0 | exact d1))) | refine X_opc rfl ?_ | refine X_dopc rfl ?_ | refine ⟨(by show drawK _ _ = true; kernel_rfl : drawX _ _ _), ?_⟩ | exact (by show drawK _ _ = true; kernel_rfl : drawX _ _ _) | simp -dsimp (maxSteps := 20000000) (disch := omega) only [simx, zzC, zzB, tys, ite_self, opnL, callB, callX, readsB, stepOp, nilCmp, ofVal, opBuiltin, opLen, PV.sk, scalBin, scalUn, intBin, opLoad, natOf, opConvert, opField, cellsP, oneP, Value.oneCell', opStore, toIV, scalT, scalA, scalC, boxesA, boxesC, zipB_none, zipB_mx, isZ, opZip, zeroP, opAppendZ, opMakeMap, opLookup, mboxB, opUpdate, ↓reduceIte, Nat.reduceSub, Nat.reduceEqDiff, Nat.reduceAdd, Nat.reduceMul, Nat.reduceLT, Nat.reduceLeDiff, Int.reduceToNat, Int.reduceLE, Int.reduceLT, Int.reduceNeg, reduceCtorEq, zzR, gos, Int.reduceAdd, Int.reduceSub, Int.reduceMul, Int.reduceEq, c0])
  | true =>
    have hP := hpr rfl
    by_cases c1 : (25 : Int) < l.length
    · refine X_startP (n := 114) (m := 2) (rs := [.tmp 4]) Try.func5 rfl rfl rfl rfl (by decide) fun base => ?_
      repeat (first | ((first | refine X_call_fn2 rfl (by simp only [tys]) ?_ | refine X_dcall_fn2 rfl (by simp only [tys]) ?_); apply Exists.intro; apply And.intro; (focus (simp -dsimp only [simx, zzC, zzB, tys, ite_self, opnL, callB, callX, readsB, stepOp, nilCmp, ofVal, opBuiltin, opLen, PV.sk, scalBin, scalUn, intBin, opLoad, natOf, opConvert, opField, cellsP, oneP, Value.oneCell', opStore, toIV, scalT, scalA, scalC, boxesA, boxesC, zipB_none, zipB_mx, isZ, opZip, zeroP, opAppendZ, opMakeMap, opLookup, mboxB, opUpdate, ↓reduceIte, Nat.reduceSub, Nat.reduceEqDiff, Nat.reduceAdd, Nat.reduceMul, Nat.reduceLT, Nat.reduceLeDiff, Int.reduceToNat, Int.reduceLE, Int.reduceLT, Int.reduceNeg, reduceCtorEq, zzL, if_true, if_false] <;> rfl)); apply Exists.intro; apply And.intro; (focus (first | exact d0 | exact d1))) | refine X_opc rfl ?_ | refine X_dopc rfl ?_ | refine ⟨(by show drawK _ _ = true; kernel_rfl : drawX _ _ _), ?_⟩ | exact (by show drawK _ _ = true; kernel_rfl : drawX _ _ _) | simp -dsimp (maxSteps := 20000000) (disch := omega) only [simx, zzC, zzB, tys, ite_self, opnL, callB, callX, readsB, stepOp, nilCmp, ofVal, opBuiltin, opLen, PV.sk, scalBin, scalUn, intBin, opLoad, natOf, opConvert, opField, cellsP, oneP, Value.oneCell', opStore, toIV, scalT, scalA, scalC, boxesA, boxesC, zipB_none, zipB_mx, isZ, opZip, zeroP, opAppendZ, opMakeMap, opLookup, mboxB, opUpdate, ↓reduceIte, Nat.reduceSub, Nat.reduceEqDiff, Nat.reduceAdd, Nat.reduceMul, Nat.reduceLT, Nat.reduceLeDiff, Int.reduceToNat, Int.reduceLE, Int.reduceLT, Int.reduceNeg, reduceCtorEq, zzR, gos, Int.reduceAdd, Int.reduceSub, Int.reduceMul, Int.reduceEq, c0, c1])
    cases hm : MatB P r c l with
    | false =>
      rw [hm] at d2
      refine X_startP (n := 114) (m := 2) (rs := [.tmp 4]) Try.func5 rfl rfl rfl rfl (by decide) fun base => ?_
      repeat (first | ((first | refine X_call_fn2 rfl (by simp only [tys]) ?_ | refine X_dcall_fn2 rfl (by simp only [tys]) ?_); apply Exists.intro; apply And.intro; (focus (simp -dsimp only [simx, zzC, zzB, tys, ite_self, opnL, callB, callX, readsB, stepOp, nilCmp, ofVal, opBuiltin, opLen, PV.sk, scalBin, scalUn, intBin, opLoad, natOf, opConvert, opField, cellsP, oneP, Value.oneCell', opStore, toIV, scalT, scalA, scalC, boxesA, boxesC, zipB_none, zipB_mx, isZ, opZip, zeroP, opAppendZ, opMakeMap, opLookup, mboxB, opUpdate, ↓reduceIte, Nat.reduceSub, Nat.reduceEqDiff, Nat.reduceAdd, Nat.reduceMul, Nat.reduceLT, Nat.reduceLeDiff, Int.reduceToNat, Int.reduceLE, Int.reduceLT, Int.reduceNeg, reduceCtorEq, zzL, if_true, if_false] <;> rfl)); apply Exists.intro; apply And.intro; (focus (first | exact d0 | exact d1 | exact d2))) | refine X_opc rfl ?_ | refine X_dopc rfl ?_ | refine ⟨(by show drawK _ _ = true; kernel_rfl : drawX _ _ _), ?_⟩ | exact (by show drawK _ _ = true; kernel_rfl : drawX _ _ _) | simp -dsimp (maxSteps := 20000000) (disch := omega) only [simx, zzC, zzB, tys, ite_self, opnL, callB, callX, readsB, stepOp, nilCmp, ofVal, opBuiltin, opLen, PV.sk, scalBin, scalUn, intBin, opLoad, natOf, opConvert, opField, cellsP, oneP, Value.oneCell', opStore, toIV, scalT, scalA, scalC, boxesA, boxesC, zipB_none, zipB_mx, isZ, opZip, zeroP, opAppendZ, opMakeMap, opLookup, mboxB, opUpdate, ↓reduceIte, Nat.reduceSub, Nat.reduceEqDiff, Nat.reduceAdd, Nat.reduceMul, Nat.reduceLT, Nat.reduceLeDiff, Int.reduceToNat, Int.reduceLE, Int.reduceLT, Int.reduceNeg, reduceCtorEq, zzR, gos, Int.reduceAdd, Int.reduceSub, Int.reduceMul, Int.reduceEq, c0, c1])
    | true =>
      rw [hm] at d2
      by_cases c2 : r = c
      case neg =>
        refine X_startP (n := 114) (m := 2) (rs := [.tmp 4]) Try.func5 rfl rfl rfl rfl (by decide) fun base => ?_
        repeat (first | ((first | refine X_call_fn2 rfl (by simp only [tys]) ?_ | refine X_dcall_fn2 rfl (by simp only [tys]) ?_); apply Exists.intro; apply And.intro; (focus (simp -dsimp only [simx, zzC, zzB, tys, ite_self, opnL, callB, callX, readsB, stepOp, nilCmp, ofVal, opBuiltin, opLen, PV.sk, scalBin, scalUn, intBin, opLoad, natOf, opConvert, opField, cellsP, oneP, Value.oneCell', opStore, toIV, scalT, scalA, scalC, boxesA, boxesC, zipB_none, zipB_mx, isZ, opZip, zeroP, opAppendZ, opMakeMap, opLookup, mboxB, opUpdate, ↓reduceIte, Nat.reduceSub, Nat.reduceEqDiff, Nat.reduceAdd, Nat.reduceMul, Nat.reduceLT, Nat.reduceLeDiff, Int.reduceToNat, Int.reduceLE, Int.reduceLT, Int.reduceNeg, reduceCtorEq, zzL, if_true, if_false] <;> rfl)); apply Exists.intro; apply And.intro; (focus (first | exact d0 | exact d1 | exact d2))) | refine X_opc rfl ?_ | refine X_dopc rfl ?_ | refine ⟨(by show drawK _ _ = true; kernel_rfl : drawX _ _ _), ?_⟩ | exact (by show drawK _ _ = true; kernel_rfl : drawX _ _ _) | simp -dsimp (maxSteps := 20000000) (disch := omega) only [simx, zzC, zzB, tys, ite_self, opnL, callB, callX, readsB, stepOp, nilCmp, ofVal, opBuiltin, opLen, PV.sk, scalBin, scalUn, intBin, opLoad, natOf, opConvert, opField, cellsP, oneP, Value.oneCell', opStore, toIV, scalT, scalA, scalC, boxesA, boxesC, zipB_none, zipB_mx, isZ, opZip, zeroP, opAppendZ, opMakeMap, opLookup, mboxB, opUpdate, ↓reduceIte, Nat.reduceSub, Nat.reduceEqDiff, Nat.reduceAdd, Nat.reduceMul, Nat.reduceLT, Nat.reduceLeDiff, Int.reduceToNat, Int.reduceLE, Int.reduceLT, Int.reduceNeg, reduceCtorEq, zzR, gos, Int.reduceAdd, Int.reduceSub, Int.reduceMul, Int.reduceEq, c0, c1, c2])
      subst c2
      obtain ⟨R, R', rfl, e2, M⟩ := mat_of hm
      obtain rfl : R = R' := by omega
      have hin : ∀ a ∈ l, In P a := fun a ha => in_of M.has wl ha
      have s1 := rank14_of hP M hin
      have kr := (tkCup_W hP M hin).rle
      have hc := cnt_sol hP M hin
      have r1 := M.r1
      have r2 := M.r2
      have ml := M.len
      have P2 : 2 ≤ P := hP.1
      have P11 : P ≤ 11 := by omega
      have rounds : ∀ n : Nat, n < 18446744073709551616 → CallsP Try.prog 16 [u64 P, u64 n, i64 R] (lu (vecL P n R)) ∧ (iB P R R (cl R l) n = true ∧ (∃ s, CallsP Try.prog 25 [u64 P, matP R R l, lu (vecL P n R)] (.tup [lu s, i64 0]) ∧ CallsP Try.prog 26 [u64 P, matP R R l, lu (vecL P n R), lu s] (bl true)) ∨ iB P R R (cl R l) n = false ∧ CallsP Try.prog 25 [u64 P, matP R R l, lu (vecL P n R)] (.tup [lu [], i64 6])) := fun n hn => by
        refine ⟨vector12_walk (by omega) n R r1 r2 hn, ?_⟩
        have vl := vecL_len P n R
        have vi := vecL_in (show 0 < P by omega) n R
        cases hf : iB P R R (cl R l) n with
        | true =>
          have hs := sol_vec.1 hf
          refine .inl ⟨rfl, _, solve_sol hP M hin vi vl hs, ?_⟩
          have t := meets_walk P R R l (vecL P n R) (solX P R (tkCup P R R l) (vecL P n R)) v3 (by rw [vl, mx_len]; omega) (by rw [solX_len, mx_len]; omega) wl (w64_of_in M.hp (solX_in M.hp _ _))
          rw [solvesB_yes M vi vl (solX_in M.hp _ _) (solX_len ..) ((sol_iff hP M hin vi vl).2 hs), decide_eq_true rfl] at t
          exact t
        | false =>
          exact .inr ⟨rfl, solve_none hP M hin vi vl fun hs => by rw [sol_vec.2 hs] at hf; cases hf⟩
      generalize iB P R R (cl R l) = f at hc rounds
      generalize (tkCup P R R l).1.length = K at s1 kr hc
      obtain ⟨A, hA⟩ : ∃ A : Nat → Nat, A = fun j => P ^ j := ⟨_, rfl⟩
      obtain ⟨I, hI⟩ : ∃ I : Nat → Nat, I = fun j => P ^ (min j K) := ⟨_, rfl⟩
      have A0 : A 0 = 1 := by rw [hA]; rfl
      have I0 : I 0 = 1 := by rw [hI]; simp
      have An : ∀ j, A j * P = A (j + 1) := fun j => by rw [hA]; exact (Nat.pow_succ ..).symm
      have Iy : ∀ j, j < K → I j * P = I (j + 1) := fun j h => by rw [hI]; simp only; rw [Nat.min_eq_left (by omega), Nat.min_eq_left (by omega)]; exact (Nat.pow_succ ..).symm
      have In' : ∀ j, ¬ j < K → I (j + 1) = I j := fun j h => by rw [hI]; simp only; rw [Nat.min_eq_right (by omega), Nat.min_eq_right (by omega)]
      have IA : ∀ j, I j ≤ A j := fun j => by rw [hI, hA]; exact Nat.pow_le_pow_right (by omega) (by omega)
      have hN : P ^ R = A R := by rw [hA]
      have hM : P ^ K = I R := by rw [hI]; simp only; rw [Nat.min_eq_right kr]
      have hD : K ≠ R → I R ≤ A (R - 1) := fun h => by rw [hI, hA]; simp only; rw [Nat.min_eq_right kr]; exact Nat.pow_le_pow_right (by omega) (by omega)
      have hQ : ((A R : Nat) : Int) / (P : Int) = ((A (R - 1) : Nat) : Int) := by
        rw [show A R = A (R - 1) * P by rw [An, show R - 1 + 1 = R by omega]]
        rw [Int.natCast_mul]
        exact Int.mul_ediv_cancel _ (by omega)
      rw [hN, hM] at hc
      clear hN hM hA hI hP hpr hin wl v4 kr
      have p0 : ¬ (P : Int) = 0 := by omega
      refine X_startP (n := 114) (m := 2) (rs := [.tmp 4]) Try.func5 rfl rfl rfl rfl (by decide) fun base => ?_
      repeat (first | ((first | refine X_call_fn2 rfl (by simp only [tys]) ?_ | refine X_dcall_fn2 rfl (by simp only [tys]) ?_); apply Exists.intro; apply And.intro; (focus (simp -dsimp only [simx, zzC, zzB, tys, ite_self, opnL, callB, callX, readsB, stepOp, nilCmp, ofVal, opBuiltin, opLen, PV.sk, scalBin, scalUn, intBin, opLoad, natOf, opConvert, opField, cellsP, oneP, Value.oneCell', opStore, toIV, scalT, scalA, scalC, boxesA, boxesC, zipB_none, zipB_mx, isZ, opZip, zeroP, opAppendZ, opMakeMap, opLookup, mboxB, opUpdate, ↓reduceIte, Nat.reduceSub, Nat.reduceEqDiff, Nat.reduceAdd, Nat.reduceMul, Nat.reduceLT, Nat.reduceLeDiff, Int.reduceToNat, Int.reduceLE, Int.reduceLT, Int.reduceNeg, reduceCtorEq, zzL, if_true, if_false] <;> rfl)); apply Exists.intro; apply And.intro; (focus (first | exact d0 | exact d1 | exact d2 | exact s1))) | refine X_opc rfl ?_ | refine X_dopc rfl ?_ | refine ⟨(by show drawK _ _ = true; kernel_rfl : drawX _ _ _), ?_⟩ | exact (by show drawK _ _ = true; kernel_rfl : drawX _ _ _) | simp -dsimp (maxSteps := 20000000) (disch := omega) only [simx, zzC, zzB, tys, ite_self, opnL, callB, callX, readsB, stepOp, nilCmp, ofVal, opBuiltin, opLen, PV.sk, scalBin, scalUn, intBin, opLoad, natOf, opConvert, opField, cellsP, oneP, Value.oneCell', opStore, toIV, scalT, scalA, scalC, boxesA, boxesC, zipB_none, zipB_mx, isZ, opZip, zeroP, opAppendZ, opMakeMap, opLookup, mboxB, opUpdate, ↓reduceIte, Nat.reduceSub, Nat.reduceEqDiff, Nat.reduceAdd, Nat.reduceMul, Nat.reduceLT, Nat.reduceLeDiff, Int.reduceToNat, Int.reduceLE, Int.reduceLT, Int.reduceNeg, reduceCtorEq, gos, Int.reduceAdd, Int.reduceSub, Int.reduceMul, Int.reduceEq, c0, c1])
      refine X_loopH [0, 3, 5, 6, 7, 8, 9] [] (0) (R) (fun j => A j ≤ 1000) (fun j => [(5, u64 (A j : Int)), (6, u64 (I j : Int)), (9, i64 j)]) (fun j => Heap.none.put ((0, 0) :: base) (.var [i64 R, i64 R, lu l])) ?_ ?_ ?_ ?_ ?_ (by decide) ?_
      · exact (fgt_nil)
      · ((simp -dsimp (disch := omega) only [simx, zzB, tys, ite_self, opnL, callB, callX, readsB, stepOp, nilCmp, ofVal, opBuiltin, opLen, PV.sk, scalBin, scalUn, intBin, opLoad, natOf, opConvert, opField, cellsP, oneP, Value.oneCell', opStore, toIV, scalT, scalA, scalC, boxesA, boxesC, zipB_none, zipB_mx, isZ, opZip, zeroP, opAppendZ, opMakeMap, opLookup, mboxB, opUpdate, ↓reduceIte, Nat.reduceSub, Nat.reduceEqDiff, Nat.reduceAdd, Nat.reduceMul, Nat.reduceLT, Nat.reduceLeDiff, Int.reduceToNat, Int.reduceLE, Int.reduceLT, Int.reduceNeg, reduceCtorEq, gos, Int.reduceAdd, Int.reduceSub, Int.reduceMul, Int.reduceEq]) <;> first | rfl | simp [A0, I0])
      · exact drop_nil _
      · omega
      · rw [A0]; omega
      · intro j hj hA1
        by_cases cj : j < R
        · have an := An j
          have ia := IA j
          have ia' := IA (j + 1)
          have m1 : A j * P ≤ 1000 * 11 := Nat.mul_le_mul hA1 P11
          have w1 : IntKind.u64.wrap ((A j : Int) * (P : Int)) = ((A (j + 1) : Nat) : Int) := by rw [← Int.natCast_mul, an]; exact uw_of (by omega) (by omega)
          by_cases cK : (j : Int) < K
          · have iy := Iy j (by omega)
            have w2 : IntKind.u64.wrap ((I j : Int) * (P : Int)) = ((I (j + 1) : Nat) : Int) := by rw [← Int.natCast_mul, iy]; exact uw_of (by omega) (by omega)
            by_cases c3 : (1000 : Int) < A (j + 1)
            · repeat (first | refine X_opc rfl ?_ | refine X_dopc rfl ?_ | refine ⟨(by show drawK _ _ = true; kernel_rfl : drawX _ _ _), ?_⟩ | exact (by show drawK _ _ = true; kernel_rfl : drawX _ _ _) | simp -dsimp (maxSteps := 20000000) (disch := omega) only [simx, zzC, zzB, tys, ite_self, opnL, callB, callX, readsB, stepOp, nilCmp, ofVal, opBuiltin, opLen, PV.sk, scalBin, scalUn, intBin, opLoad, natOf, opConvert, opField, cellsP, oneP, Value.oneCell', opStore, toIV, scalT, scalA, scalC, boxesA, boxesC, zipB_none, zipB_mx, isZ, opZip, zeroP, opAppendZ, opMakeMap, opLookup, mboxB, opUpdate, ↓reduceIte, Nat.reduceSub, Nat.reduceEqDiff, Nat.reduceAdd, Nat.reduceMul, Nat.reduceLT, Nat.reduceLeDiff, Int.reduceToNat, Int.reduceLE, Int.reduceLT, Int.reduceNeg, reduceCtorEq, zzR, gos, Int.reduceAdd, Int.reduceSub, Int.reduceMul, Int.reduceEq, cj, cK, w1, w2, c3])
            · repeat (first | refine X_opc rfl ?_ | refine X_dopc rfl ?_ | refine ⟨(by show drawK _ _ = true; kernel_rfl : drawX _ _ _), ?_⟩ | exact (by show drawK _ _ = true; kernel_rfl : drawX _ _ _) | simp -dsimp (maxSteps := 20000000) (disch := omega) only [simx, zzC, zzB, tys, ite_self, opnL, callB, callX, readsB, stepOp, nilCmp, ofVal, opBuiltin, opLen, PV.sk, scalBin, scalUn, intBin, opLoad, natOf, opConvert, opField, cellsP, oneP, Value.oneCell', opStore, toIV, scalT, scalA, scalC, boxesA, boxesC, zipB_none, zipB_mx, isZ, opZip, zeroP, opAppendZ, opMakeMap, opLookup, mboxB, opUpdate, ↓reduceIte, Nat.reduceSub, Nat.reduceEqDiff, Nat.reduceAdd, Nat.reduceMul, Nat.reduceLT, Nat.reduceLeDiff, Int.reduceToNat, Int.reduceLE, Int.reduceLT, Int.reduceNeg, reduceCtorEq, gos, Int.reduceAdd, Int.reduceSub, Int.reduceMul, Int.reduceEq, cj, cK, w1, w2, c3])
              refine ⟨cj, (fgt_nil), by omega, ?_, drop_nil _⟩
              rfl
          · have iy := In' j (by omega)
            by_cases c3 : (1000 : Int) < A (j + 1)
            · repeat (first | refine X_opc rfl ?_ | refine X_dopc rfl ?_ | refine ⟨(by show drawK _ _ = true; kernel_rfl : drawX _ _ _), ?_⟩ | exact (by show drawK _ _ = true; kernel_rfl : drawX _ _ _) | simp -dsimp (maxSteps := 20000000) (disch := omega) only [simx, zzC, zzB, tys, ite_self, opnL, callB, callX, readsB, stepOp, nilCmp, ofVal, opBuiltin, opLen, PV.sk, scalBin, scalUn, intBin, opLoad, natOf, opConvert, opField, cellsP, oneP, Value.oneCell', opStore, toIV, scalT, scalA, scalC, boxesA, boxesC, zipB_none, zipB_mx, isZ, opZip, zeroP, opAppendZ, opMakeMap, opLookup, mboxB, opUpdate, ↓reduceIte, Nat.reduceSub, Nat.reduceEqDiff, Nat.reduceAdd, Nat.reduceMul, Nat.reduceLT, Nat.reduceLeDiff, Int.reduceToNat, Int.reduceLE, Int.reduceLT, Int.reduceNeg, reduceCtorEq, zzR, gos, Int.reduceAdd, Int.reduceSub, Int.reduceMul, Int.reduceEq, cj, cK, w1, c3])
            · repeat (first | refine X_opc rfl ?_ | refine X_dopc rfl ?_ | refine ⟨(by show drawK _ _ = true; kernel_rfl : drawX _ _ _), ?_⟩ | exact (by show drawK _ _ = true; kernel_rfl : drawX _ _ _) | simp -dsimp (maxSteps := 20000000) (disch := omega) only [simx, zzC, zzB, tys, ite_self, opnL, callB, callX, readsB, stepOp, nilCmp, ofVal, opBuiltin, opLen, PV.sk, scalBin, scalUn, intBin, opLoad, natOf, opConvert, opField, cellsP, oneP, Value.oneCell', opStore, toIV, scalT, scalA, scalC, boxesA, boxesC, zipB_none, zipB_mx, isZ, opZip, zeroP, opAppendZ, opMakeMap, opLookup, mboxB, opUpdate, ↓reduceIte, Nat.reduceSub, Nat.reduceEqDiff, Nat.reduceAdd, Nat.reduceMul, Nat.reduceLT, Nat.reduceLeDiff, Int.reduceToNat, Int.reduceLE, Int.reduceLT, Int.reduceNeg, reduceCtorEq, gos, Int.reduceAdd, Int.reduceSub, Int.reduceMul, Int.reduceEq, cj, cK, w1, c3])
              refine ⟨cj, (fgt_nil), by omega, ?_, drop_nil _⟩
              rw [iy]
              exact ⟨rfl, rfl⟩
        · obtain rfl : R = j := by omega
          repeat (first | refine X_opc rfl ?_ | refine X_dopc rfl ?_ | refine ⟨(by show drawK _ _ = true; kernel_rfl : drawX _ _ _), ?_⟩ | exact (by show drawK _ _ = true; kernel_rfl : drawX _ _ _) | simp -dsimp (maxSteps := 20000000) (disch := omega) only [simx, zzC, zzB, tys, ite_self, opnL, callB, callX, readsB, stepOp, nilCmp, ofVal, opBuiltin, opLen, PV.sk, scalBin, scalUn, intBin, opLoad, natOf, opConvert, opField, cellsP, oneP, Value.oneCell', opStore, toIV, scalT, scalA, scalC, boxesA, boxesC, zipB_none, zipB_mx, isZ, opZip, zeroP, opAppendZ, opMakeMap, opLookup, mboxB, opUpdate, ↓reduceIte, Nat.reduceSub, Nat.reduceEqDiff, Nat.reduceAdd, Nat.reduceMul, Nat.reduceLT, Nat.reduceLeDiff, Int.reduceToNat, Int.reduceLE, Int.reduceLT, Int.reduceNeg, reduceCtorEq, gos, Int.reduceAdd, Int.reduceSub, Int.reduceMul, Int.reduceEq])
          refine X_loopH [0, 3, 5, 6, 7, 8, 10, 11] [] (0) (A R) (fun j => True) (fun j => [(10, u64 (cntN j f : Int)), (11, u64 j)]) (fun j => Heap.none.put ((0, 0) :: base) (.var [i64 R, i64 R, lu l])) ?_ ?_ ?_ ?_ ?_ (by decide) ?_
          · exact (fgt_nil)
          · ((simp -dsimp (disch := omega) only [simx, zzB, tys, ite_self, opnL, callB, callX, readsB, stepOp, nilCmp, ofVal, opBuiltin, opLen, PV.sk, scalBin, scalUn, intBin, opLoad, natOf, opConvert, opField, cellsP, oneP, Value.oneCell', opStore, toIV, scalT, scalA, scalC, boxesA, boxesC, zipB_none, zipB_mx, isZ, opZip, zeroP, opAppendZ, opMakeMap, opLookup, mboxB, opUpdate, ↓reduceIte, Nat.reduceSub, Nat.reduceEqDiff, Nat.reduceAdd, Nat.reduceMul, Nat.reduceLT, Nat.reduceLeDiff, Int.reduceToNat, Int.reduceLE, Int.reduceLT, Int.reduceNeg, reduceCtorEq, gos, Int.reduceAdd, Int.reduceSub, Int.reduceMul, Int.reduceEq]) <;> first | rfl | simp [cntN])
          · exact drop_nil _
          · omega
          · trivial
          · intro n hn _
            by_cases cn : n < A R
            · obtain ⟨t1, t2⟩ := rounds n (by omega)
              have hle := cnt_le f n
              have hs : cntN (n + 1) f = cntN n f + (if f n = true then 1 else 0) := rfl
              have w3 : IntKind.u64.wrap ((n : Int) + 1) = ((n + 1 : Nat) : Int) := by rw [show (n : Int) + 1 = ((n + 1 : Nat) : Int) by push_cast; rfl]; exact uw_of (by omega) (by omega)
              have w4 : IntKind.u64.wrap ((cntN n f : Int) + 1) = ((cntN n f + 1 : Nat) : Int) := by rw [show (cntN n f : Int) + 1 = ((cntN n f + 1 : Nat) : Int) by push_cast; rfl]; exact uw_of (by omega) (by omega)
              rcases t2 with ⟨hf, s, t2, t3⟩ | ⟨hf, t2⟩
              · rw [hf, if_pos rfl] at hs
                clear rounds hc
                generalize cntN n f = q at hs w4 hle ⊢
                generalize vecL P n R = b at t1 t2 t3
                repeat (first | ((first | refine X_call_fn2 rfl (by simp only [tys]) ?_ | refine X_dcall_fn2 rfl (by simp only [tys]) ?_); apply Exists.intro; apply And.intro; (focus (simp -dsimp only [simx, zzC, zzB, tys, ite_self, opnL, callB, callX, readsB, stepOp, nilCmp, ofVal, opBuiltin, opLen, PV.sk, scalBin, scalUn, intBin, opLoad, natOf, opConvert, opField, cellsP, oneP, Value.oneCell', opStore, toIV, scalT, scalA, scalC, boxesA, boxesC, zipB_none, zipB_mx, isZ, opZip, zeroP, opAppendZ, opMakeMap, opLookup, mboxB, opUpdate, ↓reduceIte, Nat.reduceSub, Nat.reduceEqDiff, Nat.reduceAdd, Nat.reduceMul, Nat.reduceLT, Nat.reduceLeDiff, Int.reduceToNat, Int.reduceLE, Int.reduceLT, Int.reduceNeg, reduceCtorEq, zzL, if_true, if_false] <;> rfl)); apply Exists.intro; apply And.intro; (focus (first | exact t1 | exact t2 | exact t3))) | refine X_opc rfl ?_ | refine X_dopc rfl ?_ | refine ⟨(by show drawK _ _ = true; kernel_rfl : drawX _ _ _), ?_⟩ | exact (by show drawK _ _ = true; kernel_rfl : drawX _ _ _) | simp -dsimp (maxSteps := 20000000) (disch := omega) only [simx, zzC, zzB, tys, ite_self, opnL, callB, callX, readsB, stepOp, nilCmp, ofVal, opBuiltin, opLen, PV.sk, scalBin, scalUn, intBin, opLoad, natOf, opConvert, opField, cellsP, oneP, Value.oneCell', opStore, toIV, scalT, scalA, scalC, boxesA, boxesC, zipB_none, zipB_mx, isZ, opZip, zeroP, opAppendZ, opMakeMap, opLookup, mboxB, opUpdate, ↓reduceIte, Nat.reduceSub, Nat.reduceEqDiff, Nat.reduceAdd, Nat.reduceMul, Nat.reduceLT, Nat.reduceLeDiff, Int.reduceToNat, Int.reduceLE, Int.reduceLT, Int.reduceNeg, reduceCtorEq, gos, Int.reduceAdd, Int.reduceSub, Int.reduceMul, Int.reduceEq, cn, w3, w4])
                refine ⟨cn, (fgt_nil), ?_, drop_nil _⟩
                rw [hs]
              · rw [hf, if_neg (by decide), Nat.add_zero] at hs
                clear rounds hc
                generalize cntN n f = q at hs w4 hle ⊢
                generalize vecL P n R = b at t1 t2
                repeat (first | ((first | refine X_call_fn2 rfl (by simp only [tys]) ?_ | refine X_dcall_fn2 rfl (by simp only [tys]) ?_); apply Exists.intro; apply And.intro; (focus (simp -dsimp only [simx, zzC, zzB, tys, ite_self, opnL, callB, callX, readsB, stepOp, nilCmp, ofVal, opBuiltin, opLen, PV.sk, scalBin, scalUn, intBin, opLoad, natOf, opConvert, opField, cellsP, oneP, Value.oneCell', opStore, toIV, scalT, scalA, scalC, boxesA, boxesC, zipB_none, zipB_mx, isZ, opZip, zeroP, opAppendZ, opMakeMap, opLookup, mboxB, opUpdate, ↓reduceIte, Nat.reduceSub, Nat.reduceEqDiff, Nat.reduceAdd, Nat.reduceMul, Nat.reduceLT, Nat.reduceLeDiff, Int.reduceToNat, Int.reduceLE, Int.reduceLT, Int.reduceNeg, reduceCtorEq, zzL, if_true, if_false] <;> rfl)); apply Exists.intro; apply And.intro; (focus (first | exact t1 | exact t2))) | refine X_opc rfl ?_ | refine X_dopc rfl ?_ | refine ⟨(by show drawK _ _ = true; kernel_rfl : drawX _ _ _), ?_⟩ | exact (by show drawK _ _ = true; kernel_rfl : drawX _ _ _) | simp -dsimp (maxSteps := 20000000) (disch := omega) only [simx, zzC, zzB, tys, ite_self, opnL, callB, callX, readsB, stepOp, nilCmp, ofVal, opBuiltin, opLen, PV.sk, scalBin, scalUn, intBin, opLoad, natOf, opConvert, opField, cellsP, oneP, Value.oneCell', opStore, toIV, scalT, scalA, scalC, boxesA, boxesC, zipB_none, zipB_mx, isZ, opZip, zeroP, opAppendZ, opMakeMap, opLookup, mboxB, opUpdate, ↓reduceIte, Nat.reduceSub, Nat.reduceEqDiff, Nat.reduceAdd, Nat.reduceMul, Nat.reduceLT, Nat.reduceLeDiff, Int.reduceToNat, Int.reduceLE, Int.reduceLT, Int.reduceNeg, reduceCtorEq, gos, Int.reduceAdd, Int.reduceSub, Int.reduceMul, Int.reduceEq, cn, w3])
                refine ⟨cn, (fgt_nil), ?_, drop_nil _⟩
                rw [hs]
                rfl
            · obtain rfl : A R = n := by omega
              rw [hc]
              have w5 : IntKind.u64.wrap ((A (R - 1) : Nat) : Int) = ((A (R - 1) : Nat) : Int) := uw_of (by omega) (by
                have := An (R - 1)
                rw [show R - 1 + 1 = R by omega] at this
                have h2 : A (R - 1) * 1 ≤ A (R - 1) * P := Nat.mul_le_mul_left _ (by omega)
                omega)
              by_cases cK : (K : Int) = R
              · repeat (first | refine X_opc rfl ?_ | refine X_dopc rfl ?_ | refine ⟨(by show drawK _ _ = true; kernel_rfl : drawX _ _ _), ?_⟩ | exact (by show drawK _ _ = true; kernel_rfl : drawX _ _ _) | simp -dsimp (maxSteps := 20000000) (disch := omega) only [simx, zzC, zzB, tys, ite_self, opnL, callB, callX, readsB, stepOp, nilCmp, ofVal, opBuiltin, opLen, PV.sk, scalBin, scalUn, intBin, opLoad, natOf, opConvert, opField, cellsP, oneP, Value.oneCell', opStore, toIV, scalT, scalA, scalC, boxesA, boxesC, zipB_none, zipB_mx, isZ, opZip, zeroP, opAppendZ, opMakeMap, opLookup, mboxB, opUpdate, ↓reduceIte, Nat.reduceSub, Nat.reduceEqDiff, Nat.reduceAdd, Nat.reduceMul, Nat.reduceLT, Nat.reduceLeDiff, Int.reduceToNat, Int.reduceLE, Int.reduceLT, Int.reduceNeg, reduceCtorEq, zzR, gos, Int.reduceAdd, Int.reduceSub, Int.reduceMul, Int.reduceEq, cK])
              · have hD' := hD (by omega)
                have hle : ((I R : Nat) : Int) ≤ ((A (R - 1) : Nat) : Int) := by omega
                repeat (first | refine X_opc rfl ?_ | refine X_dopc rfl ?_ | refine ⟨(by show drawK _ _ = true; kernel_rfl : drawX _ _ _), ?_⟩ | exact (by show drawK _ _ = true; kernel_rfl : drawX _ _ _) | simp -dsimp (maxSteps := 20000000) (disch := omega) only [simx, zzC, zzB, tys, ite_self, opnL, callB, callX, readsB, stepOp, nilCmp, ofVal, opBuiltin, opLen, PV.sk, scalBin, scalUn, intBin, opLoad, natOf, opConvert, opField, cellsP, oneP, Value.oneCell', opStore, toIV, scalT, scalA, scalC, boxesA, boxesC, zipB_none, zipB_mx, isZ, opZip, zeroP, opAppendZ, opMakeMap, opLookup, mboxB, opUpdate, ↓reduceIte, Nat.reduceSub, Nat.reduceEqDiff, Nat.reduceAdd, Nat.reduceMul, Nat.reduceLT, Nat.reduceLeDiff, Int.reduceToNat, Int.reduceLE, Int.reduceLT, Int.reduceNeg, reduceCtorEq, zzR, gos, Int.reduceAdd, Int.reduceSub, Int.reduceMul, Int.reduceEq, cK, p0, hQ, w5, hle])
end Go.Proofs.Ytmalpmnmknpphaa.TM
