/- What is proved of functions, and plain facts, part 9. Conditions: none. -/
import Derived.Test.YtmalpmnmknpphaaSWitnessShows8
set_option linter.defProp false
set_option linter.unusedSectionVars false
set_option linter.unusedSimpArgs false
set_option linter.unusedVariables false
namespace Go.Proofs.Ytmalpmnmknpphaa.TM
open Go Go.RowKit
section
variable {P R C : Nat} {l b : List Int}
theorem zerB_zero (n : Nat) : zerB (zeroV n) = true := (zerB_iff _).2 fun i hi => zeroV_get (by rw [zeroV_len] at hi; exact hi)
theorem zerB_eq {x : List Int} {n : Nat} (hl : x.length = n) : zerB x = true ↔ x = zeroV n := by
  constructor
  · intro h
    refine list_ext0 hl (zeroV_len n) fun i hi => ?_
    rw [(zerB_iff x).1 h i (by omega), zeroV_get hi]
  · rintro rfl; exact zerB_zero n
theorem has_in' (hp : Md P) {x : List Int} (h : ∀ a ∈ x, In P a) : HasB P x = true := (has_iff _ _).2 ⟨fun a ha => (h a ha).2, hp.1, hp.2⟩
theorem solvesB_yes (M : Mt P R C l) (hb : ∀ a ∈ b, In P a) (hbl : b.length = R) {x : List Int} (hx : ∀ a ∈ x, In P a) (hxl : x.length = C) (h : timesM P R C l x = b) : solvesB P R C l b x = true :=
  solves_iff.2 ⟨R, C, rfl, rfl, M, has_in' M.hp hx, hxl, hbl, has_in' M.hp hb, h⟩
theorem nat_pair {R C R' C' : Nat} (h1 : (R : Int) = R') (h2 : (C : Int) = C') : R' = R ∧ C' = C := ⟨by omega, by omega⟩
theorem solvesB_sol {x : List Int} (h : solvesB P R C l b x = true) : Sol P R C l b := by
  obtain ⟨R', C', e1, e2, M, _, hxl, _, _, ht⟩ := solves_iff.1 h
  obtain ⟨rfl, rfl⟩ := nat_pair e1 e2
  exact times_sol M.len hxl ht
theorem solvesB_nil (M : Mt P R C l) : solvesB P R C l b [] = false := by
  cases h : solvesB P R C l b [] with
  | false => rfl
  | true =>
    obtain ⟨R', C', e1, e2, _, _, hxl, _⟩ := solves_iff.1 h
    have := M.c1
    simp at hxl; omega
theorem goneB_kill {y : List Int} (h : goneB P R C l y = true) : Mt P R C l ∧ HasB P y = true ∧ y.length = R ∧ ∀ j, j < C → sumN R (fun m => y.getD m 0 * cl C l m j) % P = 0 := by
  obtain ⟨R', C', e1, e2, M, hy, hyl, hz⟩ := gone_iff.1 h
  obtain ⟨rfl, rfl⟩ := nat_pair e1 e2
  refine ⟨M, hy, hyl, fun j hj => ?_⟩
  rw [← leftM_get hyl hj]
  exact (zerB_iff _).1 hz j (by rw [leftM_len]; exact hj)
theorem goneB_yes (M : Mt P R C l) {y : List Int} (hy : ∀ a ∈ y, In P a) (hyl : y.length = R) (h : leftM P y R C l = zeroV C) : goneB P R C l y = true :=
  gone_iff.2 ⟨R, C, rfl, rfl, M, has_in' M.hp hy, hyl, by rw [h]; exact zerB_zero C⟩
theorem goneB_nil (M : Mt P R C l) : goneB P R C l [] = false := by
  cases h : goneB P R C l [] with
  | false => rfl
  | true =>
    obtain ⟨_, _, hl, _⟩ := goneB_kill h
    have := M.r1
    simp at hl; omega
theorem againstB_no {y : List Int} (hb : ∀ a ∈ b, In P a) (hbl : b.length = R) (wy : W64s y) (hs : Sol P R C l b) : againstB P R C l b y = false := by
  unfold againstB
  cases h : goneB P R C l y with
  | false => rfl
  | true =>
    obtain ⟨M, hy, hyl, hz⟩ := goneB_kill h
    have yin : ∀ a ∈ y, In P a := fun a ha => in_of ((has_iff _ _).1 hy).1 wy ha
    rw [dotR_mk M.hp yin hb (by omega), left_sol M.len hyl hbl hz hs]
    rfl
theorem againstB_yes (M : Mt P R C l) {y : List Int} (hb : ∀ a ∈ b, In P a) (hbl : b.length = R) (hy : ∀ a ∈ y, In P a) (hyl : y.length = R) (h : leftM P y R C l = zeroV C) (hd : dotI y b % P ≠ 0) : againstB P R C l b y = true := by
  unfold againstB
  rw [goneB_yes M hy hyl h, dotR_mk M.hp hy hb (by omega)]
  simp [hd]
theorem againstB_nil (M : Mt P R C l) : againstB P R C l b [] = false := by
  unfold againstB; rw [goneB_nil M]; rfl
theorem losesB_nil (M : Mt P R C l) : losesB P R C l [] = false := by
  unfold losesB; rw [goneB_nil M]; rfl
theorem losesB_yes (M : Mt P R C l) {y : List Int} (hy : ∀ a ∈ y, In P a) (hyl : y.length = R) (h : leftM P y R C l = zeroV C) (hn : y ≠ zeroV R) : losesB P R C l y = true := by
  unfold losesB
  rw [goneB_yes M hy hyl h]
  cases hz : zerB y with
  | false => rfl
  | true => exact absurd ((zerB_eq hyl).1 hz) hn
theorem rank_sol (hP : Prm P) (M : Mt P R C l) (hin : ∀ a ∈ l, In P a) (hr : (tkCup P C R l).1.length = R) (hbl : b.length = R) : Sol P R C l b :=
  sol_of_none hP M hin hbl fun i hi hn => absurd (row_some (tkCup_W hP M hin) (tkCup_Cp hP M hin) hi hn) (by omega)
theorem dot_uni {n i : Nat} (hi : i < n) {y : List Int} (hy : y.length = n) : dotI y (uniV n i) = y.getD i 0 := by
  rw [dotI_eq n y _ hy (uniV_len n i)]
  rw [sumN_congr (g := fun k => if k = i then y.getD k 0 else 0) fun k hk => by
    unfold uniV
    rw [tbl_getD _ hk]
    by_cases e : k = i
    · rw [if_pos e, if_pos e, Int.mul_one]
    · rw [if_neg e, if_neg e, Int.mul_zero]]
  exact sumN_one (fun k => y.getD k 0) hi
theorem losesB_rank (hP : Prm P) (M : Mt P R C l) (hin : ∀ a ∈ l, In P a) {y : List Int} (wy : W64s y) (h : losesB P R C l y = true) : (tkCup P C R l).1.length ≠ R := fun hr => by
  unfold losesB at h
  rw [Bool.and_eq_true] at h
  obtain ⟨_, hy, hyl, hz⟩ := goneB_kill h.1
  have yin : ∀ a ∈ y, In P a := fun a ha => in_of ((has_iff _ _).1 hy).1 wy ha
  have : zerB y = true := (zerB_iff y).2 fun i hi => by
    have h1 := left_sol M.len hyl (uniV_len R i) hz (rank_sol hP M hin hr (uniV_len R i))
    rw [dot_uni (by omega) hyl, in_mod (getD_of yin hi)] at h1
    exact h1
  rw [this] at h
  simp at h
theorem singB_yes (M : Mt P R R l) {x : List Int} (hx : ∀ a ∈ x, In P a) (hxl : x.length = R) (h : timesM P R R l x = zeroV R) (hn : x ≠ zeroV R) : singB P R R l x = true :=
  sing_iff.2 ⟨rfl, R, R, rfl, rfl, M, has_in' M.hp hx, hxl, by
    cases hz : zerB x with
    | false => rfl
    | true => exact absurd ((zerB_eq hxl).1 hz) hn, by rw [h]; exact zerB_zero R⟩
theorem singB_nil (M : Mt P R R l) : singB P R R l [] = false := by
  cases h : singB P R R l [] with
  | false => rfl
  | true =>
    obtain ⟨_, R', C', e1, e2, _, _, hxl, _⟩ := sing_iff.1 h
    have := M.r1
    simp at hxl; omega
end
end Go.Proofs.Ytmalpmnmknpphaa.TM
namespace Go.Proofs.Ytmalpmnmknpphaa.TM
open Go Go.RowKit
attribute [local irreducible] K W WOps Effs Xg Xo Xr Xdg Xdo Xdr Xif CallsP CallR
set_option maxHeartbeats 16000000 in
theorem witnessShows_true (a0 : Int) (a1 : Int × Int × List Int) (a2 : List Int) (a3 : List Int) (a4 : List Int) (w0 : (Lit.int .u64 a0).wf = true) (w1 : ((Lit.int .i64 a1.1).wf = true ∧ (Lit.int .i64 a1.2.1).wf = true ∧ (a1.2.2.length ≤ maxLen ∧ ∀ e23_ ∈ a1.2.2, (Lit.int .u64 e23_).wf = true))) (w2 : (a2.length ≤ maxLen ∧ ∀ e23_ ∈ a2, (Lit.int .u64 e23_).wf = true)) (w3 : (a3.length ≤ maxLen ∧ ∀ e23_ ∈ a3, (Lit.int .u64 e23_).wf = true)) (w4 : (a4.length ≤ maxLen ∧ ∀ e23_ ∈ a4, (Lit.int .u64 e23_).wf = true)) :
    CallsP Try.prog 6 [.i (IV.v (.int .u64 a0)), .agg [.i (IV.v (.int .i64 a1.1)), .i (IV.v (.int .i64 a1.2.1)), .i (IV.l a1.2.2.length (a1.2.2.map fun y => IV.v (.int .u64 y)))], .i (IV.l a2.length (a2.map fun y => IV.v (.int .u64 y))), .i (IV.l a3.length (a3.map fun y => IV.v (.int .u64 y))), .i (IV.l a4.length (a4.map fun y => IV.v (.int .u64 y)))] (bl true) := by
  obtain ⟨r, c, l⟩ := a1
  obtain ⟨v1, v2, v3, v4⟩ := w1
  obtain ⟨v5, v6⟩ := w2
  obtain ⟨v7, v8⟩ := w3
  obtain ⟨v9, v10⟩ := w4
  simp only at v1 v2 v3 v4 ⊢
  have wp := w64_of w0
  obtain ⟨P, rfl⟩ : ∃ P : Nat, a0 = P := ⟨a0.toNat, by have := wp.1; omega⟩
  have wl := w64_all v4
  have wb := w64_all v6
  have wx := w64_all v8
  have wy := w64_all v10
  have d0 := awake14_walk
  obtain ⟨pb, d1, hpr⟩ := prime14_walk P (by have := wp.2; omega)
  have d2 := mright_walk P r c l v3
  have d3 := rhas_walk P a2 v5
  change CallsP Try.prog 6 [u64 P, matP r c l, lu a2, lu a3, lu a4] (bl true)
  by_cases c0 : (100 : Int) < l.length
  · refine X_startP (n := 179) (m := 5) (rs := [.tmp 10]) Try.func6 rfl rfl rfl rfl (by decide) fun base => ?_
    repeat (first | ((first | refine X_call_fn2 rfl (by simp only [tys]) ?_ | refine X_dcall_fn2 rfl (by simp only [tys]) ?_); apply Exists.intro; apply And.intro; (focus (simp -dsimp only [simx, zzC, zzB, tys, ite_self, opnL, callB, callX, readsB, stepOp, nilCmp, ofVal, opBuiltin, opLen, PV.sk, scalBin, scalUn, intBin, opLoad, natOf, opConvert, opField, cellsP, oneP, Value.oneCell', opStore, toIV, scalT, scalA, scalC, boxesA, boxesC, zipB_none, zipB_mx, isZ, opZip, zeroP, opAppendZ, opMakeMap, opLookup, mboxB, opUpdate, ↓reduceIte, Nat.reduceSub, Nat.reduceEqDiff, Nat.reduceAdd, Nat.reduceMul, Nat.reduceLT, Nat.reduceLeDiff, Int.reduceToNat, Int.reduceLE, Int.reduceLT, Int.reduceNeg, reduceCtorEq, zzL, if_true, if_false] <;> rfl)); apply Exists.intro; apply And.intro; (focus (first | exact d0))) | refine X_opc rfl ?_ | refine X_dopc rfl ?_ | refine ⟨(by show drawK _ _ = true; kernel_rfl : drawX _ _ _), ?_⟩ | exact (by show drawK _ _ = true; kernel_rfl : drawX _ _ _) | simp -dsimp (maxSteps := 20000000) (disch := omega) only [simx, zzC, zzB, tys, ite_self, opnL, callB, callX, readsB, stepOp, nilCmp, ofVal, opBuiltin, opLen, PV.sk, scalBin, scalUn, intBin, opLoad, natOf, opConvert, opField, cellsP, oneP, Value.oneCell', opStore, toIV, scalT, scalA, scalC, boxesA, boxesC, zipB_none, zipB_mx, isZ, opZip, zeroP, opAppendZ, opMakeMap, opLookup, mboxB, opUpdate, ↓reduceIte, Nat.reduceSub, Nat.reduceEqDiff, Nat.reduceAdd, Nat.reduceMul, Nat.reduceLT, Nat.reduceLeDiff, Int.reduceToNat, Int.reduceLE, Int.reduceLT, Int.reduceNeg, reduceCtorEq, zzR, gos, Int.reduceAdd, Int.reduceSub, Int.reduceMul, Int.reduceEq, c0])
  by_cases c1 : (70 : Int) < a3.length
  · refine X_startP (n := 179) (m := 5) (rs := [.tmp 10]) Try.func6 rfl rfl rfl rfl (by decide) fun base => ?_
    repeat (first | ((first | refine X_call_fn2 rfl (by simp only [tys]) ?_ | refine X_dcall_fn2 rfl (by simp only [tys]) ?_); apply Exists.intro; apply And.intro; (focus (simp -dsimp only [simx, zzC, zzB, tys, ite_self, opnL, callB, callX, readsB, stepOp, nilCmp, ofVal, opBuiltin, opLen, PV.sk, scalBin, scalUn, intBin, opLoad, natOf, opConvert, opField, cellsP, oneP, Value.oneCell', opStore, toIV, scalT, scalA, scalC, boxesA, boxesC, zipB_none, zipB_mx, isZ, opZip, zeroP, opAppendZ, opMakeMap, opLookup, mboxB, opUpdate, ↓reduceIte, Nat.reduceSub, Nat.reduceEqDiff, Nat.reduceAdd, Nat.reduceMul, Nat.reduceLT, Nat.reduceLeDiff, Int.reduceToNat, Int.reduceLE, Int.reduceLT, Int.reduceNeg, reduceCtorEq, zzL, if_true, if_false] <;> rfl)); apply Exists.intro; apply And.intro; (focus (first | exact d0))) | refine X_opc rfl ?_ | refine X_dopc rfl ?_ | refine ⟨(by show drawK _ _ = true; kernel_rfl : drawX _ _ _), ?_⟩ | exact (by show drawK _ _ = true; kernel_rfl : drawX _ _ _) | simp -dsimp (maxSteps := 20000000) (disch := omega) only [simx, zzC, zzB, tys, ite_self, opnL, callB, callX, readsB, stepOp, nilCmp, ofVal, opBuiltin, opLen, PV.sk, scalBin, scalUn, intBin, opLoad, natOf, opConvert, opField, cellsP, oneP, Value.oneCell', opStore, toIV, scalT, scalA, scalC, boxesA, boxesC, zipB_none, zipB_mx, isZ, opZip, zeroP, opAppendZ, opMakeMap, opLookup, mboxB, opUpdate, ↓reduceIte, Nat.reduceSub, Nat.reduceEqDiff, Nat.reduceAdd, Nat.reduceMul, Nat.reduceLT, Nat.reduceLeDiff, Int.reduceToNat, Int.reduceLE, Int.reduceLT, Int.reduceNeg, reduceCtorEq, zzR, gos, Int.reduceAdd, Int.reduceSub, Int.reduceMul, Int.reduceEq, c0, c1])
  by_cases c2 : (70 : Int) < a4.length
  · refine X_startP (n := 179) (m := 5) (rs := [.tmp 10]) Try.func6 rfl rfl rfl rfl (by decide) fun base => ?_
    repeat (first | ((first | refine X_call_fn2 rfl (by simp only [tys]) ?_ | refine X_dcall_fn2 rfl (by simp only [tys]) ?_); apply Exists.intro; apply And.intro; (focus (simp -dsimp only [simx, zzC, zzB, tys, ite_self, opnL, callB, callX, readsB, stepOp, nilCmp, ofVal, opBuiltin, opLen, PV.sk, scalBin, scalUn, intBin, opLoad, natOf, opConvert, opField, cellsP, oneP, Value.oneCell', opStore, toIV, scalT, scalA, scalC, boxesA, boxesC, zipB_none, zipB_mx, isZ, opZip, zeroP, opAppendZ, opMakeMap, opLookup, mboxB, opUpdate, ↓reduceIte, Nat.reduceSub, Nat.reduceEqDiff, Nat.reduceAdd, Nat.reduceMul, Nat.reduceLT, Nat.reduceLeDiff, Int.reduceToNat, Int.reduceLE, Int.reduceLT, Int.reduceNeg, reduceCtorEq, zzL, if_true, if_false] <;> rfl)); apply Exists.intro; apply And.intro; (focus (first | exact d0))) | refine X_opc rfl ?_ | refine X_dopc rfl ?_ | refine ⟨(by show drawK _ _ = true; kernel_rfl : drawX _ _ _), ?_⟩ | exact (by show drawK _ _ = true; kernel_rfl : drawX _ _ _) | simp -dsimp (maxSteps := 20000000) (disch := omega) only [simx, zzC, zzB, tys, ite_self, opnL, callB, callX, readsB, stepOp, nilCmp, ofVal, opBuiltin, opLen, PV.sk, scalBin, scalUn, intBin, opLoad, natOf, opConvert, opField, cellsP, oneP, Value.oneCell', opStore, toIV, scalT, scalA, scalC, boxesA, boxesC, zipB_none, zipB_mx, isZ, opZip, zeroP, opAppendZ, opMakeMap, opLookup, mboxB, opUpdate, ↓reduceIte, Nat.reduceSub, Nat.reduceEqDiff, Nat.reduceAdd, Nat.reduceMul, Nat.reduceLT, Nat.reduceLeDiff, Int.reduceToNat, Int.reduceLE, Int.reduceLT, Int.reduceNeg, reduceCtorEq, zzR, gos, Int.reduceAdd, Int.reduceSub, Int.reduceMul, Int.reduceEq, c0, c1, c2])
  cases pb with
  | false =>
    refine X_startP (n := 179) (m := 5) (rs := [.tmp 10]) Try.func6 rfl rfl rfl rfl (by decide) fun base => ?_
    repeat (first | ((first | refine X_call_fn2 rfl (by simp only [tys]) ?_ | refine X_dcall_fn2 rfl (by simp only [tys]) ?_); apply Exists.intro; apply And.intro; (focus (simp -dsimp only [simx, zzC, zzB, tys, ite_self, opnL, callB, callX, readsB, stepOp, nilCmp, ofVal, opBuiltin, opLen, PV.sk, scalBin, scalUn, intBin, opLoad, natOf, opConvert, opField, cellsP, oneP, Value.oneCell', opStore, toIV, scalT, scalA, scalC, boxesA, boxesC, zipB_none, zipB_mx, isZ, opZip, zeroP, opAppendZ, opMakeMap, opLookup, mboxB, opUpdate, ↓reduceIte, Nat.reduceSub, Nat.reduceEqDiff, Nat.reduceAdd, Nat.reduceMul, Nat.reduceLT, Nat.reduceLeDiff, Int.reduceToNat, Int.reduceLE, Int.reduceLT, Int.reduceNeg, reduceCtorEq, zzL, if_true, if_false] <;> rfl)); apply Exists.intro; apply And.intro; (focus (first | exact d0 | exact d1))) | refine X_opc rfl ?_ | refine X_dopc rfl ?_ | refine ⟨(by show drawK _ _ = true; kernel_rfl : drawX _ _ _), ?_⟩ | exact (by show drawK _ _ = true; kernel_rfl : drawX _ _ _) | simp -dsimp (maxSteps := 20000000) (disch := omega) only [simx, zzC, zzB, tys, ite_self, opnL, callB, callX, readsB, stepOp, nilCmp, ofVal, opBuiltin, opLen, PV.sk, scalBin, scalUn, intBin, opLoad, natOf, opConvert, opField, cellsP, oneP, Value.oneCell', opStore, toIV, scalT, scalA, scalC, boxesA, boxesC, zipB_none, zipB_mx, isZ, opZip, zeroP, opAppendZ, opMakeMap, opLookup, mboxB, opUpdate, ↓reduceIte, Nat.reduceSub, Nat.reduceEqDiff, Nat.reduceAdd, Nat.reduceMul, Nat.reduceLT, Nat.reduceLeDiff, Int.reduceToNat, Int.reduceLE, Int.reduceLT, Int.reduceNeg, reduceCtorEq, zzR, gos, Int.reduceAdd, Int.reduceSub, Int.reduceMul, Int.reduceEq, c0, c1, c2])
  | true =>
    have hP := hpr rfl
    cases hm : MatB P r c l with
    | false =>
      rw [hm] at d2
      refine X_startP (n := 179) (m := 5) (rs := [.tmp 10]) Try.func6 rfl rfl rfl rfl (by decide) fun base => ?_
      repeat (first | ((first | refine X_call_fn2 rfl (by simp only [tys]) ?_ | refine X_dcall_fn2 rfl (by simp only [tys]) ?_); apply Exists.intro; apply And.intro; (focus (simp -dsimp only [simx, zzC, zzB, tys, ite_self, opnL, callB, callX, readsB, stepOp, nilCmp, ofVal, opBuiltin, opLen, PV.sk, scalBin, scalUn, intBin, opLoad, natOf, opConvert, opField, cellsP, oneP, Value.oneCell', opStore, toIV, scalT, scalA, scalC, boxesA, boxesC, zipB_none, zipB_mx, isZ, opZip, zeroP, opAppendZ, opMakeMap, opLookup, mboxB, opUpdate, ↓reduceIte, Nat.reduceSub, Nat.reduceEqDiff, Nat.reduceAdd, Nat.reduceMul, Nat.reduceLT, Nat.reduceLeDiff, Int.reduceToNat, Int.reduceLE, Int.reduceLT, Int.reduceNeg, reduceCtorEq, zzL, if_true, if_false] <;> rfl)); apply Exists.intro; apply And.intro; (focus (first | exact d0 | exact d1 | exact d2))) | refine X_opc rfl ?_ | refine X_dopc rfl ?_ | refine ⟨(by show drawK _ _ = true; kernel_rfl : drawX _ _ _), ?_⟩ | exact (by show drawK _ _ = true; kernel_rfl : drawX _ _ _) | simp -dsimp (maxSteps := 20000000) (disch := omega) only [simx, zzC, zzB, tys, ite_self, opnL, callB, callX, readsB, stepOp, nilCmp, ofVal, opBuiltin, opLen, PV.sk, scalBin, scalUn, intBin, opLoad, natOf, opConvert, opField, cellsP, oneP, Value.oneCell', opStore, toIV, scalT, scalA, scalC, boxesA, boxesC, zipB_none, zipB_mx, isZ, opZip, zeroP, opAppendZ, opMakeMap, opLookup, mboxB, opUpdate, ↓reduceIte, Nat.reduceSub, Nat.reduceEqDiff, Nat.reduceAdd, Nat.reduceMul, Nat.reduceLT, Nat.reduceLeDiff, Int.reduceToNat, Int.reduceLE, Int.reduceLT, Int.reduceNeg, reduceCtorEq, zzR, gos, Int.reduceAdd, Int.reduceSub, Int.reduceMul, Int.reduceEq, c0, c1, c2])
    | true =>
      rw [hm] at d2
      obtain ⟨R, C, rfl, rfl, M⟩ := mat_of hm
      have hin : ∀ a ∈ l, In P a := fun a ha => in_of M.has wl ha
      cases hb : HasB P a2 with
      | false =>
        rw [hb] at d3
        refine X_startP (n := 179) (m := 5) (rs := [.tmp 10]) Try.func6 rfl rfl rfl rfl (by decide) fun base => ?_
        repeat (first | ((first | refine X_call_fn2 rfl (by simp only [tys]) ?_ | refine X_dcall_fn2 rfl (by simp only [tys]) ?_); apply Exists.intro; apply And.intro; (focus (simp -dsimp only [simx, zzC, zzB, tys, ite_self, opnL, callB, callX, readsB, stepOp, nilCmp, ofVal, opBuiltin, opLen, PV.sk, scalBin, scalUn, intBin, opLoad, natOf, opConvert, opField, cellsP, oneP, Value.oneCell', opStore, toIV, scalT, scalA, scalC, boxesA, boxesC, zipB_none, zipB_mx, isZ, opZip, zeroP, opAppendZ, opMakeMap, opLookup, mboxB, opUpdate, ↓reduceIte, Nat.reduceSub, Nat.reduceEqDiff, Nat.reduceAdd, Nat.reduceMul, Nat.reduceLT, Nat.reduceLeDiff, Int.reduceToNat, Int.reduceLE, Int.reduceLT, Int.reduceNeg, reduceCtorEq, zzL, if_true, if_false] <;> rfl)); apply Exists.intro; apply And.intro; (focus (first | exact d0 | exact d1 | exact d2 | exact d3))) | refine X_opc rfl ?_ | refine X_dopc rfl ?_ | refine ⟨(by show drawK _ _ = true; kernel_rfl : drawX _ _ _), ?_⟩ | exact (by show drawK _ _ = true; kernel_rfl : drawX _ _ _) | simp -dsimp (maxSteps := 20000000) (disch := omega) only [simx, zzC, zzB, tys, ite_self, opnL, callB, callX, readsB, stepOp, nilCmp, ofVal, opBuiltin, opLen, PV.sk, scalBin, scalUn, intBin, opLoad, natOf, opConvert, opField, cellsP, oneP, Value.oneCell', opStore, toIV, scalT, scalA, scalC, boxesA, boxesC, zipB_none, zipB_mx, isZ, opZip, zeroP, opAppendZ, opMakeMap, opLookup, mboxB, opUpdate, ↓reduceIte, Nat.reduceSub, Nat.reduceEqDiff, Nat.reduceAdd, Nat.reduceMul, Nat.reduceLT, Nat.reduceLeDiff, Int.reduceToNat, Int.reduceLE, Int.reduceLT, Int.reduceNeg, reduceCtorEq, zzR, gos, Int.reduceAdd, Int.reduceSub, Int.reduceMul, Int.reduceEq, c0, c1, c2])
      | true =>
        rw [hb] at d3
        have bin : ∀ a ∈ a2, In P a := fun a ha => in_of ((has_iff _ _).1 hb).1 wb ha
        by_cases hl : (a2.length : Int) = R
        case neg =>
          refine X_startP (n := 179) (m := 5) (rs := [.tmp 10]) Try.func6 rfl rfl rfl rfl (by decide) fun base => ?_
          repeat (first | ((first | refine X_call_fn2 rfl (by simp only [tys]) ?_ | refine X_dcall_fn2 rfl (by simp only [tys]) ?_); apply Exists.intro; apply And.intro; (focus (simp -dsimp only [simx, zzC, zzB, tys, ite_self, opnL, callB, callX, readsB, stepOp, nilCmp, ofVal, opBuiltin, opLen, PV.sk, scalBin, scalUn, intBin, opLoad, natOf, opConvert, opField, cellsP, oneP, Value.oneCell', opStore, toIV, scalT, scalA, scalC, boxesA, boxesC, zipB_none, zipB_mx, isZ, opZip, zeroP, opAppendZ, opMakeMap, opLookup, mboxB, opUpdate, ↓reduceIte, Nat.reduceSub, Nat.reduceEqDiff, Nat.reduceAdd, Nat.reduceMul, Nat.reduceLT, Nat.reduceLeDiff, Int.reduceToNat, Int.reduceLE, Int.reduceLT, Int.reduceNeg, reduceCtorEq, zzL, if_true, if_false] <;> rfl)); apply Exists.intro; apply And.intro; (focus (first | exact d0 | exact d1 | exact d2 | exact d3))) | refine X_opc rfl ?_ | refine X_dopc rfl ?_ | refine ⟨(by show drawK _ _ = true; kernel_rfl : drawX _ _ _), ?_⟩ | exact (by show drawK _ _ = true; kernel_rfl : drawX _ _ _) | simp -dsimp (maxSteps := 20000000) (disch := omega) only [simx, zzC, zzB, tys, ite_self, opnL, callB, callX, readsB, stepOp, nilCmp, ofVal, opBuiltin, opLen, PV.sk, scalBin, scalUn, intBin, opLoad, natOf, opConvert, opField, cellsP, oneP, Value.oneCell', opStore, toIV, scalT, scalA, scalC, boxesA, boxesC, zipB_none, zipB_mx, isZ, opZip, zeroP, opAppendZ, opMakeMap, opLookup, mboxB, opUpdate, ↓reduceIte, Nat.reduceSub, Nat.reduceEqDiff, Nat.reduceAdd, Nat.reduceMul, Nat.reduceLT, Nat.reduceLeDiff, Int.reduceToNat, Int.reduceLE, Int.reduceLT, Int.reduceNeg, reduceCtorEq, zzR, gos, Int.reduceAdd, Int.reduceSub, Int.reduceMul, Int.reduceEq, c0, c1, c2, hl])
        have hbl : a2.length = R := by omega
        have u1 := solves_walk P R C l a2 a3 v3 v5 v7 wl wx
        have u2 := against_walk P R C l a2 a4 v3 v5 v9 wl wb wy
        have u3 := loses_walk P R C l a4 v3 v9 wl wy
        have xs : solvesB P R C l a2 a3 = true → Sol P R C l a2 := solvesB_sol
        have yn : Sol P R C l a2 → againstB P R C l a2 a4 = false := fun h => againstB_no bin hbl wy h
        have yr : losesB P R C l a4 = true → (tkCup P C R l).1.length ≠ R := losesB_rank hP M hin wy
        generalize solvesB P R C l a2 a3 = bx at u1 xs
        generalize againstB P R C l a2 a4 = ba at u2 yn
        generalize losesB P R C l a4 = bo at u3 yr
        have z0 : ([] : List Int).length ≤ maxLen := by rw [mx_len]; decide
        have zw : W64s [] := fun a ha => by cases ha
        have SV : ∃ (s a : List Int) (e f : Int) (se sf : Bool), CallsP Try.prog 25 [u64 P, matP R C l, lu a2] (.tup [lu s, i64 e]) ∧ CallsP Try.prog 32 [u64 P, matP R C l, lu a2, lu s] (bl se) ∧ CallsP Try.prog 29 [u64 P, matP R C l, lu a2] (.tup [lu a, i64 f]) ∧ CallsP Try.prog 33 [u64 P, matP R C l, lu a2, lu a] (bl sf) ∧ ((e = 0 ∧ se = true ∧ f = 6 ∧ sf = false ∧ ba = false) ∨ (e = 6 ∧ se = false ∧ f = 0 ∧ sf = true ∧ bx = false)) := by
          have s2 := against8_yes hP M hin bin hbl
          by_cases hs : Sol P R C l a2
          · refine ⟨_, _, 0, 6, _, _, solve_sol hP M hin bin hbl hs, solves_walk P R C l a2 (solX P C (tkCup P C R l) a2) v3 v5 (by rw [solX_len, mx_len]; have := M.c2; omega) wl (w64_of_in M.hp (solX_in M.hp _ _)), ?_, against_walk P R C l a2 [] v3 v5 z0 wl wb zw, .inl ⟨rfl, solvesB_yes M bin hbl (solX_in M.hp _ _) (solX_len ..) ((sol_iff hP M hin bin hbl).2 hs), rfl, againstB_nil M, yn hs⟩⟩
            rwa [show fstR P R (tkCup P C R l) (fun y => dotNz P y a2) = ([], 6) by unfold fstR; rw [(against_iff hP M hin hbl).2 hs]] at s2
          · rcases fstI_cases (rws := (tkCup P C R l).1) (S := fun i => dotNz P (rowsV P R (tkCup P C R l) i) a2) (R := R) with ⟨e, _⟩ | ⟨i, e, i1, i2, i3⟩
            · exact absurd ((against_iff hP M hin hbl).1 e) hs
            have V := rowsV_ok hP M hin i1 i2
            rw [show fstR P R (tkCup P C R l) (fun y => dotNz P y a2) = (rowsV P R (tkCup P C R l) i, 0) by unfold fstR; rw [e]] at s2
            exact ⟨_, _, 6, 0, _, _, solve_none hP M hin bin hbl hs, solves_walk P R C l a2 [] v3 v5 z0 wl zw, s2, against_walk P R C l a2 (rowsV P R (tkCup P C R l) i) v3 v5 (by rw [V.len, mx_len]; have := M.r2; omega) wl wb (w64_of_in M.hp V.inn), .inr ⟨rfl, solvesB_nil M, rfl, againstB_yes M bin hbl V.inn V.len (V.left M.hp M.len) (by unfold dotNz at i3; simpa using i3), by cases bx; rfl; exact absurd (xs rfl) hs⟩⟩
        have LV : ∃ (y : List Int) (h : Int) (sh : Bool), CallsP Try.prog 31 [u64 P, matP R C l] (.tup [lu y, i64 h]) ∧ CallsP Try.prog 34 [u64 P, matP R C l, lu y] (bl sh) ∧ ((h = 0 ∧ sh = true) ∨ (h = 6 ∧ sh = false ∧ bo = false)) := by
          have s := left8_yes hP M hin
          rcases left_cases hP M hin with ⟨e, hr⟩ | ⟨y, e, hr, hyl, hy, hk, hn⟩
          · rw [e] at s
            exact ⟨_, _, _, s, loses_walk P R C l [] v3 z0 wl zw, .inr ⟨rfl, losesB_nil M, by cases bo; rfl; exact absurd hr (yr rfl)⟩⟩
          · rw [e] at s
            exact ⟨_, _, _, s, loses_walk P R C l y v3 (by rw [hyl, mx_len]; have := M.r2; omega) wl (w64_of_in M.hp hy), .inl ⟨rfl, losesB_yes M hy hyl hk hn⟩⟩
        have KV : ∃ (k : List Int) (g : Int), CallsP Try.prog 30 [u64 P, matP R C l] (.tup [lu k, i64 g]) ∧ (R = C → ∃ (D : Int) (sg' : Bool), CallsP Try.prog 35 [u64 P, matP R C l] (.tup [u64 D, i64 0]) ∧ CallsP Try.prog 36 [u64 P, matP R C l, lu k] (bl sg') ∧ ((g = 0 ∧ sg' = true ∧ D = 0) ∨ (g = 6 ∧ sg' = false ∧ ¬ D = 0))) := by
          have s := kernel8_yes hP M hin
          rcases kern_cases hP M hin with ⟨e, hr⟩ | ⟨x, e, hr, hxl, hx, hk, hn⟩
          · rw [e] at s
            refine ⟨_, _, s, fun e => ?_⟩
            subst e
            exact ⟨_, _, det_yes hP M hin, sing_walk P R R l [] v3 z0 wl zw, .inr ⟨rfl, singB_nil M, (full_iff hP M hin).2 hr⟩⟩
          · rw [e] at s
            refine ⟨_, _, s, fun e => ?_⟩
            subst e
            exact ⟨_, _, det_yes hP M hin, sing_walk P R R l x v3 (by rw [hxl, mx_len]; have := M.c2; omega) wl (w64_of_in M.hp hx), .inl ⟨rfl, singB_yes M hx hxl hk hn, Classical.byContradiction fun h => by have := (full_iff hP M hin).1 h; omega⟩⟩
        clear yr xs yn hin bin wl wb wx wy v4 v6 v8 v10
        obtain ⟨s, a, e, f, se, sf, t1, t5, t2, t6, SV⟩ := SV
        obtain ⟨y, h, sh, t4, t7, LV⟩ := LV
        obtain ⟨k, g, t3, KV⟩ := KV
        by_cases ec : R = C
        · obtain ⟨D, sg', t8, t9, KW⟩ := KV ec
          subst ec
          have hD : D = 0 ∨ ¬ D = 0 := Classical.em _
          rcases SV with ⟨rfl, rfl, rfl, rfl, rfl⟩ | ⟨rfl, rfl, rfl, rfl, rfl⟩ <;> rcases LV with ⟨rfl, rfl⟩ | ⟨rfl, rfl, rfl⟩ <;> rcases KW with ⟨rfl, rfl, rfl⟩ | ⟨rfl, rfl, hD⟩ <;> (
            refine X_startP (n := 179) (m := 5) (rs := [.tmp 10]) Try.func6 rfl rfl rfl rfl (by decide) fun base => ?_
            repeat (first | ((first | refine X_call_fn2 rfl (by simp only [tys]) ?_ | refine X_dcall_fn2 rfl (by simp only [tys]) ?_); apply Exists.intro; apply And.intro; (focus (simp -dsimp only [simx, zzC, zzB, tys, ite_self, opnL, callB, callX, readsB, stepOp, nilCmp, ofVal, opBuiltin, opLen, PV.sk, scalBin, scalUn, intBin, opLoad, natOf, opConvert, opField, cellsP, oneP, Value.oneCell', opStore, toIV, scalT, scalA, scalC, boxesA, boxesC, zipB_none, zipB_mx, isZ, opZip, zeroP, opAppendZ, opMakeMap, opLookup, mboxB, opUpdate, ↓reduceIte, Nat.reduceSub, Nat.reduceEqDiff, Nat.reduceAdd, Nat.reduceMul, Nat.reduceLT, Nat.reduceLeDiff, Int.reduceToNat, Int.reduceLE, Int.reduceLT, Int.reduceNeg, reduceCtorEq, zzL, if_true, if_false] <;> rfl)); apply Exists.intro; apply And.intro; (focus (first | exact d0 | exact d1 | exact d2 | exact d3 | exact t1 | exact t2 | exact t3 | exact t4 | exact t5 | exact t6 | exact t7 | exact t8 | exact t9 | exact u1 | exact u2))) | refine X_opc rfl ?_ | refine X_dopc rfl ?_ | refine ⟨(by show drawK _ _ = true; kernel_rfl : drawX _ _ _), ?_⟩ | exact (by show drawK _ _ = true; kernel_rfl : drawX _ _ _) | simp -dsimp (maxSteps := 20000000) (disch := omega) only [simx, zzC, zzB, tys, ite_self, opnL, callB, callX, readsB, stepOp, nilCmp, ofVal, opBuiltin, opLen, PV.sk, scalBin, scalUn, intBin, opLoad, natOf, opConvert, opField, cellsP, oneP, Value.oneCell', opStore, toIV, scalT, scalA, scalC, boxesA, boxesC, zipB_none, zipB_mx, isZ, opZip, zeroP, opAppendZ, opMakeMap, opLookup, mboxB, opUpdate, ↓reduceIte, Nat.reduceSub, Nat.reduceEqDiff, Nat.reduceAdd, Nat.reduceMul, Nat.reduceLT, Nat.reduceLeDiff, Int.reduceToNat, Int.reduceLE, Int.reduceLT, Int.reduceNeg, reduceCtorEq, gos, Int.reduceAdd, Int.reduceSub, Int.reduceMul, Int.reduceEq, c0, c1, c2, hl, hD])
            first | cases bx | cases ba
            all_goals (try cases bo)
            all_goals (repeat (first | ((first | refine X_call_fn2 rfl (by simp only [tys]) ?_ | refine X_dcall_fn2 rfl (by simp only [tys]) ?_); apply Exists.intro; apply And.intro; (focus (simp -dsimp only [simx, zzC, zzB, tys, ite_self, opnL, callB, callX, readsB, stepOp, nilCmp, ofVal, opBuiltin, opLen, PV.sk, scalBin, scalUn, intBin, opLoad, natOf, opConvert, opField, cellsP, oneP, Value.oneCell', opStore, toIV, scalT, scalA, scalC, boxesA, boxesC, zipB_none, zipB_mx, isZ, opZip, zeroP, opAppendZ, opMakeMap, opLookup, mboxB, opUpdate, ↓reduceIte, Nat.reduceSub, Nat.reduceEqDiff, Nat.reduceAdd, Nat.reduceMul, Nat.reduceLT, Nat.reduceLeDiff, Int.reduceToNat, Int.reduceLE, Int.reduceLT, Int.reduceNeg, reduceCtorEq, zzL, if_true, if_false] <;> rfl)); apply Exists.intro; apply And.intro; (focus (first | exact u1 | exact u2 | exact u3))) | refine X_opc rfl ?_ | refine X_dopc rfl ?_ | refine ⟨(by show drawK _ _ = true; kernel_rfl : drawX _ _ _), ?_⟩ | exact (by show drawK _ _ = true; kernel_rfl : drawX _ _ _) | simp -dsimp (maxSteps := 20000000) (disch := omega) only [simx, zzC, zzB, tys, ite_self, opnL, callB, callX, readsB, stepOp, nilCmp, ofVal, opBuiltin, opLen, PV.sk, scalBin, scalUn, intBin, opLoad, natOf, opConvert, opField, cellsP, oneP, Value.oneCell', opStore, toIV, scalT, scalA, scalC, boxesA, boxesC, zipB_none, zipB_mx, isZ, opZip, zeroP, opAppendZ, opMakeMap, opLookup, mboxB, opUpdate, ↓reduceIte, Nat.reduceSub, Nat.reduceEqDiff, Nat.reduceAdd, Nat.reduceMul, Nat.reduceLT, Nat.reduceLeDiff, Int.reduceToNat, Int.reduceLE, Int.reduceLT, Int.reduceNeg, reduceCtorEq, zzR, gos, Int.reduceAdd, Int.reduceSub, Int.reduceMul, Int.reduceEq])))
        · have e' : ¬ (R : Int) = C := by omega
          rcases SV with ⟨rfl, rfl, rfl, rfl, rfl⟩ | ⟨rfl, rfl, rfl, rfl, rfl⟩ <;> rcases LV with ⟨rfl, rfl⟩ | ⟨rfl, rfl, rfl⟩ <;> (
            refine X_startP (n := 179) (m := 5) (rs := [.tmp 10]) Try.func6 rfl rfl rfl rfl (by decide) fun base => ?_
            repeat (first | ((first | refine X_call_fn2 rfl (by simp only [tys]) ?_ | refine X_dcall_fn2 rfl (by simp only [tys]) ?_); apply Exists.intro; apply And.intro; (focus (simp -dsimp only [simx, zzC, zzB, tys, ite_self, opnL, callB, callX, readsB, stepOp, nilCmp, ofVal, opBuiltin, opLen, PV.sk, scalBin, scalUn, intBin, opLoad, natOf, opConvert, opField, cellsP, oneP, Value.oneCell', opStore, toIV, scalT, scalA, scalC, boxesA, boxesC, zipB_none, zipB_mx, isZ, opZip, zeroP, opAppendZ, opMakeMap, opLookup, mboxB, opUpdate, ↓reduceIte, Nat.reduceSub, Nat.reduceEqDiff, Nat.reduceAdd, Nat.reduceMul, Nat.reduceLT, Nat.reduceLeDiff, Int.reduceToNat, Int.reduceLE, Int.reduceLT, Int.reduceNeg, reduceCtorEq, zzL, if_true, if_false] <;> rfl)); apply Exists.intro; apply And.intro; (focus (first | exact d0 | exact d1 | exact d2 | exact d3 | exact t1 | exact t2 | exact t3 | exact t4 | exact t5 | exact t6 | exact t7 | exact u1 | exact u2))) | refine X_opc rfl ?_ | refine X_dopc rfl ?_ | refine ⟨(by show drawK _ _ = true; kernel_rfl : drawX _ _ _), ?_⟩ | exact (by show drawK _ _ = true; kernel_rfl : drawX _ _ _) | simp -dsimp (maxSteps := 20000000) (disch := omega) only [simx, zzC, zzB, tys, ite_self, opnL, callB, callX, readsB, stepOp, nilCmp, ofVal, opBuiltin, opLen, PV.sk, scalBin, scalUn, intBin, opLoad, natOf, opConvert, opField, cellsP, oneP, Value.oneCell', opStore, toIV, scalT, scalA, scalC, boxesA, boxesC, zipB_none, zipB_mx, isZ, opZip, zeroP, opAppendZ, opMakeMap, opLookup, mboxB, opUpdate, ↓reduceIte, Nat.reduceSub, Nat.reduceEqDiff, Nat.reduceAdd, Nat.reduceMul, Nat.reduceLT, Nat.reduceLeDiff, Int.reduceToNat, Int.reduceLE, Int.reduceLT, Int.reduceNeg, reduceCtorEq, gos, Int.reduceAdd, Int.reduceSub, Int.reduceMul, Int.reduceEq, c0, c1, c2, hl, e'])
            first | cases bx | cases ba
            all_goals (try cases bo)
            all_goals (repeat (first | ((first | refine X_call_fn2 rfl (by simp only [tys]) ?_ | refine X_dcall_fn2 rfl (by simp only [tys]) ?_); apply Exists.intro; apply And.intro; (focus (simp -dsimp only [simx, zzC, zzB, tys, ite_self, opnL, callB, callX, readsB, stepOp, nilCmp, ofVal, opBuiltin, opLen, PV.sk, scalBin, scalUn, intBin, opLoad, natOf, opConvert, opField, cellsP, oneP, Value.oneCell', opStore, toIV, scalT, scalA, scalC, boxesA, boxesC, zipB_none, zipB_mx, isZ, opZip, zeroP, opAppendZ, opMakeMap, opLookup, mboxB, opUpdate, ↓reduceIte, Nat.reduceSub, Nat.reduceEqDiff, Nat.reduceAdd, Nat.reduceMul, Nat.reduceLT, Nat.reduceLeDiff, Int.reduceToNat, Int.reduceLE, Int.reduceLT, Int.reduceNeg, reduceCtorEq, zzL, if_true, if_false] <;> rfl)); apply Exists.intro; apply And.intro; (focus (first | exact u1 | exact u2 | exact u3))) | refine X_opc rfl ?_ | refine X_dopc rfl ?_ | refine ⟨(by show drawK _ _ = true; kernel_rfl : drawX _ _ _), ?_⟩ | exact (by show drawK _ _ = true; kernel_rfl : drawX _ _ _) | simp -dsimp (maxSteps := 20000000) (disch := omega) only [simx, zzC, zzB, tys, ite_self, opnL, callB, callX, readsB, stepOp, nilCmp, ofVal, opBuiltin, opLen, PV.sk, scalBin, scalUn, intBin, opLoad, natOf, opConvert, opField, cellsP, oneP, Value.oneCell', opStore, toIV, scalT, scalA, scalC, boxesA, boxesC, zipB_none, zipB_mx, isZ, opZip, zeroP, opAppendZ, opMakeMap, opLookup, mboxB, opUpdate, ↓reduceIte, Nat.reduceSub, Nat.reduceEqDiff, Nat.reduceAdd, Nat.reduceMul, Nat.reduceLT, Nat.reduceLeDiff, Int.reduceToNat, Int.reduceLE, Int.reduceLT, Int.reduceNeg, reduceCtorEq, zzR, gos, Int.reduceAdd, Int.reduceSub, Int.reduceMul, Int.reduceEq])))
end Go.Proofs.Ytmalpmnmknpphaa.TM
