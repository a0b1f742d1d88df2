/- What is proved of functions, and plain facts, part 8. Conditions: none. -/
import Derived.Test.YthnfphgjfpcpbaaSCupProducts7
set_option linter.defProp false
set_option linter.unusedSectionVars false
set_option linter.unusedSimpArgs false
set_option linter.unusedVariables false
namespace Go.Proofs.Ythnfphgjfpcpbaa.TM
open Go Go.RowKit
attribute [local irreducible] K W WOps Effs Xg Xo Xr Xdg Xdo Xdr Xif CallsP CallR
def dtN (p : Int) (c : CupT) : Nat → Int
  | 0 => 1
  | j + 1 => dtN p c j * (c.2.2.2.getD j []).getD (c.2.1.getD j 0).toNat 0 % p
theorem dtN_in {p : Int} (hp : Md p) (c : CupT) : ∀ j, In p (dtN p c j)
  | 0 => ⟨by show (0 : Int) ≤ 1; decide, by have := hp.1; show (1 : Int) < p; omega⟩
  | j + 1 => in_emod hp _
theorem dtN_eq (p : Int) (c : CupT) : ∀ j, dtN p c j % p = prodN j (fun k => uuC c k (cwC c k)) % p
  | 0 => rfl
  | j + 1 => by rw [dtN, em_refl, prodN]; exact em_mul (dtN_eq p c j) rfl
theorem cols_ord {P R : Nat} {A : Mx} {c : CupT} (h1 : 1 ≤ R) (h2 : R ≤ 64) (hw : CupW P R R c) (H : CpC P R R A c) (hr : c.1.length = R) : orderB c.2.1 = true ∧ sgnR c.2.1 = sgnI (fun k => (cwC c k : Int)) R := by
  have e : c.2.1 = tbl R (fun k => (cwC c k : Int)) := by
    rw [← hr]
    refine (tbl_of hw.ql).trans (tbl_congr fun k hk => ?_)
    have := hw.qb _ (getD_mm (l := c.2.1) (d := 0) (i := k) (by rw [hw.ql]; exact hk))
    unfold cwC; omega
  have i1 : InjN (fun k => (cwC c k : Int)) R := fun i j hi hj he => H.cdis (by omega) (by omega) (by have : (cwC c i : Int) = cwC c j := he; omega)
  have i2 : InN (fun k => (cwC c k : Int)) R := fun i hi => ⟨by show (0 : Int) ≤ (cwC c i : Int); omega, by have := H.clt i (by omega); show (cwC c i : Int) < R; omega⟩
  have o := ord_tbl h1 h2 i1 i2
  rw [e]
  exact ⟨(orderB_iff _).2 o, sgn_tbl o⟩
set_option maxHeartbeats 2000000 in
theorem det_yes {P R : Nat} {l : List Int} (hP : Prm P) (M : Mt P R R l) (hin : ∀ a ∈ l, In P a) : CallsP Try.prog 37 [u64 P, matP R R l] (.tup [u64 (Lp R (cl R l) % P), i64 0]) := by
  have q1 := take_yes hP M hin
  have hw := tkCup_W hP M hin
  have H := tkCup_Cp hP M hin
  have hl := H.lp
  have co := fun h => cols_ord M.r1 M.r2 hw H h
  have hp := M.hp
  have r1 := M.r1
  have r2 := M.r2
  rw [hl]
  unfold pdX
  clear hl H
  have di := dtN_in hp (tkCup P R R l)
  have de := dtN_eq P (tkCup P R R l) R
  generalize hG : prodN R (fun k => uuC (tkCup P R R l) k (cwC (tkCup P R R l) k)) = G at de ⊢
  generalize hS : sgnI (fun k => (cwC (tkCup P R R l) k : Int)) R = S at co ⊢
  have s1 : S = 1 ∨ S = -1 := by rw [← hS]; exact sgnI_one _ _
  clear hG hS
  generalize tkCup P R R l = c at *
  obtain ⟨rw0, cw, cc, uu⟩ := c
  have rle := hw.rle
  have ul := hw.ul
  have ql := hw.ql
  simp only at rle ul ql co ⊢
  by_cases hr : rw0.length = R
  case neg =>
    rw [if_neg hr, Int.zero_emod]
    have h1 : (rw0.length : Int) < R := by omega
    refine X_startP (n := 73) (m := 2) (rs := [.tmp 4, .tmp 5]) Try.func37 rfl rfl rfl rfl (by decide) fun base => ?_
    repeat (first | ((first | refine X_call_fn2 rfl (by simp only [tys]) ?_ | refine X_dcall_fn2 rfl (by simp only [tys]) ?_); apply Exists.intro; apply And.intro; (focus (simp -dsimp only [simx, zzC, zzB, tys, ite_self, opnL, callB, callX, readsB, stepOp, nilCmp, ofVal, opBuiltin, opLen, PV.sk, scalBin, scalUn, intBin, opLoad, natOf, opConvert, opField, cellsP, oneP, Value.oneCell', opStore, toIV, scalT, scalA, scalC, boxesA, boxesC, zipB_none, zipB_mx, isZ, opZip, zeroP, opAppendZ, opMakeMap, opLookup, mboxB, opUpdate, ↓reduceIte, Nat.reduceSub, Nat.reduceEqDiff, Nat.reduceAdd, Nat.reduceMul, Nat.reduceLT, Nat.reduceLeDiff, Int.reduceToNat, Int.reduceLE, Int.reduceLT, Int.reduceNeg, reduceCtorEq, zzL, if_true, if_false] <;> rfl)); apply Exists.intro; apply And.intro; (focus (first | exact q1))) | refine X_opc rfl ?_ | refine X_dopc rfl ?_ | refine ⟨(by show drawK _ _ = true; kernel_rfl : drawX _ _ _), ?_⟩ | exact (by show drawK _ _ = true; kernel_rfl : drawX _ _ _) | simp -dsimp (maxSteps := 20000000) (disch := omega) only [simx, zzC, zzB, tys, ite_self, opnL, callB, callX, readsB, stepOp, nilCmp, ofVal, opBuiltin, opLen, PV.sk, scalBin, scalUn, intBin, opLoad, natOf, opConvert, opField, cellsP, oneP, Value.oneCell', opStore, toIV, scalT, scalA, scalC, boxesA, boxesC, zipB_none, zipB_mx, isZ, opZip, zeroP, opAppendZ, opMakeMap, opLookup, mboxB, opUpdate, ↓reduceIte, Nat.reduceSub, Nat.reduceEqDiff, Nat.reduceAdd, Nat.reduceMul, Nat.reduceLT, Nat.reduceLeDiff, Int.reduceToNat, Int.reduceLE, Int.reduceLT, Int.reduceNeg, reduceCtorEq, zzR, gos, Int.reduceAdd, Int.reduceSub, Int.reduceMul, Int.reduceEq, SK.len, h1])
  rw [if_pos hr]
  obtain ⟨o1, o2⟩ := co hr
  have h1 : ¬ (rw0.length : Int) < R := by omega
  have q2 := sign_walk cw (by rw [ql, mx_len]; omega)
  unfold signR at q2
  rw [if_pos o1, o2] at q2
  have q3 := Sub_in hp ⟨Int.le_refl 0, by have := hp.1; omega⟩ (di R)
  have e3 : (0 - dtN P (rw0, cw, cc, uu) R) % P = G * -1 % P := by
    rw [em_sub (rfl : (0 : Int) % P = 0 % P) de]
    congr 1
    omega
  have e2 : dtN P (rw0, cw, cc, uu) R = G * 1 % P := by
    rw [Int.mul_one, ← de, in_mod (di R)]
  rw [e3] at q3
  refine X_startP (n := 73) (m := 2) (rs := [.tmp 4, .tmp 5]) Try.func37 rfl rfl rfl rfl (by decide) fun base => ?_
  repeat (first | ((first | refine X_call_fn2 rfl (by simp only [tys]) ?_ | refine X_dcall_fn2 rfl (by simp only [tys]) ?_); apply Exists.intro; apply And.intro; (focus (simp -dsimp only [simx, zzC, zzB, tys, ite_self, opnL, callB, callX, readsB, stepOp, nilCmp, ofVal, opBuiltin, opLen, PV.sk, scalBin, scalUn, intBin, opLoad, natOf, opConvert, opField, cellsP, oneP, Value.oneCell', opStore, toIV, scalT, scalA, scalC, boxesA, boxesC, zipB_none, zipB_mx, isZ, opZip, zeroP, opAppendZ, opMakeMap, opLookup, mboxB, opUpdate, ↓reduceIte, Nat.reduceSub, Nat.reduceEqDiff, Nat.reduceAdd, Nat.reduceMul, Nat.reduceLT, Nat.reduceLeDiff, Int.reduceToNat, Int.reduceLE, Int.reduceLT, Int.reduceNeg, reduceCtorEq, zzL, if_true, if_false] <;> rfl)); apply Exists.intro; apply And.intro; (focus (first | exact q1))) | refine X_opc rfl ?_ | refine X_dopc rfl ?_ | refine ⟨(by show drawK _ _ = true; kernel_rfl : drawX _ _ _), ?_⟩ | exact (by show drawK _ _ = true; kernel_rfl : drawX _ _ _) | simp -dsimp (maxSteps := 20000000) (disch := omega) only [simx, zzC, zzB, tys, ite_self, opnL, callB, callX, readsB, stepOp, nilCmp, ofVal, opBuiltin, opLen, PV.sk, scalBin, scalUn, intBin, opLoad, natOf, opConvert, opField, cellsP, oneP, Value.oneCell', opStore, toIV, scalT, scalA, scalC, boxesA, boxesC, zipB_none, zipB_mx, isZ, opZip, zeroP, opAppendZ, opMakeMap, opLookup, mboxB, opUpdate, ↓reduceIte, Nat.reduceSub, Nat.reduceEqDiff, Nat.reduceAdd, Nat.reduceMul, Nat.reduceLT, Nat.reduceLeDiff, Int.reduceToNat, Int.reduceLE, Int.reduceLT, Int.reduceNeg, reduceCtorEq, gos, Int.reduceAdd, Int.reduceSub, Int.reduceMul, Int.reduceEq, SK.len, h1])
  refine X_loopH [0, 6, 8, 36, 37, 38] [] (0) (R) (fun j => True) (fun j => [(8, u64 (dtN P (rw0, cw, cc, uu) j)), (37, i64 R), (38, i64 j)]) (fun j => (Heap.none.put ((0, 0) :: base) (.var [i64 R, i64 R, lu l])).put ((3, 6) :: base) (.var [li rw0, li cw, llP cc, llP uu])) ?_ ?_ ?_ ?_ ?_ (by decide) ?_
  · exact (fgt_nil)
  · repeat (first | refine X_opc rfl ?_ | refine X_dopc rfl ?_ | refine ⟨(by show drawK _ _ = true; kernel_rfl : drawX _ _ _), ?_⟩ | exact (by show drawK _ _ = true; kernel_rfl : drawX _ _ _) | simp -dsimp (maxSteps := 20000000) (disch := omega) only [simx, zzC, zzB, tys, ite_self, opnL, callB, callX, readsB, stepOp, nilCmp, ofVal, opBuiltin, opLen, PV.sk, scalBin, scalUn, intBin, opLoad, natOf, opConvert, opField, cellsP, oneP, Value.oneCell', opStore, toIV, scalT, scalA, scalC, boxesA, boxesC, zipB_none, zipB_mx, isZ, opZip, zeroP, opAppendZ, opMakeMap, opLookup, mboxB, opUpdate, ↓reduceIte, Nat.reduceSub, Nat.reduceEqDiff, Nat.reduceAdd, Nat.reduceMul, Nat.reduceLT, Nat.reduceLeDiff, Int.reduceToNat, Int.reduceLE, Int.reduceLT, Int.reduceNeg, reduceCtorEq, gos, Int.reduceAdd, Int.reduceSub, Int.reduceMul, Int.reduceEq, ul, hr, dtN])
    rfl
  · funext c
    simp (maxSteps := 20000000) only [Heap.drop_at, rowH_app, Heap.put_at, Heap.none_at, List.mem_cons, List.not_mem_nil, or_false]
    by_cases e0 : c = (0, 0) :: base
    · subst e0; simp []
    by_cases e1 : c = (3, 6) :: base
    · subst e1; simp []
    simp [e0, e1]
  · omega
  · trivial
  · intro j hj _
    by_cases cj : j < R
    · have hq := hw.qb (cw.getD j 0) (getD_mm (by simp only; omega))
      obtain ⟨q, hqe⟩ : ∃ q : Nat, cw.getD j 0 = q := ⟨(cw.getD j 0).toNat, by omega⟩
      obtain ⟨u1, u2⟩ := hw.ur (uu.getD j []) (getD_mm (by simp only; omega))
      have qC : q < R := by omega
      have g1 : (uu.map fun u => IV.l u.length (u.map iu))[j]? = some (.l R ((uu.getD j []).map iu)) := by rw [List.getElem?_map, getD_at' (d := []) (by omega), Option.map_some, u1]
      have g2 : (cw.map ii)[j]? = some (ii (q : Int)) := by rw [List.getElem?_map, getD_at' (d := 0) (by omega), Option.map_some, hqe]
      have g3 : ((uu.getD j []).map iu)[q]? = some (iu ((uu.getD j []).getD q 0)) := by rw [List.getElem?_map, getD_some u1 qC]; rfl
      have m1 := Mul_in hp (di j) (getD_of u2 (i := q) (by omega))
      have dn : dtN P (rw0, cw, cc, uu) (j + 1) = dtN P (rw0, cw, cc, uu) j * (uu.getD j []).getD q 0 % P := by
        rw [dtN]; simp only [hqe, Int.toNat_natCast]
      rw [← dn] at m1
      obtain ⟨D1, hD1⟩ : ∃ D, dtN P (rw0, cw, cc, uu) (j + 1) = D := ⟨_, rfl⟩
      rw [hD1] at m1
      clear dn e2 e3 q3 di de
      generalize dtN P (rw0, cw, cc, uu) j = D0 at m1 ⊢
      obtain ⟨U, hU⟩ : ∃ U, uu.getD j [] = U := ⟨_, rfl⟩
      rw [hU] at g1 g3 m1
      generalize U.getD q 0 = x at g3 m1
      repeat (first | ((first | refine X_call_fn2 rfl (by simp only [tys]) ?_ | refine X_dcall_fn2 rfl (by simp only [tys]) ?_); apply Exists.intro; apply And.intro; (focus (simp -dsimp only [simx, zzC, zzB, tys, ite_self, opnL, callB, callX, readsB, stepOp, nilCmp, ofVal, opBuiltin, opLen, PV.sk, scalBin, scalUn, intBin, opLoad, natOf, opConvert, opField, cellsP, oneP, Value.oneCell', opStore, toIV, scalT, scalA, scalC, boxesA, boxesC, zipB_none, zipB_mx, isZ, opZip, zeroP, opAppendZ, opMakeMap, opLookup, mboxB, opUpdate, ↓reduceIte, Nat.reduceSub, Nat.reduceEqDiff, Nat.reduceAdd, Nat.reduceMul, Nat.reduceLT, Nat.reduceLeDiff, Int.reduceToNat, Int.reduceLE, Int.reduceLT, Int.reduceNeg, reduceCtorEq, zzL, if_true, if_false] <;> rfl)); apply Exists.intro; apply And.intro; (focus (first | exact m1))) | refine X_opc rfl ?_ | refine X_dopc rfl ?_ | refine ⟨(by show drawK _ _ = true; kernel_rfl : drawX _ _ _), ?_⟩ | exact (by show drawK _ _ = true; kernel_rfl : drawX _ _ _) | simp -dsimp (maxSteps := 20000000) (disch := omega) only [simx, zzC, zzB, tys, ite_self, opnL, callB, callX, readsB, stepOp, nilCmp, ofVal, opBuiltin, opLen, PV.sk, scalBin, scalUn, intBin, opLoad, natOf, opConvert, opField, cellsP, oneP, Value.oneCell', opStore, toIV, scalT, scalA, scalC, boxesA, boxesC, zipB_none, zipB_mx, isZ, opZip, zeroP, opAppendZ, opMakeMap, opLookup, mboxB, opUpdate, ↓reduceIte, Nat.reduceSub, Nat.reduceEqDiff, Nat.reduceAdd, Nat.reduceMul, Nat.reduceLT, Nat.reduceLeDiff, Int.reduceToNat, Int.reduceLE, Int.reduceLT, Int.reduceNeg, reduceCtorEq, gos, Int.reduceAdd, Int.reduceSub, Int.reduceMul, Int.reduceEq, cj, ul, ql, List.length_map, g1, g2, g3, qC, hr])
      exact ⟨cj, (fgt_nil), by rw [hD1]; exact ⟨rfl, rfl⟩, drop_nil _⟩
    · have ej : R = j := by omega
      subst ej
      clear de di
      generalize dtN P (rw0, cw, cc, uu) R = D at e2 e3 q3 ⊢
      rcases s1 with rfl | rfl
      · subst e2
        repeat (first | ((first | refine X_call_fn2 rfl (by simp only [tys]) ?_ | refine X_dcall_fn2 rfl (by simp only [tys]) ?_); apply Exists.intro; apply And.intro; (focus (simp -dsimp only [simx, zzC, zzB, tys, ite_self, opnL, callB, callX, readsB, stepOp, nilCmp, ofVal, opBuiltin, opLen, PV.sk, scalBin, scalUn, intBin, opLoad, natOf, opConvert, opField, cellsP, oneP, Value.oneCell', opStore, toIV, scalT, scalA, scalC, boxesA, boxesC, zipB_none, zipB_mx, isZ, opZip, zeroP, opAppendZ, opMakeMap, opLookup, mboxB, opUpdate, ↓reduceIte, Nat.reduceSub, Nat.reduceEqDiff, Nat.reduceAdd, Nat.reduceMul, Nat.reduceLT, Nat.reduceLeDiff, Int.reduceToNat, Int.reduceLE, Int.reduceLT, Int.reduceNeg, reduceCtorEq, zzL, if_true, if_false] <;> rfl)); apply Exists.intro; apply And.intro; (focus (first | exact q2))) | refine X_opc rfl ?_ | refine X_dopc rfl ?_ | refine ⟨(by show drawK _ _ = true; kernel_rfl : drawX _ _ _), ?_⟩ | exact (by show drawK _ _ = true; kernel_rfl : drawX _ _ _) | simp -dsimp (maxSteps := 20000000) (disch := omega) only [simx, zzC, zzB, tys, ite_self, opnL, callB, callX, readsB, stepOp, nilCmp, ofVal, opBuiltin, opLen, PV.sk, scalBin, scalUn, intBin, opLoad, natOf, opConvert, opField, cellsP, oneP, Value.oneCell', opStore, toIV, scalT, scalA, scalC, boxesA, boxesC, zipB_none, zipB_mx, isZ, opZip, zeroP, opAppendZ, opMakeMap, opLookup, mboxB, opUpdate, ↓reduceIte, Nat.reduceSub, Nat.reduceEqDiff, Nat.reduceAdd, Nat.reduceMul, Nat.reduceLT, Nat.reduceLeDiff, Int.reduceToNat, Int.reduceLE, Int.reduceLT, Int.reduceNeg, reduceCtorEq, zzR, gos, Int.reduceAdd, Int.reduceSub, Int.reduceMul, Int.reduceEq])
      · repeat (first | ((first | refine X_call_fn2 rfl (by simp only [tys]) ?_ | refine X_dcall_fn2 rfl (by simp only [tys]) ?_); apply Exists.intro; apply And.intro; (focus (simp -dsimp only [simx, zzC, zzB, tys, ite_self, opnL, callB, callX, readsB, stepOp, nilCmp, ofVal, opBuiltin, opLen, PV.sk, scalBin, scalUn, intBin, opLoad, natOf, opConvert, opField, cellsP, oneP, Value.oneCell', opStore, toIV, scalT, scalA, scalC, boxesA, boxesC, zipB_none, zipB_mx, isZ, opZip, zeroP, opAppendZ, opMakeMap, opLookup, mboxB, opUpdate, ↓reduceIte, Nat.reduceSub, Nat.reduceEqDiff, Nat.reduceAdd, Nat.reduceMul, Nat.reduceLT, Nat.reduceLeDiff, Int.reduceToNat, Int.reduceLE, Int.reduceLT, Int.reduceNeg, reduceCtorEq, zzL, if_true, if_false] <;> rfl)); apply Exists.intro; apply And.intro; (focus (first | exact q2 | exact q3))) | refine X_opc rfl ?_ | refine X_dopc rfl ?_ | refine ⟨(by show drawK _ _ = true; kernel_rfl : drawX _ _ _), ?_⟩ | exact (by show drawK _ _ = true; kernel_rfl : drawX _ _ _) | simp -dsimp (maxSteps := 20000000) (disch := omega) only [simx, zzC, zzB, tys, ite_self, opnL, callB, callX, readsB, stepOp, nilCmp, ofVal, opBuiltin, opLen, PV.sk, scalBin, scalUn, intBin, opLoad, natOf, opConvert, opField, cellsP, oneP, Value.oneCell', opStore, toIV, scalT, scalA, scalC, boxesA, boxesC, zipB_none, zipB_mx, isZ, opZip, zeroP, opAppendZ, opMakeMap, opLookup, mboxB, opUpdate, ↓reduceIte, Nat.reduceSub, Nat.reduceEqDiff, Nat.reduceAdd, Nat.reduceMul, Nat.reduceLT, Nat.reduceLeDiff, Int.reduceToNat, Int.reduceLE, Int.reduceLT, Int.reduceNeg, reduceCtorEq, zzR, gos, Int.reduceAdd, Int.reduceSub, Int.reduceMul, Int.reduceEq])
end Go.Proofs.Ythnfphgjfpcpbaa.TM
namespace Go.Proofs.Ythnfphgjfpcpbaa.TM
open Go
def lowerJB (h : Heap) (b : Name) (p : PV) : Option IV := if (boxesC p).contains b then none else lowerJ h p
def lowerCA (h : Heap) (b : Name) : PV → Option PV
  | .view c off z n top => if c = b then some (.view c off z n top) else match h c with
    | some (.var cs) => if cs.length = top ∧ off + n * z ≤ cs.length then (mapO (lowerJB h b) ((cs.drop off).take (n * z))).map fun xs => .i (.l n xs) else none
    | _ => lowerC h (.view c off z n top)
  | p => if (boxesC p).contains b then none else lowerC h p
def lowerAA (h : Heap) (b : Name) : PV → Option PV
  | .agg cs => (mapO (lowerCA h b) cs).map .agg
  | p => lowerCA h b p
def lowerTA (h : Heap) (b : Name) : PV → Option PV
  | .tup cs => (mapO (lowerAA h b) cs).map .tup
  | p => lowerAA h b p
section
variable {P : Program} {β : Pl} {h1 : Heap} {w : World} {b : Name} {cs0 : List IV}
theorem not_box {p : PV} (h : ¬ (boxesC p).contains b = true) : ∀ c ∈ boxesC p, c ≠ b := fun c hc e => h (by subst e; simpa using hc)
theorem lowerCA_rep (H1 : HInv β h1 w) {h' : Heap} (hb : h1 b = some (.row false cs0)) (hb' : h' b = some (.row false cs0)) {p q : PV} {v : Value} (hp : Rep β h1 w p v) (hl : lowerCA h1 b p = some q)
    (hR1 : ∀ a v, Rd β h1 w a v → Rd β h' w a v) (hR2 : ∀ c, c ≠ b → ∀ x, h1 c = some x → ∀ j v, w.cell? ⟨β c, j, none⟩ = some v → Rd β h' w ⟨β c, j, none⟩ v) : Rep β h' w q v := by
  have low : ∀ p q v, (∀ c ∈ boxesC p, c ≠ b) → Rep β h1 w p v → lowerC h1 p = some q → Rep β h' w q v := fun p q v hne hp hq =>
    lowerC_rep H1 hp hq (fun c _ fz cs hb => ⟨fz, hb⟩) hR1 fun c hc x hx j v hcell => hR2 c (hne c hc) x hx j v hcell
  unfold lowerCA at hl
  split at hl
  · rename_i c off z n top
    split at hl
    · rename_i hcb
      subst hcb
      cases hl
      cases hp with
      | view b' off z n top x a cap hbx hrow ht hn ha hv =>
        rw [hb] at hbx; cases hbx
        exact .view c off z n top _ a cap hb' rfl ht hn ha hv
    · rename_i hcb
      split at hl
      · rename_i cs hbv
        split at hl
        case isFalse => cases hl
        rename_i hc
        cases hm : mapO (lowerJB h1 b) ((cs.drop off).take (n * z)) with
        | none => simp [hm] at hl
        | some xs =>
          simp [hm] at hl
          subst hl
          obtain ⟨hlen, hg⟩ := mapO_get hm
          cases hp with
          | view _ _ _ _ _ x a cap hbx hrow ht hn ha hva =>
            rw [hbv] at hbx; cases hbx
            rcases hva hc.1 with ⟨h0, hc0, _⟩ | ⟨h0, hs0, _⟩
            · subst h0
              have : xs = [] := List.eq_nil_of_length_eq_zero (by rw [hlen]; simp)
              subst this
              cases a with
              | none => rw [hc0]; exact .i _ _ .nil
              | some a => exact .i _ _ (.l _ _ a cap (fun _ => undef) hn (fun j hj => by simp at hj) (fun j hj => by simp at hj) (fun j y hj => by simp at hj))
            · subst h0
              obtain ⟨c', e, hcc, hr, hcell⟩ := box_cell H1 hbv
              have hlen2 : ((cs.drop off).take (n * z)).length = n * z := by simp; omega
              refine .i _ _ (.l _ _ _ cap (fun j => c'.getD (off + j) undef) hn (fun j hj => ?_) (fun j hj => ?_) (fun j y hj => ?_))
              · rw [add_lit]
                exact hR2 c hcb _ hbv _ _ (hcell _ (by have := hr.1; omega))
              · have hlt : off + j < cs.length := by omega
                exact (hr.2 (off + j) cs[off + j] (List.getElem?_eq_getElem hlt)).1
              · have hjl : j < xs.length := (List.getElem?_eq_some_iff.1 hj).1
                have hj2 : j < ((cs.drop off).take (n * z)).length := by omega
                obtain ⟨x, hx, hxy⟩ := hg j _ (List.getElem?_eq_getElem hj2)
                rw [hxy] at hj; cases hj
                unfold lowerJB at hx
                split at hx
                case isTrue => cases hx
                rename_i hnb
                unfold lowerJ at hx
                split at hx
                · rename_i x' hlc
                  cases hx
                  have h7 := (hr.2 _ _ (take_drop_get (List.getElem?_eq_getElem hj2)).2).2
                  have h8 : Rep β h' w (.i _) (c'.getD (off + j) undef) := low _ _ _ (not_box hnb) h7 hlc
                  generalize c'.getD (off + j) undef = u at h8
                  cases h8 with | i _ _ h9 => exact h9
                · cases hx
      · exact low _ _ _ (fun d hd => by simp [boxesC] at hd; subst hd; exact hcb) hp hl
  · split at hl
    case isTrue => cases hl
    rename_i hnb
    exact low _ _ _ (not_box hnb) hp hl
theorem lowerAA_rep (H1 : HInv β h1 w) {h' : Heap} (hb : h1 b = some (.row false cs0)) (hb' : h' b = some (.row false cs0)) {p q : PV} {v : Value} (hp : Rep β h1 w p v) (hl : lowerAA h1 b p = some q)
    (hR1 : ∀ a v, Rd β h1 w a v → Rd β h' w a v) (hR2 : ∀ c, c ≠ b → ∀ x, h1 c = some x → ∀ j v, w.cell? ⟨β c, j, none⟩ = some v → Rd β h' w ⟨β c, j, none⟩ v) : Rep β h' w q v := by
  unfold lowerAA at hl
  split at hl
  · rename_i cs
    cases hm : mapO (lowerCA h1 b) cs with
    | none => simp [hm] at hl
    | some qs =>
      simp [hm] at hl
      subst hl
      obtain ⟨hlen, hg⟩ := mapO_get hm
      cases hp with
      | agg cs arr hla hs =>
        refine .agg _ _ (by omega) fun j x hj => ?_
        have hlt : j < cs.length := by rw [← hlen]; exact (List.getElem?_eq_some_iff.1 hj).1
        obtain ⟨y, hy, hqy⟩ := hg j _ (List.getElem?_eq_getElem hlt)
        rw [hqy] at hj; cases hj
        exact lowerCA_rep H1 hb hb' (hs j _ (List.getElem?_eq_getElem hlt)) hy hR1 hR2
  · exact lowerCA_rep H1 hb hb' hp hl hR1 hR2
theorem lowerTA_rep (H1 : HInv β h1 w) {h' : Heap} (hb : h1 b = some (.row false cs0)) (hb' : h' b = some (.row false cs0)) {p q : PV} {v : Value} (hp : Rep β h1 w p v) (hl : lowerTA h1 b p = some q)
    (hR1 : ∀ a v, Rd β h1 w a v → Rd β h' w a v) (hR2 : ∀ c, c ≠ b → ∀ x, h1 c = some x → ∀ j v, w.cell? ⟨β c, j, none⟩ = some v → Rd β h' w ⟨β c, j, none⟩ v) : Rep β h' w q v := by
  unfold lowerTA at hl
  split at hl
  · rename_i cs
    cases hm : mapO (lowerAA h1 b) cs with
    | none => simp [hm] at hl
    | some qs =>
      simp [hm] at hl
      subst hl
      obtain ⟨hlen, hg⟩ := mapO_get hm
      cases hp with
      | tup cs arr hla hs =>
        refine .tup _ _ (by omega) fun j x hj => ?_
        have hlt : j < cs.length := by rw [← hlen]; exact (List.getElem?_eq_some_iff.1 hj).1
        obtain ⟨y, hy, hqy⟩ := hg j _ (List.getElem?_eq_getElem hlt)
        rw [hqy] at hj; cases hj
        exact lowerAA_rep H1 hb hb' (hs j _ (List.getElem?_eq_getElem hlt)) hy hR1 hR2
  · exact lowerAA_rep H1 hb hb' hp hl hR1 hR2
end
theorem CallsA.of_low {P : Program} (hm : P.follows .mixedOrders = true) {g : FuncId} {args : List PV} {vf : Name → PV} {cs : List IV}
    (h : ∀ base, ∃ b u hu u', CallR P base g args Heap.none u hu ∧ hu b = some (.row false cs) ∧ lowerTA hu b u = some u' ∧ ∀ s, adoptT (Heap.none.put b (.row false cs)) b s u' = some (vf s)) : CallsA P g args vf cs := by
  intro base
  obtain ⟨b, u, hu, u', h1, hb, h2, h3⟩ := h base
  have hb' : (Heap.none.put b (.row false cs)) b = some (.row false cs) := by simp [Heap.put_at]
  have only : ∀ c x, (Heap.none.put b (.row false cs)) c = some x → c = b ∧ x = .row false cs := fun c x hx => by
    by_cases e : c = b
    · subst e; rw [hb'] at hx; cases hx; exact ⟨rfl, rfl⟩
    · rw [Heap.put_at, if_neg e] at hx; cases hx
  refine ⟨b, u', _, CallR.of_sound ?_, hb', h3⟩
  intro β w rargs H Hr
  refine (CallR_sound hm _ _ _ _ _ _ h1 β w rargs H Hr).mono ?_
  rintro e w' ⟨rv, β1, rfl, H1, hrep, E1⟩
  have hRd : ∀ a v, Rd β1 hu w' a v → Rd β1 (Heap.none.put b (.row false cs)) w' a v := fun a v hrd => ⟨⟨hrd.1.1, fun c x hc ho => by
    obtain ⟨rfl, rfl⟩ := only c x hc
    exact hrd.1.2 c _ hb rfl⟩, hrd.2⟩
  refine ⟨rv, β1, rfl, ⟨fun c c' x x' hc hc' _ => by rw [(only c x hc).1, (only c' x' hc').1], fun c x hc => by
    obtain ⟨rfl, rfl⟩ := only c x hc
    exact H1.nf c _ hb, H1.flt, fun c x hc => ?_⟩, ?_, ⟨E1.os, E1.tape, E1.output, E1.size, E1.F, fun blk hl hs => ⟨fun c x hc ho => ?_, (E1.stab blk hl hs).2⟩, fun c x hc => (by cases hc), E1.sz⟩⟩
  · obtain ⟨rfl, rfl⟩ := only c x hc
    obtain ⟨c2, e2, ho, hc1, hc2⟩ := H1.cells hb rfl
    exact ⟨_, ho, c2, e2, rfl, hc1, fun j y hj => ⟨(hc2 j y hj).1, (hc2 j y hj).2.mono hRd⟩⟩
  · refine lowerTA_rep H1 hb hb' hrep h2 hRd fun c hcb x hx j v hcell => ⟨⟨H1.nf c x hx, fun d y hd ho => ?_⟩, hcell⟩
    obtain ⟨rfl, rfl⟩ := only d y hd
    exact fun he => hcb (H1.inj _ c _ x hb hx he).symm
  · obtain ⟨rfl, rfl⟩ := only c x hc
    exact (E1.stab blk hl hs).1 c _ hb rfl
end Go.Proofs.Ythnfphgjfpcpbaa.TM
namespace Go.Proofs.Ythnfphgjfpcpbaa.TM
open Go Go.RowKit
theorem lowerCA_row {h : Heap} {b s : Name} {n : Nat} {cs : List IV} (hn : cs.length = n) (h0 : n ≠ 0) (hs : h s = some (.row false cs)) (hne : s ≠ b) : lowerCA h b (rowP s 1 n cs) = some (.i (.l n cs)) := by
  rw [← low_row (h := h) (s := s) (n := n) (cs := cs) hn fun _ => hs]
  unfold rowP
  rw [if_neg h0]
  show (if s = b then _ else match h s with | some (.var cs) => _ | _ => _) = (match h s with | some (.var cs) => _ | _ => _)
  rw [if_neg hne, hs]
theorem lowerCA_own {h : Heap} {b : Name} {n : Nat} {cs : List IV} (h0 : n ≠ 0) : lowerCA h b (rowP b 1 n cs) = some (.view b 0 1 n cs.length) := by
  unfold rowP
  rw [if_neg h0]
  show (if b = b then _ else _) = _
  rw [if_pos rfl]
theorem lowerCA_col {h : Heap} {s b d : Name} {n : Nat} {f : Nat → List Int} (h0 : 0 < n) (hs : h s = some (.var (crowsL b f n))) (hr : ∀ k, k < n → (f k).length ≠ 0 → h ((900, k) :: b) = some (.row false ((f k).map iu))) (hd : s ≠ d) (hk : ∀ k, (900, k) :: b ≠ d) :
    lowerCA h d (.view s 0 1 n n) = some (.i (.l n ((List.range n).map fun k => .l (f k).length ((f k).map iu)))) := by
  have hm : mapO (lowerJB h d) (crowsL b f n) = some ((List.range n).map fun k => IV.l (f k).length ((f k).map iu)) := by
    unfold crowsL
    refine mapO_list fun k hk' => ?_
    have hk' := List.mem_range.1 hk'
    unfold lowerJB
    rw [if_neg]
    · unfold lowerJ rowN
      rw [lower_row (by simp) (fun h1 => hr k hk' h1)]
    · unfold rowN rowP
      split
      · simp [boxesC]
      · simp only [boxesC, List.contains_cons, List.contains_nil, Bool.or_false, beq_iff_eq]
        exact fun e => hk k e.symm
  show (if s = d then _ else match h s with | some (.var cs) => _ | _ => _) = _
  rw [if_neg hd, hs]
  simp only [crowsL_len, Nat.mul_one, Nat.zero_add, Nat.le_refl, and_self, if_true, List.drop_zero]
  rw [List.take_of_length_le (by rw [crowsL_len]; exact Nat.le_refl _), hm]
  rfl
abbrev cupS (c : CupT) (s : Name) : PV := .agg [li c.1, .view s 0 1 c.1.length c.1.length, llP c.2.2.1, llP c.2.2.2]
theorem take_ad {P R C : Nat} {l : List Int} (hP : Prm P) (M : Mt P R C l) (hin : ∀ a ∈ l, In P a) (h0 : (tkCup P C R l).1.length ≠ 0) : CallsA Try.prog 46 [u64 P, matP R C l] (fun s => .tup [cupS (tkCup P C R l) s, i64 0]) ((tkCup P C R l).2.1.map ii) := by
  refine CallsA.of_low mixed fun base => ?_
  have I := tkN_I hP M hin R (Nat.le_refl R)
  have r1 := M.r1
  have e : tkCup P C R l = ((tkN P C l R).rows, (tkN P C l R).cols, (List.range R).map (fP (tkN P C l R) R 0), (tkN P C l R).us) := by unfold tkCup; rw [fP_cs I]
  rw [e] at h0 ⊢
  generalize hT : tkN P C l R = T at I h0 e
  obtain ⟨hu, h1, H⟩ := take_run hP M hin base hT
  have rl := I.rl
  have ql := I.ql
  simp only at h0
  have n0 : T.us.length ≠ 0 := by omega
  have cp : clmP ((10, 8) :: (7, 14) :: base) R = .view ((10, 8) :: (7, 14) :: base) 0 1 R R := if_neg (by omega)
  rw [cp] at h1
  have e1 := lowerCA_row (h := hu) (b := (16, 19) :: (7, 14) :: base) (s := (16, 11) :: (7, 14) :: base) (n := T.us.length) (cs := T.rows.map ii) (by simp [rl]) n0 (H.r n0) (by simp)
  have e2 := lowerCA_own (h := hu) (b := (16, 19) :: (7, 14) :: base) (n := T.us.length) (cs := T.cols.map ii) n0
  have e3 := lowerCA_row (h := hu) (b := (16, 19) :: (7, 14) :: base) (s := (16, 27) :: (7, 14) :: base) (n := T.us.length) (cs := T.us.map (lv C)) (by simp) n0 (H.u n0) (by simp)
  have e4 := lowerCA_col (h := hu) (d := (16, 19) :: (7, 14) :: base) (by omega) H.c H.f (by simp) (by simp)
  have e5 : T.us.map (lv C) = T.us.map fun u => IV.l u.length (u.map iu) := List.map_congr_left fun u hm => by rw [(I.ul u hm).1]
  refine ⟨(16, 19) :: (7, 14) :: base, _, hu, .tup [cupS (T.rows, T.cols, (List.range R).map (fP T R 0), T.us) ((16, 19) :: (7, 14) :: base), i64 0], h1, H.q n0, ?_, fun s => ?_⟩
  · simp only [lowerTA, lowerAA, mapO, e1, e2, e3, e4, Option.map_some]
    simp [lowerAA, lowerCA, lowerC, boxesC, llP, rl, ql, e5, List.map_map, Function.comp_def]
  · simp [adoptT, adoptA, adoptC, mapO, lowerC, llP]
end Go.Proofs.Ythnfphgjfpcpbaa.TM
namespace Go.Proofs.Ythnfphgjfpcpbaa.TM
open Go Go.RowKit
attribute [local irreducible] K W WOps Effs Xg Xo Xr Xdg Xdo Xdr Xif CallsP CallR
def insF : Nat → (Nat → Int) → (Nat → Int)
  | 0, f => f
  | j + 1, f => if f (j + 1) < f j then insF j (sw j (j + 1) f) else f
def srtF : Nat → (Nat → Int) → (Nat → Int)
  | 0, f => f
  | i + 1, f => insF (i + 1) (srtF i f)
def stpF (i : Nat) (f : Nat → Int) : Nat → (Nat → Int)
  | 0 => f
  | k + 1 => sw (i - k - 1) (i - k) (stpF i f k)
theorem stp_put {n m : Nat} (f : Nat → Int) (h : m + 1 < n) :
    ((((tbl n f).map ii).take (m + 1) ++ [ii (f m)] ++ ((tbl n f).map ii).drop (m + 2)).take m ++ [ii (f (m + 1))] ++ (((tbl n f).map ii).take (m + 1) ++ [ii (f m)] ++ ((tbl n f).map ii).drop (m + 2)).drop (m + 1)) = (tbl n (sw m (m + 1) f)).map ii := by
  rw [tbl_put_ii f (f m) h, tbl_put_ii _ (f (m + 1)) (by omega)]
  congr 1
set_option maxHeartbeats 2000000 in
theorem insert_walk {n : Nat} (f : Nat → Int) (hn : n ≤ 64) (h0 : 0 < n) : CallsW Try.prog 120 [.view wN 0 1 n n, i64 0, i64 n] (.tup []) ((tbl n f).map ii) ((tbl n (srtF (n - 1) f)).map ii) := by
  intro base
  show ∃ hu, CallR Try.prog base 120 [.view [(950, 0)] 0 1 n n, i64 0, i64 n] (Heap.none.put [(950, 0)] (.row false ((tbl n f).map ii))) (.tup []) hu ∧ hu [(950, 0)] = _
  refine X_startE (n := 49) (m := 3) (rs := []) Try.func120 rfl rfl rfl rfl (by decide) ?_
  repeat (first | refine X_opc rfl ?_ | refine X_dopc rfl ?_ | refine ⟨(by show drawK _ _ = true; kernel_rfl : drawX _ _ _), ?_⟩ | exact (by show drawK _ _ = true; kernel_rfl : drawX _ _ _) | simp -dsimp (maxSteps := 20000000) (disch := omega) only [simx, zzC, zzB, tys, ite_self, opnL, callB, callX, readsB, stepOp, nilCmp, ofVal, opBuiltin, opLen, PV.sk, scalBin, scalUn, intBin, opLoad, natOf, opConvert, opField, cellsP, oneP, Value.oneCell', opStore, toIV, scalT, scalA, scalC, boxesA, boxesC, zipB_none, zipB_mx, isZ, opZip, zeroP, opAppendZ, opMakeMap, opLookup, mboxB, opUpdate, ↓reduceIte, Nat.reduceSub, Nat.reduceEqDiff, Nat.reduceAdd, Nat.reduceMul, Nat.reduceLT, Nat.reduceLeDiff, Int.reduceToNat, Int.reduceLE, Int.reduceLT, Int.reduceNeg, reduceCtorEq, gos, Int.reduceAdd, Int.reduceSub, Int.reduceMul, Int.reduceEq])
  refine X_loopH [0, 1, 2, 6] [] (0) (n - 1) (fun j => True) (fun j => [(6, i64 (j + 1 : Nat))]) (fun j => Heap.none.put [(950, 0)] (.row false ((tbl n (srtF j f)).map ii))) ?_ ?_ ?_ ?_ ?_ (by decide) ?_
  · exact (fgt_nil)
  · ((simp -dsimp (disch := omega) only [simx, zzB, tys, ite_self, opnL, callB, callX, readsB, stepOp, nilCmp, ofVal, opBuiltin, opLen, PV.sk, scalBin, scalUn, intBin, opLoad, natOf, opConvert, opField, cellsP, oneP, Value.oneCell', opStore, toIV, scalT, scalA, scalC, boxesA, boxesC, zipB_none, zipB_mx, isZ, opZip, zeroP, opAppendZ, opMakeMap, opLookup, mboxB, opUpdate, ↓reduceIte, Nat.reduceSub, Nat.reduceEqDiff, Nat.reduceAdd, Nat.reduceMul, Nat.reduceLT, Nat.reduceLeDiff, Int.reduceToNat, Int.reduceLE, Int.reduceLT, Int.reduceNeg, reduceCtorEq, gos, Int.reduceAdd, Int.reduceSub, Int.reduceMul, Int.reduceEq]) <;> first | rfl | simp)
  · rw [drop_nil]; rfl
  · omega
  · trivial
  · intro i hi _
    by_cases ci : i + 1 < n
    · obtain ⟨G, hG⟩ : ∃ G, srtF i f = G := ⟨_, rfl⟩
      have hS : srtF (i + 1) f = insF (i + 1) G := by rw [srtF, hG]
      rw [hG]
      have ci' : ((i + 1 : Nat) : Int) < (n : Int) := by omega
      have il : i < n - 1 := by omega
      repeat (first | refine X_opc rfl ?_ | refine X_dopc rfl ?_ | refine ⟨(by show drawK _ _ = true; kernel_rfl : drawX _ _ _), ?_⟩ | exact (by show drawK _ _ = true; kernel_rfl : drawX _ _ _) | simp -dsimp (maxSteps := 20000000) (disch := omega) only [simx, zzC, zzB, tys, ite_self, opnL, callB, callX, readsB, stepOp, nilCmp, ofVal, opBuiltin, opLen, PV.sk, scalBin, scalUn, intBin, opLoad, natOf, opConvert, opField, cellsP, oneP, Value.oneCell', opStore, toIV, scalT, scalA, scalC, boxesA, boxesC, zipB_none, zipB_mx, isZ, opZip, zeroP, opAppendZ, opMakeMap, opLookup, mboxB, opUpdate, ↓reduceIte, Nat.reduceSub, Nat.reduceEqDiff, Nat.reduceAdd, Nat.reduceMul, Nat.reduceLT, Nat.reduceLeDiff, Int.reduceToNat, Int.reduceLE, Int.reduceLT, Int.reduceNeg, reduceCtorEq, gos, Int.reduceAdd, Int.reduceSub, Int.reduceMul, Int.reduceEq, ci, ci'])
      refine X_loopH [0, 1, 2, 6, 7] [] (0) (i + 1) (fun j => insF (i + 1 - j) (stpF (i + 1) G j) = srtF (i + 1) f) (fun j => [(7, i64 ((i + 1 - j : Nat)))]) (fun j => Heap.none.put [(950, 0)] (.row false ((tbl n (stpF (i + 1) G j)).map ii))) ?_ ?_ ?_ ?_ ?_ (by decide) ?_
      · exact (fgt_nil)
      · ((simp -dsimp (disch := omega) only [simx, zzB, tys, ite_self, opnL, callB, callX, readsB, stepOp, nilCmp, ofVal, opBuiltin, opLen, PV.sk, scalBin, scalUn, intBin, opLoad, natOf, opConvert, opField, cellsP, oneP, Value.oneCell', opStore, toIV, scalT, scalA, scalC, boxesA, boxesC, zipB_none, zipB_mx, isZ, opZip, zeroP, opAppendZ, opMakeMap, opLookup, mboxB, opUpdate, ↓reduceIte, Nat.reduceSub, Nat.reduceEqDiff, Nat.reduceAdd, Nat.reduceMul, Nat.reduceLT, Nat.reduceLeDiff, Int.reduceToNat, Int.reduceLE, Int.reduceLT, Int.reduceNeg, reduceCtorEq, gos, Int.reduceAdd, Int.reduceSub, Int.reduceMul, Int.reduceEq]) <;> first | rfl | simp)
      · rw [drop_nil]; rfl
      · omega
      · exact hS.symm
      · intro k hk hf
        obtain ⟨F, hF⟩ : ∃ F, stpF (i + 1) G k = F := ⟨_, rfl⟩
        rw [hF] at hf ⊢
        by_cases ck : k < i + 1
        · obtain ⟨m, hm⟩ : ∃ m, i + 1 - k = m + 1 := ⟨i - k, by omega⟩
          have hn1 : stpF (i + 1) G (k + 1) = sw m (m + 1) F := by rw [stpF, hF, hm]; rfl
          have e1 : i + 1 - (k + 1) = m := by omega
          have e2 : ((m + 1 : Nat) : Int) - 1 = (m : Int) := by omega
          have mn : m + 1 < n := by omega
          have mn2 : m < n := by omega
          have mn3 : m + 1 + 1 ≤ n := by omega
          have mn4 : m + 1 ≤ n := by omega
          have m0 : (0 : Int) < ((m + 1 : Nat) : Int) := by omega
          have px := stp_put F mn
          have g1 : ((tbl n F).map ii)[m + 1]? = some (ii (F (m + 1))) := by rw [List.getElem?_map, tbl_get? _ mn]; rfl
          have g2 : ((tbl n F).map ii)[m]? = some (ii (F m)) := by rw [List.getElem?_map, tbl_get? _ mn2]; rfl
          have q1 := less_walk (F (m + 1)) (F m)
          have tl := tbl_len n F
          have lx : ∀ y, (((tbl n F).map ii).take (m + 1) ++ [ii y] ++ ((tbl n F).map ii).drop (m + 1 + 1)).length = n := fun y => by rw [tbl_put_ii F y mn, List.length_map, tbl_len]
          rw [hm, insF] at hf
          rw [hm]
          by_cases c : F (m + 1) < F m
          · rw [decide_eq_true c] at q1
            rw [if_pos c] at hf
            generalize F (m + 1) = x at g1 q1 px
            generalize F m = y at g2 q1 px
            repeat (first | ((first | refine X_call_fn2 rfl (by simp only [tys]) ?_ | refine X_dcall_fn2 rfl (by simp only [tys]) ?_); apply Exists.intro; apply And.intro; (focus (simp -dsimp only [simx, zzC, zzB, tys, ite_self, opnL, callB, callX, readsB, stepOp, nilCmp, ofVal, opBuiltin, opLen, PV.sk, scalBin, scalUn, intBin, opLoad, natOf, opConvert, opField, cellsP, oneP, Value.oneCell', opStore, toIV, scalT, scalA, scalC, boxesA, boxesC, zipB_none, zipB_mx, isZ, opZip, zeroP, opAppendZ, opMakeMap, opLookup, mboxB, opUpdate, ↓reduceIte, Nat.reduceSub, Nat.reduceEqDiff, Nat.reduceAdd, Nat.reduceMul, Nat.reduceLT, Nat.reduceLeDiff, Int.reduceToNat, Int.reduceLE, Int.reduceLT, Int.reduceNeg, reduceCtorEq, zzL, if_true, if_false] <;> rfl)); apply Exists.intro; apply And.intro; (focus (first | exact q1))) | refine X_opc rfl ?_ | refine X_dopc rfl ?_ | refine ⟨(by show drawK _ _ = true; kernel_rfl : drawX _ _ _), ?_⟩ | exact (by show drawK _ _ = true; kernel_rfl : drawX _ _ _) | simp -dsimp (maxSteps := 20000000) (disch := omega) only [simx, zzC, zzB, tys, ite_self, opnL, callB, callX, readsB, stepOp, nilCmp, ofVal, opBuiltin, opLen, PV.sk, scalBin, scalUn, intBin, opLoad, natOf, opConvert, opField, cellsP, oneP, Value.oneCell', opStore, toIV, scalT, scalA, scalC, boxesA, boxesC, zipB_none, zipB_mx, isZ, opZip, zeroP, opAppendZ, opMakeMap, opLookup, mboxB, opUpdate, ↓reduceIte, Nat.reduceSub, Nat.reduceEqDiff, Nat.reduceAdd, Nat.reduceMul, Nat.reduceLT, Nat.reduceLeDiff, Int.reduceToNat, Int.reduceLE, Int.reduceLT, Int.reduceNeg, reduceCtorEq, gos, Int.reduceAdd, Int.reduceSub, Int.reduceMul, Int.reduceEq, e2, mn, mn2, mn3, mn4, m0, g1, g2, List.length_map, tl, lx])
            refine ⟨ck, (fgt_nil), ?_, ?_, ?_⟩
            · rw [e1, hn1]; exact hf
            · rw [e1]
            · rw [drop_nil, hn1, ← px]
              funext c
              simp (maxSteps := 20000000) only [Heap.drop_at, rowH_app, Heap.put_at, Heap.none_at, List.mem_cons, List.not_mem_nil, or_false]
              by_cases e0 : c = [(950, 0)]
              · subst e0; simp []
              simp [e0]
          · rw [decide_eq_false c] at q1
            rw [if_neg c] at hf
            clear px c
            generalize F (m + 1) = x at g1 q1
            generalize F m = y at g2 q1
            subst hf
            repeat (first | ((first | refine X_call_fn2 rfl (by simp only [tys]) ?_ | refine X_dcall_fn2 rfl (by simp only [tys]) ?_); apply Exists.intro; apply And.intro; (focus (simp -dsimp only [simx, zzC, zzB, tys, ite_self, opnL, callB, callX, readsB, stepOp, nilCmp, ofVal, opBuiltin, opLen, PV.sk, scalBin, scalUn, intBin, opLoad, natOf, opConvert, opField, cellsP, oneP, Value.oneCell', opStore, toIV, scalT, scalA, scalC, boxesA, boxesC, zipB_none, zipB_mx, isZ, opZip, zeroP, opAppendZ, opMakeMap, opLookup, mboxB, opUpdate, ↓reduceIte, Nat.reduceSub, Nat.reduceEqDiff, Nat.reduceAdd, Nat.reduceMul, Nat.reduceLT, Nat.reduceLeDiff, Int.reduceToNat, Int.reduceLE, Int.reduceLT, Int.reduceNeg, reduceCtorEq, zzL, if_true, if_false] <;> rfl)); apply Exists.intro; apply And.intro; (focus (first | exact q1))) | refine X_opc rfl ?_ | refine X_dopc rfl ?_ | refine ⟨(by show drawK _ _ = true; kernel_rfl : drawX _ _ _), ?_⟩ | exact (by show drawK _ _ = true; kernel_rfl : drawX _ _ _) | simp -dsimp (maxSteps := 20000000) (disch := omega) only [simx, zzC, zzB, tys, ite_self, opnL, callB, callX, readsB, stepOp, nilCmp, ofVal, opBuiltin, opLen, PV.sk, scalBin, scalUn, intBin, opLoad, natOf, opConvert, opField, cellsP, oneP, Value.oneCell', opStore, toIV, scalT, scalA, scalC, boxesA, boxesC, zipB_none, zipB_mx, isZ, opZip, zeroP, opAppendZ, opMakeMap, opLookup, mboxB, opUpdate, ↓reduceIte, Nat.reduceSub, Nat.reduceEqDiff, Nat.reduceAdd, Nat.reduceMul, Nat.reduceLT, Nat.reduceLeDiff, Int.reduceToNat, Int.reduceLE, Int.reduceLT, Int.reduceNeg, reduceCtorEq, gos, Int.reduceAdd, Int.reduceSub, Int.reduceMul, Int.reduceEq, e2, mn, mn2, mn3, mn4, m0, g1, g2, List.length_map, tl])
            refine ⟨il, (fgt_nil), ?_, ?_⟩
            · rfl
            · funext c
              simp (maxSteps := 20000000) only [Heap.drop_at, rowH_app, Heap.put_at, Heap.none_at, List.mem_cons, List.not_mem_nil, or_false]
              by_cases e0 : c = [(950, 0)]
              · subst e0; simp []
              simp [e0]
        · have ek : i + 1 = k := by omega
          subst ek
          rw [Nat.sub_self, insF] at hf
          rw [Nat.sub_self]
          subst hf
          repeat (first | refine X_opc rfl ?_ | refine X_dopc rfl ?_ | refine ⟨(by show drawK _ _ = true; kernel_rfl : drawX _ _ _), ?_⟩ | exact (by show drawK _ _ = true; kernel_rfl : drawX _ _ _) | simp -dsimp (maxSteps := 20000000) (disch := omega) only [simx, zzC, zzB, tys, ite_self, opnL, callB, callX, readsB, stepOp, nilCmp, ofVal, opBuiltin, opLen, PV.sk, scalBin, scalUn, intBin, opLoad, natOf, opConvert, opField, cellsP, oneP, Value.oneCell', opStore, toIV, scalT, scalA, scalC, boxesA, boxesC, zipB_none, zipB_mx, isZ, opZip, zeroP, opAppendZ, opMakeMap, opLookup, mboxB, opUpdate, ↓reduceIte, Nat.reduceSub, Nat.reduceEqDiff, Nat.reduceAdd, Nat.reduceMul, Nat.reduceLT, Nat.reduceLeDiff, Int.reduceToNat, Int.reduceLE, Int.reduceLT, Int.reduceNeg, reduceCtorEq, gos, Int.reduceAdd, Int.reduceSub, Int.reduceMul, Int.reduceEq])
          refine ⟨il, (fgt_nil), ?_, ?_⟩
          · rfl
          · funext c
            simp (maxSteps := 20000000) only [Heap.drop_at, rowH_app, Heap.put_at, Heap.none_at, List.mem_cons, List.not_mem_nil, or_false]
            by_cases e0 : c = [(950, 0)]
            · subst e0; simp []
            simp [e0]
    · have ei : i = n - 1 := by omega
      subst ei
      have ci' : ¬ ((n - 1 + 1 : Nat) : Int) < (n : Int) := by omega
      repeat (first | refine X_opc rfl ?_ | refine X_dopc rfl ?_ | refine ⟨(by show drawK _ _ = true; kernel_rfl : drawX _ _ _), ?_⟩ | exact (by show drawK _ _ = true; kernel_rfl : drawX _ _ _) | simp -dsimp (maxSteps := 20000000) (disch := omega) only [simx, zzC, zzB, tys, ite_self, opnL, callB, callX, readsB, stepOp, nilCmp, ofVal, opBuiltin, opLen, PV.sk, scalBin, scalUn, intBin, opLoad, natOf, opConvert, opField, cellsP, oneP, Value.oneCell', opStore, toIV, scalT, scalA, scalC, boxesA, boxesC, zipB_none, zipB_mx, isZ, opZip, zeroP, opAppendZ, opMakeMap, opLookup, mboxB, opUpdate, ↓reduceIte, Nat.reduceSub, Nat.reduceEqDiff, Nat.reduceAdd, Nat.reduceMul, Nat.reduceLT, Nat.reduceLeDiff, Int.reduceToNat, Int.reduceLE, Int.reduceLT, Int.reduceNeg, reduceCtorEq, zzR, gos, Int.reduceAdd, Int.reduceSub, Int.reduceMul, Int.reduceEq, ci, ci'])
      rfl
set_option maxHeartbeats 2000000 in
theorem pdq_walk {n : Nat} (k : Int) (f : Nat → Int) (hn : n ≤ 12) (h0 : 0 < n) : CallsW Try.prog 110 [.view wN 0 1 n n, i64 0, i64 n, i64 k] (.tup []) ((tbl n f).map ii) ((tbl n (srtF (n - 1) f)).map ii) := by
  have q1 := insert_walk f (show n ≤ 64 by omega) h0
  have tl := tbl_len n f
  have tl2 := tbl_len n (srtF (n - 1) f)
  intro base
  show ∃ hu, CallR Try.prog base 110 [.view [(950, 0)] 0 1 n n, i64 0, i64 n, i64 k] (Heap.none.put [(950, 0)] (.row false ((tbl n f).map ii))) (.tup []) hu ∧ hu [(950, 0)] = _
  have c12 : (n : Int) ≤ 12 := by omega
  generalize tbl n (srtF (n - 1) f) = L' at q1 tl2 ⊢
  generalize tbl n f = L at q1 tl ⊢
  refine X_startE (n := 134) (m := 4) (rs := []) Try.func110 rfl rfl rfl rfl (by decide) ?_
  repeat (first | refine X_opc rfl ?_ | refine X_dopc rfl ?_ | refine ⟨(by show drawK _ _ = true; kernel_rfl : drawX _ _ _), ?_⟩ | exact (by show drawK _ _ = true; kernel_rfl : drawX _ _ _) | simp -dsimp (maxSteps := 20000000) (disch := omega) only [simx, zzC, zzB, tys, ite_self, opnL, callB, callX, readsB, stepOp, nilCmp, ofVal, opBuiltin, opLen, PV.sk, scalBin, scalUn, intBin, opLoad, natOf, opConvert, opField, cellsP, oneP, Value.oneCell', opStore, toIV, scalT, scalA, scalC, boxesA, boxesC, zipB_none, zipB_mx, isZ, opZip, zeroP, opAppendZ, opMakeMap, opLookup, mboxB, opUpdate, ↓reduceIte, Nat.reduceSub, Nat.reduceEqDiff, Nat.reduceAdd, Nat.reduceMul, Nat.reduceLT, Nat.reduceLeDiff, Int.reduceToNat, Int.reduceLE, Int.reduceLT, Int.reduceNeg, reduceCtorEq, gos, Int.reduceAdd, Int.reduceSub, Int.reduceMul, Int.reduceEq])
  refine X_loopH [0, 1, 2, 3, 8, 9] [] (0) (0) (fun j => True) (fun j => []) (fun j => Heap.none.put [(950, 0)] (.row false (L.map ii))) ?_ ?_ ?_ ?_ ?_ (by decide) ?_
  · exact (fgt_nil)
  · ((simp -dsimp (disch := omega) only [simx, zzB, tys, ite_self, opnL, callB, callX, readsB, stepOp, nilCmp, ofVal, opBuiltin, opLen, PV.sk, scalBin, scalUn, intBin, opLoad, natOf, opConvert, opField, cellsP, oneP, Value.oneCell', opStore, toIV, scalT, scalA, scalC, boxesA, boxesC, zipB_none, zipB_mx, isZ, opZip, zeroP, opAppendZ, opMakeMap, opLookup, mboxB, opUpdate, ↓reduceIte, Nat.reduceSub, Nat.reduceEqDiff, Nat.reduceAdd, Nat.reduceMul, Nat.reduceLT, Nat.reduceLeDiff, Int.reduceToNat, Int.reduceLE, Int.reduceLT, Int.reduceNeg, reduceCtorEq, gos, Int.reduceAdd, Int.reduceSub, Int.reduceMul, Int.reduceEq]) <;> first | rfl | simp)
  · rw [drop_nil]
  · omega
  · trivial
  · intro j hj _
    repeat (first | refine X_opc rfl ?_ | refine X_dopc rfl ?_ | refine ⟨(by show drawK _ _ = true; kernel_rfl : drawX _ _ _), ?_⟩ | exact (by show drawK _ _ = true; kernel_rfl : drawX _ _ _) | simp -dsimp (maxSteps := 20000000) (disch := omega) only [simx, zzC, zzB, tys, ite_self, opnL, callB, callX, readsB, stepOp, nilCmp, ofVal, opBuiltin, opLen, PV.sk, scalBin, scalUn, intBin, opLoad, natOf, opConvert, opField, cellsP, oneP, Value.oneCell', opStore, toIV, scalT, scalA, scalC, boxesA, boxesC, zipB_none, zipB_mx, isZ, opZip, zeroP, opAppendZ, opMakeMap, opLookup, mboxB, opUpdate, ↓reduceIte, Nat.reduceSub, Nat.reduceEqDiff, Nat.reduceAdd, Nat.reduceMul, Nat.reduceLT, Nat.reduceLeDiff, Int.reduceToNat, Int.reduceLE, Int.reduceLT, Int.reduceNeg, reduceCtorEq, gos, Int.reduceAdd, Int.reduceSub, Int.reduceMul, Int.reduceEq, c12])
    refine X_call_w (args := [.view [(950, 0)] 0 1 n n, i64 0, i64 n]) [(950, 0)] q1 rfl (by simp only [tys]) rfl (by simp [Heap.put_at]) (by simp [boxesA, boxesC]) (by simp [mapO, lowerW, isV, reV, boxesA, boxesC, lowerA, lowerC, wN]) rfl (by simp [tl, tl2]) ?_
    rw [show List.filter (notB [(950, 0)]) (List.flatMap boxesA [.view [(950, 0)] 0 1 n n, i64 0, i64 n]) = [] by simp [boxesA, boxesC, notB]]
    repeat (first | refine X_opc rfl ?_ | refine X_dopc rfl ?_ | refine ⟨(by show drawK _ _ = true; kernel_rfl : drawX _ _ _), ?_⟩ | exact (by show drawK _ _ = true; kernel_rfl : drawX _ _ _) | simp -dsimp (maxSteps := 20000000) (disch := omega) only [simx, zzC, zzB, tys, ite_self, opnL, callB, callX, readsB, stepOp, nilCmp, ofVal, opBuiltin, opLen, PV.sk, scalBin, scalUn, intBin, opLoad, natOf, opConvert, opField, cellsP, oneP, Value.oneCell', opStore, toIV, scalT, scalA, scalC, boxesA, boxesC, zipB_none, zipB_mx, isZ, opZip, zeroP, opAppendZ, opMakeMap, opLookup, mboxB, opUpdate, ↓reduceIte, Nat.reduceSub, Nat.reduceEqDiff, Nat.reduceAdd, Nat.reduceMul, Nat.reduceLT, Nat.reduceLeDiff, Int.reduceToNat, Int.reduceLE, Int.reduceLT, Int.reduceNeg, reduceCtorEq, zzR, gos, Int.reduceAdd, Int.reduceSub, Int.reduceMul, Int.reduceEq])
    rfl
set_option maxHeartbeats 2000000 in
theorem sort_walk {n : Nat} (f : Nat → Int) (hn : n ≤ 12) (h0 : 0 < n) : CallsW Try.prog 88 [.view wN 0 1 n n] (.tup []) ((tbl n f).map ii) ((tbl n (srtF (n - 1) f)).map ii) := by
  obtain ⟨k, d1, _⟩ := len64_walk n (by omega) (by omega)
  have d2 : CallsP Try.prog 111 [u64 n] (i64 k) := by
    refine X_startP (n := 8) (m := 1) (rs := [.tmp 2]) Try.func111 rfl rfl rfl rfl (by decide) fun base => ?_
    repeat (first | ((first | refine X_call_fn2 rfl (by simp only [tys]) ?_ | refine X_dcall_fn2 rfl (by simp only [tys]) ?_); apply Exists.intro; apply And.intro; (focus (simp -dsimp only [simx, zzC, zzB, tys, ite_self, opnL, callB, callX, readsB, stepOp, nilCmp, ofVal, opBuiltin, opLen, PV.sk, scalBin, scalUn, intBin, opLoad, natOf, opConvert, opField, cellsP, oneP, Value.oneCell', opStore, toIV, scalT, scalA, scalC, boxesA, boxesC, zipB_none, zipB_mx, isZ, opZip, zeroP, opAppendZ, opMakeMap, opLookup, mboxB, opUpdate, ↓reduceIte, Nat.reduceSub, Nat.reduceEqDiff, Nat.reduceAdd, Nat.reduceMul, Nat.reduceLT, Nat.reduceLeDiff, Int.reduceToNat, Int.reduceLE, Int.reduceLT, Int.reduceNeg, reduceCtorEq, zzL, if_true, if_false] <;> rfl)); apply Exists.intro; apply And.intro; (focus (first | exact d1))) | refine X_opc rfl ?_ | refine X_dopc rfl ?_ | refine ⟨(by show drawK _ _ = true; kernel_rfl : drawX _ _ _), ?_⟩ | exact (by show drawK _ _ = true; kernel_rfl : drawX _ _ _) | simp -dsimp (maxSteps := 20000000) (disch := omega) only [simx, zzC, zzB, tys, ite_self, opnL, callB, callX, readsB, stepOp, nilCmp, ofVal, opBuiltin, opLen, PV.sk, scalBin, scalUn, intBin, opLoad, natOf, opConvert, opField, cellsP, oneP, Value.oneCell', opStore, toIV, scalT, scalA, scalC, boxesA, boxesC, zipB_none, zipB_mx, isZ, opZip, zeroP, opAppendZ, opMakeMap, opLookup, mboxB, opUpdate, ↓reduceIte, Nat.reduceSub, Nat.reduceEqDiff, Nat.reduceAdd, Nat.reduceMul, Nat.reduceLT, Nat.reduceLeDiff, Int.reduceToNat, Int.reduceLE, Int.reduceLT, Int.reduceNeg, reduceCtorEq, zzR, gos, Int.reduceAdd, Int.reduceSub, Int.reduceMul, Int.reduceEq])
  have q1 := pdq_walk (k : Int) f hn h0
  have tl := tbl_len n f
  have tl2 := tbl_len n (srtF (n - 1) f)
  intro base
  show ∃ hu, CallR Try.prog base 88 [.view [(950, 0)] 0 1 n n] (Heap.none.put [(950, 0)] (.row false ((tbl n f).map ii))) (.tup []) hu ∧ hu [(950, 0)] = _
  generalize tbl n (srtF (n - 1) f) = L' at q1 tl2 ⊢
  generalize tbl n f = L at q1 tl ⊢
  refine X_startE (n := 11) (m := 1) (rs := []) Try.func88 rfl rfl rfl rfl (by decide) ?_
  repeat (first | ((first | refine X_call_fn2 rfl (by simp only [tys]) ?_ | refine X_dcall_fn2 rfl (by simp only [tys]) ?_); apply Exists.intro; apply And.intro; (focus (simp -dsimp only [simx, zzC, zzB, tys, ite_self, opnL, callB, callX, readsB, stepOp, nilCmp, ofVal, opBuiltin, opLen, PV.sk, scalBin, scalUn, intBin, opLoad, natOf, opConvert, opField, cellsP, oneP, Value.oneCell', opStore, toIV, scalT, scalA, scalC, boxesA, boxesC, zipB_none, zipB_mx, isZ, opZip, zeroP, opAppendZ, opMakeMap, opLookup, mboxB, opUpdate, ↓reduceIte, Nat.reduceSub, Nat.reduceEqDiff, Nat.reduceAdd, Nat.reduceMul, Nat.reduceLT, Nat.reduceLeDiff, Int.reduceToNat, Int.reduceLE, Int.reduceLT, Int.reduceNeg, reduceCtorEq, zzL, if_true, if_false] <;> rfl)); apply Exists.intro; apply And.intro; (focus (first | exact d2))) | refine X_opc rfl ?_ | refine X_dopc rfl ?_ | refine ⟨(by show drawK _ _ = true; kernel_rfl : drawX _ _ _), ?_⟩ | exact (by show drawK _ _ = true; kernel_rfl : drawX _ _ _) | simp -dsimp (maxSteps := 20000000) (disch := omega) only [simx, zzC, zzB, tys, ite_self, opnL, callB, callX, readsB, stepOp, nilCmp, ofVal, opBuiltin, opLen, PV.sk, scalBin, scalUn, intBin, opLoad, natOf, opConvert, opField, cellsP, oneP, Value.oneCell', opStore, toIV, scalT, scalA, scalC, boxesA, boxesC, zipB_none, zipB_mx, isZ, opZip, zeroP, opAppendZ, opMakeMap, opLookup, mboxB, opUpdate, ↓reduceIte, Nat.reduceSub, Nat.reduceEqDiff, Nat.reduceAdd, Nat.reduceMul, Nat.reduceLT, Nat.reduceLeDiff, Int.reduceToNat, Int.reduceLE, Int.reduceLT, Int.reduceNeg, reduceCtorEq, gos, Int.reduceAdd, Int.reduceSub, Int.reduceMul, Int.reduceEq, SK.len])
  refine X_call_w (args := [.view [(950, 0)] 0 1 n n, i64 0, i64 n, i64 k]) [(950, 0)] q1 rfl (by simp only [tys]) rfl (by simp [Heap.put_at]) (by simp [boxesA, boxesC]) (by simp [mapO, lowerW, isV, reV, boxesA, boxesC, lowerA, lowerC, wN]) rfl (by simp [tl, tl2]) ?_
  rw [show List.filter (notB [(950, 0)]) (List.flatMap boxesA [.view [(950, 0)] 0 1 n n, i64 0, i64 n, i64 k]) = [] by simp [boxesA, boxesC, notB]]
  repeat (first | refine X_opc rfl ?_ | refine X_dopc rfl ?_ | refine ⟨(by show drawK _ _ = true; kernel_rfl : drawX _ _ _), ?_⟩ | exact (by show drawK _ _ = true; kernel_rfl : drawX _ _ _) | simp -dsimp (maxSteps := 20000000) (disch := omega) only [simx, zzC, zzB, tys, ite_self, opnL, callB, callX, readsB, stepOp, nilCmp, ofVal, opBuiltin, opLen, PV.sk, scalBin, scalUn, intBin, opLoad, natOf, opConvert, opField, cellsP, oneP, Value.oneCell', opStore, toIV, scalT, scalA, scalC, boxesA, boxesC, zipB_none, zipB_mx, isZ, opZip, zeroP, opAppendZ, opMakeMap, opLookup, mboxB, opUpdate, ↓reduceIte, Nat.reduceSub, Nat.reduceEqDiff, Nat.reduceAdd, Nat.reduceMul, Nat.reduceLT, Nat.reduceLeDiff, Int.reduceToNat, Int.reduceLE, Int.reduceLT, Int.reduceNeg, reduceCtorEq, zzR, gos, Int.reduceAdd, Int.reduceSub, Int.reduceMul, Int.reduceEq])
  rfl
end Go.Proofs.Ythnfphgjfpcpbaa.TM
namespace Go.Proofs.Ythnfphgjfpcpbaa.TM
open Go Go.RowKit
attribute [local irreducible] K W WOps Effs Xg Xo Xr Xdg Xdo Xdr Xif CallsP CallR
def colS (c : CupT) : List Int := tbl c.1.length (srtF (c.1.length - 1) (fun i => c.2.1.getD i 0))
theorem colS_len (c : CupT) : (colS c).length = c.1.length := tbl_len ..
theorem insF_mem {n : Nat} {p : Int → Prop} : ∀ (j : Nat), j < n → ∀ f : Nat → Int, (∀ i, i < n → p (f i)) → ∀ i, i < n → p (insF j f i)
  | 0, _, f, h, i, hi => h i hi
  | j + 1, hj, f, h, i, hi => by
    rw [insF]
    split
    · refine insF_mem j (by omega) _ (fun m hm => ?_) i hi
      unfold sw
      split
      · exact h _ hj
      · split
        · exact h _ (by omega)
        · exact h m hm
    · exact h i hi
theorem srtF_mem {n : Nat} {p : Int → Prop} {f : Nat → Int} (h : ∀ i, i < n → p (f i)) : ∀ j, j < n → ∀ i, i < n → p (srtF j f i)
  | 0, _, i, hi => h i hi
  | j + 1, hj, i, hi => by rw [srtF]; exact insF_mem (j + 1) hj _ (fun m hm => srtF_mem h j (by omega) m hm) i hi
theorem colS_mem {P R C : Nat} {c : CupT} (hw : CupW P R C c) : ∀ a ∈ colS c, 0 ≤ a ∧ a < C := fun a ha => by
  obtain ⟨m, hm, rfl⟩ := tbl_mem ha
  refine srtF_mem (n := c.1.length) (p := fun a => 0 ≤ a ∧ a < C) (fun i hi => hw.qb _ (getD_mm (by rw [hw.ql]; exact hi))) (c.1.length - 1) (by omega) m hm
set_option maxHeartbeats 4000000 in
theorem minor_yes {P R C : Nat} {l : List Int} (hP : Prm P) (M : Mt P R C l) (hin : ∀ a ∈ l, In P a) (h0 : (tkCup P C R l).1.length ≠ 0) (h12 : (tkCup P C R l).1.length ≤ 12) :
    CallsP Try.prog 48 [u64 P, matP R C l] (mat2 (((tkCup P C R l).1.length, (tkCup P C R l).1.length, pickM C l (tkCup P C R l).1 (colS (tkCup P C R l))), 0)) := by
  have q1 := take_ad hP M hin h0
  have hw := tkCup_W hP M hin
  have ml := M.len
  have bd := rc_bd M.r2 M.c2
  have cs1 := colS_mem hw
  have cl1 := colS_len (tkCup P C R l)
  have q3 := pick_walk P R C l (tkCup P C R l).1 (colS (tkCup P C R l)) (by rw [mx_len]; omega) (by rw [mx_len]; omega) (by rw [mx_len]; omega)
  unfold pickR at q3
  rw [mat_mk M, (within_iff _ _).2 ⟨by omega, hw.rb⟩, (within_iff _ _).2 ⟨by omega, cs1⟩, cl1] at q3
  simp only [Bool.and_self, if_true, Int.toNat_natCast] at q3
  have q2 := sort_walk (n := (tkCup P C R l).1.length) (fun i => (tkCup P C R l).2.1.getD i 0) h12 (by omega)
  rw [← tbl_of hw.ql] at q2
  rw [show tbl (tkCup P C R l).1.length (srtF ((tkCup P C R l).1.length - 1) (fun i => (tkCup P C R l).2.1.getD i 0)) = colS (tkCup P C R l) from rfl] at q2
  have ql := hw.ql
  generalize colS (tkCup P C R l) = S at q2 q3 cl1
  generalize pickM C l (tkCup P C R l).1 S = N at q3 ⊢
  generalize tkCup P C R l = c at *
  obtain ⟨rw0, cw, cc, uu⟩ := c
  simp only at h0 h12 q1 q2 q3 cl1 ql ⊢
  have n0 : ¬ (rw0.length : Int) = 0 := by omega
  refine X_startP (n := 37) (m := 2) (rs := [.cell 4 25, .tmp 5]) Try.func48 rfl rfl rfl rfl (by decide) fun base => ?_
  repeat (first | refine X_opc rfl ?_ | refine X_dopc rfl ?_ | refine ⟨(by show drawK _ _ = true; kernel_rfl : drawX _ _ _), ?_⟩ | exact (by show drawK _ _ = true; kernel_rfl : drawX _ _ _) | simp -dsimp (maxSteps := 20000000) (disch := omega) only [simx, zzC, zzB, tys, ite_self, opnL, callB, callX, readsB, stepOp, nilCmp, ofVal, opBuiltin, opLen, PV.sk, scalBin, scalUn, intBin, opLoad, natOf, opConvert, opField, cellsP, oneP, Value.oneCell', opStore, toIV, scalT, scalA, scalC, boxesA, boxesC, zipB_none, zipB_mx, isZ, opZip, zeroP, opAppendZ, opMakeMap, opLookup, mboxB, opUpdate, ↓reduceIte, Nat.reduceSub, Nat.reduceEqDiff, Nat.reduceAdd, Nat.reduceMul, Nat.reduceLT, Nat.reduceLeDiff, Int.reduceToNat, Int.reduceLE, Int.reduceLT, Int.reduceNeg, reduceCtorEq, gos, Int.reduceAdd, Int.reduceSub, Int.reduceMul, Int.reduceEq])
  ((first | refine X_call_ad (q1) rfl (by simp only [tys]) (by (simp -dsimp only [simx, zzC, zzB, tys, ite_self, opnL, callB, callX, readsB, stepOp, nilCmp, ofVal, opBuiltin, opLen, PV.sk, scalBin, scalUn, intBin, opLoad, natOf, opConvert, opField, cellsP, oneP, Value.oneCell', opStore, toIV, scalT, scalA, scalC, boxesA, boxesC, zipB_none, zipB_mx, isZ, opZip, zeroP, opAppendZ, opMakeMap, opLookup, mboxB, opUpdate, ↓reduceIte, Nat.reduceSub, Nat.reduceEqDiff, Nat.reduceAdd, Nat.reduceMul, Nat.reduceLT, Nat.reduceLeDiff, Int.reduceToNat, Int.reduceLE, Int.reduceLT, Int.reduceNeg, reduceCtorEq, zzL, if_true, if_false] <;> rfl)) (by simp [Heap.put_at, Heap.none_at, rowH_app]) ?_ | refine X_dcall_ad (q1) rfl (by simp only [tys]) (by (simp -dsimp only [simx, zzC, zzB, tys, ite_self, opnL, callB, callX, readsB, stepOp, nilCmp, ofVal, opBuiltin, opLen, PV.sk, scalBin, scalUn, intBin, opLoad, natOf, opConvert, opField, cellsP, oneP, Value.oneCell', opStore, toIV, scalT, scalA, scalC, boxesA, boxesC, zipB_none, zipB_mx, isZ, opZip, zeroP, opAppendZ, opMakeMap, opLookup, mboxB, opUpdate, ↓reduceIte, Nat.reduceSub, Nat.reduceEqDiff, Nat.reduceAdd, Nat.reduceMul, Nat.reduceLT, Nat.reduceLeDiff, Int.reduceToNat, Int.reduceLE, Int.reduceLT, Int.reduceNeg, reduceCtorEq, zzL, if_true, if_false] <;> rfl)) (by simp [Heap.put_at, Heap.none_at, rowH_app]) ?_))
  repeat (first | refine X_opc rfl ?_ | refine X_dopc rfl ?_ | refine ⟨(by show drawK _ _ = true; kernel_rfl : drawX _ _ _), ?_⟩ | exact (by show drawK _ _ = true; kernel_rfl : drawX _ _ _) | simp -dsimp (maxSteps := 20000000) (disch := omega) only [simx, zzC, zzB, tys, ite_self, opnL, callB, callX, readsB, stepOp, nilCmp, ofVal, opBuiltin, opLen, PV.sk, scalBin, scalUn, intBin, opLoad, natOf, opConvert, opField, cellsP, oneP, Value.oneCell', opStore, toIV, scalT, scalA, scalC, boxesA, boxesC, zipB_none, zipB_mx, isZ, opZip, zeroP, opAppendZ, opMakeMap, opLookup, mboxB, opUpdate, ↓reduceIte, Nat.reduceSub, Nat.reduceEqDiff, Nat.reduceAdd, Nat.reduceMul, Nat.reduceLT, Nat.reduceLeDiff, Int.reduceToNat, Int.reduceLE, Int.reduceLT, Int.reduceNeg, reduceCtorEq, gos, Int.reduceAdd, Int.reduceSub, Int.reduceMul, Int.reduceEq, SK.len, n0])
  refine X_call_w (args := [.view ((1, 2) :: base) 0 1 rw0.length rw0.length]) ((1, 2) :: base) q2 rfl (by simp only [tys]) rfl (by simp [Heap.put_at]) (by simp [boxesA, boxesC]) (by simp [mapO, lowerW, isV, reV, boxesA, boxesC, lowerA, lowerC, wN]) rfl (by simp [ql, cl1]) ?_
  rw [show List.filter (notB ((1, 2) :: base)) (List.flatMap boxesA [.view ((1, 2) :: base) 0 1 rw0.length rw0.length]) = [] by simp [boxesA, boxesC, notB]]
  have tk : (S.map ii).take rw0.length = S.map ii := List.take_of_length_le (by rw [List.length_map]; omega)
  rw [show li S = PV.i (.l rw0.length (S.map ii)) by rw [li, cl1]] at q3
  repeat (first | ((first | refine X_call_fn2 rfl (by simp only [tys]) ?_ | refine X_dcall_fn2 rfl (by simp only [tys]) ?_); apply Exists.intro; apply And.intro; (focus (simp -dsimp only [simx, zzC, zzB, tys, ite_self, opnL, callB, callX, readsB, stepOp, nilCmp, ofVal, opBuiltin, opLen, PV.sk, scalBin, scalUn, intBin, opLoad, natOf, opConvert, opField, cellsP, oneP, Value.oneCell', opStore, toIV, scalT, scalA, scalC, boxesA, boxesC, zipB_none, zipB_mx, isZ, opZip, zeroP, opAppendZ, opMakeMap, opLookup, mboxB, opUpdate, ↓reduceIte, Nat.reduceSub, Nat.reduceEqDiff, Nat.reduceAdd, Nat.reduceMul, Nat.reduceLT, Nat.reduceLeDiff, Int.reduceToNat, Int.reduceLE, Int.reduceLT, Int.reduceNeg, reduceCtorEq, zzL, if_true, if_false, SK.len, List.length_map, cl1, tk] <;> rfl)); apply Exists.intro; apply And.intro; (focus (first | exact q3))) | refine X_opc rfl ?_ | refine X_dopc rfl ?_ | refine ⟨(by show drawK _ _ = true; kernel_rfl : drawX _ _ _), ?_⟩ | exact (by show drawK _ _ = true; kernel_rfl : drawX _ _ _) | simp -dsimp (maxSteps := 20000000) (disch := omega) only [simx, zzC, zzB, tys, ite_self, opnL, callB, callX, readsB, stepOp, nilCmp, ofVal, opBuiltin, opLen, PV.sk, scalBin, scalUn, intBin, opLoad, natOf, opConvert, opField, cellsP, oneP, Value.oneCell', opStore, toIV, scalT, scalA, scalC, boxesA, boxesC, zipB_none, zipB_mx, isZ, opZip, zeroP, opAppendZ, opMakeMap, opLookup, mboxB, opUpdate, ↓reduceIte, Nat.reduceSub, Nat.reduceEqDiff, Nat.reduceAdd, Nat.reduceMul, Nat.reduceLT, Nat.reduceLeDiff, Int.reduceToNat, Int.reduceLE, Int.reduceLT, Int.reduceNeg, reduceCtorEq, zzR, gos, Int.reduceAdd, Int.reduceSub, Int.reduceMul, Int.reduceEq, SK.len, List.length_map, cl1, tk])
  try rfl
end Go.Proofs.Ythnfphgjfpcpbaa.TM
namespace Go.Proofs.Ythnfphgjfpcpbaa.TM
open Go Go.RowKit
attribute [local irreducible] K W WOps Effs Xg Xo Xr Xdg Xdo Xdr Xif CallsP CallR
def rowOkB (p each : Int) (x : List Int) : Bool := decide ((x.length : Int) = each) && HasB p x
theorem rows71_walk {b b2 base : Name} {h : Heap} {p each : Int} {x : List Int} (hx : x.length ≤ maxLen) (hb : h b = some (.var [i64 each])) (hb2 : h b2 = some (.var [u64 p])) :
    CallR Try.prog base 109 [lu x, .ref b 0 1, .ref b2 0 1] h (bl (!rowOkB p each x)) h := by
  have q := has_walk p x hx
  unfold rowOkB
  by_cases c1 : (x.length : Int) = each
  · rw [decide_eq_true c1]
    cases c2 : HasB p x with
    | false =>
      rw [c2] at q
      refine X_startR (n := 15) (m := 3) (rs := [.tmp 4]) Try.func109 rfl rfl rfl rfl (by decide) ?_
      repeat (first | ((first | refine X_call_fn2 rfl (by simp only [tys]) ?_ | refine X_dcall_fn2 rfl (by simp only [tys]) ?_); apply Exists.intro; apply And.intro; (focus (simp -dsimp only [simx, zzC, zzB, tys, ite_self, opnL, callB, callX, readsB, stepOp, nilCmp, ofVal, opBuiltin, opLen, PV.sk, scalBin, scalUn, intBin, opLoad, natOf, opConvert, opField, cellsP, oneP, Value.oneCell', opStore, toIV, scalT, scalA, scalC, boxesA, boxesC, zipB_none, zipB_mx, isZ, opZip, zeroP, opAppendZ, opMakeMap, opLookup, mboxB, opUpdate, ↓reduceIte, Nat.reduceSub, Nat.reduceEqDiff, Nat.reduceAdd, Nat.reduceMul, Nat.reduceLT, Nat.reduceLeDiff, Int.reduceToNat, Int.reduceLE, Int.reduceLT, Int.reduceNeg, reduceCtorEq, zzL, if_true, if_false] <;> rfl)); apply Exists.intro; apply And.intro; (focus (first | exact q))) | refine X_opc rfl ?_ | refine X_dopc rfl ?_ | refine ⟨(by show drawK _ _ = true; kernel_rfl : drawX _ _ _), ?_⟩ | exact (by show drawK _ _ = true; kernel_rfl : drawX _ _ _) | simp -dsimp (maxSteps := 20000000) (disch := omega) only [simx, zzC, zzB, tys, ite_self, opnL, callB, callX, readsB, stepOp, nilCmp, ofVal, opBuiltin, opLen, PV.sk, scalBin, scalUn, intBin, opLoad, natOf, opConvert, opField, cellsP, oneP, Value.oneCell', opStore, toIV, scalT, scalA, scalC, boxesA, boxesC, zipB_none, zipB_mx, isZ, opZip, zeroP, opAppendZ, opMakeMap, opLookup, mboxB, opUpdate, ↓reduceIte, Nat.reduceSub, Nat.reduceEqDiff, Nat.reduceAdd, Nat.reduceMul, Nat.reduceLT, Nat.reduceLeDiff, Int.reduceToNat, Int.reduceLE, Int.reduceLT, Int.reduceNeg, reduceCtorEq, zzR, gos, Int.reduceAdd, Int.reduceSub, Int.reduceMul, Int.reduceEq, hb, hb2, c1])
    | true =>
      rw [c2] at q
      refine X_startR (n := 15) (m := 3) (rs := [.tmp 4]) Try.func109 rfl rfl rfl rfl (by decide) ?_
      repeat (first | ((first | refine X_call_fn2 rfl (by simp only [tys]) ?_ | refine X_dcall_fn2 rfl (by simp only [tys]) ?_); apply Exists.intro; apply And.intro; (focus (simp -dsimp only [simx, zzC, zzB, tys, ite_self, opnL, callB, callX, readsB, stepOp, nilCmp, ofVal, opBuiltin, opLen, PV.sk, scalBin, scalUn, intBin, opLoad, natOf, opConvert, opField, cellsP, oneP, Value.oneCell', opStore, toIV, scalT, scalA, scalC, boxesA, boxesC, zipB_none, zipB_mx, isZ, opZip, zeroP, opAppendZ, opMakeMap, opLookup, mboxB, opUpdate, ↓reduceIte, Nat.reduceSub, Nat.reduceEqDiff, Nat.reduceAdd, Nat.reduceMul, Nat.reduceLT, Nat.reduceLeDiff, Int.reduceToNat, Int.reduceLE, Int.reduceLT, Int.reduceNeg, reduceCtorEq, zzL, if_true, if_false] <;> rfl)); apply Exists.intro; apply And.intro; (focus (first | exact q))) | refine X_opc rfl ?_ | refine X_dopc rfl ?_ | refine ⟨(by show drawK _ _ = true; kernel_rfl : drawX _ _ _), ?_⟩ | exact (by show drawK _ _ = true; kernel_rfl : drawX _ _ _) | simp -dsimp (maxSteps := 20000000) (disch := omega) only [simx, zzC, zzB, tys, ite_self, opnL, callB, callX, readsB, stepOp, nilCmp, ofVal, opBuiltin, opLen, PV.sk, scalBin, scalUn, intBin, opLoad, natOf, opConvert, opField, cellsP, oneP, Value.oneCell', opStore, toIV, scalT, scalA, scalC, boxesA, boxesC, zipB_none, zipB_mx, isZ, opZip, zeroP, opAppendZ, opMakeMap, opLookup, mboxB, opUpdate, ↓reduceIte, Nat.reduceSub, Nat.reduceEqDiff, Nat.reduceAdd, Nat.reduceMul, Nat.reduceLT, Nat.reduceLeDiff, Int.reduceToNat, Int.reduceLE, Int.reduceLT, Int.reduceNeg, reduceCtorEq, zzR, gos, Int.reduceAdd, Int.reduceSub, Int.reduceMul, Int.reduceEq, hb, hb2, c1])
  · rw [decide_eq_false c1]
    refine X_startR (n := 15) (m := 3) (rs := [.tmp 4]) Try.func109 rfl rfl rfl rfl (by decide) ?_
    repeat (first | refine X_opc rfl ?_ | refine X_dopc rfl ?_ | refine ⟨(by show drawK _ _ = true; kernel_rfl : drawX _ _ _), ?_⟩ | exact (by show drawK _ _ = true; kernel_rfl : drawX _ _ _) | simp -dsimp (maxSteps := 20000000) (disch := omega) only [simx, zzC, zzB, tys, ite_self, opnL, callB, callX, readsB, stepOp, nilCmp, ofVal, opBuiltin, opLen, PV.sk, scalBin, scalUn, intBin, opLoad, natOf, opConvert, opField, cellsP, oneP, Value.oneCell', opStore, toIV, scalT, scalA, scalC, boxesA, boxesC, zipB_none, zipB_mx, isZ, opZip, zeroP, opAppendZ, opMakeMap, opLookup, mboxB, opUpdate, ↓reduceIte, Nat.reduceSub, Nat.reduceEqDiff, Nat.reduceAdd, Nat.reduceMul, Nat.reduceLT, Nat.reduceLeDiff, Int.reduceToNat, Int.reduceLE, Int.reduceLT, Int.reduceNeg, reduceCtorEq, zzR, gos, Int.reduceAdd, Int.reduceSub, Int.reduceMul, Int.reduceEq, hb, hb2, c1])
def badF (p each : Int) : List (List Int) → Nat → Int
  | [], _ => -1
  | a :: l, k => if rowOkB p each a then badF p each l (k + 1) else k
theorem badF_iff (p each : Int) : ∀ (l : List (List Int)) (k : Nat), ¬ 0 ≤ badF p each l k ↔ ∀ u ∈ l, (u.length : Int) = each ∧ HasB p u = true
  | [], k => by simp [badF]
  | a :: l, k => by
    rw [badF]
    cases h : rowOkB p each a with
    | true =>
      rw [if_pos rfl, badF_iff p each l (k + 1)]
      have : (a.length : Int) = each ∧ HasB p a = true := by simpa [rowOkB] using h
      simp [this.1, this.2]
    | false =>
      have hk : (0 : Int) ≤ (k : Int) := by omega
      have : ¬ ((a.length : Int) = each ∧ HasB p a = true) := by simpa [rowOkB] using h
      simp only [if_false, hk, not_true_eq_false, false_iff, Bool.false_eq_true]
      exact fun h2 => this (h2 a (by simp))
theorem indexBad_walk {b b2 base : Name} {h : Heap} {p each : Int} {l : List (List Int)} (hl : l.length ≤ maxLen) (hu : ∀ u ∈ l, u.length ≤ maxLen) (hb : h b = some (.var [i64 each])) (hb2 : h b2 = some (.var [u64 p])) :
    CallR Try.prog base 119 [llP l, .clo 109 [.ref b 0 1, .ref b2 0 1]] h (i64 (badF p each l 0)) h := by
  rw [mx_len] at hl
  refine X_startR (n := 19) (m := 2) (rs := [.tmp 4]) Try.func119 rfl rfl rfl rfl (by decide) ?_
  repeat (first | refine X_opc rfl ?_ | refine X_dopc rfl ?_ | refine ⟨(by show drawK _ _ = true; kernel_rfl : drawX _ _ _), ?_⟩ | exact (by show drawK _ _ = true; kernel_rfl : drawX _ _ _) | simp -dsimp (maxSteps := 20000000) (disch := omega) only [simx, zzC, zzB, tys, ite_self, opnL, callB, callX, readsB, stepOp, nilCmp, ofVal, opBuiltin, opLen, PV.sk, scalBin, scalUn, intBin, opLoad, natOf, opConvert, opField, cellsP, oneP, Value.oneCell', opStore, toIV, scalT, scalA, scalC, boxesA, boxesC, zipB_none, zipB_mx, isZ, opZip, zeroP, opAppendZ, opMakeMap, opLookup, mboxB, opUpdate, ↓reduceIte, Nat.reduceSub, Nat.reduceEqDiff, Nat.reduceAdd, Nat.reduceMul, Nat.reduceLT, Nat.reduceLeDiff, Int.reduceToNat, Int.reduceLE, Int.reduceLT, Int.reduceNeg, reduceCtorEq, gos, Int.reduceAdd, Int.reduceSub, Int.reduceMul, Int.reduceEq])
  refine X_loopH [0, 1, 7, 8] [] (0) (l.length) (fun j => badF p each (l.drop j) j = badF p each l 0) (fun j => [(8, i64 j)]) (fun j => h) ?_ ?_ ?_ ?_ ?_ (by decide) ?_
  · exact (fgt_nil)
  · ((simp -dsimp (disch := omega) only [simx, zzB, tys, ite_self, opnL, callB, callX, readsB, stepOp, nilCmp, ofVal, opBuiltin, opLen, PV.sk, scalBin, scalUn, intBin, opLoad, natOf, opConvert, opField, cellsP, oneP, Value.oneCell', opStore, toIV, scalT, scalA, scalC, boxesA, boxesC, zipB_none, zipB_mx, isZ, opZip, zeroP, opAppendZ, opMakeMap, opLookup, mboxB, opUpdate, ↓reduceIte, Nat.reduceSub, Nat.reduceEqDiff, Nat.reduceAdd, Nat.reduceMul, Nat.reduceLT, Nat.reduceLeDiff, Int.reduceToNat, Int.reduceLE, Int.reduceLT, Int.reduceNeg, reduceCtorEq, gos, Int.reduceAdd, Int.reduceSub, Int.reduceMul, Int.reduceEq]) <;> first | rfl | simp)
  · exact drop_nil _
  · omega
  · rfl
  · intro j hj hf
    by_cases c : j < l.length
    · have g1 : (l.map fun u => IV.l u.length (u.map iu))[j]? = some (.l (l[j]).length ((l[j]).map iu)) := by rw [List.getElem?_map, List.getElem?_eq_getElem c]; rfl
      rw [dropE c, badF] at hf
      have hj1 := hu l[j] (List.getElem_mem c)
      generalize l[j] = u at g1 hf hj1
      repeat (first | refine X_opc rfl ?_ | refine X_dopc rfl ?_ | refine ⟨(by show drawK _ _ = true; kernel_rfl : drawX _ _ _), ?_⟩ | exact (by show drawK _ _ = true; kernel_rfl : drawX _ _ _) | simp -dsimp (maxSteps := 20000000) (disch := omega) only [simx, zzC, zzB, tys, ite_self, opnL, callB, callX, readsB, stepOp, nilCmp, ofVal, opBuiltin, opLen, PV.sk, scalBin, scalUn, intBin, opLoad, natOf, opConvert, opField, cellsP, oneP, Value.oneCell', opStore, toIV, scalT, scalA, scalC, boxesA, boxesC, zipB_none, zipB_mx, isZ, opZip, zeroP, opAppendZ, opMakeMap, opLookup, mboxB, opUpdate, ↓reduceIte, Nat.reduceSub, Nat.reduceEqDiff, Nat.reduceAdd, Nat.reduceMul, Nat.reduceLT, Nat.reduceLeDiff, Int.reduceToNat, Int.reduceLE, Int.reduceLT, Int.reduceNeg, reduceCtorEq, gos, Int.reduceAdd, Int.reduceSub, Int.reduceMul, Int.reduceEq, c, g1])
      refine X_call_shared (rows71_walk (x := u) hj1 hb hb2) rfl (by simp -dsimp only [calleeOf, simx, zzB, tys, ite_self, opnL, callB, callX, readsB, stepOp, nilCmp, ofVal, opBuiltin, opLen, PV.sk, scalBin, scalUn, intBin, opLoad, natOf, opConvert, opField, cellsP, oneP, Value.oneCell', opStore, toIV, scalT, scalA, scalC, boxesA, boxesC, zipB_none, zipB_mx, isZ, opZip, zeroP, opAppendZ, opMakeMap, opLookup, mboxB, opUpdate, ↓reduceIte, Nat.reduceSub, Nat.reduceEqDiff, Nat.reduceAdd, Nat.reduceMul, Nat.reduceLT, Nat.reduceLeDiff, Int.reduceToNat, Int.reduceLE, Int.reduceLT, Int.reduceNeg, reduceCtorEq, gos, Int.reduceAdd, Int.reduceSub, Int.reduceMul, Int.reduceEq]) (by simp only [tys]) ?_
      cases e : rowOkB p each u with
      | false =>
        rw [e] at hf
        rw [← show (j : Int) = badF p each l 0 from hf]
        repeat (first | refine X_opc rfl ?_ | refine X_dopc rfl ?_ | refine ⟨(by show drawK _ _ = true; kernel_rfl : drawX _ _ _), ?_⟩ | exact (by show drawK _ _ = true; kernel_rfl : drawX _ _ _) | simp -dsimp (maxSteps := 20000000) (disch := omega) only [simx, zzC, zzB, tys, ite_self, opnL, callB, callX, readsB, stepOp, nilCmp, ofVal, opBuiltin, opLen, PV.sk, scalBin, scalUn, intBin, opLoad, natOf, opConvert, opField, cellsP, oneP, Value.oneCell', opStore, toIV, scalT, scalA, scalC, boxesA, boxesC, zipB_none, zipB_mx, isZ, opZip, zeroP, opAppendZ, opMakeMap, opLookup, mboxB, opUpdate, ↓reduceIte, Nat.reduceSub, Nat.reduceEqDiff, Nat.reduceAdd, Nat.reduceMul, Nat.reduceLT, Nat.reduceLeDiff, Int.reduceToNat, Int.reduceLE, Int.reduceLT, Int.reduceNeg, reduceCtorEq, zzR, gos, Int.reduceAdd, Int.reduceSub, Int.reduceMul, Int.reduceEq])
      | true =>
        rw [e, if_pos rfl] at hf
        repeat (first | refine X_opc rfl ?_ | refine X_dopc rfl ?_ | refine ⟨(by show drawK _ _ = true; kernel_rfl : drawX _ _ _), ?_⟩ | exact (by show drawK _ _ = true; kernel_rfl : drawX _ _ _) | simp -dsimp (maxSteps := 20000000) (disch := omega) only [simx, zzC, zzB, tys, ite_self, opnL, callB, callX, readsB, stepOp, nilCmp, ofVal, opBuiltin, opLen, PV.sk, scalBin, scalUn, intBin, opLoad, natOf, opConvert, opField, cellsP, oneP, Value.oneCell', opStore, toIV, scalT, scalA, scalC, boxesA, boxesC, zipB_none, zipB_mx, isZ, opZip, zeroP, opAppendZ, opMakeMap, opLookup, mboxB, opUpdate, ↓reduceIte, Nat.reduceSub, Nat.reduceEqDiff, Nat.reduceAdd, Nat.reduceMul, Nat.reduceLT, Nat.reduceLeDiff, Int.reduceToNat, Int.reduceLE, Int.reduceLT, Int.reduceNeg, reduceCtorEq, gos, Int.reduceAdd, Int.reduceSub, Int.reduceMul, Int.reduceEq])
        exact ⟨c, (fgt_nil), hf, rfl, drop_nil _⟩
    · have hj : j = l.length := by omega
      subst hj
      rw [List.drop_length, badF] at hf
      rw [← hf]
      repeat (first | refine X_opc rfl ?_ | refine X_dopc rfl ?_ | refine ⟨(by show drawK _ _ = true; kernel_rfl : drawX _ _ _), ?_⟩ | exact (by show drawK _ _ = true; kernel_rfl : drawX _ _ _) | simp -dsimp (maxSteps := 20000000) (disch := omega) only [simx, zzC, zzB, tys, ite_self, opnL, callB, callX, readsB, stepOp, nilCmp, ofVal, opBuiltin, opLen, PV.sk, scalBin, scalUn, intBin, opLoad, natOf, opConvert, opField, cellsP, oneP, Value.oneCell', opStore, toIV, scalT, scalA, scalC, boxesA, boxesC, zipB_none, zipB_mx, isZ, opZip, zeroP, opAppendZ, opMakeMap, opLookup, mboxB, opUpdate, ↓reduceIte, Nat.reduceSub, Nat.reduceEqDiff, Nat.reduceAdd, Nat.reduceMul, Nat.reduceLT, Nat.reduceLeDiff, Int.reduceToNat, Int.reduceLE, Int.reduceLT, Int.reduceNeg, reduceCtorEq, zzR, gos, Int.reduceAdd, Int.reduceSub, Int.reduceMul, Int.reduceEq])
theorem containsBad_walk {b b2 base : Name} {h : Heap} {p each : Int} {l : List (List Int)} (hl : l.length ≤ maxLen) (hu : ∀ u ∈ l, u.length ≤ maxLen) (hb : h b = some (.var [i64 each])) (hb2 : h b2 = some (.var [u64 p])) :
    CallR Try.prog base 108 [llP l, .clo 109 [.ref b 0 1, .ref b2 0 1]] h (bl (decide (0 ≤ badF p each l 0))) h := by
  have q := fun bs => indexBad_walk (base := bs) hl hu hb hb2
  generalize badF p each l 0 = i at q
  by_cases c : 0 ≤ i
  · rw [decide_eq_true c]
    refine X_startR (n := 9) (m := 2) (rs := [.tmp 4]) Try.func108 rfl rfl rfl rfl (by decide) ?_
    repeat (first | refine X_opc rfl ?_ | refine X_dopc rfl ?_ | refine ⟨(by show drawK _ _ = true; kernel_rfl : drawX _ _ _), ?_⟩ | exact (by show drawK _ _ = true; kernel_rfl : drawX _ _ _) | simp -dsimp (maxSteps := 20000000) (disch := omega) only [simx, zzC, zzB, tys, ite_self, opnL, callB, callX, readsB, stepOp, nilCmp, ofVal, opBuiltin, opLen, PV.sk, scalBin, scalUn, intBin, opLoad, natOf, opConvert, opField, cellsP, oneP, Value.oneCell', opStore, toIV, scalT, scalA, scalC, boxesA, boxesC, zipB_none, zipB_mx, isZ, opZip, zeroP, opAppendZ, opMakeMap, opLookup, mboxB, opUpdate, ↓reduceIte, Nat.reduceSub, Nat.reduceEqDiff, Nat.reduceAdd, Nat.reduceMul, Nat.reduceLT, Nat.reduceLeDiff, Int.reduceToNat, Int.reduceLE, Int.reduceLT, Int.reduceNeg, reduceCtorEq, gos, Int.reduceAdd, Int.reduceSub, Int.reduceMul, Int.reduceEq])
    refine X_call_shared (q _) rfl (by simp -dsimp only [callee_fn, simx, zzB, tys, ite_self, opnL, callB, callX, readsB, stepOp, nilCmp, ofVal, opBuiltin, opLen, PV.sk, scalBin, scalUn, intBin, opLoad, natOf, opConvert, opField, cellsP, oneP, Value.oneCell', opStore, toIV, scalT, scalA, scalC, boxesA, boxesC, zipB_none, zipB_mx, isZ, opZip, zeroP, opAppendZ, opMakeMap, opLookup, mboxB, opUpdate, ↓reduceIte, Nat.reduceSub, Nat.reduceEqDiff, Nat.reduceAdd, Nat.reduceMul, Nat.reduceLT, Nat.reduceLeDiff, Int.reduceToNat, Int.reduceLE, Int.reduceLT, Int.reduceNeg, reduceCtorEq, gos, Int.reduceAdd, Int.reduceSub, Int.reduceMul, Int.reduceEq]) (by simp only [tys]) ?_
    repeat (first | refine X_opc rfl ?_ | refine X_dopc rfl ?_ | refine ⟨(by show drawK _ _ = true; kernel_rfl : drawX _ _ _), ?_⟩ | exact (by show drawK _ _ = true; kernel_rfl : drawX _ _ _) | simp -dsimp (maxSteps := 20000000) (disch := omega) only [simx, zzC, zzB, tys, ite_self, opnL, callB, callX, readsB, stepOp, nilCmp, ofVal, opBuiltin, opLen, PV.sk, scalBin, scalUn, intBin, opLoad, natOf, opConvert, opField, cellsP, oneP, Value.oneCell', opStore, toIV, scalT, scalA, scalC, boxesA, boxesC, zipB_none, zipB_mx, isZ, opZip, zeroP, opAppendZ, opMakeMap, opLookup, mboxB, opUpdate, ↓reduceIte, Nat.reduceSub, Nat.reduceEqDiff, Nat.reduceAdd, Nat.reduceMul, Nat.reduceLT, Nat.reduceLeDiff, Int.reduceToNat, Int.reduceLE, Int.reduceLT, Int.reduceNeg, reduceCtorEq, zzR, gos, Int.reduceAdd, Int.reduceSub, Int.reduceMul, Int.reduceEq])
  · rw [decide_eq_false c]
    refine X_startR (n := 9) (m := 2) (rs := [.tmp 4]) Try.func108 rfl rfl rfl rfl (by decide) ?_
    repeat (first | refine X_opc rfl ?_ | refine X_dopc rfl ?_ | refine ⟨(by show drawK _ _ = true; kernel_rfl : drawX _ _ _), ?_⟩ | exact (by show drawK _ _ = true; kernel_rfl : drawX _ _ _) | simp -dsimp (maxSteps := 20000000) (disch := omega) only [simx, zzC, zzB, tys, ite_self, opnL, callB, callX, readsB, stepOp, nilCmp, ofVal, opBuiltin, opLen, PV.sk, scalBin, scalUn, intBin, opLoad, natOf, opConvert, opField, cellsP, oneP, Value.oneCell', opStore, toIV, scalT, scalA, scalC, boxesA, boxesC, zipB_none, zipB_mx, isZ, opZip, zeroP, opAppendZ, opMakeMap, opLookup, mboxB, opUpdate, ↓reduceIte, Nat.reduceSub, Nat.reduceEqDiff, Nat.reduceAdd, Nat.reduceMul, Nat.reduceLT, Nat.reduceLeDiff, Int.reduceToNat, Int.reduceLE, Int.reduceLT, Int.reduceNeg, reduceCtorEq, gos, Int.reduceAdd, Int.reduceSub, Int.reduceMul, Int.reduceEq])
    refine X_call_shared (q _) rfl (by simp -dsimp only [callee_fn, simx, zzB, tys, ite_self, opnL, callB, callX, readsB, stepOp, nilCmp, ofVal, opBuiltin, opLen, PV.sk, scalBin, scalUn, intBin, opLoad, natOf, opConvert, opField, cellsP, oneP, Value.oneCell', opStore, toIV, scalT, scalA, scalC, boxesA, boxesC, zipB_none, zipB_mx, isZ, opZip, zeroP, opAppendZ, opMakeMap, opLookup, mboxB, opUpdate, ↓reduceIte, Nat.reduceSub, Nat.reduceEqDiff, Nat.reduceAdd, Nat.reduceMul, Nat.reduceLT, Nat.reduceLeDiff, Int.reduceToNat, Int.reduceLE, Int.reduceLT, Int.reduceNeg, reduceCtorEq, gos, Int.reduceAdd, Int.reduceSub, Int.reduceMul, Int.reduceEq]) (by simp only [tys]) ?_
    repeat (first | refine X_opc rfl ?_ | refine X_dopc rfl ?_ | refine ⟨(by show drawK _ _ = true; kernel_rfl : drawX _ _ _), ?_⟩ | exact (by show drawK _ _ = true; kernel_rfl : drawX _ _ _) | simp -dsimp (maxSteps := 20000000) (disch := omega) only [simx, zzC, zzB, tys, ite_self, opnL, callB, callX, readsB, stepOp, nilCmp, ofVal, opBuiltin, opLen, PV.sk, scalBin, scalUn, intBin, opLoad, natOf, opConvert, opField, cellsP, oneP, Value.oneCell', opStore, toIV, scalT, scalA, scalC, boxesA, boxesC, zipB_none, zipB_mx, isZ, opZip, zeroP, opAppendZ, opMakeMap, opLookup, mboxB, opUpdate, ↓reduceIte, Nat.reduceSub, Nat.reduceEqDiff, Nat.reduceAdd, Nat.reduceMul, Nat.reduceLT, Nat.reduceLeDiff, Int.reduceToNat, Int.reduceLE, Int.reduceLT, Int.reduceNeg, reduceCtorEq, zzR, gos, Int.reduceAdd, Int.reduceSub, Int.reduceMul, Int.reduceEq])
def rowsB (p : Int) (l : List (List Int)) (each : Int) : Bool := !decide (0 ≤ badF p each l 0)
theorem rowsB_iff (p : Int) (l : List (List Int)) (each : Int) : rowsB p l each = true ↔ ∀ u ∈ l, (u.length : Int) = each ∧ HasB p u = true := by
  unfold rowsB
  rw [Bool.not_eq_true', decide_eq_false_iff_not]
  exact badF_iff p each l 0
theorem rows7_walk {p each : Int} {l : List (List Int)} (hl : l.length ≤ maxLen) (hu : ∀ u ∈ l, u.length ≤ maxLen) : CallsP Try.prog 87 [u64 p, llP l, i64 each] (bl (rowsB p l each)) := by
  unfold rowsB
  refine X_startP (n := 11) (m := 3) (rs := [.tmp 6]) Try.func87 rfl rfl rfl rfl (by decide) fun base => ?_
  repeat (first | refine X_opc rfl ?_ | refine X_dopc rfl ?_ | refine ⟨(by show drawK _ _ = true; kernel_rfl : drawX _ _ _), ?_⟩ | exact (by show drawK _ _ = true; kernel_rfl : drawX _ _ _) | simp -dsimp (maxSteps := 20000000) (disch := omega) only [simx, zzC, zzB, tys, ite_self, opnL, callB, callX, readsB, stepOp, nilCmp, ofVal, opBuiltin, opLen, PV.sk, scalBin, scalUn, intBin, opLoad, natOf, opConvert, opField, cellsP, oneP, Value.oneCell', opStore, toIV, scalT, scalA, scalC, boxesA, boxesC, zipB_none, zipB_mx, isZ, opZip, zeroP, opAppendZ, opMakeMap, opLookup, mboxB, opUpdate, ↓reduceIte, Nat.reduceSub, Nat.reduceEqDiff, Nat.reduceAdd, Nat.reduceMul, Nat.reduceLT, Nat.reduceLeDiff, Int.reduceToNat, Int.reduceLE, Int.reduceLT, Int.reduceNeg, reduceCtorEq, gos, Int.reduceAdd, Int.reduceSub, Int.reduceMul, Int.reduceEq])
  refine X_call_shared (containsBad_walk (b := (0, 1) :: base) (b2 := (0, 0) :: base) (p := p) (each := each) hl hu (by simp [Heap.put_at]) (by simp [Heap.put_at])) rfl (by simp -dsimp only [callee_fn, simx, zzB, tys, ite_self, opnL, callB, callX, readsB, stepOp, nilCmp, ofVal, opBuiltin, opLen, PV.sk, scalBin, scalUn, intBin, opLoad, natOf, opConvert, opField, cellsP, oneP, Value.oneCell', opStore, toIV, scalT, scalA, scalC, boxesA, boxesC, zipB_none, zipB_mx, isZ, opZip, zeroP, opAppendZ, opMakeMap, opLookup, mboxB, opUpdate, ↓reduceIte, Nat.reduceSub, Nat.reduceEqDiff, Nat.reduceAdd, Nat.reduceMul, Nat.reduceLT, Nat.reduceLeDiff, Int.reduceToNat, Int.reduceLE, Int.reduceLT, Int.reduceNeg, reduceCtorEq, gos, Int.reduceAdd, Int.reduceSub, Int.reduceMul, Int.reduceEq]) (by simp only [tys]) ?_
  generalize decide (0 ≤ badF p each l 0) = o
  repeat (first | refine X_opc rfl ?_ | refine X_dopc rfl ?_ | refine ⟨(by show drawK _ _ = true; kernel_rfl : drawX _ _ _), ?_⟩ | exact (by show drawK _ _ = true; kernel_rfl : drawX _ _ _) | simp -dsimp (maxSteps := 20000000) (disch := omega) only [simx, zzC, zzB, tys, ite_self, opnL, callB, callX, readsB, stepOp, nilCmp, ofVal, opBuiltin, opLen, PV.sk, scalBin, scalUn, intBin, opLoad, natOf, opConvert, opField, cellsP, oneP, Value.oneCell', opStore, toIV, scalT, scalA, scalC, boxesA, boxesC, zipB_none, zipB_mx, isZ, opZip, zeroP, opAppendZ, opMakeMap, opLookup, mboxB, opUpdate, ↓reduceIte, Nat.reduceSub, Nat.reduceEqDiff, Nat.reduceAdd, Nat.reduceMul, Nat.reduceLT, Nat.reduceLeDiff, Int.reduceToNat, Int.reduceLE, Int.reduceLT, Int.reduceNeg, reduceCtorEq, zzR, gos, Int.reduceAdd, Int.reduceSub, Int.reduceMul, Int.reduceEq])
theorem side7_walk (n : Int) : CallsP Try.prog 86 [i64 n] (bl (SideB n)) := by
  unfold SideB
  by_cases c1 : 1 ≤ n
  · rw [decide_eq_true c1]
    by_cases c2 : n ≤ 64
    · rw [decide_eq_true c2]
      refine X_startP (n := 9) (m := 1) (rs := [.tmp 2]) Try.func86 rfl rfl rfl rfl (by decide) fun base => ?_
      repeat (first | refine X_opc rfl ?_ | refine X_dopc rfl ?_ | refine ⟨(by show drawK _ _ = true; kernel_rfl : drawX _ _ _), ?_⟩ | exact (by show drawK _ _ = true; kernel_rfl : drawX _ _ _) | simp -dsimp (maxSteps := 20000000) (disch := omega) only [simx, zzC, zzB, tys, ite_self, opnL, callB, callX, readsB, stepOp, nilCmp, ofVal, opBuiltin, opLen, PV.sk, scalBin, scalUn, intBin, opLoad, natOf, opConvert, opField, cellsP, oneP, Value.oneCell', opStore, toIV, scalT, scalA, scalC, boxesA, boxesC, zipB_none, zipB_mx, isZ, opZip, zeroP, opAppendZ, opMakeMap, opLookup, mboxB, opUpdate, ↓reduceIte, Nat.reduceSub, Nat.reduceEqDiff, Nat.reduceAdd, Nat.reduceMul, Nat.reduceLT, Nat.reduceLeDiff, Int.reduceToNat, Int.reduceLE, Int.reduceLT, Int.reduceNeg, reduceCtorEq, zzR, gos, Int.reduceAdd, Int.reduceSub, Int.reduceMul, Int.reduceEq])
    · rw [decide_eq_false c2]
      refine X_startP (n := 9) (m := 1) (rs := [.tmp 2]) Try.func86 rfl rfl rfl rfl (by decide) fun base => ?_
      repeat (first | refine X_opc rfl ?_ | refine X_dopc rfl ?_ | refine ⟨(by show drawK _ _ = true; kernel_rfl : drawX _ _ _), ?_⟩ | exact (by show drawK _ _ = true; kernel_rfl : drawX _ _ _) | simp -dsimp (maxSteps := 20000000) (disch := omega) only [simx, zzC, zzB, tys, ite_self, opnL, callB, callX, readsB, stepOp, nilCmp, ofVal, opBuiltin, opLen, PV.sk, scalBin, scalUn, intBin, opLoad, natOf, opConvert, opField, cellsP, oneP, Value.oneCell', opStore, toIV, scalT, scalA, scalC, boxesA, boxesC, zipB_none, zipB_mx, isZ, opZip, zeroP, opAppendZ, opMakeMap, opLookup, mboxB, opUpdate, ↓reduceIte, Nat.reduceSub, Nat.reduceEqDiff, Nat.reduceAdd, Nat.reduceMul, Nat.reduceLT, Nat.reduceLeDiff, Int.reduceToNat, Int.reduceLE, Int.reduceLT, Int.reduceNeg, reduceCtorEq, zzR, gos, Int.reduceAdd, Int.reduceSub, Int.reduceMul, Int.reduceEq])
  · rw [decide_eq_false c1]
    refine X_startP (n := 9) (m := 1) (rs := [.tmp 2]) Try.func86 rfl rfl rfl rfl (by decide) fun base => ?_
    repeat (first | refine X_opc rfl ?_ | refine X_dopc rfl ?_ | refine ⟨(by show drawK _ _ = true; kernel_rfl : drawX _ _ _), ?_⟩ | exact (by show drawK _ _ = true; kernel_rfl : drawX _ _ _) | simp -dsimp (maxSteps := 20000000) (disch := omega) only [simx, zzC, zzB, tys, ite_self, opnL, callB, callX, readsB, stepOp, nilCmp, ofVal, opBuiltin, opLen, PV.sk, scalBin, scalUn, intBin, opLoad, natOf, opConvert, opField, cellsP, oneP, Value.oneCell', opStore, toIV, scalT, scalA, scalC, boxesA, boxesC, zipB_none, zipB_mx, isZ, opZip, zeroP, opAppendZ, opMakeMap, opLookup, mboxB, opUpdate, ↓reduceIte, Nat.reduceSub, Nat.reduceEqDiff, Nat.reduceAdd, Nat.reduceMul, Nat.reduceLT, Nat.reduceLeDiff, Int.reduceToNat, Int.reduceLE, Int.reduceLT, Int.reduceNeg, reduceCtorEq, zzR, gos, Int.reduceAdd, Int.reduceSub, Int.reduceMul, Int.reduceEq, c1])
end Go.Proofs.Ythnfphgjfpcpbaa.TM
namespace Go.Proofs.Ythnfphgjfpcpbaa.TM
open Go Go.RowKit
attribute [local irreducible] K W WOps Effs Xg Xo Xr Xdg Xdo Xdr Xif CallsP CallR
def mkP (p : Int) (X Y : Nat → Int) : Nat → Int
  | 0 => 0
  | k + 1 => (mkP p X Y k + X k * Y k % p) % p
theorem mkP_in {p : Int} (hp : Md p) (X Y : Nat → Int) : ∀ k, In p (mkP p X Y k)
  | 0 => ⟨by show (0 : Int) ≤ 0; omega, by have := hp.1; show (0 : Int) < p; omega⟩
  | k + 1 => in_emod hp _
def mkG (p : Int) (cc uu : List (List Int)) (i q k : Nat) : Int := mkP p (fun k => (cc.getD i []).getD k 0) (fun k => (uu.getD k []).getD q 0) k
def mkF (p : Int) (cc uu : List (List Int)) (K C i k q : Nat) : Nat → Int := fun t => if t / C < i then mkG p cc uu (t / C) (t % C) K else if t / C = i then (if t % C < q then mkG p cc uu i (t % C) (k + 1) else mkG p cc uu i (t % C) k) else 0
def makeM (p : Int) (cc uu : List (List Int)) (R K C : Nat) : List Int := tbl (R * C) (fun t => mkG p cc uu (t / C) (t % C) K)
section
variable {p : Int} {cc uu : List (List Int)} {K C i k q R : Nat}
theorem mkF_0 : mkF p cc uu K C 0 0 0 = fun _ => 0 := by
  funext t
  unfold mkF
  rw [if_neg (Nat.not_lt_zero _)]
  split
  · rw [if_neg (Nat.not_lt_zero _)]; rfl
  · rfl
theorem mkF_q (hC : 0 < C) : mkF p cc uu K C i k C = mkF p cc uu K C i (k + 1) 0 := by
  funext t
  unfold mkF
  rw [if_pos (Nat.mod_lt t hC), if_neg (Nat.not_lt_zero (t % C))]
theorem mkF_k : mkF p cc uu K C i K 0 = mkF p cc uu K C (i + 1) 0 0 := by
  funext t
  unfold mkF
  simp only [Nat.not_lt_zero, if_false]
  by_cases c1 : t / C < i
  · rw [if_pos c1, if_pos (by omega)]
  · rw [if_neg c1]
    by_cases c2 : t / C = i
    · rw [if_pos c2, if_pos (by omega), c2]
    · rw [if_neg c2, if_neg (by omega)]
      by_cases c3 : t / C = i + 1
      · rw [if_pos c3]; rfl
      · rw [if_neg c3]
theorem mkF_s (hq : q < C) : (fun t => if t = i * C + q then mkG p cc uu i q (k + 1) else mkF p cc uu K C i k q t) = mkF p cc uu K C i k (q + 1) := by
  funext t
  have d1 : (i * C + q) / C = i := by rw [Nat.mul_comm, Nat.mul_add_div (by omega), Nat.div_eq_of_lt hq, Nat.add_zero]
  have d2 : (i * C + q) % C = q := by rw [Nat.mul_comm, Nat.mul_add_mod, Nat.mod_eq_of_lt hq]
  by_cases e : t = i * C + q
  · subst e
    unfold mkF
    rw [if_pos rfl, d1, d2, if_neg (by omega), if_pos rfl, if_pos (by omega)]
  · rw [if_neg e]
    unfold mkF
    by_cases c1 : t / C < i
    · rw [if_pos c1, if_pos c1]
    · rw [if_neg c1, if_neg c1]
      by_cases c2 : t / C = i
      · rw [if_pos c2, if_pos c2]
        have : t % C ≠ q := fun h => e (by rw [← c2, ← h, Nat.mul_comm]; exact (Nat.div_add_mod t C).symm)
        by_cases c3 : t % C < q
        · rw [if_pos c3, if_pos (by omega)]
        · rw [if_neg c3, if_neg (by omega)]
      · rw [if_neg c2, if_neg c2]
theorem mkF_at (hq : q < C) : mkF p cc uu K C i k q (i * C + q) = mkG p cc uu i q k := by
  have d1 : (i * C + q) / C = i := by rw [Nat.mul_comm, Nat.mul_add_div (by omega), Nat.div_eq_of_lt hq, Nat.add_zero]
  have d2 : (i * C + q) % C = q := by rw [Nat.mul_comm, Nat.mul_add_mod, Nat.mod_eq_of_lt hq]
  unfold mkF
  rw [d1, d2, if_neg (by omega), if_pos rfl, if_neg (by omega)]
theorem mkF_end : tbl (R * C) (mkF p cc uu K C R 0 0) = makeM p cc uu R K C := tbl_congr fun t ht => by
  unfold mkF
  rw [if_pos (Nat.div_lt_of_lt_mul (by rw [Nat.mul_comm]; exact ht))]
end
set_option maxHeartbeats 8000000 in
theorem make_yes {p : Int} {R C K : Nat} {rw0 cw : List Int} {cc uu : List (List Int)} (hp : Md p) (r1 : 1 ≤ R) (r2 : R ≤ 64) (c1 : 1 ≤ C) (c2 : C ≤ 64) (hc : cc.length = R) (hu : uu.length = K) (hK : K ≤ maxLen)
    (hc2 : ∀ x ∈ cc, x.length = K ∧ ∀ a ∈ x, In p a) (hu2 : ∀ x ∈ uu, x.length = C ∧ ∀ a ∈ x, In p a) :
    CallsP Try.prog 47 [u64 p, cupQ (rw0, cw, cc, uu), i64 R, i64 C] (.tup [matP R C (makeM p cc uu R K C), i64 0]) := by
  have q1 := right_walk p
  rw [show RightB p = true by unfold RightB; simp; exact ⟨by have := hp.1; omega, by have := hp.2; omega⟩] at q1
  have q2 := side7_walk (R : Int)
  rw [(side_iff _).2 ⟨by omega, by omega⟩] at q2
  have q3 := side7_walk (C : Int)
  rw [(side_iff _).2 ⟨by omega, by omega⟩] at q3
  have q4 := rows7_walk (p := p) (each := (K : Int)) (l := cc) (by rw [mx_len]; omega) (fun u h => by rw [(hc2 u h).1]; exact hK)
  rw [(rowsB_iff _ _ _).2 fun u h => ⟨by rw [(hc2 u h).1], (has_iff _ _).2 ⟨fun a ha => ((hc2 u h).2 a ha).2, hp⟩⟩] at q4
  have q5 := rows7_walk (p := p) (each := (C : Int)) (l := uu) (by rw [hu]; exact hK) (fun u h => by rw [(hu2 u h).1, mx_len]; omega)
  rw [(rowsB_iff _ _ _).2 fun u h => ⟨by rw [(hu2 u h).1], (has_iff _ _).2 ⟨fun a ha => ((hu2 u h).2 a ha).2, hp⟩⟩] at q5
  have bd := rc_bd r2 c2
  have f1 : IntKind.i64.wrap ((R : Int) * (C : Int)) = ((R * C : Nat) : Int) := by rw [← Int.natCast_mul]; exact iw_of (by omega) (by omega)
  have cb : R * C * 8 ≤ 140737488355328 := by omega
  have cb2 : R * C ≤ 140737488355328 := by omega
  have f0 : (0 : Int) ≤ ((R * C : Nat) : Int) := by omega
  have z0 := zero_tbl (R * C)
  rw [← mkF_0 (p := p) (cc := cc) (uu := uu) (K := K) (C := C)] at z0
  rw [← mkF_end]
  have hcc : (cc.length : Int) = (R : Int) := by omega
  rw [mx_len] at hK
  refine X_startP (n := 126) (m := 4) (rs := [.cell 8 25, .tmp 9]) Try.func47 rfl rfl rfl rfl (by decide) fun base => ?_
  repeat (first | ((first | refine X_call_fn2 rfl (by simp only [tys]) ?_ | refine X_dcall_fn2 rfl (by simp only [tys]) ?_); apply Exists.intro; apply And.intro; (focus (simp -dsimp only [simx, zzC, zzB, tys, ite_self, opnL, callB, callX, readsB, stepOp, nilCmp, ofVal, opBuiltin, opLen, PV.sk, scalBin, scalUn, intBin, opLoad, natOf, opConvert, opField, cellsP, oneP, Value.oneCell', opStore, toIV, scalT, scalA, scalC, boxesA, boxesC, zipB_none, zipB_mx, isZ, opZip, zeroP, opAppendZ, opMakeMap, opLookup, mboxB, opUpdate, ↓reduceIte, Nat.reduceSub, Nat.reduceEqDiff, Nat.reduceAdd, Nat.reduceMul, Nat.reduceLT, Nat.reduceLeDiff, Int.reduceToNat, Int.reduceLE, Int.reduceLT, Int.reduceNeg, reduceCtorEq, zzL, if_true, if_false] <;> rfl)); apply Exists.intro; apply And.intro; (focus (first | exact q1 | exact q2 | exact q3 | exact q4 | exact q5))) | refine X_opc rfl ?_ | refine X_dopc rfl ?_ | refine ⟨(by show drawK _ _ = true; kernel_rfl : drawX _ _ _), ?_⟩ | exact (by show drawK _ _ = true; kernel_rfl : drawX _ _ _) | simp -dsimp (maxSteps := 20000000) (disch := omega) only [simx, zzC, zzB, tys, ite_self, opnL, callB, callX, readsB, stepOp, nilCmp, ofVal, opBuiltin, opLen, PV.sk, scalBin, scalUn, intBin, opLoad, natOf, opConvert, opField, cellsP, oneP, Value.oneCell', opStore, toIV, scalT, scalA, scalC, boxesA, boxesC, zipB_none, zipB_mx, isZ, opZip, zeroP, opAppendZ, opMakeMap, opLookup, mboxB, opUpdate, ↓reduceIte, Nat.reduceSub, Nat.reduceEqDiff, Nat.reduceAdd, Nat.reduceMul, Nat.reduceLT, Nat.reduceLeDiff, Int.reduceToNat, Int.reduceLE, Int.reduceLT, Int.reduceNeg, reduceCtorEq, gos, Int.reduceAdd, Int.reduceSub, Int.reduceMul, Int.reduceEq, SK.len, hcc, hu, f1, f0, cb, cb2, z0])
  clear q1 q2 q3 q4 q5 z0 f0 f1 cb cb2
  refine X_loopH [0, 3, 5, 8, 10, 67, 68, 69] [] (0) (R) (fun j => True) (fun j => [(68, i64 R), (69, i64 j)]) (fun j => ((((Heap.none.put ((0, 0) :: base) (.var [li rw0, li cw, llP cc, llP uu])).put ((0, 1) :: base) (.var [i64 0, i64 0, nilP])).put ((3, 5) :: base) (.row false ((tbl (R * C) (mkF p cc uu K C j 0 0)).map iu))).put ((3, 7) :: base) (.var [i64 R, i64 C, .view ((3, 5) :: base) 0 1 (R * C) (R * C)]))) ?_ ?_ ?_ ?_ ?_ (by decide) ?_
  · exact (fgt_nil)
  · ((simp -dsimp (disch := omega) only [simx, zzB, tys, ite_self, opnL, callB, callX, readsB, stepOp, nilCmp, ofVal, opBuiltin, opLen, PV.sk, scalBin, scalUn, intBin, opLoad, natOf, opConvert, opField, cellsP, oneP, Value.oneCell', opStore, toIV, scalT, scalA, scalC, boxesA, boxesC, zipB_none, zipB_mx, isZ, opZip, zeroP, opAppendZ, opMakeMap, opLookup, mboxB, opUpdate, ↓reduceIte, Nat.reduceSub, Nat.reduceEqDiff, Nat.reduceAdd, Nat.reduceMul, Nat.reduceLT, Nat.reduceLeDiff, Int.reduceToNat, Int.reduceLE, Int.reduceLT, Int.reduceNeg, reduceCtorEq, gos, Int.reduceAdd, Int.reduceSub, Int.reduceMul, Int.reduceEq]) <;> first | rfl | simp)
  · funext c
    simp (maxSteps := 20000000) only [Heap.drop_at, rowH_app, Heap.put_at, Heap.none_at, List.mem_cons, List.not_mem_nil, or_false]
    by_cases e0 : c = (0, 0) :: base
    · subst e0; simp []
    by_cases e1 : c = (0, 1) :: base
    · subst e1; simp []
    by_cases e2 : c = (3, 5) :: base
    · subst e2; simp []
    by_cases e3 : c = (3, 7) :: base
    · subst e3; simp []
    simp [e0, e1, e2, e3]
  · omega
  · trivial
  · intro i hi _
    by_cases ci : i < R
    · obtain ⟨x1, x2⟩ := hc2 (cc.getD i []) (getD_mm (by omega))
      have bi := ic_bd (c := C) ci
      have g1 : (cc.map fun u => IV.l u.length (u.map iu))[i]? = some (.l K ((cc.getD i []).map iu)) := by rw [List.getElem?_map, getD_at' (d := []) (by omega), Option.map_some, x1]
      have m1 : (i + 1) * C = i * C + C := Nat.succ_mul i C
      have f1 : IntKind.i64.wrap ((i : Int) * (C : Int)) = ((i * C : Nat) : Int) := by rw [← Int.natCast_mul]; exact iw_of (by omega) (by omega)
      have f2 : IntKind.i64.wrap (((i : Int) + 1) * (C : Int)) = ((i * C + C : Nat) : Int) := by
        rw [show ((i : Int) + 1) * (C : Int) = ((i * C + C : Nat) : Int) by rw [← m1]; push_cast; rfl]; exact iw_of (by omega) (by omega)
      have f3 : i * C + C - i * C = C := by omega
      have f5 : i * C ≤ i * C + C := by omega
      repeat (first | refine X_opc rfl ?_ | refine X_dopc rfl ?_ | refine ⟨(by show drawK _ _ = true; kernel_rfl : drawX _ _ _), ?_⟩ | exact (by show drawK _ _ = true; kernel_rfl : drawX _ _ _) | simp -dsimp (maxSteps := 20000000) (disch := omega) only [simx, zzC, zzB, tys, ite_self, opnL, callB, callX, readsB, stepOp, nilCmp, ofVal, opBuiltin, opLen, PV.sk, scalBin, scalUn, intBin, opLoad, natOf, opConvert, opField, cellsP, oneP, Value.oneCell', opStore, toIV, scalT, scalA, scalC, boxesA, boxesC, zipB_none, zipB_mx, isZ, opZip, zeroP, opAppendZ, opMakeMap, opLookup, mboxB, opUpdate, ↓reduceIte, Nat.reduceSub, Nat.reduceEqDiff, Nat.reduceAdd, Nat.reduceMul, Nat.reduceLT, Nat.reduceLeDiff, Int.reduceToNat, Int.reduceLE, Int.reduceLT, Int.reduceNeg, reduceCtorEq, gos, Int.reduceAdd, Int.reduceSub, Int.reduceMul, Int.reduceEq, ci, g1, f1, f2, f3, f5, bi, hc, SK.len, Option.isNone_none])
      clear g1 f1 f2 f3 f5
      refine X_loopH [0, 3, 5, 8, 10, 13, 67, 68, 69, 84, 85, 86] [] (0) (K) (fun j => True) (fun j => [(85, i64 K), (86, i64 j)]) (fun j => ((((Heap.none.put ((0, 0) :: base) (.var [li rw0, li cw, llP cc, llP uu])).put ((0, 1) :: base) (.var [i64 0, i64 0, nilP])).put ((3, 5) :: base) (.row false ((tbl (R * C) (mkF p cc uu K C i j 0)).map iu))).put ((3, 7) :: base) (.var [i64 R, i64 C, .view ((3, 5) :: base) 0 1 (R * C) (R * C)]))) ?_ ?_ ?_ ?_ ?_ (by decide) ?_
      · exact (fgt_nil)
      · ((simp -dsimp (disch := omega) only [simx, zzB, tys, ite_self, opnL, callB, callX, readsB, stepOp, nilCmp, ofVal, opBuiltin, opLen, PV.sk, scalBin, scalUn, intBin, opLoad, natOf, opConvert, opField, cellsP, oneP, Value.oneCell', opStore, toIV, scalT, scalA, scalC, boxesA, boxesC, zipB_none, zipB_mx, isZ, opZip, zeroP, opAppendZ, opMakeMap, opLookup, mboxB, opUpdate, ↓reduceIte, Nat.reduceSub, Nat.reduceEqDiff, Nat.reduceAdd, Nat.reduceMul, Nat.reduceLT, Nat.reduceLeDiff, Int.reduceToNat, Int.reduceLE, Int.reduceLT, Int.reduceNeg, reduceCtorEq, gos, Int.reduceAdd, Int.reduceSub, Int.reduceMul, Int.reduceEq]) <;> first | rfl | simp)
      · funext c
        simp (maxSteps := 20000000) only [Heap.drop_at, rowH_app, Heap.put_at, Heap.none_at, List.mem_cons, List.not_mem_nil, or_false]
        by_cases e0 : c = (0, 0) :: base
        · subst e0; simp []
        by_cases e1 : c = (0, 1) :: base
        · subst e1; simp []
        by_cases e2 : c = (3, 5) :: base
        · subst e2; simp []
        by_cases e3 : c = (3, 7) :: base
        · subst e3; simp []
        simp [e0, e1, e2, e3]
      · omega
      · trivial
      · intro k hk _
        by_cases ck : k < K
        · obtain ⟨y1, y2⟩ := hu2 (uu.getD k []) (getD_mm (by omega))
          have g1 : ((cc.getD i []).map iu)[k]? = some (iu ((cc.getD i []).getD k 0)) := by rw [List.getElem?_map, getD_some x1 ck]; rfl
          have g2 : (uu.map fun u => IV.l u.length (u.map iu))[k]? = some (.l C ((uu.getD k []).map iu)) := by rw [List.getElem?_map, getD_at' (d := []) (by omega), Option.map_some, y1]
          have xi := getD_of x2 (i := k) (by omega)
          obtain ⟨x, hx⟩ : ∃ x, (cc.getD i []).getD k 0 = x := ⟨_, rfl⟩
          rw [hx] at g1 xi
          obtain ⟨Y, hY⟩ : ∃ Y, uu.getD k [] = Y := ⟨_, rfl⟩
          rw [hY] at g2 y1 y2
          have gs : ∀ q, mkG p cc uu i q (k + 1) = (mkG p cc uu i q k + x * Y.getD q 0 % p) % p := fun q => by unfold mkG; rw [mkP, hx, hY]
          repeat (first | refine X_opc rfl ?_ | refine X_dopc rfl ?_ | refine ⟨(by show drawK _ _ = true; kernel_rfl : drawX _ _ _), ?_⟩ | exact (by show drawK _ _ = true; kernel_rfl : drawX _ _ _) | simp -dsimp (maxSteps := 20000000) (disch := omega) only [simx, zzC, zzB, tys, ite_self, opnL, callB, callX, readsB, stepOp, nilCmp, ofVal, opBuiltin, opLen, PV.sk, scalBin, scalUn, intBin, opLoad, natOf, opConvert, opField, cellsP, oneP, Value.oneCell', opStore, toIV, scalT, scalA, scalC, boxesA, boxesC, zipB_none, zipB_mx, isZ, opZip, zeroP, opAppendZ, opMakeMap, opLookup, mboxB, opUpdate, ↓reduceIte, Nat.reduceSub, Nat.reduceEqDiff, Nat.reduceAdd, Nat.reduceMul, Nat.reduceLT, Nat.reduceLeDiff, Int.reduceToNat, Int.reduceLE, Int.reduceLT, Int.reduceNeg, reduceCtorEq, gos, Int.reduceAdd, Int.reduceSub, Int.reduceMul, Int.reduceEq, ck, g1, g2, hu, SK.len])
          clear g1 g2
          refine X_loopH [0, 3, 5, 8, 10, 13, 15, 67, 68, 69, 84, 85, 86, 95, 96, 97] [] (0) (C) (fun j => True) (fun j => [(96, i64 C), (97, i64 j)]) (fun j => ((((Heap.none.put ((0, 0) :: base) (.var [li rw0, li cw, llP cc, llP uu])).put ((0, 1) :: base) (.var [i64 0, i64 0, nilP])).put ((3, 5) :: base) (.row false ((tbl (R * C) (mkF p cc uu K C i k j)).map iu))).put ((3, 7) :: base) (.var [i64 R, i64 C, .view ((3, 5) :: base) 0 1 (R * C) (R * C)]))) ?_ ?_ ?_ ?_ ?_ (by decide) ?_
          · exact (fgt_nil)
          · ((simp -dsimp (disch := omega) only [simx, zzB, tys, ite_self, opnL, callB, callX, readsB, stepOp, nilCmp, ofVal, opBuiltin, opLen, PV.sk, scalBin, scalUn, intBin, opLoad, natOf, opConvert, opField, cellsP, oneP, Value.oneCell', opStore, toIV, scalT, scalA, scalC, boxesA, boxesC, zipB_none, zipB_mx, isZ, opZip, zeroP, opAppendZ, opMakeMap, opLookup, mboxB, opUpdate, ↓reduceIte, Nat.reduceSub, Nat.reduceEqDiff, Nat.reduceAdd, Nat.reduceMul, Nat.reduceLT, Nat.reduceLeDiff, Int.reduceToNat, Int.reduceLE, Int.reduceLT, Int.reduceNeg, reduceCtorEq, gos, Int.reduceAdd, Int.reduceSub, Int.reduceMul, Int.reduceEq]) <;> first | rfl | simp)
          · funext c
            simp (maxSteps := 20000000) only [Heap.drop_at, rowH_app, Heap.put_at, Heap.none_at, List.mem_cons, List.not_mem_nil, or_false]
            by_cases e0 : c = (0, 0) :: base
            · subst e0; simp []
            by_cases e1 : c = (0, 1) :: base
            · subst e1; simp []
            by_cases e2 : c = (3, 5) :: base
            · subst e2; simp []
            by_cases e3 : c = (3, 7) :: base
            · subst e3; simp []
            simp [e0, e1, e2, e3]
          · omega
          · trivial
          · intro q hq _
            by_cases cq : q < C
            · have g3 : (Y.map iu)[q]? = some (iu (Y.getD q 0)) := by rw [List.getElem?_map, getD_some y1 cq]; rfl
              have lt : i * C + q < R * C := by omega
              have g4 : ((tbl (R * C) (mkF p cc uu K C i k q)).map iu)[i * C + q]? = some (iu (mkG p cc uu i q k)) := by rw [List.getElem?_map, tbl_get? _ lt, mkF_at cq]; rfl
              have px := tbl_put_iu (mkF p cc uu K C i k q) (mkG p cc uu i q (k + 1)) lt
              rw [mkF_s cq] at px
              have tl := tbl_len (R * C) (mkF p cc uu K C i k q)
              have n1 := Mul_in hp xi (getD_of y2 (i := q) (by omega))
              have n2 := Add_in hp (show In p (mkG p cc uu i q k) from mkP_in hp _ _ k) (in_emod hp (x * Y.getD q 0))
              rw [← gs q] at n2
              generalize mkG p cc uu i q (k + 1) = D1 at n2 px
              generalize mkG p cc uu i q k = D0 at n2 g4
              generalize x * Y.getD q 0 % p = D2 at n1 n2
              generalize Y.getD q 0 = y at g3 n1
              have lt2 : i * C + q + 1 ≤ R * C := by omega
              repeat (first | ((first | refine X_call_fn2 rfl (by simp only [tys]) ?_ | refine X_dcall_fn2 rfl (by simp only [tys]) ?_); apply Exists.intro; apply And.intro; (focus (simp -dsimp only [simx, zzC, zzB, tys, ite_self, opnL, callB, callX, readsB, stepOp, nilCmp, ofVal, opBuiltin, opLen, PV.sk, scalBin, scalUn, intBin, opLoad, natOf, opConvert, opField, cellsP, oneP, Value.oneCell', opStore, toIV, scalT, scalA, scalC, boxesA, boxesC, zipB_none, zipB_mx, isZ, opZip, zeroP, opAppendZ, opMakeMap, opLookup, mboxB, opUpdate, ↓reduceIte, Nat.reduceSub, Nat.reduceEqDiff, Nat.reduceAdd, Nat.reduceMul, Nat.reduceLT, Nat.reduceLeDiff, Int.reduceToNat, Int.reduceLE, Int.reduceLT, Int.reduceNeg, reduceCtorEq, zzL, if_true, if_false] <;> rfl)); apply Exists.intro; apply And.intro; (focus (first | exact n1 | exact n2))) | refine X_opc rfl ?_ | refine X_dopc rfl ?_ | refine ⟨(by show drawK _ _ = true; kernel_rfl : drawX _ _ _), ?_⟩ | exact (by show drawK _ _ = true; kernel_rfl : drawX _ _ _) | simp -dsimp (maxSteps := 20000000) (disch := omega) only [simx, zzC, zzB, tys, ite_self, opnL, callB, callX, readsB, stepOp, nilCmp, ofVal, opBuiltin, opLen, PV.sk, scalBin, scalUn, intBin, opLoad, natOf, opConvert, opField, cellsP, oneP, Value.oneCell', opStore, toIV, scalT, scalA, scalC, boxesA, boxesC, zipB_none, zipB_mx, isZ, opZip, zeroP, opAppendZ, opMakeMap, opLookup, mboxB, opUpdate, ↓reduceIte, Nat.reduceSub, Nat.reduceEqDiff, Nat.reduceAdd, Nat.reduceMul, Nat.reduceLT, Nat.reduceLeDiff, Int.reduceToNat, Int.reduceLE, Int.reduceLT, Int.reduceNeg, reduceCtorEq, gos, Int.reduceAdd, Int.reduceSub, Int.reduceMul, Int.reduceEq, cq, g3, g4, lt, lt2, tl, List.length_map, SK.len])
              refine ⟨cq, (fgt_nil), ?_, ?_⟩
              · rfl
              · rw [drop_nil, ← px]
                funext c
                simp (maxSteps := 20000000) only [Heap.drop_at, rowH_app, Heap.put_at, Heap.none_at, List.mem_cons, List.not_mem_nil, or_false]
                by_cases e0 : c = (0, 0) :: base
                · subst e0; simp []
                by_cases e1 : c = (0, 1) :: base
                · subst e1; simp []
                by_cases e2 : c = (3, 5) :: base
                · subst e2; simp []
                by_cases e3 : c = (3, 7) :: base
                · subst e3; simp []
                simp [e0, e1, e2, e3]
            · have eq : C = q := by omega
              subst eq
              repeat (first | refine X_opc rfl ?_ | refine X_dopc rfl ?_ | refine ⟨(by show drawK _ _ = true; kernel_rfl : drawX _ _ _), ?_⟩ | exact (by show drawK _ _ = true; kernel_rfl : drawX _ _ _) | simp -dsimp (maxSteps := 20000000) (disch := omega) only [simx, zzC, zzB, tys, ite_self, opnL, callB, callX, readsB, stepOp, nilCmp, ofVal, opBuiltin, opLen, PV.sk, scalBin, scalUn, intBin, opLoad, natOf, opConvert, opField, cellsP, oneP, Value.oneCell', opStore, toIV, scalT, scalA, scalC, boxesA, boxesC, zipB_none, zipB_mx, isZ, opZip, zeroP, opAppendZ, opMakeMap, opLookup, mboxB, opUpdate, ↓reduceIte, Nat.reduceSub, Nat.reduceEqDiff, Nat.reduceAdd, Nat.reduceMul, Nat.reduceLT, Nat.reduceLeDiff, Int.reduceToNat, Int.reduceLE, Int.reduceLT, Int.reduceNeg, reduceCtorEq, gos, Int.reduceAdd, Int.reduceSub, Int.reduceMul, Int.reduceEq])
              refine ⟨ck, (fgt_nil), ?_, ?_⟩
              · rfl
              · rw [drop_nil, mkF_q c1]
        · have ek : K = k := by omega
          subst ek
          repeat (first | refine X_opc rfl ?_ | refine X_dopc rfl ?_ | refine ⟨(by show drawK _ _ = true; kernel_rfl : drawX _ _ _), ?_⟩ | exact (by show drawK _ _ = true; kernel_rfl : drawX _ _ _) | simp -dsimp (maxSteps := 20000000) (disch := omega) only [simx, zzC, zzB, tys, ite_self, opnL, callB, callX, readsB, stepOp, nilCmp, ofVal, opBuiltin, opLen, PV.sk, scalBin, scalUn, intBin, opLoad, natOf, opConvert, opField, cellsP, oneP, Value.oneCell', opStore, toIV, scalT, scalA, scalC, boxesA, boxesC, zipB_none, zipB_mx, isZ, opZip, zeroP, opAppendZ, opMakeMap, opLookup, mboxB, opUpdate, ↓reduceIte, Nat.reduceSub, Nat.reduceEqDiff, Nat.reduceAdd, Nat.reduceMul, Nat.reduceLT, Nat.reduceLeDiff, Int.reduceToNat, Int.reduceLE, Int.reduceLT, Int.reduceNeg, reduceCtorEq, gos, Int.reduceAdd, Int.reduceSub, Int.reduceMul, Int.reduceEq])
          refine ⟨ci, (fgt_nil), ?_, ?_⟩
          · rfl
          · rw [drop_nil, mkF_k]
    · have ei : R = i := by omega
      subst ei
      have tk : ((tbl (R * C) (mkF p cc uu K C R 0 0)).map iu).take (R * C) = (tbl (R * C) (mkF p cc uu K C R 0 0)).map iu := List.take_of_length_le (by rw [List.length_map, tbl_len]; exact Nat.le_refl _)
      rw [show matP (R : Int) (C : Int) (tbl (R * C) (mkF p cc uu K C R 0 0)) = .agg [i64 R, i64 C, .i (.l (R * C) ((tbl (R * C) (mkF p cc uu K C R 0 0)).map iu))] by simp [lu, tbl_len]]
      repeat (first | refine X_opc rfl ?_ | refine X_dopc rfl ?_ | refine ⟨(by show drawK _ _ = true; kernel_rfl : drawX _ _ _), ?_⟩ | exact (by show drawK _ _ = true; kernel_rfl : drawX _ _ _) | simp -dsimp (maxSteps := 20000000) (disch := omega) only [simx, zzC, zzB, tys, ite_self, opnL, callB, callX, readsB, stepOp, nilCmp, ofVal, opBuiltin, opLen, PV.sk, scalBin, scalUn, intBin, opLoad, natOf, opConvert, opField, cellsP, oneP, Value.oneCell', opStore, toIV, scalT, scalA, scalC, boxesA, boxesC, zipB_none, zipB_mx, isZ, opZip, zeroP, opAppendZ, opMakeMap, opLookup, mboxB, opUpdate, ↓reduceIte, Nat.reduceSub, Nat.reduceEqDiff, Nat.reduceAdd, Nat.reduceMul, Nat.reduceLT, Nat.reduceLeDiff, Int.reduceToNat, Int.reduceLE, Int.reduceLT, Int.reduceNeg, reduceCtorEq, zzR, gos, Int.reduceAdd, Int.reduceSub, Int.reduceMul, Int.reduceEq, List.length_map, tbl_len])
      rw [tk]
end Go.Proofs.Ythnfphgjfpcpbaa.TM
namespace Go.Proofs.Ythnfphgjfpcpbaa.TM
open Go Go.RowKit
attribute [local irreducible] K W WOps Effs Xg Xo Xr Xdg Xdo Xdr Xif CallsP CallR
def sameMB (r c : Int) (l : List Int) (r' c' : Int) (l' : List Int) : Bool := decide (r = r') && (decide (c = c') && decide (l = l'))
theorem msame_walk (r c : Int) (l : List Int) (r' c' : Int) (l' : List Int) (hl : l.length ≤ maxLen) : CallsP Try.prog 41 [matP r c l, matP r' c' l'] (bl (sameMB r c l r' c' l')) := by
  have q := same_walk l l' hl
  unfold sameMB
  generalize decide (l = l') = s at q
  by_cases h1 : r = r'
  · rw [decide_eq_true h1]
    by_cases h2 : c = c'
    · rw [decide_eq_true h2]
      refine X_startP (n := 24) (m := 2) (rs := [.tmp 4]) Try.func41 rfl rfl rfl rfl (by decide) fun base => ?_
      repeat (first | ((first | refine X_call_fn2 rfl (by simp only [tys]) ?_ | refine X_dcall_fn2 rfl (by simp only [tys]) ?_); apply Exists.intro; apply And.intro; (focus (simp -dsimp only [simx, zzC, zzB, tys, ite_self, opnL, callB, callX, readsB, stepOp, nilCmp, ofVal, opBuiltin, opLen, PV.sk, scalBin, scalUn, intBin, opLoad, natOf, opConvert, opField, cellsP, oneP, Value.oneCell', opStore, toIV, scalT, scalA, scalC, boxesA, boxesC, zipB_none, zipB_mx, isZ, opZip, zeroP, opAppendZ, opMakeMap, opLookup, mboxB, opUpdate, ↓reduceIte, Nat.reduceSub, Nat.reduceEqDiff, Nat.reduceAdd, Nat.reduceMul, Nat.reduceLT, Nat.reduceLeDiff, Int.reduceToNat, Int.reduceLE, Int.reduceLT, Int.reduceNeg, reduceCtorEq, zzL, if_true, if_false] <;> rfl)); apply Exists.intro; apply And.intro; (focus (first | exact q))) | refine X_opc rfl ?_ | refine X_dopc rfl ?_ | refine ⟨(by show drawK _ _ = true; kernel_rfl : drawX _ _ _), ?_⟩ | exact (by show drawK _ _ = true; kernel_rfl : drawX _ _ _) | simp -dsimp (maxSteps := 20000000) (disch := omega) only [simx, zzC, zzB, tys, ite_self, opnL, callB, callX, readsB, stepOp, nilCmp, ofVal, opBuiltin, opLen, PV.sk, scalBin, scalUn, intBin, opLoad, natOf, opConvert, opField, cellsP, oneP, Value.oneCell', opStore, toIV, scalT, scalA, scalC, boxesA, boxesC, zipB_none, zipB_mx, isZ, opZip, zeroP, opAppendZ, opMakeMap, opLookup, mboxB, opUpdate, ↓reduceIte, Nat.reduceSub, Nat.reduceEqDiff, Nat.reduceAdd, Nat.reduceMul, Nat.reduceLT, Nat.reduceLeDiff, Int.reduceToNat, Int.reduceLE, Int.reduceLT, Int.reduceNeg, reduceCtorEq, zzR, gos, Int.reduceAdd, Int.reduceSub, Int.reduceMul, Int.reduceEq])
    · rw [decide_eq_false h2]
      refine X_startP (n := 24) (m := 2) (rs := [.tmp 4]) Try.func41 rfl rfl rfl rfl (by decide) fun base => ?_
      repeat (first | ((first | refine X_call_fn2 rfl (by simp only [tys]) ?_ | refine X_dcall_fn2 rfl (by simp only [tys]) ?_); apply Exists.intro; apply And.intro; (focus (simp -dsimp only [simx, zzC, zzB, tys, ite_self, opnL, callB, callX, readsB, stepOp, nilCmp, ofVal, opBuiltin, opLen, PV.sk, scalBin, scalUn, intBin, opLoad, natOf, opConvert, opField, cellsP, oneP, Value.oneCell', opStore, toIV, scalT, scalA, scalC, boxesA, boxesC, zipB_none, zipB_mx, isZ, opZip, zeroP, opAppendZ, opMakeMap, opLookup, mboxB, opUpdate, ↓reduceIte, Nat.reduceSub, Nat.reduceEqDiff, Nat.reduceAdd, Nat.reduceMul, Nat.reduceLT, Nat.reduceLeDiff, Int.reduceToNat, Int.reduceLE, Int.reduceLT, Int.reduceNeg, reduceCtorEq, zzL, if_true, if_false] <;> rfl)); apply Exists.intro; apply And.intro; (focus (first | exact q))) | refine X_opc rfl ?_ | refine X_dopc rfl ?_ | refine ⟨(by show drawK _ _ = true; kernel_rfl : drawX _ _ _), ?_⟩ | exact (by show drawK _ _ = true; kernel_rfl : drawX _ _ _) | simp -dsimp (maxSteps := 20000000) (disch := omega) only [simx, zzC, zzB, tys, ite_self, opnL, callB, callX, readsB, stepOp, nilCmp, ofVal, opBuiltin, opLen, PV.sk, scalBin, scalUn, intBin, opLoad, natOf, opConvert, opField, cellsP, oneP, Value.oneCell', opStore, toIV, scalT, scalA, scalC, boxesA, boxesC, zipB_none, zipB_mx, isZ, opZip, zeroP, opAppendZ, opMakeMap, opLookup, mboxB, opUpdate, ↓reduceIte, Nat.reduceSub, Nat.reduceEqDiff, Nat.reduceAdd, Nat.reduceMul, Nat.reduceLT, Nat.reduceLeDiff, Int.reduceToNat, Int.reduceLE, Int.reduceLT, Int.reduceNeg, reduceCtorEq, zzR, gos, Int.reduceAdd, Int.reduceSub, Int.reduceMul, Int.reduceEq])
  · rw [decide_eq_false h1]
    refine X_startP (n := 24) (m := 2) (rs := [.tmp 4]) Try.func41 rfl rfl rfl rfl (by decide) fun base => ?_
    repeat (first | ((first | refine X_call_fn2 rfl (by simp only [tys]) ?_ | refine X_dcall_fn2 rfl (by simp only [tys]) ?_); apply Exists.intro; apply And.intro; (focus (simp -dsimp only [simx, zzC, zzB, tys, ite_self, opnL, callB, callX, readsB, stepOp, nilCmp, ofVal, opBuiltin, opLen, PV.sk, scalBin, scalUn, intBin, opLoad, natOf, opConvert, opField, cellsP, oneP, Value.oneCell', opStore, toIV, scalT, scalA, scalC, boxesA, boxesC, zipB_none, zipB_mx, isZ, opZip, zeroP, opAppendZ, opMakeMap, opLookup, mboxB, opUpdate, ↓reduceIte, Nat.reduceSub, Nat.reduceEqDiff, Nat.reduceAdd, Nat.reduceMul, Nat.reduceLT, Nat.reduceLeDiff, Int.reduceToNat, Int.reduceLE, Int.reduceLT, Int.reduceNeg, reduceCtorEq, zzL, if_true, if_false] <;> rfl)); apply Exists.intro; apply And.intro; (focus (first | exact q))) | refine X_opc rfl ?_ | refine X_dopc rfl ?_ | refine ⟨(by show drawK _ _ = true; kernel_rfl : drawX _ _ _), ?_⟩ | exact (by show drawK _ _ = true; kernel_rfl : drawX _ _ _) | simp -dsimp (maxSteps := 20000000) (disch := omega) only [simx, zzC, zzB, tys, ite_self, opnL, callB, callX, readsB, stepOp, nilCmp, ofVal, opBuiltin, opLen, PV.sk, scalBin, scalUn, intBin, opLoad, natOf, opConvert, opField, cellsP, oneP, Value.oneCell', opStore, toIV, scalT, scalA, scalC, boxesA, boxesC, zipB_none, zipB_mx, isZ, opZip, zeroP, opAppendZ, opMakeMap, opLookup, mboxB, opUpdate, ↓reduceIte, Nat.reduceSub, Nat.reduceEqDiff, Nat.reduceAdd, Nat.reduceMul, Nat.reduceLT, Nat.reduceLeDiff, Int.reduceToNat, Int.reduceLE, Int.reduceLT, Int.reduceNeg, reduceCtorEq, zzR, gos, Int.reduceAdd, Int.reduceSub, Int.reduceMul, Int.reduceEq])
end Go.Proofs.Ythnfphgjfpcpbaa.TM
namespace Go.Proofs.Ythnfphgjfpcpbaa.TM
open Go Go.RowKit
attribute [local irreducible] K W WOps Effs Xg Xo Xr Xdg Xdo Xdr Xif CallsP CallR
theorem prm7 : Prm 7 := ⟨by decide, fun a h0 h1 => by
  have : a = 1 ∨ a = 2 ∨ a = 3 ∨ a = 4 ∨ a = 5 ∨ a = 6 := by omega
  rcases this with rfl | rfl | rfl | rfl | rfl | rfl <;> decide⟩
end Go.Proofs.Ythnfphgjfpcpbaa.TM
namespace Go.Proofs.Ythnfphgjfpcpbaa.TM
open Go Go.RowKit
attribute [local irreducible] K W WOps Effs Xg Xo Xr Xdg Xdo Xdr Xif CallsP CallR
theorem len_ok {P R C : Nat} {l : List Int} (M : Mt P R C l) : l.length ≤ maxLen := by have := M.len; have := rc_bd M.r2 M.c2; rw [mx_len]; omega
theorem w64_of_in {P : Int} (hp : Md P) {l : List Int} (h : ∀ a ∈ l, In P a) : W64s l := fun a ha => in_w64 hp (h a ha)
end Go.Proofs.Ythnfphgjfpcpbaa.TM
namespace Go.Proofs.Ythnfphgjfpcpbaa.TM
open Go Go.RowKit
attribute [local irreducible] K W WOps Effs Xg Xo Xr Xdg Xdo Xdr Xif CallsP CallR
theorem take_nextP {α : Type} {a b : List α} {j : Nat} (h1 : j < a.length) (h2 : j < b.length) (h : a.take j = b.take j) (e : a[j] = b[j]) : a.take (j + 1) = b.take (j + 1) := by
  rw [List.take_succ_eq_append_getElem h1, List.take_succ_eq_append_getElem h2, h, e]
theorem same6_walk (a b : List Int) (hl : a.length ≤ maxLen) : CallsP Try.prog 50 [li a, li b] (bl (decide (a = b))) := by
  rw [mx_len] at hl
  by_cases c0 : a.length = b.length
  · have c0' : (a.length : Int) = (b.length : Int) := by omega
    refine X_startP (n := 26) (m := 2) (rs := [.tmp 4]) Try.func50 rfl rfl rfl rfl (by decide) fun base => ?_
    repeat (first | refine X_opc rfl ?_ | refine X_dopc rfl ?_ | refine ⟨(by show drawK _ _ = true; kernel_rfl : drawX _ _ _), ?_⟩ | exact (by show drawK _ _ = true; kernel_rfl : drawX _ _ _) | simp -dsimp (maxSteps := 20000000) (disch := omega) only [simx, zzC, zzB, tys, ite_self, opnL, callB, callX, readsB, stepOp, nilCmp, ofVal, opBuiltin, opLen, PV.sk, scalBin, scalUn, intBin, opLoad, natOf, opConvert, opField, cellsP, oneP, Value.oneCell', opStore, toIV, scalT, scalA, scalC, boxesA, boxesC, zipB_none, zipB_mx, isZ, opZip, zeroP, opAppendZ, opMakeMap, opLookup, mboxB, opUpdate, ↓reduceIte, Nat.reduceSub, Nat.reduceEqDiff, Nat.reduceAdd, Nat.reduceMul, Nat.reduceLT, Nat.reduceLeDiff, Int.reduceToNat, Int.reduceLE, Int.reduceLT, Int.reduceNeg, reduceCtorEq, gos, Int.reduceAdd, Int.reduceSub, Int.reduceMul, Int.reduceEq, c0'])
    refine X_loopH [0, 1, 5] [] (0) (a.length) (fun j => a.take j = b.take j) (fun j => [(5, i64 j)]) (fun j => Heap.none) ?_ ?_ ?_ ?_ ?_ (by decide) ?_
    · exact (fgt_nil)
    · ((simp -dsimp (disch := omega) only [simx, zzB, tys, ite_self, opnL, callB, callX, readsB, stepOp, nilCmp, ofVal, opBuiltin, opLen, PV.sk, scalBin, scalUn, intBin, opLoad, natOf, opConvert, opField, cellsP, oneP, Value.oneCell', opStore, toIV, scalT, scalA, scalC, boxesA, boxesC, zipB_none, zipB_mx, isZ, opZip, zeroP, opAppendZ, opMakeMap, opLookup, mboxB, opUpdate, ↓reduceIte, Nat.reduceSub, Nat.reduceEqDiff, Nat.reduceAdd, Nat.reduceMul, Nat.reduceLT, Nat.reduceLeDiff, Int.reduceToNat, Int.reduceLE, Int.reduceLT, Int.reduceNeg, reduceCtorEq, gos, Int.reduceAdd, Int.reduceSub, Int.reduceMul, Int.reduceEq]) <;> first | rfl | simp)
    · exact drop_nil _
    · omega
    · rfl
    · intro j hj hf
      by_cases c : j < a.length
      · have c' : j < b.length := by omega
        have g1 : a[j]? = some a[j] := List.getElem?_eq_getElem c
        have g2 : b[j]? = some b[j] := List.getElem?_eq_getElem c'
        by_cases e : a[j] = b[j]
        · have nx := take_nextP c c' hf e
          repeat (first | refine X_opc rfl ?_ | refine X_dopc rfl ?_ | refine ⟨(by show drawK _ _ = true; kernel_rfl : drawX _ _ _), ?_⟩ | exact (by show drawK _ _ = true; kernel_rfl : drawX _ _ _) | simp -dsimp (maxSteps := 20000000) (disch := omega) only [simx, zzC, zzB, tys, ite_self, opnL, callB, callX, readsB, stepOp, nilCmp, ofVal, opBuiltin, opLen, PV.sk, scalBin, scalUn, intBin, opLoad, natOf, opConvert, opField, cellsP, oneP, Value.oneCell', opStore, toIV, scalT, scalA, scalC, boxesA, boxesC, zipB_none, zipB_mx, isZ, opZip, zeroP, opAppendZ, opMakeMap, opLookup, mboxB, opUpdate, ↓reduceIte, Nat.reduceSub, Nat.reduceEqDiff, Nat.reduceAdd, Nat.reduceMul, Nat.reduceLT, Nat.reduceLeDiff, Int.reduceToNat, Int.reduceLE, Int.reduceLT, Int.reduceNeg, reduceCtorEq, gos, Int.reduceAdd, Int.reduceSub, Int.reduceMul, Int.reduceEq, c, c', g1, g2, e])
          exact ⟨c, (fgt_nil), nx, rfl, drop_nil _⟩
        · have ne : ¬ a = b := fun h => e (by subst h; rfl)
          rw [decide_eq_false ne]
          repeat (first | refine X_opc rfl ?_ | refine X_dopc rfl ?_ | refine ⟨(by show drawK _ _ = true; kernel_rfl : drawX _ _ _), ?_⟩ | exact (by show drawK _ _ = true; kernel_rfl : drawX _ _ _) | simp -dsimp (maxSteps := 20000000) (disch := omega) only [simx, zzC, zzB, tys, ite_self, opnL, callB, callX, readsB, stepOp, nilCmp, ofVal, opBuiltin, opLen, PV.sk, scalBin, scalUn, intBin, opLoad, natOf, opConvert, opField, cellsP, oneP, Value.oneCell', opStore, toIV, scalT, scalA, scalC, boxesA, boxesC, zipB_none, zipB_mx, isZ, opZip, zeroP, opAppendZ, opMakeMap, opLookup, mboxB, opUpdate, ↓reduceIte, Nat.reduceSub, Nat.reduceEqDiff, Nat.reduceAdd, Nat.reduceMul, Nat.reduceLT, Nat.reduceLeDiff, Int.reduceToNat, Int.reduceLE, Int.reduceLT, Int.reduceNeg, reduceCtorEq, zzR, gos, Int.reduceAdd, Int.reduceSub, Int.reduceMul, Int.reduceEq, c, c', g1, g2, e])
      · have hj : j = a.length := by omega
        subst hj
        have e : a = b := by rw [List.take_length, c0, List.take_length] at hf; exact hf
        rw [decide_eq_true e]
        repeat (first | refine X_opc rfl ?_ | refine X_dopc rfl ?_ | refine ⟨(by show drawK _ _ = true; kernel_rfl : drawX _ _ _), ?_⟩ | exact (by show drawK _ _ = true; kernel_rfl : drawX _ _ _) | simp -dsimp (maxSteps := 20000000) (disch := omega) only [simx, zzC, zzB, tys, ite_self, opnL, callB, callX, readsB, stepOp, nilCmp, ofVal, opBuiltin, opLen, PV.sk, scalBin, scalUn, intBin, opLoad, natOf, opConvert, opField, cellsP, oneP, Value.oneCell', opStore, toIV, scalT, scalA, scalC, boxesA, boxesC, zipB_none, zipB_mx, isZ, opZip, zeroP, opAppendZ, opMakeMap, opLookup, mboxB, opUpdate, ↓reduceIte, Nat.reduceSub, Nat.reduceEqDiff, Nat.reduceAdd, Nat.reduceMul, Nat.reduceLT, Nat.reduceLeDiff, Int.reduceToNat, Int.reduceLE, Int.reduceLT, Int.reduceNeg, reduceCtorEq, zzR, gos, Int.reduceAdd, Int.reduceSub, Int.reduceMul, Int.reduceEq])
  · have ne : ¬ a = b := fun h => c0 (by rw [h])
    have c0' : ¬ (a.length : Int) = (b.length : Int) := by omega
    rw [decide_eq_false ne]
    refine X_startP (n := 26) (m := 2) (rs := [.tmp 4]) Try.func50 rfl rfl rfl rfl (by decide) fun base => ?_
    repeat (first | refine X_opc rfl ?_ | refine X_dopc rfl ?_ | refine ⟨(by show drawK _ _ = true; kernel_rfl : drawX _ _ _), ?_⟩ | exact (by show drawK _ _ = true; kernel_rfl : drawX _ _ _) | simp -dsimp (maxSteps := 20000000) (disch := omega) only [simx, zzC, zzB, tys, ite_self, opnL, callB, callX, readsB, stepOp, nilCmp, ofVal, opBuiltin, opLen, PV.sk, scalBin, scalUn, intBin, opLoad, natOf, opConvert, opField, cellsP, oneP, Value.oneCell', opStore, toIV, scalT, scalA, scalC, boxesA, boxesC, zipB_none, zipB_mx, isZ, opZip, zeroP, opAppendZ, opMakeMap, opLookup, mboxB, opUpdate, ↓reduceIte, Nat.reduceSub, Nat.reduceEqDiff, Nat.reduceAdd, Nat.reduceMul, Nat.reduceLT, Nat.reduceLeDiff, Int.reduceToNat, Int.reduceLE, Int.reduceLT, Int.reduceNeg, reduceCtorEq, zzR, gos, Int.reduceAdd, Int.reduceSub, Int.reduceMul, Int.reduceEq, c0'])
end Go.Proofs.Ythnfphgjfpcpbaa.TM
namespace Go.Proofs.Ythnfphgjfpcpbaa.TM
open Go Go.RowKit
attribute [local irreducible] K W WOps Effs Xg Xo Xr Xdg Xdo Xdr Xif CallsP CallR
set_option maxHeartbeats 4000000 in
set_option maxRecDepth 100000 in
theorem awake07_walk : CallsP Try.prog 42 [] (bl true) := by
  have M : Mt ((7 : Nat) : Int) 2 2 [0, 2, 3, 4] := ⟨⟨by decide, by decide⟩, by decide, by decide, by decide, by decide, by decide, by decide⟩
  have hi : ∀ a ∈ [0, 2, 3, 4], In ((7 : Nat) : Int) a := by show ∀ x ∈ _, 0 ≤ x ∧ x < _; decide
  have d1 := take_yes prm7 M hi
  have d2 := det_yes prm7 M hi
  have d3 := make_yes (p := ((7 : Nat) : Int)) (R := 2) (C := 2) (K := 2) (rw0 := [0, 1]) (cw := [1, 0]) (cc := [[1, 0], [2, 1]]) (uu := [[0, 2], [3, 0]]) ⟨by decide, by decide⟩ (by decide) (by decide) (by decide) (by decide) rfl rfl (by decide)
    (by show ∀ x ∈ ([[1, 0], [2, 1]] : List (List Int)), x.length = 2 ∧ ∀ a ∈ x, 0 ≤ a ∧ a < ((7 : Nat) : Int); decide) (by show ∀ x ∈ ([[0, 2], [3, 0]] : List (List Int)), x.length = 2 ∧ ∀ a ∈ x, 0 ≤ a ∧ a < ((7 : Nat) : Int); decide)
  have d4 := rank_walk prm7 2 2 [0, 2, 3, 4] (by decide) (w64_of_in M.hp hi)
  have d5 := profile_walk prm7 2 2 [0, 2, 3, 4] (by decide) (w64_of_in M.hp hi)
  have d6 := minor_yes prm7 M hi (by decide +kernel) (by decide +kernel)
  have t : tkCup ((7 : Nat) : Int) 2 2 [0, 2, 3, 4] = ([0, 1], [1, 0], [[1, 0], [2, 1]], [[0, 2], [3, 0]]) := by decide +kernel
  rw [t] at d1 d6
  rw [show Lp 2 (cl 2 [0, 2, 3, 4]) % ((7 : Nat) : Int) = 1 by decide +kernel] at d2
  rw [show makeM ((7 : Nat) : Int) [[1, 0], [2, 1]] [[0, 2], [3, 0]] 2 2 2 = [0, 2, 3, 4] by decide +kernel] at d3
  unfold rankR at d4
  rw [show takeR ((7 : Nat) : Int) 2 2 [0, 2, 3, 4] = (([0, 1], [1, 0], [[1, 0], [2, 1]], [[0, 2], [3, 0]]), 0) by decide +kernel] at d4 d5
  rw [show pickM 2 [0, 2, 3, 4] [0, 1] (colS ([0, 1], [1, 0], [[1, 0], [2, 1]], [[0, 2], [3, 0]])) = [0, 2, 3, 4] by decide +kernel] at d6
  have d7 := msame_walk 2 2 [0, 2, 3, 4] 2 2 [0, 2, 3, 4] (by decide)
  rw [show sameMB 2 2 [0, 2, 3, 4] 2 2 [0, 2, 3, 4] = true by decide] at d7
  have d8 := same6_walk [0, 1] [0, 1] (by decide)
  rw [decide_eq_true rfl] at d8
  refine X_startP (n := 104) (m := 0) (rs := [.tmp 0]) Try.func42 rfl rfl rfl rfl (by decide) fun base => ?_
  repeat (first | ((first | refine X_call_fn2 rfl (by simp only [tys]) ?_ | refine X_dcall_fn2 rfl (by simp only [tys]) ?_); apply Exists.intro; apply And.intro; (focus (simp -dsimp only [simx, zzC, zzB, tys, ite_self, opnL, callB, callX, readsB, stepOp, nilCmp, ofVal, opBuiltin, opLen, PV.sk, scalBin, scalUn, intBin, opLoad, natOf, opConvert, opField, cellsP, oneP, Value.oneCell', opStore, toIV, scalT, scalA, scalC, boxesA, boxesC, zipB_none, zipB_mx, isZ, opZip, zeroP, opAppendZ, opMakeMap, opLookup, mboxB, opUpdate, ↓reduceIte, Nat.reduceSub, Nat.reduceEqDiff, Nat.reduceAdd, Nat.reduceMul, Nat.reduceLT, Nat.reduceLeDiff, Int.reduceToNat, Int.reduceLE, Int.reduceLT, Int.reduceNeg, reduceCtorEq, zzL, if_true, if_false] <;> rfl)); apply Exists.intro; apply And.intro; (focus (first | exact d1 | exact d2 | exact d3 | exact d4 | exact d5 | exact d6 | exact d7 | exact d8))) | refine X_opc rfl ?_ | refine X_dopc rfl ?_ | refine ⟨(by show drawK _ _ = true; kernel_rfl : drawX _ _ _), ?_⟩ | exact (by show drawK _ _ = true; kernel_rfl : drawX _ _ _) | simp -dsimp (maxSteps := 20000000) (disch := omega) only [simx, zzC, zzB, tys, ite_self, opnL, callB, callX, readsB, stepOp, nilCmp, ofVal, opBuiltin, opLen, PV.sk, scalBin, scalUn, intBin, opLoad, natOf, opConvert, opField, cellsP, oneP, Value.oneCell', opStore, toIV, scalT, scalA, scalC, boxesA, boxesC, zipB_none, zipB_mx, isZ, opZip, zeroP, opAppendZ, opMakeMap, opLookup, mboxB, opUpdate, ↓reduceIte, Nat.reduceSub, Nat.reduceEqDiff, Nat.reduceAdd, Nat.reduceMul, Nat.reduceLT, Nat.reduceLeDiff, Int.reduceToNat, Int.reduceLE, Int.reduceLT, Int.reduceNeg, reduceCtorEq, zzR, gos, Int.reduceAdd, Int.reduceSub, Int.reduceMul, Int.reduceEq, SK.len])
theorem prime7_walk (p : Nat) (hp : p < 18446744073709551616) : ∃ b, CallsP Try.prog 43 [u64 p] (bl b) ∧ (b = true → Prm p) := by
  by_cases c1 : (p : Int) = 2147483647
  · refine ⟨true, ?_, fun _ => by obtain rfl : p = 2147483647 := by omega
                                  exact prm31⟩
    refine X_startP (n := 17) (m := 1) (rs := [.tmp 2]) Try.func43 rfl rfl rfl rfl (by decide) fun base => ?_
    repeat (first | refine X_opc rfl ?_ | refine X_dopc rfl ?_ | refine ⟨(by show drawK _ _ = true; kernel_rfl : drawX _ _ _), ?_⟩ | exact (by show drawK _ _ = true; kernel_rfl : drawX _ _ _) | simp -dsimp (maxSteps := 20000000) (disch := omega) only [simx, zzC, zzB, tys, ite_self, opnL, callB, callX, readsB, stepOp, nilCmp, ofVal, opBuiltin, opLen, PV.sk, scalBin, scalUn, intBin, opLoad, natOf, opConvert, opField, cellsP, oneP, Value.oneCell', opStore, toIV, scalT, scalA, scalC, boxesA, boxesC, zipB_none, zipB_mx, isZ, opZip, zeroP, opAppendZ, opMakeMap, opLookup, mboxB, opUpdate, ↓reduceIte, Nat.reduceSub, Nat.reduceEqDiff, Nat.reduceAdd, Nat.reduceMul, Nat.reduceLT, Nat.reduceLeDiff, Int.reduceToNat, Int.reduceLE, Int.reduceLT, Int.reduceNeg, reduceCtorEq, zzR, gos, Int.reduceAdd, Int.reduceSub, Int.reduceMul, Int.reduceEq])
  by_cases c2 : (p : Int) = 2305843009213693951
  · refine ⟨true, ?_, fun _ => by obtain rfl : p = 2305843009213693951 := by omega
                                  exact prm61⟩
    refine X_startP (n := 17) (m := 1) (rs := [.tmp 2]) Try.func43 rfl rfl rfl rfl (by decide) fun base => ?_
    repeat (first | refine X_opc rfl ?_ | refine X_dopc rfl ?_ | refine ⟨(by show drawK _ _ = true; kernel_rfl : drawX _ _ _), ?_⟩ | exact (by show drawK _ _ = true; kernel_rfl : drawX _ _ _) | simp -dsimp (maxSteps := 20000000) (disch := omega) only [simx, zzC, zzB, tys, ite_self, opnL, callB, callX, readsB, stepOp, nilCmp, ofVal, opBuiltin, opLen, PV.sk, scalBin, scalUn, intBin, opLoad, natOf, opConvert, opField, cellsP, oneP, Value.oneCell', opStore, toIV, scalT, scalA, scalC, boxesA, boxesC, zipB_none, zipB_mx, isZ, opZip, zeroP, opAppendZ, opMakeMap, opLookup, mboxB, opUpdate, ↓reduceIte, Nat.reduceSub, Nat.reduceEqDiff, Nat.reduceAdd, Nat.reduceMul, Nat.reduceLT, Nat.reduceLeDiff, Int.reduceToNat, Int.reduceLE, Int.reduceLT, Int.reduceNeg, reduceCtorEq, zzR, gos, Int.reduceAdd, Int.reduceSub, Int.reduceMul, Int.reduceEq])
  by_cases c3 : (p : Int) < 1048576
  · obtain ⟨b, d, h⟩ := is_walk p (by omega)
    refine ⟨b, ?_, h⟩
    refine X_startP (n := 17) (m := 1) (rs := [.tmp 2]) Try.func43 rfl rfl rfl rfl (by decide) fun base => ?_
    repeat (first | ((first | refine X_call_fn2 rfl (by simp only [tys]) ?_ | refine X_dcall_fn2 rfl (by simp only [tys]) ?_); apply Exists.intro; apply And.intro; (focus (simp -dsimp only [simx, zzC, zzB, tys, ite_self, opnL, callB, callX, readsB, stepOp, nilCmp, ofVal, opBuiltin, opLen, PV.sk, scalBin, scalUn, intBin, opLoad, natOf, opConvert, opField, cellsP, oneP, Value.oneCell', opStore, toIV, scalT, scalA, scalC, boxesA, boxesC, zipB_none, zipB_mx, isZ, opZip, zeroP, opAppendZ, opMakeMap, opLookup, mboxB, opUpdate, ↓reduceIte, Nat.reduceSub, Nat.reduceEqDiff, Nat.reduceAdd, Nat.reduceMul, Nat.reduceLT, Nat.reduceLeDiff, Int.reduceToNat, Int.reduceLE, Int.reduceLT, Int.reduceNeg, reduceCtorEq, zzL, if_true, if_false] <;> rfl)); apply Exists.intro; apply And.intro; (focus (first | exact d))) | refine X_opc rfl ?_ | refine X_dopc rfl ?_ | refine ⟨(by show drawK _ _ = true; kernel_rfl : drawX _ _ _), ?_⟩ | exact (by show drawK _ _ = true; kernel_rfl : drawX _ _ _) | simp -dsimp (maxSteps := 20000000) (disch := omega) only [simx, zzC, zzB, tys, ite_self, opnL, callB, callX, readsB, stepOp, nilCmp, ofVal, opBuiltin, opLen, PV.sk, scalBin, scalUn, intBin, opLoad, natOf, opConvert, opField, cellsP, oneP, Value.oneCell', opStore, toIV, scalT, scalA, scalC, boxesA, boxesC, zipB_none, zipB_mx, isZ, opZip, zeroP, opAppendZ, opMakeMap, opLookup, mboxB, opUpdate, ↓reduceIte, Nat.reduceSub, Nat.reduceEqDiff, Nat.reduceAdd, Nat.reduceMul, Nat.reduceLT, Nat.reduceLeDiff, Int.reduceToNat, Int.reduceLE, Int.reduceLT, Int.reduceNeg, reduceCtorEq, zzR, gos, Int.reduceAdd, Int.reduceSub, Int.reduceMul, Int.reduceEq])
  · refine ⟨false, ?_, fun h => by cases h⟩
    refine X_startP (n := 17) (m := 1) (rs := [.tmp 2]) Try.func43 rfl rfl rfl rfl (by decide) fun base => ?_
    repeat (first | refine X_opc rfl ?_ | refine X_dopc rfl ?_ | refine ⟨(by show drawK _ _ = true; kernel_rfl : drawX _ _ _), ?_⟩ | exact (by show drawK _ _ = true; kernel_rfl : drawX _ _ _) | simp -dsimp (maxSteps := 20000000) (disch := omega) only [simx, zzC, zzB, tys, ite_self, opnL, callB, callX, readsB, stepOp, nilCmp, ofVal, opBuiltin, opLen, PV.sk, scalBin, scalUn, intBin, opLoad, natOf, opConvert, opField, cellsP, oneP, Value.oneCell', opStore, toIV, scalT, scalA, scalC, boxesA, boxesC, zipB_none, zipB_mx, isZ, opZip, zeroP, opAppendZ, opMakeMap, opLookup, mboxB, opUpdate, ↓reduceIte, Nat.reduceSub, Nat.reduceEqDiff, Nat.reduceAdd, Nat.reduceMul, Nat.reduceLT, Nat.reduceLeDiff, Int.reduceToNat, Int.reduceLE, Int.reduceLT, Int.reduceNeg, reduceCtorEq, zzR, gos, Int.reduceAdd, Int.reduceSub, Int.reduceMul, Int.reduceEq])
end Go.Proofs.Ythnfphgjfpcpbaa.TM
namespace Go.Proofs.Ythnfphgjfpcpbaa.TM
open Go Go.RowKit
theorem apX_cong {p : Int} {C : Nat} {A B : Mx} {x : Nat → Int} {i : Nat} (h : ∀ j, j < C → A i j % p = B i j % p) : apX C A x i % p = apX C B x i % p := sumN_mod fun j hj => em_mul (h j hj) rfl
theorem apX_id {C : Nat} {x : Nat → Int} {i : Nat} (hi : i < C) : apX C idX x i = x i := by
  unfold apX
  rw [← sumN_one x hi]
  refine sumN_congr fun j _ => ?_
  unfold idX
  by_cases e : j = i
  · rw [if_pos e, if_pos e, Int.one_mul]
  · rw [if_neg e, if_neg e, Int.zero_mul]
def InvX (P R : Nat) (A U : Mx) : Prop := ∀ i j, i < R → j < R → mulX R A U i j % P = idX i j % P
def InjX (P R : Nat) (A : Mx) : Prop := ∀ x : Nat → Int, (∀ i, i < R → apX R A x i % P = 0) → ∀ j, j < R → x j % P = 0
section
variable {P R : Nat} {A B U V : Mx}
theorem InvX.ap (h : InvX P R A U) (x : Nat → Int) {i : Nat} (hi : i < R) : apX R A (apX R U x) i % P = x i % P := by
  rw [← apX_mul, apX_cong (B := idX) (fun j hj => h i j hi hj), apX_id hi]
theorem InvX.left (h : InvX P R A U) (hI : InjX P R A) : InvX P R U A := fun k j hk hj => by
  refine emod_sub0.2 (hI (fun k => mulX R U A k j - idX k j) (fun i hi => ?_) k hk)
  rw [apX_sub]
  refine emod_sub0.1 ?_
  have h1 : apX R A (fun j_1 => mulX R U A j_1 j) i % P = A i j % P := h.ap (fun m => A m j) hi
  rw [h1]
  have h2 : apX R A (fun m => idX m j) i = A i j := by
    unfold apX
    rw [← sumN_one (fun m => A i m) hj]
    refine sumN_congr fun m _ => ?_
    show A i m * (if j = m then 1 else 0) = if m = j then A i m else 0
    by_cases e : m = j
    · rw [if_pos e.symm, if_pos e, Int.mul_one]
    · rw [if_neg (fun h => e h.symm), if_neg e, Int.mul_zero]
  rw [h2]
theorem InvX.mul (h : InvX P R A U) (k : InvX P R B V) : InvX P R (mulX R A B) (mulX R V U) := fun i j hi hj => by
  have e : mulX R (mulX R A B) (mulX R V U) i j = apX R A (apX R B (apX R V (fun k => U k j))) i := by
    show apX R (mulX R A B) (apX R V (fun k => U k j)) i = _
    rw [apX_mul]
  rw [e]
  exact (apX_mod (fun m hm => k.ap (fun k => U k j) hm) i).trans (h i j hi hj)
theorem InvX.cong {A' U' : Mx} (h : InvX P R A U) (ha : ∀ i j, i < R → j < R → A' i j % P = A i j % P) (hu : ∀ i j, i < R → j < R → U' i j % P = U i j % P) : InvX P R A' U' := fun i j hi hj => by
  rw [← h i j hi hj]
  exact sumN_mod fun k hk => em_mul (ha i k hi hk) (hu k j hk hj)
theorem InvX.lp (hP : Prm P) (hp : Md P) (h : InvX P R A U) : Lp R A * Lp R U % P = 1 := by
  rw [← Lp_mulX hP hp, Lp_mod R h, Lp_id]
  exact Int.emod_eq_of_lt (by decide) (by have := hp.1; omega)
end
section
variable {P R : Nat} {l : List Int}
end
end Go.Proofs.Ythnfphgjfpcpbaa.TM
namespace Go.Proofs.Ythnfphgjfpcpbaa.TM
open Go Go.RowKit
attribute [local irreducible] K W WOps Effs Xg Xo Xr Xdg Xdo Xdr Xif CallsP CallR
theorem small7_walk (P : Nat) (hp : P < 18446744073709551616) (r c : Int) (l : List Int) (n : Int) (hl : l.length ≤ maxLen) : ∃ b, CallsP Try.prog 45 [u64 P, matP r c l, i64 n] (bl b) ∧ (b = true → (l.length : Int) ≤ n ∧ Prm P ∧ MatB P r c l = true) := by
  obtain ⟨pb, d1, hpr⟩ := prime7_walk P hp
  have d2 := mright_walk P r c l hl
  by_cases c0 : (l.length : Int) ≤ n
  case neg =>
    refine ⟨false, ?_, fun h => by cases h⟩
    refine X_startP (n := 21) (m := 3) (rs := [.tmp 6]) Try.func45 rfl rfl rfl rfl (by decide) fun base => ?_
    repeat (first | refine X_opc rfl ?_ | refine X_dopc rfl ?_ | refine ⟨(by show drawK _ _ = true; kernel_rfl : drawX _ _ _), ?_⟩ | exact (by show drawK _ _ = true; kernel_rfl : drawX _ _ _) | simp -dsimp (maxSteps := 20000000) (disch := omega) only [simx, zzC, zzB, tys, ite_self, opnL, callB, callX, readsB, stepOp, nilCmp, ofVal, opBuiltin, opLen, PV.sk, scalBin, scalUn, intBin, opLoad, natOf, opConvert, opField, cellsP, oneP, Value.oneCell', opStore, toIV, scalT, scalA, scalC, boxesA, boxesC, zipB_none, zipB_mx, isZ, opZip, zeroP, opAppendZ, opMakeMap, opLookup, mboxB, opUpdate, ↓reduceIte, Nat.reduceSub, Nat.reduceEqDiff, Nat.reduceAdd, Nat.reduceMul, Nat.reduceLT, Nat.reduceLeDiff, Int.reduceToNat, Int.reduceLE, Int.reduceLT, Int.reduceNeg, reduceCtorEq, zzR, gos, Int.reduceAdd, Int.reduceSub, Int.reduceMul, Int.reduceEq, c0])
  cases pb with
  | false =>
    refine ⟨false, ?_, fun h => by cases h⟩
    refine X_startP (n := 21) (m := 3) (rs := [.tmp 6]) Try.func45 rfl rfl rfl rfl (by decide) fun base => ?_
    repeat (first | ((first | refine X_call_fn2 rfl (by simp only [tys]) ?_ | refine X_dcall_fn2 rfl (by simp only [tys]) ?_); apply Exists.intro; apply And.intro; (focus (simp -dsimp only [simx, zzC, zzB, tys, ite_self, opnL, callB, callX, readsB, stepOp, nilCmp, ofVal, opBuiltin, opLen, PV.sk, scalBin, scalUn, intBin, opLoad, natOf, opConvert, opField, cellsP, oneP, Value.oneCell', opStore, toIV, scalT, scalA, scalC, boxesA, boxesC, zipB_none, zipB_mx, isZ, opZip, zeroP, opAppendZ, opMakeMap, opLookup, mboxB, opUpdate, ↓reduceIte, Nat.reduceSub, Nat.reduceEqDiff, Nat.reduceAdd, Nat.reduceMul, Nat.reduceLT, Nat.reduceLeDiff, Int.reduceToNat, Int.reduceLE, Int.reduceLT, Int.reduceNeg, reduceCtorEq, zzL, if_true, if_false] <;> rfl)); apply Exists.intro; apply And.intro; (focus (first | exact d1))) | refine X_opc rfl ?_ | refine X_dopc rfl ?_ | refine ⟨(by show drawK _ _ = true; kernel_rfl : drawX _ _ _), ?_⟩ | exact (by show drawK _ _ = true; kernel_rfl : drawX _ _ _) | simp -dsimp (maxSteps := 20000000) (disch := omega) only [simx, zzC, zzB, tys, ite_self, opnL, callB, callX, readsB, stepOp, nilCmp, ofVal, opBuiltin, opLen, PV.sk, scalBin, scalUn, intBin, opLoad, natOf, opConvert, opField, cellsP, oneP, Value.oneCell', opStore, toIV, scalT, scalA, scalC, boxesA, boxesC, zipB_none, zipB_mx, isZ, opZip, zeroP, opAppendZ, opMakeMap, opLookup, mboxB, opUpdate, ↓reduceIte, Nat.reduceSub, Nat.reduceEqDiff, Nat.reduceAdd, Nat.reduceMul, Nat.reduceLT, Nat.reduceLeDiff, Int.reduceToNat, Int.reduceLE, Int.reduceLT, Int.reduceNeg, reduceCtorEq, zzR, gos, Int.reduceAdd, Int.reduceSub, Int.reduceMul, Int.reduceEq, c0])
  | true =>
    refine ⟨MatB P r c l, ?_, fun h => ⟨c0, hpr rfl, h⟩⟩
    generalize MatB P r c l = b at d2
    refine X_startP (n := 21) (m := 3) (rs := [.tmp 6]) Try.func45 rfl rfl rfl rfl (by decide) fun base => ?_
    repeat (first | ((first | refine X_call_fn2 rfl (by simp only [tys]) ?_ | refine X_dcall_fn2 rfl (by simp only [tys]) ?_); apply Exists.intro; apply And.intro; (focus (simp -dsimp only [simx, zzC, zzB, tys, ite_self, opnL, callB, callX, readsB, stepOp, nilCmp, ofVal, opBuiltin, opLen, PV.sk, scalBin, scalUn, intBin, opLoad, natOf, opConvert, opField, cellsP, oneP, Value.oneCell', opStore, toIV, scalT, scalA, scalC, boxesA, boxesC, zipB_none, zipB_mx, isZ, opZip, zeroP, opAppendZ, opMakeMap, opLookup, mboxB, opUpdate, ↓reduceIte, Nat.reduceSub, Nat.reduceEqDiff, Nat.reduceAdd, Nat.reduceMul, Nat.reduceLT, Nat.reduceLeDiff, Int.reduceToNat, Int.reduceLE, Int.reduceLT, Int.reduceNeg, reduceCtorEq, zzL, if_true, if_false] <;> rfl)); apply Exists.intro; apply And.intro; (focus (first | exact d1 | exact d2))) | refine X_opc rfl ?_ | refine X_dopc rfl ?_ | refine ⟨(by show drawK _ _ = true; kernel_rfl : drawX _ _ _), ?_⟩ | exact (by show drawK _ _ = true; kernel_rfl : drawX _ _ _) | simp -dsimp (maxSteps := 20000000) (disch := omega) only [simx, zzC, zzB, tys, ite_self, opnL, callB, callX, readsB, stepOp, nilCmp, ofVal, opBuiltin, opLen, PV.sk, scalBin, scalUn, intBin, opLoad, natOf, opConvert, opField, cellsP, oneP, Value.oneCell', opStore, toIV, scalT, scalA, scalC, boxesA, boxesC, zipB_none, zipB_mx, isZ, opZip, zeroP, opAppendZ, opMakeMap, opLookup, mboxB, opUpdate, ↓reduceIte, Nat.reduceSub, Nat.reduceEqDiff, Nat.reduceAdd, Nat.reduceMul, Nat.reduceLT, Nat.reduceLeDiff, Int.reduceToNat, Int.reduceLE, Int.reduceLT, Int.reduceNeg, reduceCtorEq, zzR, gos, Int.reduceAdd, Int.reduceSub, Int.reduceMul, Int.reduceEq, c0])
theorem Cp.rk {P R C : Nat} {A : Mx} {c : CupT} (H : CpC P R C A c) : Rk P R C c.1.length A := ⟨_, _, _, _, H⟩
theorem rank_of {P R C : Nat} {l : List Int} (hP : Prm P) (M : Mt P R C l) (hin : ∀ a ∈ l, In P a) : CallsP Try.prog 34 [u64 P, matP R C l] (.tup [i64 (tkCup P C R l).1.length, i64 0]) := by
  have h := rank_walk hP R C l (len_ok M) (w64_of_in M.hp hin)
  unfold rankR at h
  rw [takeR_mk M] at h; exact h
end Go.Proofs.Ythnfphgjfpcpbaa.TM
namespace Go.Proofs.Ythnfphgjfpcpbaa.TM
open Go Go.RowKit
theorem mulX_of {P : Nat} {R S C : Nat} {a b : List Int} (ha : a.length = R * S) (hb : b.length = S * C) : ∀ i j, i < R → j < C → cl C (mulM P R S a C b) i j % P = mulX S (cl S a) (cl C b) i j % P := fun i j hi hj => by
  rw [mulM_cl ha hb hi hj, em_refl]; rfl
theorem rank_prod {P R S C : Nat} {a b : List Int} (hP : Prm P) (M : Mt P R S a) (N : Mt P S C b) (ha : ∀ x ∈ a, In P x) (hb : ∀ x ∈ b, In P x) :
    (tkCup P C R (mulM P R S a C b)).1.length ≤ (tkCup P S R a).1.length ∧ (tkCup P C R (mulM P R S a C b)).1.length ≤ (tkCup P C S b).1.length ∧ (tkCup P S R a).1.length + (tkCup P C S b).1.length ≤ (tkCup P C R (mulM P R S a C b)).1.length + S := by
  have hp := M.hp
  have H := Cp.rk (tkCup_Cp hP M ha)
  have K := Cp.rk (tkCup_Cp hP N hb)
  have L := Cp.rk (Cp.cong (tkCup_Cp hP (mul_mt M N) (mulM_in (by have := hp.1; omega))) fun i j hi hj => mulX_of (P := P) M.len N.len i j hi hj)
  exact ⟨Rk.mul_left hP H L, Rk.mul_right hP K L, Rk.mul_sum hP hp H K L⟩
theorem det_prod {P R : Nat} {a b : List Int} (hP : Prm P) (hp : Md P) (ha : a.length = R * R) (hb : b.length = R * R) :
    Lp R (cl R (mulM P R R a R b)) % P = (Lp R (cl R a) % P) * (Lp R (cl R b) % P) % P := by
  rw [Lp_mod R (mulX_of ha hb), Lp_mulX hP hp]
  exact Int.mul_emod ..
def scF (P : Int) (a : List Int) (s : Nat) (x : Int) (k q : Nat) : Int := if s ≤ q ∧ q < s + k then a.getD q 0 * x % P else a.getD q 0
def lkF (f : Nat → Int) (a : List Int) (s t k q : Nat) : Int := if s ≤ q ∧ q < s + k then a.getD (t + (q - s)) 0 else f q
theorem scF_zero (P : Int) (a : List Int) (s : Nat) (x : Int) : scF P a s x 0 = fun q => a.getD q 0 := by
  funext q; unfold scF; rw [if_neg (by omega)]
theorem lkF_zero (f : Nat → Int) (a : List Int) (s t : Nat) : lkF f a s t 0 = f := by
  funext q; unfold lkF; rw [if_neg (by omega)]
theorem tbl_self {l : List Int} {n : Nat} (h : l.length = n) : tbl n (fun q => l.getD q 0) = l := by
  refine list_ext0 (tbl_len ..) h fun q hq => ?_
  rw [tbl_getD _ hq]
theorem scF_in {P : Int} (hp : Md P) {a : List Int} (ha : ∀ x ∈ a, In P x) {n : Nat} (hn : a.length = n) (s : Nat) (x : Int) (k : Nat) : ∀ v ∈ tbl n (scF P a s x k), In P v := fun v hv => by
  unfold tbl at hv
  obtain ⟨q, hq, rfl⟩ := List.mem_map.1 hv
  have := List.mem_range.1 hq
  unfold scF
  split
  · exact in_emod hp _
  · exact getD_of ha (by omega)
theorem lkF_in {P : Int} {f : Nat → Int} {a : List Int} (ha : ∀ x ∈ a, In P x) {n s t C : Nat} (hf : ∀ q, q < n → In P (f q)) (ht : t + C ≤ a.length) {k : Nat} (hk : k ≤ C) : ∀ v ∈ tbl n (lkF f a s t k), In P v := fun v hv => by
  unfold tbl at hv
  obtain ⟨q, hq, rfl⟩ := List.mem_map.1 hv
  have := List.mem_range.1 hq
  unfold lkF
  split
  · exact getD_of ha (by omega)
  · exact hf q this
theorem row_eq {R i j : Nat} {i' : Nat} (hj : j < R) : (i * R ≤ i' * R + j ∧ i' * R + j < i * R + R) ↔ i' = i := by
  constructor
  · rintro ⟨h1, h2⟩
    rcases Nat.lt_trichotomy i' i with h | h | h
    · have := Nat.mul_le_mul_right R (show i' + 1 ≤ i by omega); rw [Nat.succ_mul] at this; omega
    · exact h
    · have := Nat.mul_le_mul_right R (show i + 1 ≤ i' by omega); rw [Nat.succ_mul] at this; omega
  · rintro rfl; omega
theorem det_scale {P R : Nat} {a : List Int} {i : Nat} {x : Int} (hi : i < R) : Lp R (cl R (tbl (R * R) (scF P a (i * R) x R))) % P = (Lp R (cl R a) % P) * x % P := by
  have e : ∀ i' j, i' < R → j < R → cl R (tbl (R * R) (scF P a (i * R) x R)) i' j % P = updr (cl R a) i (fun j => x * cl R a i j) i' j % P := fun i' j hi' hj => by
    rw [cl_tbl _ hi' hj]
    unfold scF updr
    by_cases h : i' = i
    · rw [if_pos ((row_eq hj).2 h), if_pos h, em_refl]
      subst h
      unfold cl; rw [Int.mul_comm]
    · rw [if_neg (fun c => h ((row_eq hj).1 c)), if_neg h]; rfl
  rw [Lp_mod R e, Alt.scale (Lp_alt P R) _ _ _ hi, updr_id, Int.mul_comm]
  exact em_mul em_refl.symm rfl
theorem det_alike {P R : Nat} {a : List Int} {f : Nat → Int} {i k : Nat} (hi : i < R) (hk : k < R) (hne : i ≠ k) (hf : ∀ j, j < R → f (k * R + j) = a.getD (k * R + j) 0) : Lp R (cl R (tbl (R * R) (lkF f a (i * R) (k * R) R))) = 0 := by
  have e : ∀ i' j, i' < R → j < R → cl R (tbl (R * R) (lkF f a (i * R) (k * R) R)) i' j = updr (fun u v => f (u * R + v)) i (fun j => f (k * R + j)) i' j := fun i' j hi' hj => by
    rw [cl_tbl _ hi' hj]
    unfold lkF updr
    by_cases h : i' = i
    · rw [if_pos ((row_eq hj).2 h), if_pos h]
      subst h
      rw [show i' * R + j - i' * R = j by omega]
      exact (hf j hj).symm
    · rw [if_neg (fun c => h ((row_eq hj).1 c)), if_neg h]
  rw [Lp_congr R e]
  refine Alt.alt (Lp_alt 0 R) hi hk hne _ ?_
  rw [updr_same, updr_ne (Ne.symm hne)]
theorem scF_next {P : Int} {a : List Int} {s : Nat} {x : Int} {k : Nat} {v : Int} (hv : v = a.getD (s + k) 0 * x % P) : (fun q => if q = s + k then v else scF P a s x k q) = scF P a s x (k + 1) := by
  funext q
  unfold scF
  by_cases h : q = s + k
  · rw [if_pos h, if_pos (by omega), h, hv]
  · rw [if_neg h]
    by_cases c : s ≤ q ∧ q < s + k
    · rw [if_pos c, if_pos (by omega)]
    · rw [if_neg c, if_neg (by omega)]
theorem scF_at {P : Int} {a : List Int} {s : Nat} {x : Int} {k : Nat} : scF P a s x k (s + k) = a.getD (s + k) 0 := by
  unfold scF; rw [if_neg (by omega)]
theorem lkF_next {f : Nat → Int} {a : List Int} {s t k : Nat} {v : Int} (hv : v = a.getD (t + k) 0) : (fun q => if q = s + k then v else lkF f a s t k q) = lkF f a s t (k + 1) := by
  funext q
  unfold lkF
  by_cases h : q = s + k
  · rw [if_pos h, if_pos (by omega), h, hv]; congr 1; omega
  · rw [if_neg h]
    by_cases c : s ≤ q ∧ q < s + k
    · rw [if_pos c, if_pos (by omega)]
    · rw [if_neg c, if_neg (by omega)]
end Go.Proofs.Ythnfphgjfpcpbaa.TM
namespace Go.Proofs.Ythnfphgjfpcpbaa.TM
open Go Go.RowKit
theorem X_dapp_full {P : Program} {C : CallRel} {h0 : Heap} {base : Name} {Qf : Ex → List PV → Heap → Prop} {k : List It} {t : List PV} {h : Heap} {d : Option Tmp} {p : Op} {nm : Name} {id : Nat} {ops : Array Oper} {ds : List (Option Tmp)} {i : Nat} {os : List Oper} {pf : XPf ops ds i os} {acc : List Keys} {s b : Name} {ty : TypeId} (e : TypeId) (zs : List Value) {n m : Nat} {cs : List IV} (xs : List IV)
    (he : elemB P ty = some e) (hz : zeroB P e = some zs) (hzl : zs.length = 1) (hb : h b = some (.row false cs)) (hl : cs.length = n) (hm : 0 < m) (hx : xs.length = m)
    (hby : (n + m) * P.bytesOf e ≤ 140737488355328) (hmx : n + m ≤ maxLen)
    (hk : K P C h0 base Qf (.xdops id ops ds i os pf ((keysU [(b, Box.row false (cs ++ xs))], keysT nm p ((opnL p).map (St.opnd t))) :: acc) :: k) .normal (putT t d (.view b 0 1 (n + m) (n + m))) (h.put b (.row false (cs ++ xs)))) :
    Xdr P C h0 base Qf (opAppend P h s ty (.view b 0 1 n n) (.i (.l m xs))) d p nm (mkD id ops ds i os pf) acc k t h := by
  refine Xdr_eq (out := ⟨.view b 0 1 (n + m) (n + m), [(b, .row false (cs ++ xs))]⟩) ?_ hk
  have h1 : ¬ m = 0 := by omega
  subst hl
  simp only [opAppend, he, hz, hzl, PV.sk, SK.cells, SK.len, hx, hb, Nat.mul_one, if_true, h1, if_false, hby, hmx, Nat.zero_lt_one, and_self, true_and, List.length_append]
end Go.Proofs.Ythnfphgjfpcpbaa.TM
namespace Go.Proofs.Ythnfphgjfpcpbaa.TM
open Go Go.RowKit
attribute [local irreducible] K W WOps Effs Xg Xo Xr Xdg Xdo Xdr Xif CallsP CallR
theorem mul_of_r {P R S C : Nat} {a b : List Int} (A : Mt P R S a) (B : Mt P S C b) (ha : ∀ x ∈ a, In P x) (hb : ∀ x ∈ b, In P x) : CallsP Try.prog 39 [u64 P, matP R S a, matP S C b] (mat2 ((R, C, mulM P R S a C b), 0)) := by
  have h := mmul_walk P R S a S C b (len_ok A) (len_ok B) (w64_of_in A.hp ha) (w64_of_in A.hp hb)
  unfold mulR at h
  rw [mat_mk A, mat_mk B, decide_eq_true rfl] at h
  exact h
set_option maxHeartbeats 16000000 in
theorem cupProducts_true (a0 : Int) (a1 : Int × Int × List Int) (a2 : Int × Int × List Int) (a3 : Int) (a4 : Int) (w0 : (Lit.int .u64 a0).wf = true) (w1 : ((Lit.int .i64 a1.1).wf = true ∧ (Lit.int .i64 a1.2.1).wf = true ∧ (a1.2.2.length ≤ maxLen ∧ ∀ e23_ ∈ a1.2.2, (Lit.int .u64 e23_).wf = true))) (w2 : ((Lit.int .i64 a2.1).wf = true ∧ (Lit.int .i64 a2.2.1).wf = true ∧ (a2.2.2.length ≤ maxLen ∧ ∀ e23_ ∈ a2.2.2, (Lit.int .u64 e23_).wf = true))) (w3 : (Lit.int .u8 a3).wf = true) (w4 : (Lit.int .u64 a4).wf = true) :
    CallsP Try.prog 11 [.i (IV.v (.int .u64 a0)), .agg [.i (IV.v (.int .i64 a1.1)), .i (IV.v (.int .i64 a1.2.1)), .i (IV.l a1.2.2.length (a1.2.2.map fun y => IV.v (.int .u64 y)))], .agg [.i (IV.v (.int .i64 a2.1)), .i (IV.v (.int .i64 a2.2.1)), .i (IV.l a2.2.2.length (a2.2.2.map fun y => IV.v (.int .u64 y)))], .i (IV.v (.int .u8 a3)), .i (IV.v (.int .u64 a4))] (bl true) := by
  obtain ⟨r, c, a⟩ := a1
  obtain ⟨r', c', b⟩ := a2
  obtain ⟨v1, v2, v3, v4⟩ := w1
  obtain ⟨u1, u2, u3, u4⟩ := w2
  simp only at v1 v2 v3 v4 u1 u2 u3 u4 ⊢
  have wp := w64_of w0
  have wx := w64_of w4
  obtain ⟨P, rfl⟩ : ∃ P : Nat, a0 = P := ⟨a0.toNat, by have := wp.1; omega⟩
  have wc : 0 ≤ a3 ∧ a3 ≤ 255 := by have := wf_iff.1 w3; simpa [IntKind.min, IntKind.max, IntKind.bits, IntKind.signed] using this
  obtain ⟨rw, rfl⟩ : ∃ rw : Nat, a3 = rw := ⟨a3.toNat, by omega⟩
  have wl := w64_all v4
  have wk := w64_all u4
  have d0 := awake07_walk
  obtain ⟨sb, d1, hs⟩ := small7_walk P (by have := wp.2; omega) r c a 100 v3
  obtain ⟨tb, d2, ht⟩ := small7_walk P (by have := wp.2; omega) r' c' b 100 u3
  change CallsP Try.prog 11 [u64 P, matP r c a, matP r' c' b, .i (IV.v (.int .u8 rw)), u64 a4] (bl true)
  cases sb with
  | false =>
    refine X_startP (n := 267) (m := 5) (rs := [.tmp 10]) Try.func11 rfl rfl rfl rfl (by decide) fun base => ?_
    repeat (first | ((first | refine X_call_fn2 rfl (by simp only [tys]) ?_ | refine X_dcall_fn2 rfl (by simp only [tys]) ?_); apply Exists.intro; apply And.intro; (focus (simp -dsimp only [simx, zzC, zzB, tys, ite_self, opnL, callB, callX, readsB, stepOp, nilCmp, ofVal, opBuiltin, opLen, PV.sk, scalBin, scalUn, intBin, opLoad, natOf, opConvert, opField, cellsP, oneP, Value.oneCell', opStore, toIV, scalT, scalA, scalC, boxesA, boxesC, zipB_none, zipB_mx, isZ, opZip, zeroP, opAppendZ, opMakeMap, opLookup, mboxB, opUpdate, ↓reduceIte, Nat.reduceSub, Nat.reduceEqDiff, Nat.reduceAdd, Nat.reduceMul, Nat.reduceLT, Nat.reduceLeDiff, Int.reduceToNat, Int.reduceLE, Int.reduceLT, Int.reduceNeg, reduceCtorEq, zzL, if_true, if_false] <;> rfl)); apply Exists.intro; apply And.intro; (focus (first | exact d0 | exact d1))) | refine X_opc rfl ?_ | refine X_dopc rfl ?_ | refine ⟨(by show drawK _ _ = true; kernel_rfl : drawX _ _ _), ?_⟩ | exact (by show drawK _ _ = true; kernel_rfl : drawX _ _ _) | simp -dsimp (maxSteps := 20000000) (disch := omega) only [simx, zzC, zzB, tys, ite_self, opnL, callB, callX, readsB, stepOp, nilCmp, ofVal, opBuiltin, opLen, PV.sk, scalBin, scalUn, intBin, opLoad, natOf, opConvert, opField, cellsP, oneP, Value.oneCell', opStore, toIV, scalT, scalA, scalC, boxesA, boxesC, zipB_none, zipB_mx, isZ, opZip, zeroP, opAppendZ, opMakeMap, opLookup, mboxB, opUpdate, ↓reduceIte, Nat.reduceSub, Nat.reduceEqDiff, Nat.reduceAdd, Nat.reduceMul, Nat.reduceLT, Nat.reduceLeDiff, Int.reduceToNat, Int.reduceLE, Int.reduceLT, Int.reduceNeg, reduceCtorEq, zzR, gos, Int.reduceAdd, Int.reduceSub, Int.reduceMul, Int.reduceEq])
  | true =>
    cases tb with
    | false =>
      refine X_startP (n := 267) (m := 5) (rs := [.tmp 10]) Try.func11 rfl rfl rfl rfl (by decide) fun base => ?_
      repeat (first | ((first | refine X_call_fn2 rfl (by simp only [tys]) ?_ | refine X_dcall_fn2 rfl (by simp only [tys]) ?_); apply Exists.intro; apply And.intro; (focus (simp -dsimp only [simx, zzC, zzB, tys, ite_self, opnL, callB, callX, readsB, stepOp, nilCmp, ofVal, opBuiltin, opLen, PV.sk, scalBin, scalUn, intBin, opLoad, natOf, opConvert, opField, cellsP, oneP, Value.oneCell', opStore, toIV, scalT, scalA, scalC, boxesA, boxesC, zipB_none, zipB_mx, isZ, opZip, zeroP, opAppendZ, opMakeMap, opLookup, mboxB, opUpdate, ↓reduceIte, Nat.reduceSub, Nat.reduceEqDiff, Nat.reduceAdd, Nat.reduceMul, Nat.reduceLT, Nat.reduceLeDiff, Int.reduceToNat, Int.reduceLE, Int.reduceLT, Int.reduceNeg, reduceCtorEq, zzL, if_true, if_false] <;> rfl)); apply Exists.intro; apply And.intro; (focus (first | exact d0 | exact d1 | exact d2))) | refine X_opc rfl ?_ | refine X_dopc rfl ?_ | refine ⟨(by show drawK _ _ = true; kernel_rfl : drawX _ _ _), ?_⟩ | exact (by show drawK _ _ = true; kernel_rfl : drawX _ _ _) | simp -dsimp (maxSteps := 20000000) (disch := omega) only [simx, zzC, zzB, tys, ite_self, opnL, callB, callX, readsB, stepOp, nilCmp, ofVal, opBuiltin, opLen, PV.sk, scalBin, scalUn, intBin, opLoad, natOf, opConvert, opField, cellsP, oneP, Value.oneCell', opStore, toIV, scalT, scalA, scalC, boxesA, boxesC, zipB_none, zipB_mx, isZ, opZip, zeroP, opAppendZ, opMakeMap, opLookup, mboxB, opUpdate, ↓reduceIte, Nat.reduceSub, Nat.reduceEqDiff, Nat.reduceAdd, Nat.reduceMul, Nat.reduceLT, Nat.reduceLeDiff, Int.reduceToNat, Int.reduceLE, Int.reduceLT, Int.reduceNeg, reduceCtorEq, zzR, gos, Int.reduceAdd, Int.reduceSub, Int.reduceMul, Int.reduceEq])
    | true =>
      by_cases hcr : c = r'
      case neg =>
        refine X_startP (n := 267) (m := 5) (rs := [.tmp 10]) Try.func11 rfl rfl rfl rfl (by decide) fun base => ?_
        repeat (first | ((first | refine X_call_fn2 rfl (by simp only [tys]) ?_ | refine X_dcall_fn2 rfl (by simp only [tys]) ?_); apply Exists.intro; apply And.intro; (focus (simp -dsimp only [simx, zzC, zzB, tys, ite_self, opnL, callB, callX, readsB, stepOp, nilCmp, ofVal, opBuiltin, opLen, PV.sk, scalBin, scalUn, intBin, opLoad, natOf, opConvert, opField, cellsP, oneP, Value.oneCell', opStore, toIV, scalT, scalA, scalC, boxesA, boxesC, zipB_none, zipB_mx, isZ, opZip, zeroP, opAppendZ, opMakeMap, opLookup, mboxB, opUpdate, ↓reduceIte, Nat.reduceSub, Nat.reduceEqDiff, Nat.reduceAdd, Nat.reduceMul, Nat.reduceLT, Nat.reduceLeDiff, Int.reduceToNat, Int.reduceLE, Int.reduceLT, Int.reduceNeg, reduceCtorEq, zzL, if_true, if_false] <;> rfl)); apply Exists.intro; apply And.intro; (focus (first | exact d0 | exact d1 | exact d2))) | refine X_opc rfl ?_ | refine X_dopc rfl ?_ | refine ⟨(by show drawK _ _ = true; kernel_rfl : drawX _ _ _), ?_⟩ | exact (by show drawK _ _ = true; kernel_rfl : drawX _ _ _) | simp -dsimp (maxSteps := 20000000) (disch := omega) only [simx, zzC, zzB, tys, ite_self, opnL, callB, callX, readsB, stepOp, nilCmp, ofVal, opBuiltin, opLen, PV.sk, scalBin, scalUn, intBin, opLoad, natOf, opConvert, opField, cellsP, oneP, Value.oneCell', opStore, toIV, scalT, scalA, scalC, boxesA, boxesC, zipB_none, zipB_mx, isZ, opZip, zeroP, opAppendZ, opMakeMap, opLookup, mboxB, opUpdate, ↓reduceIte, Nat.reduceSub, Nat.reduceEqDiff, Nat.reduceAdd, Nat.reduceMul, Nat.reduceLT, Nat.reduceLeDiff, Int.reduceToNat, Int.reduceLE, Int.reduceLT, Int.reduceNeg, reduceCtorEq, zzR, gos, Int.reduceAdd, Int.reduceSub, Int.reduceMul, Int.reduceEq, hcr])
      subst hcr
      by_cases hx : a4 < P
      case neg =>
        have hx' : (P : Int) ≤ a4 := by omega
        refine X_startP (n := 267) (m := 5) (rs := [.tmp 10]) Try.func11 rfl rfl rfl rfl (by decide) fun base => ?_
        repeat (first | ((first | refine X_call_fn2 rfl (by simp only [tys]) ?_ | refine X_dcall_fn2 rfl (by simp only [tys]) ?_); apply Exists.intro; apply And.intro; (focus (simp -dsimp only [simx, zzC, zzB, tys, ite_self, opnL, callB, callX, readsB, stepOp, nilCmp, ofVal, opBuiltin, opLen, PV.sk, scalBin, scalUn, intBin, opLoad, natOf, opConvert, opField, cellsP, oneP, Value.oneCell', opStore, toIV, scalT, scalA, scalC, boxesA, boxesC, zipB_none, zipB_mx, isZ, opZip, zeroP, opAppendZ, opMakeMap, opLookup, mboxB, opUpdate, ↓reduceIte, Nat.reduceSub, Nat.reduceEqDiff, Nat.reduceAdd, Nat.reduceMul, Nat.reduceLT, Nat.reduceLeDiff, Int.reduceToNat, Int.reduceLE, Int.reduceLT, Int.reduceNeg, reduceCtorEq, zzL, if_true, if_false] <;> rfl)); apply Exists.intro; apply And.intro; (focus (first | exact d0 | exact d1 | exact d2))) | refine X_opc rfl ?_ | refine X_dopc rfl ?_ | refine ⟨(by show drawK _ _ = true; kernel_rfl : drawX _ _ _), ?_⟩ | exact (by show drawK _ _ = true; kernel_rfl : drawX _ _ _) | simp -dsimp (maxSteps := 20000000) (disch := omega) only [simx, zzC, zzB, tys, ite_self, opnL, callB, callX, readsB, stepOp, nilCmp, ofVal, opBuiltin, opLen, PV.sk, scalBin, scalUn, intBin, opLoad, natOf, opConvert, opField, cellsP, oneP, Value.oneCell', opStore, toIV, scalT, scalA, scalC, boxesA, boxesC, zipB_none, zipB_mx, isZ, opZip, zeroP, opAppendZ, opMakeMap, opLookup, mboxB, opUpdate, ↓reduceIte, Nat.reduceSub, Nat.reduceEqDiff, Nat.reduceAdd, Nat.reduceMul, Nat.reduceLT, Nat.reduceLeDiff, Int.reduceToNat, Int.reduceLE, Int.reduceLT, Int.reduceNeg, reduceCtorEq, zzR, gos, Int.reduceAdd, Int.reduceSub, Int.reduceMul, Int.reduceEq, hx'])
      have hx' : ¬ (P : Int) ≤ a4 := by omega
      obtain ⟨_, hP, hm⟩ := hs rfl
      obtain ⟨_, _, hn⟩ := ht rfl
      obtain ⟨R, S, rfl, rfl, M⟩ := mat_of hm
      obtain ⟨S', C, e1, rfl, N⟩ := mat_of hn
      obtain rfl : S = S' := by omega
      have ain : ∀ x ∈ a, In P x := fun x hx => in_of M.has wl hx
      have bin : ∀ x ∈ b, In P x := fun x hx => in_of N.has wk hx
      have xin : In P a4 := ⟨wx.1, hx⟩
      have hp := M.hp
      have K := mul_mt M N
      have kin : ∀ x ∈ mulM P R S a C b, In P x := mulM_in (by have := hp.1; omega)
      have s1 := mul_of_r M N ain bin
      have s2 := rank_of hP M ain
      have s3 := rank_of hP N bin
      have s4 := rank_of hP K kin
      obtain ⟨k1, k2, k3⟩ := rank_prod hP M N ain bin
      have ra := (tkCup_W hP M ain).rle
      have rb := (tkCup_W hP N bin).rle
      have r1 := M.r1
      have r2 := M.r2
      have c1 := M.c1
      have c2 := M.c2
      by_cases hsq : R = S ∧ S = C
      case neg =>
        clear kin
        generalize mulM P R S a C b = m at *
        generalize (tkCup P S R a).1.length = ka at *
        generalize (tkCup P C S b).1.length = kb at *
        generalize (tkCup P C R m).1.length = km at *
        have f1 : ¬ (ka : Int) < km := by omega
        have f2 : ¬ (kb : Int) < km := by omega
        have f3 : ¬ ((km : Int) + S) < (ka : Int) + kb := by omega
        have f4 : IntKind.i64.wrap ((km : Int) + S) = (km : Int) + S := iw_of (by omega) (by omega)
        have f5 : IntKind.i64.wrap ((ka : Int) + kb) = (ka : Int) + kb := iw_of (by omega) (by omega)
        by_cases e : R = S
        · have e2 : ¬ S = C := fun h => hsq ⟨e, h⟩
          subst e
          have e2' : ¬ (R : Int) = C := by omega
          refine X_startP (n := 267) (m := 5) (rs := [.tmp 10]) Try.func11 rfl rfl rfl rfl (by decide) fun base => ?_
          repeat (first | ((first | refine X_call_fn2 rfl (by simp only [tys]) ?_ | refine X_dcall_fn2 rfl (by simp only [tys]) ?_); apply Exists.intro; apply And.intro; (focus (simp -dsimp only [simx, zzC, zzB, tys, ite_self, opnL, callB, callX, readsB, stepOp, nilCmp, ofVal, opBuiltin, opLen, PV.sk, scalBin, scalUn, intBin, opLoad, natOf, opConvert, opField, cellsP, oneP, Value.oneCell', opStore, toIV, scalT, scalA, scalC, boxesA, boxesC, zipB_none, zipB_mx, isZ, opZip, zeroP, opAppendZ, opMakeMap, opLookup, mboxB, opUpdate, ↓reduceIte, Nat.reduceSub, Nat.reduceEqDiff, Nat.reduceAdd, Nat.reduceMul, Nat.reduceLT, Nat.reduceLeDiff, Int.reduceToNat, Int.reduceLE, Int.reduceLT, Int.reduceNeg, reduceCtorEq, zzL, if_true, if_false] <;> rfl)); apply Exists.intro; apply And.intro; (focus (first | exact d0 | exact d1 | exact d2 | exact s1 | exact s2 | exact s3 | exact s4))) | refine X_opc rfl ?_ | refine X_dopc rfl ?_ | refine ⟨(by show drawK _ _ = true; kernel_rfl : drawX _ _ _), ?_⟩ | exact (by show drawK _ _ = true; kernel_rfl : drawX _ _ _) | simp -dsimp (maxSteps := 20000000) (disch := omega) only [simx, zzC, zzB, tys, ite_self, opnL, callB, callX, readsB, stepOp, nilCmp, ofVal, opBuiltin, opLen, PV.sk, scalBin, scalUn, intBin, opLoad, natOf, opConvert, opField, cellsP, oneP, Value.oneCell', opStore, toIV, scalT, scalA, scalC, boxesA, boxesC, zipB_none, zipB_mx, isZ, opZip, zeroP, opAppendZ, opMakeMap, opLookup, mboxB, opUpdate, ↓reduceIte, Nat.reduceSub, Nat.reduceEqDiff, Nat.reduceAdd, Nat.reduceMul, Nat.reduceLT, Nat.reduceLeDiff, Int.reduceToNat, Int.reduceLE, Int.reduceLT, Int.reduceNeg, reduceCtorEq, zzR, gos, Int.reduceAdd, Int.reduceSub, Int.reduceMul, Int.reduceEq, hx', f1, f2, f3, f4, f5, e2'])
        · have e' : ¬ (R : Int) = S := by omega
          refine X_startP (n := 267) (m := 5) (rs := [.tmp 10]) Try.func11 rfl rfl rfl rfl (by decide) fun base => ?_
          repeat (first | ((first | refine X_call_fn2 rfl (by simp only [tys]) ?_ | refine X_dcall_fn2 rfl (by simp only [tys]) ?_); apply Exists.intro; apply And.intro; (focus (simp -dsimp only [simx, zzC, zzB, tys, ite_self, opnL, callB, callX, readsB, stepOp, nilCmp, ofVal, opBuiltin, opLen, PV.sk, scalBin, scalUn, intBin, opLoad, natOf, opConvert, opField, cellsP, oneP, Value.oneCell', opStore, toIV, scalT, scalA, scalC, boxesA, boxesC, zipB_none, zipB_mx, isZ, opZip, zeroP, opAppendZ, opMakeMap, opLookup, mboxB, opUpdate, ↓reduceIte, Nat.reduceSub, Nat.reduceEqDiff, Nat.reduceAdd, Nat.reduceMul, Nat.reduceLT, Nat.reduceLeDiff, Int.reduceToNat, Int.reduceLE, Int.reduceLT, Int.reduceNeg, reduceCtorEq, zzL, if_true, if_false] <;> rfl)); apply Exists.intro; apply And.intro; (focus (first | exact d0 | exact d1 | exact d2 | exact s1 | exact s2 | exact s3 | exact s4))) | refine X_opc rfl ?_ | refine X_dopc rfl ?_ | refine ⟨(by show drawK _ _ = true; kernel_rfl : drawX _ _ _), ?_⟩ | exact (by show drawK _ _ = true; kernel_rfl : drawX _ _ _) | simp -dsimp (maxSteps := 20000000) (disch := omega) only [simx, zzC, zzB, tys, ite_self, opnL, callB, callX, readsB, stepOp, nilCmp, ofVal, opBuiltin, opLen, PV.sk, scalBin, scalUn, intBin, opLoad, natOf, opConvert, opField, cellsP, oneP, Value.oneCell', opStore, toIV, scalT, scalA, scalC, boxesA, boxesC, zipB_none, zipB_mx, isZ, opZip, zeroP, opAppendZ, opMakeMap, opLookup, mboxB, opUpdate, ↓reduceIte, Nat.reduceSub, Nat.reduceEqDiff, Nat.reduceAdd, Nat.reduceMul, Nat.reduceLT, Nat.reduceLeDiff, Int.reduceToNat, Int.reduceLE, Int.reduceLT, Int.reduceNeg, reduceCtorEq, zzR, gos, Int.reduceAdd, Int.reduceSub, Int.reduceMul, Int.reduceEq, hx', f1, f2, f3, f4, f5, e'])
      obtain ⟨rfl, rfl⟩ := hsq
      have s5 := det_yes hP M ain
      have s6 := det_yes hP N bin
      have s7 := det_yes hP K kin
      rw [det_prod hP hp M.len N.len] at s7
      have s8 := Mul_in hp (in_emod hp (Lp R (cl R a))) (in_emod hp (Lp R (cl R b)))
      have s10 := Mul_in hp (in_emod hp (Lp R (cl R a))) xin
      obtain ⟨i, hi⟩ : ∃ i, i = rw % R := ⟨_, rfl⟩
      have iR : i < R := by have := Nat.mod_lt rw (show 0 < R by omega); omega
      obtain ⟨s, hs'⟩ : ∃ s, s = i * R := ⟨_, rfl⟩
      have ml := M.len
      have sb := ic_bd (c := R) iR
      have bd := rc_bd r2 c2
      obtain ⟨n, hn'⟩ : ∃ n, n = R * R := ⟨_, rfl⟩
      have an : a.length = n := by omega
      have n0 : 0 < n := by rw [hn']; exact Nat.mul_pos (by omega) (by omega)
      obtain ⟨F, hF⟩ : ∃ F, F = scF P a s a4 := ⟨_, rfl⟩
      have F0 : tbl n (F 0) = a := by rw [hF, scF_zero]; exact tbl_self an
      have Fat : ∀ k, F k (s + k) = a.getD (s + k) 0 := fun k => by rw [hF]; exact scF_at
      have Fn : ∀ k v, v = a.getD (s + k) 0 * a4 % P → (fun q => if q = s + k then v else F k q) = F (k + 1) := fun k v hv => by rw [hF]; exact scF_next hv
      have Fin : ∀ v ∈ tbl n (F R), In P v := by rw [hF]; exact scF_in hp ain an s a4 R
      have Mt1 : Mt P R R (tbl n (F R)) := ⟨hp, r1, r2, c1, c2, by rw [tbl_len]; exact hn', fun v hv => (Fin v hv).2⟩
      have s9 := det_yes hP Mt1 Fin
      have de : Lp R (cl R (tbl n (F R))) % (P : Int) = (Lp R (cl R a) % P) * a4 % P := by rw [hF, hn', hs']; exact det_scale iR
      rw [de] at s9
      have Frow : ∀ k j, k < R → k ≠ i → j < R → F R (k * R + j) = a.getD (k * R + j) 0 := fun k j hk hne hj => by
        rw [hF]; unfold scF; rw [if_neg]; rw [hs']; exact fun h => hne ((row_eq hj).1 h)
      have aget : ∀ q, q < n → (a.map iu)[q]? = some (iu (a.getD q 0)) := fun q hq => by rw [List.getElem?_map, getD_some an hq]; rfl
      obtain ⟨t, ht'⟩ : ∃ t, t = (i + 1) % R := ⟨_, rfl⟩
      have tR : t < R := by have := Nat.mod_lt (i + 1) (show 0 < R by omega); omega
      have tb' := ic_bd (c := R) tR
      have ti : 2 ≤ R → i ≠ t := fun h => by
        rw [ht']
        rcases Nat.lt_or_ge (i + 1) R with h1 | h1
        · rw [Nat.mod_eq_of_lt h1]; omega
        · rw [show i + 1 = R by omega, Nat.mod_self]; omega
      obtain ⟨G, hG⟩ : ∃ G, G = lkF (F R) a s (t * R) := ⟨_, rfl⟩
      have G0 : G 0 = F R := by rw [hG, lkF_zero]
      have Gn : ∀ k v, v = a.getD (t * R + k) 0 → (fun q => if q = s + k then v else G k q) = G (k + 1) := fun k v hv => by rw [hG]; exact lkF_next hv
      have Gin : ∀ v ∈ tbl n (G R), In P v := by
        rw [hG]
        exact lkF_in ain (fun q hq => Fin _ (by unfold tbl; exact List.mem_map.2 ⟨q, List.mem_range.2 hq, rfl⟩)) (by omega) (Nat.le_refl R)
      have Mt2 : Mt P R R (tbl n (G R)) := ⟨hp, r1, r2, c1, c2, by rw [tbl_len]; exact hn', fun v hv => (Gin v hv).2⟩
      have s11 := det_yes hP Mt2 Gin
      have dl : 2 ≤ R → Lp R (cl R (tbl n (G R))) % (P : Int) = 0 := fun h => by
        rw [hG, hn', hs', det_alike (P := P) iR tR (ti h) fun j hj => Frow t j tR (Ne.symm (ti h)) hj]; rfl
      have av : ∀ q, q < n → In P (a.getD q 0) := fun q hq => getD_of ain (by omega)
      clear kin Mt1 Mt2 K Frow
      rw [show matP R R (tbl n (F R)) = .agg [i64 R, i64 R, .i (.l n ((tbl n (F R)).map iu))] by rw [matP, lu, tbl_len]] at s9
      rw [show matP R R (tbl n (G R)) = .agg [i64 R, i64 R, .i (.l n ((tbl n (G R)).map iu))] by rw [matP, lu, tbl_len]] at s11
      generalize Lp R (cl R (tbl n (G R))) % (P : Int) = dG at s11 dl
      generalize Lp R (cl R a) % (P : Int) = da at *
      generalize Lp R (cl R b) % (P : Int) = db at *
      generalize mulM P R R a R b = m at *
      generalize (tkCup P R R a).1.length = ka at *
      generalize (tkCup P R R b).1.length = kb at *
      generalize (tkCup P R R m).1.length = km at *
      generalize da * db % (P : Int) = dm at s7 s8
      generalize da * a4 % (P : Int) = dx at s9 s10
      have f1 : ¬ (ka : Int) < km := by omega
      have f2 : ¬ (kb : Int) < km := by omega
      have f3 : ¬ ((km : Int) + R) < (ka : Int) + kb := by omega
      have f4 : IntKind.i64.wrap ((km : Int) + R) = (km : Int) + R := iw_of (by omega) (by omega)
      have f5 : IntKind.i64.wrap ((ka : Int) + kb) = (ka : Int) + kb := iw_of (by omega) (by omega)
      have w1 : IntKind.i64.wrap (rw : Int) = rw := iw_of (by omega) (by omega)
      have w2 : (rw : Int) % (R : Int) = (i : Int) := by rw [hi]; rfl
      have w3 : IntKind.i64.wrap ((i : Int) * (R : Int)) = (s : Int) := by rw [← Int.natCast_mul, ← hs']; exact iw_of (by omega) (by omega)
      have w4 : IntKind.i64.wrap ((i : Int) + 1) = ((i + 1 : Nat) : Int) := by rw [show (i : Int) + 1 = ((i + 1 : Nat) : Int) by push_cast; rfl]; exact iw_of (by omega) (by omega)
      have w5 : ((i + 1 : Nat) : Int) % (R : Int) = (t : Int) := by rw [ht']; rfl
      have w6 : IntKind.i64.wrap ((t : Int) * (R : Int)) = ((t * R : Nat) : Int) := by rw [← Int.natCast_mul]; exact iw_of (by omega) (by omega)
      have r0 : ¬ (R : Int) = 0 := by omega
      have tkn : ∀ f : Nat → Int, ((tbl n f).map iu).take n = (tbl n f).map iu := fun f => List.take_of_length_le (by rw [List.length_map, tbl_len]; exact Nat.le_refl _)
      refine X_startP (n := 267) (m := 5) (rs := [.tmp 10]) Try.func11 rfl rfl rfl rfl (by decide) fun base => ?_
      repeat (first | ((first | refine X_call_fn2 rfl (by simp only [tys]) ?_ | refine X_dcall_fn2 rfl (by simp only [tys]) ?_); apply Exists.intro; apply And.intro; (focus (simp -dsimp only [simx, zzC, zzB, tys, ite_self, opnL, callB, callX, readsB, stepOp, nilCmp, ofVal, opBuiltin, opLen, PV.sk, scalBin, scalUn, intBin, opLoad, natOf, opConvert, opField, cellsP, oneP, Value.oneCell', opStore, toIV, scalT, scalA, scalC, boxesA, boxesC, zipB_none, zipB_mx, isZ, opZip, zeroP, opAppendZ, opMakeMap, opLookup, mboxB, opUpdate, ↓reduceIte, Nat.reduceSub, Nat.reduceEqDiff, Nat.reduceAdd, Nat.reduceMul, Nat.reduceLT, Nat.reduceLeDiff, Int.reduceToNat, Int.reduceLE, Int.reduceLT, Int.reduceNeg, reduceCtorEq, zzL, if_true, if_false] <;> rfl)); apply Exists.intro; apply And.intro; (focus (first | exact d0 | exact d1 | exact d2 | exact s1 | exact s2 | exact s3 | exact s4 | exact s5 | exact s6 | exact s7 | exact s8))) | refine X_opc rfl ?_ | refine X_dopc rfl ?_ | refine ⟨(by show drawK _ _ = true; kernel_rfl : drawX _ _ _), ?_⟩ | exact (by show drawK _ _ = true; kernel_rfl : drawX _ _ _) | simp -dsimp (maxSteps := 20000000) (disch := omega) only [simx, zzC, zzB, tys, ite_self, opnL, callB, callX, readsB, stepOp, nilCmp, ofVal, opBuiltin, opLen, PV.sk, scalBin, scalUn, intBin, opLoad, natOf, opConvert, opField, cellsP, oneP, Value.oneCell', opStore, toIV, scalT, scalA, scalC, boxesA, boxesC, zipB_none, zipB_mx, isZ, opZip, zeroP, opAppendZ, opMakeMap, opLookup, mboxB, opUpdate, ↓reduceIte, Nat.reduceSub, Nat.reduceEqDiff, Nat.reduceAdd, Nat.reduceMul, Nat.reduceLT, Nat.reduceLeDiff, Int.reduceToNat, Int.reduceLE, Int.reduceLT, Int.reduceNeg, reduceCtorEq, gos, Int.reduceAdd, Int.reduceSub, Int.reduceMul, Int.reduceEq, hx', f1, f2, f3, f4, f5, w1, w2, r0])
      refine X_dapp_full (cs := []) 22 [.int .u64 0] (a.map iu) (by simp only [tys]) (by simp only [tys]) rfl (by simp [Heap.put_at]) rfl (by omega) (by simp) (by simp only [tys]; omega) (by rw [mx_len]; omega) ?_
      repeat (first | refine X_opc rfl ?_ | refine X_dopc rfl ?_ | refine ⟨(by show drawK _ _ = true; kernel_rfl : drawX _ _ _), ?_⟩ | exact (by show drawK _ _ = true; kernel_rfl : drawX _ _ _) | simp -dsimp (maxSteps := 20000000) (disch := omega) only [simx, zzC, zzB, tys, ite_self, opnL, callB, callX, readsB, stepOp, nilCmp, ofVal, opBuiltin, opLen, PV.sk, scalBin, scalUn, intBin, opLoad, natOf, opConvert, opField, cellsP, oneP, Value.oneCell', opStore, toIV, scalT, scalA, scalC, boxesA, boxesC, zipB_none, zipB_mx, isZ, opZip, zeroP, opAppendZ, opMakeMap, opLookup, mboxB, opUpdate, ↓reduceIte, Nat.reduceSub, Nat.reduceEqDiff, Nat.reduceAdd, Nat.reduceMul, Nat.reduceLT, Nat.reduceLeDiff, Int.reduceToNat, Int.reduceLE, Int.reduceLT, Int.reduceNeg, reduceCtorEq, gos, Int.reduceAdd, Int.reduceSub, Int.reduceMul, Int.reduceEq, Nat.zero_add, List.nil_append, an])
      refine X_loopH [0, 4, 6, 19, 27, 28, 29] [] (0) (R) (fun j => True) (fun j => [(29, i64 j)]) (fun j => (((((Heap.none.put ((0, 0) :: base) (.var [i64 R, i64 R, lu a])).put ((0, 1) :: base) (.var [i64 R, i64 R, lu b])).put ((5, 7) :: base) (.var [i64 R, i64 R, lu m]))).put ((20, 4) :: base) (.row false ((tbl n (F j)).map iu))).put ((20, 9) :: base) (.var [i64 R, i64 R, .view ((20, 4) :: base) 0 1 n n])) ?_ ?_ ?_ ?_ ?_ (by decide) ?_
      · exact (fgt_nil)
      · ((simp -dsimp (disch := omega) only [simx, zzB, tys, ite_self, opnL, callB, callX, readsB, stepOp, nilCmp, ofVal, opBuiltin, opLen, PV.sk, scalBin, scalUn, intBin, opLoad, natOf, opConvert, opField, cellsP, oneP, Value.oneCell', opStore, toIV, scalT, scalA, scalC, boxesA, boxesC, zipB_none, zipB_mx, isZ, opZip, zeroP, opAppendZ, opMakeMap, opLookup, mboxB, opUpdate, ↓reduceIte, Nat.reduceSub, Nat.reduceEqDiff, Nat.reduceAdd, Nat.reduceMul, Nat.reduceLT, Nat.reduceLeDiff, Int.reduceToNat, Int.reduceLE, Int.reduceLT, Int.reduceNeg, reduceCtorEq, gos, Int.reduceAdd, Int.reduceSub, Int.reduceMul, Int.reduceEq]) <;> first | rfl | simp)
      · rw [F0]
        funext c
        simp (maxSteps := 20000000) only [Heap.drop_at, rowH_app, Heap.put_at, Heap.none_at, List.mem_cons, List.not_mem_nil, or_false]
        by_cases e0 : c = (0, 0) :: base
        · subst e0; simp []
        by_cases e1 : c = (0, 1) :: base
        · subst e1; simp []
        by_cases e2 : c = (5, 7) :: base
        · subst e2; simp []
        by_cases e3 : c = (20, 4) :: base
        · subst e3; simp []
        by_cases e4 : c = (20, 9) :: base
        · subst e4; simp []
        simp [e0, e1, e2, e3, e4]
      · omega
      · trivial
      · intro k hk _
        by_cases ck : k < R
        · have q1 : s + k < n := by omega
          have w7 : IntKind.i64.wrap ((s : Int) + (k : Int)) = ((s + k : Nat) : Int) := by rw [← Int.natCast_add]; exact iw_of (by omega) (by omega)
          have g1 : ((tbl n (F k)).map iu)[s + k]? = some (iu (a.getD (s + k) 0)) := by rw [List.getElem?_map, tbl_get? _ q1, Fat]; rfl
          have n1 := Mul_in hp (av (s + k) q1) xin
          have px := tbl_put_iu (F k) (a.getD (s + k) 0 * a4 % P) q1
          rw [Fn k _ rfl] at px
          have tl := tbl_len n (F k)
          have q2 : s + k + 1 ≤ n := by omega
          clear f1 f2 f3 s1 s2 s3 s4 s5 s6 s7 s8 s9 s10 s11
          generalize a.getD (s + k) 0 * a4 % (P : Int) = y at n1 px
          generalize a.getD (s + k) 0 = z at g1 n1
          repeat (first | ((first | refine X_call_fn2 rfl (by simp only [tys]) ?_ | refine X_dcall_fn2 rfl (by simp only [tys]) ?_); apply Exists.intro; apply And.intro; (focus (simp -dsimp only [simx, zzC, zzB, tys, ite_self, opnL, callB, callX, readsB, stepOp, nilCmp, ofVal, opBuiltin, opLen, PV.sk, scalBin, scalUn, intBin, opLoad, natOf, opConvert, opField, cellsP, oneP, Value.oneCell', opStore, toIV, scalT, scalA, scalC, boxesA, boxesC, zipB_none, zipB_mx, isZ, opZip, zeroP, opAppendZ, opMakeMap, opLookup, mboxB, opUpdate, ↓reduceIte, Nat.reduceSub, Nat.reduceEqDiff, Nat.reduceAdd, Nat.reduceMul, Nat.reduceLT, Nat.reduceLeDiff, Int.reduceToNat, Int.reduceLE, Int.reduceLT, Int.reduceNeg, reduceCtorEq, zzL, if_true, if_false] <;> rfl)); apply Exists.intro; apply And.intro; (focus (first | exact n1))) | refine X_opc rfl ?_ | refine X_dopc rfl ?_ | refine ⟨(by show drawK _ _ = true; kernel_rfl : drawX _ _ _), ?_⟩ | exact (by show drawK _ _ = true; kernel_rfl : drawX _ _ _) | simp -dsimp (maxSteps := 20000000) (disch := omega) only [simx, zzC, zzB, tys, ite_self, opnL, callB, callX, readsB, stepOp, nilCmp, ofVal, opBuiltin, opLen, PV.sk, scalBin, scalUn, intBin, opLoad, natOf, opConvert, opField, cellsP, oneP, Value.oneCell', opStore, toIV, scalT, scalA, scalC, boxesA, boxesC, zipB_none, zipB_mx, isZ, opZip, zeroP, opAppendZ, opMakeMap, opLookup, mboxB, opUpdate, ↓reduceIte, Nat.reduceSub, Nat.reduceEqDiff, Nat.reduceAdd, Nat.reduceMul, Nat.reduceLT, Nat.reduceLeDiff, Int.reduceToNat, Int.reduceLE, Int.reduceLT, Int.reduceNeg, reduceCtorEq, gos, Int.reduceAdd, Int.reduceSub, Int.reduceMul, Int.reduceEq, ck, w3, w7, g1, q1, q2, tl, List.length_map, SK.len])
          refine ⟨ck, (fgt_nil), ?_, ?_⟩
          · rfl
          · rw [drop_nil, ← px]
            funext c
            simp (maxSteps := 20000000) only [Heap.drop_at, rowH_app, Heap.put_at, Heap.none_at, List.mem_cons, List.not_mem_nil, or_false]
            by_cases e0 : c = (0, 0) :: base
            · subst e0; simp []
            by_cases e1 : c = (0, 1) :: base
            · subst e1; simp []
            by_cases e2 : c = (5, 7) :: base
            · subst e2; simp []
            by_cases e3 : c = (20, 4) :: base
            · subst e3; simp []
            by_cases e4 : c = (20, 9) :: base
            · subst e4; simp []
            simp [e0, e1, e2, e3, e4]
        · have ek : R = k := by omega
          subst ek
          have tF := tkn (F R)
          have lF := tbl_len n (F R)
          by_cases h2 : (R : Int) < 2
          · repeat (first | ((first | refine X_call_fn2 rfl (by simp only [tys]) ?_ | refine X_dcall_fn2 rfl (by simp only [tys]) ?_); apply Exists.intro; apply And.intro; (focus (simp -dsimp only [simx, zzC, zzB, tys, ite_self, opnL, callB, callX, readsB, stepOp, nilCmp, ofVal, opBuiltin, opLen, PV.sk, scalBin, scalUn, intBin, opLoad, natOf, opConvert, opField, cellsP, oneP, Value.oneCell', opStore, toIV, scalT, scalA, scalC, boxesA, boxesC, zipB_none, zipB_mx, isZ, opZip, zeroP, opAppendZ, opMakeMap, opLookup, mboxB, opUpdate, ↓reduceIte, Nat.reduceSub, Nat.reduceEqDiff, Nat.reduceAdd, Nat.reduceMul, Nat.reduceLT, Nat.reduceLeDiff, Int.reduceToNat, Int.reduceLE, Int.reduceLT, Int.reduceNeg, reduceCtorEq, zzL, if_true, if_false, tF, lF, List.length_map] <;> rfl)); apply Exists.intro; apply And.intro; (focus (first | exact s9 | exact s10))) | refine X_opc rfl ?_ | refine X_dopc rfl ?_ | refine ⟨(by show drawK _ _ = true; kernel_rfl : drawX _ _ _), ?_⟩ | exact (by show drawK _ _ = true; kernel_rfl : drawX _ _ _) | simp -dsimp (maxSteps := 20000000) (disch := omega) only [simx, zzC, zzB, tys, ite_self, opnL, callB, callX, readsB, stepOp, nilCmp, ofVal, opBuiltin, opLen, PV.sk, scalBin, scalUn, intBin, opLoad, natOf, opConvert, opField, cellsP, oneP, Value.oneCell', opStore, toIV, scalT, scalA, scalC, boxesA, boxesC, zipB_none, zipB_mx, isZ, opZip, zeroP, opAppendZ, opMakeMap, opLookup, mboxB, opUpdate, ↓reduceIte, Nat.reduceSub, Nat.reduceEqDiff, Nat.reduceAdd, Nat.reduceMul, Nat.reduceLT, Nat.reduceLeDiff, Int.reduceToNat, Int.reduceLE, Int.reduceLT, Int.reduceNeg, reduceCtorEq, zzR, gos, Int.reduceAdd, Int.reduceSub, Int.reduceMul, Int.reduceEq, h2, tF, lF, List.length_map])
          · repeat (first | ((first | refine X_call_fn2 rfl (by simp only [tys]) ?_ | refine X_dcall_fn2 rfl (by simp only [tys]) ?_); apply Exists.intro; apply And.intro; (focus (simp -dsimp only [simx, zzC, zzB, tys, ite_self, opnL, callB, callX, readsB, stepOp, nilCmp, ofVal, opBuiltin, opLen, PV.sk, scalBin, scalUn, intBin, opLoad, natOf, opConvert, opField, cellsP, oneP, Value.oneCell', opStore, toIV, scalT, scalA, scalC, boxesA, boxesC, zipB_none, zipB_mx, isZ, opZip, zeroP, opAppendZ, opMakeMap, opLookup, mboxB, opUpdate, ↓reduceIte, Nat.reduceSub, Nat.reduceEqDiff, Nat.reduceAdd, Nat.reduceMul, Nat.reduceLT, Nat.reduceLeDiff, Int.reduceToNat, Int.reduceLE, Int.reduceLT, Int.reduceNeg, reduceCtorEq, zzL, if_true, if_false, tF, lF, List.length_map] <;> rfl)); apply Exists.intro; apply And.intro; (focus (first | exact s9 | exact s10))) | refine X_opc rfl ?_ | refine X_dopc rfl ?_ | refine ⟨(by show drawK _ _ = true; kernel_rfl : drawX _ _ _), ?_⟩ | exact (by show drawK _ _ = true; kernel_rfl : drawX _ _ _) | simp -dsimp (maxSteps := 20000000) (disch := omega) only [simx, zzC, zzB, tys, ite_self, opnL, callB, callX, readsB, stepOp, nilCmp, ofVal, opBuiltin, opLen, PV.sk, scalBin, scalUn, intBin, opLoad, natOf, opConvert, opField, cellsP, oneP, Value.oneCell', opStore, toIV, scalT, scalA, scalC, boxesA, boxesC, zipB_none, zipB_mx, isZ, opZip, zeroP, opAppendZ, opMakeMap, opLookup, mboxB, opUpdate, ↓reduceIte, Nat.reduceSub, Nat.reduceEqDiff, Nat.reduceAdd, Nat.reduceMul, Nat.reduceLT, Nat.reduceLeDiff, Int.reduceToNat, Int.reduceLE, Int.reduceLT, Int.reduceNeg, reduceCtorEq, gos, Int.reduceAdd, Int.reduceSub, Int.reduceMul, Int.reduceEq, h2, tF, lF, List.length_map, w4, w5, r0])
            refine X_loopH [0, 6, 27, 28, 34, 35] [] (0) (R) (fun j => True) (fun j => [(35, i64 j)]) (fun j => (((((Heap.none.put ((0, 0) :: base) (.var [i64 R, i64 R, lu a])).put ((0, 1) :: base) (.var [i64 R, i64 R, lu b])).put ((5, 7) :: base) (.var [i64 R, i64 R, lu m]))).put ((20, 4) :: base) (.row false ((tbl n (G j)).map iu))).put ((20, 9) :: base) (.var [i64 R, i64 R, .view ((20, 4) :: base) 0 1 n n])) ?_ ?_ ?_ ?_ ?_ (by decide) ?_
            · exact (fgt_nil)
            · ((simp -dsimp (disch := omega) only [simx, zzB, tys, ite_self, opnL, callB, callX, readsB, stepOp, nilCmp, ofVal, opBuiltin, opLen, PV.sk, scalBin, scalUn, intBin, opLoad, natOf, opConvert, opField, cellsP, oneP, Value.oneCell', opStore, toIV, scalT, scalA, scalC, boxesA, boxesC, zipB_none, zipB_mx, isZ, opZip, zeroP, opAppendZ, opMakeMap, opLookup, mboxB, opUpdate, ↓reduceIte, Nat.reduceSub, Nat.reduceEqDiff, Nat.reduceAdd, Nat.reduceMul, Nat.reduceLT, Nat.reduceLeDiff, Int.reduceToNat, Int.reduceLE, Int.reduceLT, Int.reduceNeg, reduceCtorEq, gos, Int.reduceAdd, Int.reduceSub, Int.reduceMul, Int.reduceEq]) <;> first | rfl | simp)
            · rw [G0]
              funext c
              simp (maxSteps := 20000000) only [Heap.drop_at, rowH_app, Heap.put_at, Heap.none_at, List.mem_cons, List.not_mem_nil, or_false]
              by_cases e0 : c = (0, 0) :: base
              · subst e0; simp []
              by_cases e1 : c = (0, 1) :: base
              · subst e1; simp []
              by_cases e2 : c = (5, 7) :: base
              · subst e2; simp []
              by_cases e3 : c = (20, 4) :: base
              · subst e3; simp []
              by_cases e4 : c = (20, 9) :: base
              · subst e4; simp []
              simp [e0, e1, e2, e3, e4]
            · omega
            · trivial
            · intro k hk _
              by_cases ck : k < R
              · have q1 : s + k < n := by omega
                have q3 : t * R + k < n := by omega
                have w7 : IntKind.i64.wrap ((s : Int) + (k : Int)) = ((s + k : Nat) : Int) := by rw [← Int.natCast_add]; exact iw_of (by omega) (by omega)
                have w8 : IntKind.i64.wrap (((t * R : Nat) : Int) + (k : Int)) = ((t * R + k : Nat) : Int) := by rw [← Int.natCast_add]; exact iw_of (by omega) (by omega)
                have g1 := aget (t * R + k) q3
                have px := tbl_put_iu (G k) (a.getD (t * R + k) 0) q1
                rw [Gn k _ rfl] at px
                have tl := tbl_len n (G k)
                have q2 : s + k + 1 ≤ n := by omega
                clear f1 f2 f3 s9 s10 s11
                generalize a.getD (t * R + k) 0 = z at g1 px
                repeat (first | refine X_opc rfl ?_ | refine X_dopc rfl ?_ | refine ⟨(by show drawK _ _ = true; kernel_rfl : drawX _ _ _), ?_⟩ | exact (by show drawK _ _ = true; kernel_rfl : drawX _ _ _) | simp -dsimp (maxSteps := 20000000) (disch := omega) only [simx, zzC, zzB, tys, ite_self, opnL, callB, callX, readsB, stepOp, nilCmp, ofVal, opBuiltin, opLen, PV.sk, scalBin, scalUn, intBin, opLoad, natOf, opConvert, opField, cellsP, oneP, Value.oneCell', opStore, toIV, scalT, scalA, scalC, boxesA, boxesC, zipB_none, zipB_mx, isZ, opZip, zeroP, opAppendZ, opMakeMap, opLookup, mboxB, opUpdate, ↓reduceIte, Nat.reduceSub, Nat.reduceEqDiff, Nat.reduceAdd, Nat.reduceMul, Nat.reduceLT, Nat.reduceLeDiff, Int.reduceToNat, Int.reduceLE, Int.reduceLT, Int.reduceNeg, reduceCtorEq, gos, Int.reduceAdd, Int.reduceSub, Int.reduceMul, Int.reduceEq, ck, w3, w6, w7, w8, g1, q1, q2, q3, tl, an, List.length_map, SK.len])
                refine ⟨ck, (fgt_nil), ?_, ?_⟩
                · rfl
                · rw [drop_nil, ← px]
                  funext c
                  simp (maxSteps := 20000000) only [Heap.drop_at, rowH_app, Heap.put_at, Heap.none_at, List.mem_cons, List.not_mem_nil, or_false]
                  by_cases e0 : c = (0, 0) :: base
                  · subst e0; simp []
                  by_cases e1 : c = (0, 1) :: base
                  · subst e1; simp []
                  by_cases e2 : c = (5, 7) :: base
                  · subst e2; simp []
                  by_cases e3 : c = (20, 4) :: base
                  · subst e3; simp []
                  by_cases e4 : c = (20, 9) :: base
                  · subst e4; simp []
                  simp [e0, e1, e2, e3, e4]
              · have ek : R = k := by omega
                subst ek
                have tG := tkn (G R)
                have lG := tbl_len n (G R)
                have dz := dl (by omega)
                rw [dz] at s11
                repeat (first | ((first | refine X_call_fn2 rfl (by simp only [tys]) ?_ | refine X_dcall_fn2 rfl (by simp only [tys]) ?_); apply Exists.intro; apply And.intro; (focus (simp -dsimp only [simx, zzC, zzB, tys, ite_self, opnL, callB, callX, readsB, stepOp, nilCmp, ofVal, opBuiltin, opLen, PV.sk, scalBin, scalUn, intBin, opLoad, natOf, opConvert, opField, cellsP, oneP, Value.oneCell', opStore, toIV, scalT, scalA, scalC, boxesA, boxesC, zipB_none, zipB_mx, isZ, opZip, zeroP, opAppendZ, opMakeMap, opLookup, mboxB, opUpdate, ↓reduceIte, Nat.reduceSub, Nat.reduceEqDiff, Nat.reduceAdd, Nat.reduceMul, Nat.reduceLT, Nat.reduceLeDiff, Int.reduceToNat, Int.reduceLE, Int.reduceLT, Int.reduceNeg, reduceCtorEq, zzL, if_true, if_false, tG, lG, List.length_map] <;> rfl)); apply Exists.intro; apply And.intro; (focus (first | exact s11))) | refine X_opc rfl ?_ | refine X_dopc rfl ?_ | refine ⟨(by show drawK _ _ = true; kernel_rfl : drawX _ _ _), ?_⟩ | exact (by show drawK _ _ = true; kernel_rfl : drawX _ _ _) | simp -dsimp (maxSteps := 20000000) (disch := omega) only [simx, zzC, zzB, tys, ite_self, opnL, callB, callX, readsB, stepOp, nilCmp, ofVal, opBuiltin, opLen, PV.sk, scalBin, scalUn, intBin, opLoad, natOf, opConvert, opField, cellsP, oneP, Value.oneCell', opStore, toIV, scalT, scalA, scalC, boxesA, boxesC, zipB_none, zipB_mx, isZ, opZip, zeroP, opAppendZ, opMakeMap, opLookup, mboxB, opUpdate, ↓reduceIte, Nat.reduceSub, Nat.reduceEqDiff, Nat.reduceAdd, Nat.reduceMul, Nat.reduceLT, Nat.reduceLeDiff, Int.reduceToNat, Int.reduceLE, Int.reduceLT, Int.reduceNeg, reduceCtorEq, zzR, gos, Int.reduceAdd, Int.reduceSub, Int.reduceMul, Int.reduceEq, tG, lG, List.length_map])
end Go.Proofs.Ythnfphgjfpcpbaa.TM
