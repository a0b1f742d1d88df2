/- What is proved of functions, and plain facts, part 7. Conditions: none. -/
import Derived.Test.YthnfphgjfpcpbaaSCupDet6
set_option linter.defProp false
set_option linter.unusedSectionVars false
set_option linter.unusedSimpArgs false
set_option linter.unusedVariables false
namespace Go.Proofs.Ythnfphgjfpcpbaa.TM
open Go Go.RowKit
attribute [local irreducible] K W WOps Effs Xg Xo Xr Xdg Xdo Xdr Xif CallsP CallR
def sgnP (x : List (List Int)) : Nat → Int
  | 0 => 1
  | j + 1 => if (x.getD j []).length % 2 = 0 then - sgnP x j else sgnP x j
theorem sgnP_one (x : List (List Int)) : ∀ j, sgnP x j = 1 ∨ sgnP x j = -1
  | 0 => .inl rfl
  | j + 1 => by
    rw [sgnP]
    rcases sgnP_one x j with h | h <;> rw [h] <;> split <;> simp
def sgnR (l : List Int) : Int := sgnP (ringsI l) (ringsI l).length
def signR (l : List Int) : Int × Int := if orderB l then (sgnR l, 0) else (0, 1)
theorem sign_walk (l : List Int) (hl : l.length ≤ maxLen) : CallsP Try.prog 53 [li l] (.tup [i64 (signR l).1, i64 (signR l).2]) := by
  have q1 := pright_walk l hl
  unfold signR
  cases h1 : orderB l with
  | false =>
    rw [h1] at q1
    refine X_startP (n := 25) (m := 1) (rs := [.tmp 2, .tmp 3]) Try.func53 rfl rfl rfl rfl (by decide) fun base => ?_
    repeat (first | ((first | refine X_call_fn2 rfl (by simp only [tys]) ?_ | refine X_dcall_fn2 rfl (by simp only [tys]) ?_); apply Exists.intro; apply And.intro; (focus (simp -dsimp only [simx, zzC, zzB, tys, ite_self, opnL, callB, callX, readsB, stepOp, nilCmp, ofVal, opBuiltin, opLen, PV.sk, scalBin, scalUn, intBin, opLoad, natOf, opConvert, opField, cellsP, oneP, Value.oneCell', opStore, toIV, scalT, scalA, scalC, boxesA, boxesC, zipB_none, zipB_mx, isZ, opZip, zeroP, opAppendZ, opMakeMap, opLookup, mboxB, opUpdate, ↓reduceIte, Nat.reduceSub, Nat.reduceEqDiff, Nat.reduceAdd, Nat.reduceMul, Nat.reduceLT, Nat.reduceLeDiff, Int.reduceToNat, Int.reduceLE, Int.reduceLT, Int.reduceNeg, reduceCtorEq, zzL, if_true, if_false] <;> rfl)); apply Exists.intro; apply And.intro; (focus (first | exact q1))) | refine X_opc rfl ?_ | refine X_dopc rfl ?_ | refine ⟨(by show drawK _ _ = true; kernel_rfl : drawX _ _ _), ?_⟩ | exact (by show drawK _ _ = true; kernel_rfl : drawX _ _ _) | simp -dsimp (maxSteps := 20000000) (disch := omega) only [simx, zzC, zzB, tys, ite_self, opnL, callB, callX, readsB, stepOp, nilCmp, ofVal, opBuiltin, opLen, PV.sk, scalBin, scalUn, intBin, opLoad, natOf, opConvert, opField, cellsP, oneP, Value.oneCell', opStore, toIV, scalT, scalA, scalC, boxesA, boxesC, zipB_none, zipB_mx, isZ, opZip, zeroP, opAppendZ, opMakeMap, opLookup, mboxB, opUpdate, ↓reduceIte, Nat.reduceSub, Nat.reduceEqDiff, Nat.reduceAdd, Nat.reduceMul, Nat.reduceLT, Nat.reduceLeDiff, Int.reduceToNat, Int.reduceLE, Int.reduceLT, Int.reduceNeg, reduceCtorEq, zzR, gos, Int.reduceAdd, Int.reduceSub, Int.reduceMul, Int.reduceEq])
  | true =>
    rw [h1] at q1
    have o := (orderB_iff l).1 h1
    have d := rings_walk l o
    have rl : (ringsI l).length ≤ 64 := Nat.le_trans (rgs_len l l.length) o.le
    have rm : ∀ r ∈ ringsI l, True := fun _ _ => trivial
    simp only [if_true]
    unfold sgnR
    generalize ringsI l = x at d rl ⊢
    refine X_startP (n := 25) (m := 1) (rs := [.tmp 2, .tmp 3]) Try.func53 rfl rfl rfl rfl (by decide) fun base => ?_
    repeat (first | ((first | refine X_call_fn2 rfl (by simp only [tys]) ?_ | refine X_dcall_fn2 rfl (by simp only [tys]) ?_); apply Exists.intro; apply And.intro; (focus (simp -dsimp only [simx, zzC, zzB, tys, ite_self, opnL, callB, callX, readsB, stepOp, nilCmp, ofVal, opBuiltin, opLen, PV.sk, scalBin, scalUn, intBin, opLoad, natOf, opConvert, opField, cellsP, oneP, Value.oneCell', opStore, toIV, scalT, scalA, scalC, boxesA, boxesC, zipB_none, zipB_mx, isZ, opZip, zeroP, opAppendZ, opMakeMap, opLookup, mboxB, opUpdate, ↓reduceIte, Nat.reduceSub, Nat.reduceEqDiff, Nat.reduceAdd, Nat.reduceMul, Nat.reduceLT, Nat.reduceLeDiff, Int.reduceToNat, Int.reduceLE, Int.reduceLT, Int.reduceNeg, reduceCtorEq, zzL, if_true, if_false] <;> rfl)); apply Exists.intro; apply And.intro; (focus (first | exact q1 | exact d))) | refine X_opc rfl ?_ | refine X_dopc rfl ?_ | refine ⟨(by show drawK _ _ = true; kernel_rfl : drawX _ _ _), ?_⟩ | exact (by show drawK _ _ = true; kernel_rfl : drawX _ _ _) | simp -dsimp (maxSteps := 20000000) (disch := omega) only [simx, zzC, zzB, tys, ite_self, opnL, callB, callX, readsB, stepOp, nilCmp, ofVal, opBuiltin, opLen, PV.sk, scalBin, scalUn, intBin, opLoad, natOf, opConvert, opField, cellsP, oneP, Value.oneCell', opStore, toIV, scalT, scalA, scalC, boxesA, boxesC, zipB_none, zipB_mx, isZ, opZip, zeroP, opAppendZ, opMakeMap, opLookup, mboxB, opUpdate, ↓reduceIte, Nat.reduceSub, Nat.reduceEqDiff, Nat.reduceAdd, Nat.reduceMul, Nat.reduceLT, Nat.reduceLeDiff, Int.reduceToNat, Int.reduceLE, Int.reduceLT, Int.reduceNeg, reduceCtorEq, gos, Int.reduceAdd, Int.reduceSub, Int.reduceMul, Int.reduceEq])
    refine X_loopH [4, 11, 12, 13] [] (0) (x.length) (fun j => True) (fun j => [(4, i64 (sgnP x j)), (13, i64 j)]) (fun j => Heap.none) ?_ ?_ ?_ ?_ ?_ (by decide) ?_
    · exact (fgt_nil)
    · ((simp -dsimp (disch := omega) only [simx, zzB, tys, ite_self, opnL, callB, callX, readsB, stepOp, nilCmp, ofVal, opBuiltin, opLen, PV.sk, scalBin, scalUn, intBin, opLoad, natOf, opConvert, opField, cellsP, oneP, Value.oneCell', opStore, toIV, scalT, scalA, scalC, boxesA, boxesC, zipB_none, zipB_mx, isZ, opZip, zeroP, opAppendZ, opMakeMap, opLookup, mboxB, opUpdate, ↓reduceIte, Nat.reduceSub, Nat.reduceEqDiff, Nat.reduceAdd, Nat.reduceMul, Nat.reduceLT, Nat.reduceLeDiff, Int.reduceToNat, Int.reduceLE, Int.reduceLT, Int.reduceNeg, reduceCtorEq, gos, Int.reduceAdd, Int.reduceSub, Int.reduceMul, Int.reduceEq]) <;> first | rfl | simp [sgnP])
    · exact drop_nil _
    · omega
    · trivial
    · intro j hj _
      by_cases cj : j < x.length
      · have g1 : x[j]? = some x[j] := List.getElem?_eq_getElem cj
        have sg : sgnP x (j + 1) = if (x.getD j []).length % 2 = 0 then - sgnP x j else sgnP x j := rfl
        rw [List.getD_eq_getElem?_getD, g1, Option.getD_some] at sg
        have s1 := sgnP_one x j
        generalize x[j] = r at g1 sg
        have e1 : Int.tmod (r.length : Int) 2 = ((r.length % 2 : Nat) : Int) := rfl
        by_cases c : r.length % 2 = 0
        · rw [if_pos c] at sg
          have e2 : IntKind.i64.wrap (0 - sgnP x j) = - sgnP x j := by
            rw [iw_of (by omega) (by omega)]; omega
          have e3 : ((r.length % 2 : Nat) : Int) = 0 := by omega
          repeat (first | refine X_opc rfl ?_ | refine X_dopc rfl ?_ | refine ⟨(by show drawK _ _ = true; kernel_rfl : drawX _ _ _), ?_⟩ | exact (by show drawK _ _ = true; kernel_rfl : drawX _ _ _) | simp -dsimp (maxSteps := 20000000) (disch := omega) only [simx, zzC, zzB, tys, ite_self, opnL, callB, callX, readsB, stepOp, nilCmp, ofVal, opBuiltin, opLen, PV.sk, scalBin, scalUn, intBin, opLoad, natOf, opConvert, opField, cellsP, oneP, Value.oneCell', opStore, toIV, scalT, scalA, scalC, boxesA, boxesC, zipB_none, zipB_mx, isZ, opZip, zeroP, opAppendZ, opMakeMap, opLookup, mboxB, opUpdate, ↓reduceIte, Nat.reduceSub, Nat.reduceEqDiff, Nat.reduceAdd, Nat.reduceMul, Nat.reduceLT, Nat.reduceLeDiff, Int.reduceToNat, Int.reduceLE, Int.reduceLT, Int.reduceNeg, reduceCtorEq, gos, Int.reduceAdd, Int.reduceSub, Int.reduceMul, Int.reduceEq, cj, g1, ivl, e1, e3, e2])
          refine ⟨cj, (fgt_nil), ⟨?_, rfl⟩, drop_nil _⟩
          rw [sg]
        · rw [if_neg c] at sg
          have e3 : ¬ ((r.length % 2 : Nat) : Int) = 0 := by omega
          repeat (first | refine X_opc rfl ?_ | refine X_dopc rfl ?_ | refine ⟨(by show drawK _ _ = true; kernel_rfl : drawX _ _ _), ?_⟩ | exact (by show drawK _ _ = true; kernel_rfl : drawX _ _ _) | simp -dsimp (maxSteps := 20000000) (disch := omega) only [simx, zzC, zzB, tys, ite_self, opnL, callB, callX, readsB, stepOp, nilCmp, ofVal, opBuiltin, opLen, PV.sk, scalBin, scalUn, intBin, opLoad, natOf, opConvert, opField, cellsP, oneP, Value.oneCell', opStore, toIV, scalT, scalA, scalC, boxesA, boxesC, zipB_none, zipB_mx, isZ, opZip, zeroP, opAppendZ, opMakeMap, opLookup, mboxB, opUpdate, ↓reduceIte, Nat.reduceSub, Nat.reduceEqDiff, Nat.reduceAdd, Nat.reduceMul, Nat.reduceLT, Nat.reduceLeDiff, Int.reduceToNat, Int.reduceLE, Int.reduceLT, Int.reduceNeg, reduceCtorEq, gos, Int.reduceAdd, Int.reduceSub, Int.reduceMul, Int.reduceEq, cj, g1, ivl, e1, e3])
          refine ⟨cj, (fgt_nil), ⟨?_, rfl⟩, drop_nil _⟩
          rw [sg]
      · have hj : j = x.length := by omega
        subst hj
        repeat (first | refine X_opc rfl ?_ | refine X_dopc rfl ?_ | refine ⟨(by show drawK _ _ = true; kernel_rfl : drawX _ _ _), ?_⟩ | exact (by show drawK _ _ = true; kernel_rfl : drawX _ _ _) | simp -dsimp (maxSteps := 20000000) (disch := omega) only [simx, zzC, zzB, tys, ite_self, opnL, callB, callX, readsB, stepOp, nilCmp, ofVal, opBuiltin, opLen, PV.sk, scalBin, scalUn, intBin, opLoad, natOf, opConvert, opField, cellsP, oneP, Value.oneCell', opStore, toIV, scalT, scalA, scalC, boxesA, boxesC, zipB_none, zipB_mx, isZ, opZip, zeroP, opAppendZ, opMakeMap, opLookup, mboxB, opUpdate, ↓reduceIte, Nat.reduceSub, Nat.reduceEqDiff, Nat.reduceAdd, Nat.reduceMul, Nat.reduceLT, Nat.reduceLeDiff, Int.reduceToNat, Int.reduceLE, Int.reduceLT, Int.reduceNeg, reduceCtorEq, zzR, gos, Int.reduceAdd, Int.reduceSub, Int.reduceMul, Int.reduceEq])
end Go.Proofs.Ythnfphgjfpcpbaa.TM
namespace Go.Proofs.Ythnfphgjfpcpbaa.TM
open Go Go.RowKit
def nx (l : List Int) (a : Int) : Int := l.getD a.toNat 0
theorem itn_nx (l : List Int) (a : Int) (k : Nat) : itn l a (k + 1) = nx l (itn l a k) := rfl
theorem nx_inj {l : List Int} (o : Ord l) {a b : Int} (ha : 0 ≤ a ∧ a < l.length) (hb : 0 ≤ b ∧ b < l.length) (h : nx l a = nx l b) : a = b := by
  have h1 : a.toNat < l.length := by omega
  have h2 : b.toNat < l.length := by omega
  unfold nx at h
  rw [List.getD_eq_getElem?_getD, List.getD_eq_getElem?_getD, List.getElem?_eq_getElem h1, List.getElem?_eq_getElem h2] at h
  simp only [Option.getD_some] at h
  have hp := List.pairwise_iff_getElem.1 o.nd
  rcases Nat.lt_trichotomy a.toNat b.toNat with c | c | c
  · exact absurd h (hp _ _ h1 h2 c)
  · omega
  · exact absurd h.symm (hp _ _ h2 h1 c)
def Cl (l s : List Int) : Prop := ∀ a : Int, 0 ≤ a → a < l.length → (a ∈ s ↔ nx l a ∈ s)
theorem orb_mem {l : List Int} {a x : Int} {k : Nat} : x ∈ orb l a k ↔ ∃ i, i < k ∧ itn l a i = x := by
  unfold orb
  rw [List.mem_map]
  constructor
  · rintro ⟨i, hi, e⟩; exact ⟨i, List.mem_range.1 hi, e⟩
  · rintro ⟨i, hi, e⟩; exact ⟨i, List.mem_range.2 hi, e⟩
theorem ring_back {l s : List Int} (o : Ord l) (hc : Cl l s) {J : Int} (h0 : 0 ≤ J) (h1 : J < l.length) (hJ : J ∉ s) {m : Nat} (n1 : itn l J m ∈ s ++ orb l J m) (n2 : ∀ i, i < m → itn l J i ∉ s ++ orb l J i) : 0 < m ∧ itn l J m = J := by
  have it := itn_in o h0 h1
  cases m with
  | zero =>
    rw [orb_zero, List.append_nil] at n1
    exact absurd n1 hJ
  | succ q =>
    refine ⟨by omega, ?_⟩
    have hq := n2 q (by omega)
    rcases List.mem_append.1 n1 with h | h
    · rw [itn_nx] at h
      exact absurd (List.mem_append.2 (.inl ((hc _ (it q).1 (it q).2).2 h))) hq
    · obtain ⟨i, hi, e⟩ := orb_mem.1 h
      cases i with
      | zero => exact e.symm
      | succ i =>
        rw [itn_nx, itn_nx] at e
        have := nx_inj o (it i) (it q) e
        exact absurd (List.mem_append.2 (.inr (orb_mem.2 ⟨i, by omega, this⟩))) hq
theorem cl_next {l s : List Int} (o : Ord l) (hc : Cl l s) {J : Int} (h0 : 0 ≤ J) (h1 : J < l.length) {m : Nat} (hm : 0 < m) (hb : itn l J m = J) : Cl l (s ++ orb l J m) := by
  have it := itn_in o h0 h1
  intro a a0 a1
  rw [List.mem_append, List.mem_append, hc a a0 a1]
  refine or_congr Iff.rfl ?_
  rw [orb_mem, orb_mem]
  constructor
  · rintro ⟨i, hi, rfl⟩
    by_cases c : i + 1 < m
    · exact ⟨i + 1, c, itn_nx _ _ _⟩
    · have : i + 1 = m := by omega
      refine ⟨0, hm, ?_⟩
      rw [← itn_nx, this, hb]; rfl
  · rintro ⟨i, hi, e⟩
    cases i with
    | zero =>
      obtain ⟨q, rfl⟩ : ∃ q, m = q + 1 := ⟨m - 1, by omega⟩
      refine ⟨q, by omega, ?_⟩
      refine nx_inj o (it q) ⟨a0, a1⟩ ?_
      rw [← itn_nx, hb, ← e]; rfl
    | succ i =>
      rw [itn_nx] at e
      exact ⟨i, by omega, nx_inj o (it i) ⟨a0, a1⟩ e⟩
end Go.Proofs.Ythnfphgjfpcpbaa.TM
namespace Go.Proofs.Ythnfphgjfpcpbaa.TM
open Go Go.RowKit
theorem sw_comm (a b : Nat) (f : Nat → Int) : sw a b f = sw b a f := by
  funext i
  unfold sw
  by_cases c1 : i = a
  · by_cases c2 : i = b
    · rw [if_pos c1, if_pos c2, ← c1, ← c2]
    · rw [if_pos c1, if_neg c2, if_pos c1]
  · by_cases c2 : i = b
    · rw [if_neg c1, if_pos c2, if_pos c2]
    · rw [if_neg c1, if_neg c2, if_neg c2, if_neg c1]
theorem sgnI_swap {a b n : Nat} {f : Nat → Int} (h : InjN f n) (ha : a < n) (hb : b < n) (hab : a ≠ b) : sgnI (sw a b f) n = - sgnI f n := by
  rcases Nat.lt_or_gt_of_ne hab with c | c
  · obtain ⟨d, rfl⟩ : ∃ d, b = a + 1 + d := ⟨b - (a + 1), by omega⟩
    exact sgnI_sw d a n f h hb
  · obtain ⟨d, rfl⟩ : ∃ d, a = b + 1 + d := ⟨a - (b + 1), by omega⟩
    rw [sw_comm]
    exact sgnI_sw d b n f h ha
def put1 (l s : List Int) : Nat → Int := fun i => if (i : Int) ∈ s then l.getD i 0 else i
def ringG (l s : List Int) (J : Int) (k : Nat) : Nat → Int := fun i => if (i : Int) ∈ s ++ orb l J k then l.getD i 0 else if (i : Int) = itn l J k then J else i
theorem put1_inj {l s : List Int} (o : Ord l) (hc : Cl l s) : InjN (put1 l s) l.length := by
  intro i j hi hj he
  unfold put1 at he
  have e1 : l.getD i 0 = nx l (i : Int) := rfl
  have e2 : l.getD j 0 = nx l (j : Int) := rfl
  by_cases c1 : (i : Int) ∈ s
  · by_cases c2 : (j : Int) ∈ s
    · rw [if_pos c1, if_pos c2, e1, e2] at he
      have := nx_inj o (a := (i : Int)) (b := (j : Int)) (by omega) (by omega) he
      omega
    · rw [if_pos c1, if_neg c2, e1] at he
      have := (hc (i : Int) (by omega) (by omega)).1 c1
      rw [he] at this
      exact absurd this c2
  · by_cases c2 : (j : Int) ∈ s
    · rw [if_neg c1, if_pos c2, e2] at he
      have := (hc (j : Int) (by omega) (by omega)).1 c2
      rw [← he] at this
      exact absurd this c1
    · rw [if_neg c1, if_neg c2] at he
      omega
theorem ringG_zero {l s : List Int} {J : Int} : ringG l s J 0 = put1 l s := by
  funext i
  unfold ringG put1
  rw [orb_zero, List.append_nil]
  by_cases c1 : (i : Int) ∈ s
  · rw [if_pos c1, if_pos c1]
  · rw [if_neg c1, if_neg c1]
    by_cases c2 : (i : Int) = itn l J 0
    · rw [if_pos c2, c2]; rfl
    · rw [if_neg c2]
theorem ringG_succ {l s : List Int} (o : Ord l) {J : Int} (h0 : 0 ≤ J) (h1 : J < l.length) {k : Nat} (n1 : itn l J k ∉ s ++ orb l J k) (n2 : itn l J (k + 1) ∉ s ++ orb l J (k + 1)) :
    ringG l s J (k + 1) = sw (itn l J k).toNat (itn l J (k + 1)).toNat (ringG l s J k) := by
  have it := itn_in o h0 h1
  have a0 := (it k).1
  have b0 := (it (k + 1)).1
  have n3 : itn l J (k + 1) ∉ s ++ orb l J k := fun h => n2 (by
    rw [orb_succ, ← List.append_assoc]; exact List.mem_append.2 (.inl h))
  have n4 : itn l J (k + 1) ≠ itn l J k := fun h => n2 (by
    rw [orb_succ, ← List.append_assoc]; exact List.mem_append.2 (.inr (by simp [h])))
  have mem : ∀ x : Int, x ∈ s ++ orb l J (k + 1) ↔ x ∈ s ++ orb l J k ∨ x = itn l J k := fun x => by
    rw [orb_succ, ← List.append_assoc, List.mem_append, List.mem_singleton]
  funext i
  by_cases c1 : (i : Int) = itn l J k
  · have hi : i = (itn l J k).toNat := by omega
    have hb : ((itn l J (k + 1)).toNat : Int) = itn l J (k + 1) := by omega
    rw [← hi, sw_a]
    unfold ringG
    rw [if_pos ((mem _).2 (.inr c1)), hb, if_neg n3, if_neg n4, itn_nx, nx, ← hi]
  · by_cases c2 : (i : Int) = itn l J (k + 1)
    · have hi : i = (itn l J (k + 1)).toNat := by omega
      have ha : ((itn l J k).toNat : Int) = itn l J k := by omega
      rw [← hi, sw_b]
      unfold ringG
      rw [ha, if_neg n1, if_pos rfl, c2, if_neg n2, if_pos rfl]
    · rw [sw_o _ (by omega) (by omega)]
      unfold ringG
      rw [if_neg c1, if_neg c2]
      by_cases c3 : (i : Int) ∈ s ++ orb l J k
      · rw [if_pos c3, if_pos ((mem _).2 (.inl c3))]
      · rw [if_neg c3, if_neg fun h => ((mem _).1 h).elim c3 c1]
theorem ringG_last {l s : List Int} {J : Int} (h0 : 0 ≤ J) {q : Nat} (hq : 0 ≤ itn l J q) (hb : itn l J (q + 1) = J) : ringG l s J q = put1 l (s ++ orb l J (q + 1)) := by
  funext i
  unfold ringG put1
  have mem : ∀ x : Int, x ∈ s ++ orb l J (q + 1) ↔ x ∈ s ++ orb l J q ∨ x = itn l J q := fun x => by
    rw [orb_succ, ← List.append_assoc, List.mem_append, List.mem_singleton]
  by_cases c1 : (i : Int) ∈ s ++ orb l J q
  · rw [if_pos c1, if_pos ((mem _).2 (.inl c1))]
  · by_cases c2 : (i : Int) = itn l J q
    · rw [if_neg c1, if_pos c2, if_pos ((mem _).2 (.inr c2)), ← hb, itn_nx, nx, ← c2]; rfl
    · rw [if_neg c1, if_neg c2, if_neg fun h => ((mem _).1 h).elim c1 c2]
def alt : Nat → Int
  | 0 => 1
  | k + 1 => - alt k
theorem ringG_sgn {l s : List Int} (o : Ord l) (hc : Cl l s) {J : Int} (h0 : 0 ≤ J) (h1 : J < l.length) : ∀ k, (∀ i, i ≤ k → itn l J i ∉ s ++ orb l J i) →
    InjN (ringG l s J k) l.length ∧ sgnI (ringG l s J k) l.length = alt k * sgnI (put1 l s) l.length
  | 0, _ => by rw [ringG_zero]; exact ⟨put1_inj o hc, by simp [alt]⟩
  | k + 1, h => by
    have it := itn_in o h0 h1
    obtain ⟨i1, i2⟩ := ringG_sgn o hc h0 h1 k fun i hi => h i (by omega)
    have a := it k
    have b := it (k + 1)
    have n4 : itn l J (k + 1) ≠ itn l J k := fun e => h (k + 1) (Nat.le_refl _) (by
      rw [orb_succ, ← List.append_assoc]; exact List.mem_append.2 (.inr (by simp [e])))
    rw [ringG_succ o h0 h1 (h k (by omega)) (h (k + 1) (Nat.le_refl _))]
    refine ⟨i1.sw (by omega) (by omega), ?_⟩
    rw [sgnI_swap i1 (by omega) (by omega) (by omega), i2, alt, Int.neg_mul]
end Go.Proofs.Ythnfphgjfpcpbaa.TM
namespace Go.Proofs.Ythnfphgjfpcpbaa.TM
open Go Go.RowKit
theorem sgnP_app (x y : List (List Int)) : ∀ k, k ≤ x.length → sgnP (x ++ y) k = sgnP x k
  | 0, _ => rfl
  | k + 1, h => by
    rw [sgnP, sgnP, sgnP_app x y k (by omega), List.getD_eq_getElem?_getD, List.getElem?_append_left (by omega), ← List.getD_eq_getElem?_getD]
theorem alt_eq : ∀ q, alt q = if (q + 1) % 2 = 0 then -1 else 1
  | 0 => rfl
  | q + 1 => by
    rw [alt, alt_eq q]
    by_cases c : (q + 1) % 2 = 0
    · rw [if_pos c, if_neg (by omega)]; rfl
    · rw [if_neg c, if_pos (by omega)]
theorem rgs_sgn {l : List Int} (o : Ord l) : ∀ j, j ≤ l.length → Cl l (rgs l j).2 ∧ (∀ i : Nat, i < j → (i : Int) ∈ (rgs l j).2) ∧ sgnP (rgs l j).1 (rgs l j).1.length = sgnI (put1 l (rgs l j).2) l.length
  | 0, _ => ⟨fun a _ _ => by simp [rgs], fun i hi => by omega, by
      rw [sgnI_congr (f := put1 l (rgs l 0).2) (g := fun i => (i : Int)) (fun i _ => by simp [put1, rgs]), sgnI_id]; rfl⟩
  | j + 1, hj => by
    obtain ⟨h1, h2, h3⟩ := rgs_sgn o j (by omega)
    rw [rgs]
    generalize rgs l j = p at h1 h2 h3 ⊢
    obtain ⟨out, s⟩ := p
    simp only at h1 h2 h3 ⊢
    by_cases c : (j : Int) ∈ s
    · rw [if_pos c]
      refine ⟨h1, fun i hi => ?_, h3⟩
      by_cases e : i = j
      · subst e; exact c
      · exact h2 i (by omega)
    · rw [if_neg c]
      have j0 : (0 : Int) ≤ j := by omega
      have j1 : (j : Int) < l.length := by omega
      obtain ⟨n1, n2, n3⟩ := ringN_spec o s j0 j1
      generalize ringN l s j = m at n1 n2 n3 ⊢
      obtain ⟨m0, mb⟩ := ring_back o h1 j0 j1 c n1 n2
      obtain ⟨q, rfl⟩ : ∃ q, m = q + 1 := ⟨m - 1, by omega⟩
      have cl := cl_next o h1 j0 j1 m0 mb
      refine ⟨cl, fun i hi => ?_, ?_⟩
      · by_cases e : i = j
        · subst e; exact List.mem_append.2 (.inr (orb_mem.2 ⟨0, by omega, rfl⟩))
        · exact List.mem_append.2 (.inl (h2 i (by omega)))
      · have g := (ringG_sgn o h1 j0 j1 q fun i hi => n2 i (by omega)).2
        rw [ringG_last j0 (itn_in o j0 j1 q).1 mb] at g
        rw [g, List.length_append, List.length_singleton, sgnP, sgnP_app _ _ _ (Nat.le_refl _), h3, List.getD_eq_getElem?_getD, List.getElem?_append_right (Nat.le_refl _), Nat.sub_self]
        simp only [List.getElem?_cons_zero, Option.getD_some, orb_len]
        rw [alt_eq]
        by_cases e : (q + 1) % 2 = 0
        · rw [if_pos e, if_pos e]; omega
        · rw [if_neg e, if_neg e]; omega
def fnI (l : List Int) : Nat → Int := fun i => l.getD i 0
theorem sgnR_eq {l : List Int} (o : Ord l) : sgnR l = sgnI (fnI l) l.length := by
  obtain ⟨_, h2, h3⟩ := rgs_sgn o l.length (Nat.le_refl _)
  unfold sgnR ringsI
  rw [h3]
  exact sgnI_congr fun i hi => by unfold put1; rw [if_pos (h2 i hi)]; rfl
end Go.Proofs.Ythnfphgjfpcpbaa.TM
namespace Go.Proofs.Ythnfphgjfpcpbaa.TM
open Go Go.RowKit
theorem ord_tbl {n : Nat} {f : Nat → Int} (h1 : 1 ≤ n) (h2 : n ≤ 64) (hi : InjN f n) (hr : InN f n) : Ord (tbl n f) := by
  refine ⟨by rw [tbl_len]; exact h1, by rw [tbl_len]; exact h2, fun a ha => ?_, tbl_nodup hi⟩
  obtain ⟨i, hlt, rfl⟩ := tbl_mem ha
  rw [tbl_len]
  exact hr i hlt
theorem sgn_tbl {n : Nat} {f : Nat → Int} (o : Ord (tbl n f)) : sgnR (tbl n f) = sgnI f n := by
  rw [sgnR_eq o, tbl_len]
  exact sgnI_congr fun i hi => tbl_getD f hi
theorem sgnI_one (f : Nat → Int) : ∀ n, sgnI f n = 1 ∨ sgnI f n = -1
  | 0 => .inl rfl
  | n + 1 => by
    have key : ∀ (y : Int) (k : Nat), colP f y k = 1 ∨ colP f y k = -1 := fun y k => by
      induction k with
      | zero => exact .inl rfl
      | succ k ih =>
        rw [colP, eps]
        rcases ih with h | h <;> rw [h] <;> split <;> simp
    rw [sgnI]
    rcases sgnI_one f n with h | h <;> rcases key (f n) n with e | e <;> rw [h, e] <;> simp
end Go.Proofs.Ythnfphgjfpcpbaa.TM
namespace Go.Proofs.Ythnfphgjfpcpbaa.TM
open Go Go.RowKit
def idX : Mx := fun i j => if j = i then 1 else 0
def pmX (f : Nat → Int) : Mx := fun i j => if (j : Int) = f i then 1 else 0
def prodN : Nat → (Nat → Int) → Int
  | 0, _ => 1
  | n + 1, f => prodN n f * f n
theorem em_refl {p a : Int} : a % p % p = a % p := Int.emod_emod_of_dvd _ (Int.dvd_refl _)
theorem Alt.perm {p : Int} {n : Nat} {F : Mx → Int} (H : Alt p n F) : ∀ (m : Nat) (f : Nat → Int), m ≤ n → InjN f n → InN f n → (∀ i, m ≤ i → i < n → f i = i) → F (pmX f) % p = sgnI f n * F idX % p
  | 0, f, _, _, _, hf => by
    rw [sgnI_congr (g := fun i => (i : Int)) fun i hi => hf i (Nat.zero_le _) hi, sgnI_id, Int.one_mul]
    refine H.cg _ _ fun i j hi hj => ?_
    unfold pmX idX
    rw [hf i (Nat.zero_le _) hi]
    by_cases e : j = i
    · rw [if_pos (by omega), if_pos e]
    · rw [if_neg (by omega), if_neg e]
  | m + 1, f, hm, hi, hr, hf => by
    obtain ⟨i0, h0, h1⟩ := surjN hi hr m (by omega)
    by_cases e : i0 = m
    · subst e
      exact Alt.perm H i0 f (by omega) hi hr fun i a b => by
        by_cases c : i = i0
        · subst c; exact h1
        · exact hf i (by omega) b
    · have hlt : i0 < m := by
        rcases Nat.lt_or_ge i0 (m + 1) with c | c
        · omega
        · have := hf i0 c h0; omega
      have ih := Alt.perm H m (sw i0 m f) (by omega) (hi.sw h0 (by omega)) (sw_in hr h0 (by omega)) fun i a b => by
        by_cases c : i = m
        · subst c; rw [sw_b]; exact h1
        · rw [sw_o _ (by omega) c]; exact hf i (by omega) b
      have e2 : pmX (sw i0 m f) = swp (pmX f) i0 m := by
        funext a b
        unfold pmX swp sw
        by_cases c : a = i0
        · simp [c]
        · by_cases d : a = m
          · subst d; simp only [c, if_false, if_true]
          · simp [c, d]
      rw [e2, H.swap h0 (by omega) e, sgnI_swap hi h0 (by omega) e, Int.neg_mul] at ih
      have h9 : (0 - - F (pmX f)) % p = (0 - - (sgnI f n * F idX)) % p := em_sub rfl ih
      rw [Int.zero_sub, Int.neg_neg, Int.zero_sub, Int.neg_neg] at h9
      exact h9
def hdX (m : Nat) (A B : Mx) : Mx := fun i => if i < m then A i else B i
theorem hdX_lt {m i : Nat} (h : i < m) (A B : Mx) : hdX m A B i = A i := if_pos h
theorem hdX_ge {m i : Nat} (h : ¬ i < m) (A B : Mx) : hdX m A B i = B i := if_neg h
theorem hdX_zero (A B : Mx) : hdX 0 A B = B := by funext i; exact hdX_ge (by omega) A B
theorem hdX_upd (m : Nat) (A B : Mx) : updr (hdX m A B) m (A m) = hdX (m + 1) A B := by
  funext i j
  unfold updr
  by_cases a : i = m
  · subst a; rw [if_pos rfl, hdX_lt (by omega)]
  · rw [if_neg a]
    by_cases b : i < m
    · rw [hdX_lt b, hdX_lt (by omega)]
    · rw [hdX_ge b, hdX_ge (by omega)]
theorem hdX_upd' (m : Nat) (A B : Mx) : updr (hdX m A B) m (B m) = hdX m A B := by
  funext i j
  unfold updr
  by_cases a : i = m
  · subst a; rw [if_pos rfl, hdX_ge (by omega)]
  · rw [if_neg a]
section
variable {P n r : Nat} {A : Mx} {rw cw : Nat → Nat} {c u : Mx} {F : Mx → Int}
def rstX (r : Nat) (rw : Nat → Nat) (u : Mx) : Mx := fun i j => sumN r (fun k => if rw k = i then u k j else 0)
theorem rstX_at (h : ∀ j k, j < k → k < r → rw j < rw k) {k : Nat} (hk : k < r) (j : Nat) : rstX r rw u (rw k) j = u k j := by
  unfold rstX
  rw [← sumN_one (fun m => u m j) hk]
  refine sumN_congr fun m hm => ?_
  by_cases e : m = k
  · subst e; rw [if_pos rfl, if_pos rfl]
  · rw [if_neg e, if_neg]
    intro he
    rcases Nat.lt_or_ge m k with a | a
    · have := h m k a hk; omega
    · have := h k m (by omega) hm; omega
theorem Cp.alt_rest (hA : Alt P n F) (H : Cp P n n r A rw cw c u) : F A % P = F (rstX r rw u) % P := by
  have key : ∀ m, m ≤ n → F A % P = F (hdX m (rstX r rw u) A) % P := by
    intro m
    induction m with
    | zero => intro _; rw [hdX_zero]
    | succ m ih =>
      intro hm
      rw [ih (by omega)]
      have h1 := hA.comb (hdX m (rstX r rw u) A) (i := m) (by omega) rw (fun k => if rw k < m then c m k else 0) (rstX r rw u m) r (fun k hk => by
        by_cases e : rw k < m
        · right; exact ⟨H.rlt k hk, by omega⟩
        · left; exact if_neg e)
      rw [hdX_upd] at h1
      rw [← h1]
      refine hA.cg _ _ fun i j hi hj => ?_
      unfold updr
      by_cases a : i = m
      · subst a
        rw [hdX_ge (by omega), if_pos rfl, H.made i hi j hj]
        have e0 : rstX r rw u i j = sumN r (fun k => if rw k = i then u k j else 0) := rfl
        (try dsimp only)
        rw [e0, ← sumN_add]
        refine sumN_mod fun k hk => ?_
        rcases Nat.lt_trichotomy (rw k) i with e | e | e
        · rw [if_neg (by omega), if_pos e, hdX_lt e, rstX_at H.rinc hk j, Int.zero_add]
        · rw [if_pos e, if_neg (by omega), Int.zero_mul, Int.add_zero]
          have h1 := H.c1 k hk
          rw [e] at h1
          rw [Int.mul_emod, h1, Int.one_mul, em_refl]
        · rw [if_neg (by omega), if_neg (by omega), Int.zero_mul, Int.add_zero]
          have h1 := H.cz k hk i e
          rw [em_z h1]; rfl
      · rw [if_neg a]
  rw [key n (Nat.le_refl n)]
  refine hA.cg _ _ fun i j hi hj => ?_
  rw [hdX_lt hi]
theorem Cp.alt_zero (hA : Alt P n F) (H : Cp P n n r A rw cw c u) (hr : r < n) : F A % P = 0 := by
  rw [H.alt_rest hA]
  have : ∃ i, i < n ∧ ∀ k, k < r → rw k ≠ i := by
    refine Classical.byContradiction fun hn => ?_
    have hs : ∀ i, i < n → ∃ k, k < r ∧ rw k = i := fun i hi => Classical.byContradiction fun h => hn ⟨i, hi, fun k hk e => h ⟨k, hk, e⟩⟩
    have := pigeon r n (fun i => if h : ∃ k, k < r ∧ rw k = i then Classical.choose h else 0) (fun i hi => by
      simp only [dif_pos (hs i hi)]; exact (Classical.choose_spec (hs i hi)).1) (fun i j hij hj he => by
      simp only [dif_pos (hs i (by omega)), dif_pos (hs j hj)] at he
      have h1 := (Classical.choose_spec (hs i (by omega))).2
      have h2 := (Classical.choose_spec (hs j hj)).2
      rw [he, h2] at h1; omega)
    omega
  obtain ⟨i, hi, h⟩ := this
  rw [hA.zero _ hi fun j => sumN_z fun k hk => if_neg (h k hk)]; rfl
theorem incr_id {rw : Nat → Nat} (h : ∀ j k, j < k → k < n → rw j < rw k) (hl : ∀ k, k < n → rw k < n) : ∀ k, k < n → rw k = k := by
  have lo : ∀ k, k < n → k ≤ rw k := by
    intro k
    induction k with
    | zero => exact fun _ => Nat.zero_le _
    | succ k ih => intro hk; have := ih (by omega); have := h k (k + 1) (by omega) hk; omega
  have hi : ∀ d k, k + d + 1 = n → rw k ≤ k := by
    intro d
    induction d with
    | zero => intro k hk; have := hl k (by omega); omega
    | succ d ih => intro k hk; have := ih (k + 1) (by omega); have := h k (k + 1) (by omega) (by omega); omega
  intro k hk
  exact Nat.le_antisymm (hi (n - k - 1) k (by omega)) (lo k hk)
theorem Cp.alt_full (hA : Alt P n F) (H : Cp P n n n A rw cw c u) : F A % P = prodN n (fun k => u k (cw k)) * F (pmX (fun k => (cw k : Int))) % P := by
  have rid := incr_id H.rinc H.rlt
  have e0 : F A % P = F u % P := by
    rw [H.alt_rest hA]
    refine hA.cg _ _ fun i j hi hj => ?_
    have := rstX_at (u := u) H.rinc hi j
    rw [rid i hi] at this
    rw [this]
  rw [e0]
  have inj : InjN (fun k => (cw k : Int)) n := fun i j hi hj he => H.cdis hi hj (by (try dsimp only at he); omega)
  have inn : InN (fun k => (cw k : Int)) n := fun i hi => ⟨by (try dsimp only); omega, by have := H.clt i hi; (try dsimp only); omega⟩
  have surj : ∀ j, j < n → ∃ k, k < n ∧ cw k = j := fun j hj => by
    obtain ⟨i, h1, h2⟩ := surjN inj inn j hj
    exact ⟨i, h1, by omega⟩
  have p1 : ∀ k, pmX (fun k => (cw k : Int)) k (cw k) = 1 := fun k => if_pos rfl
  have p0 : ∀ k q, k < n → q < n → k ≠ q → pmX (fun k => (cw k : Int)) k (cw q) = 0 := fun k q hk hq hn => if_neg fun h => hn (H.cdis hk hq (by simp only at h; omega))
  generalize hG : pmX (fun k => (cw k : Int)) = G at p1 p0 ⊢
  have key : ∀ m, m ≤ n → F (hdX m u G) % P = prodN m (fun k => u k (cw k)) * F G % P := by
    intro m
    induction m with
    | zero => intro _; rw [hdX_zero, prodN, Int.one_mul]
    | succ m ih =>
      intro hm
      have e1 : F (hdX (m + 1) u G) % P = F (updr (hdX m u G) m (fun j => u m (cw m) * G m j + sumN n (fun k => (if m < k then u m (cw k) else 0) * hdX m u G k j))) % P := by
        refine hA.cg _ _ fun i j hi hj => ?_
        unfold updr
        by_cases a : i = m
        · subst a
          rw [hdX_lt (by omega), if_pos rfl]
          obtain ⟨q, hq, rfl⟩ := surj j hj
          have zk : ∀ k, k < n → k ≠ q → (if i < k then u i (cw k) else 0) * hdX i u G k (cw q) = 0 := fun k hk hkq => by
            by_cases f : i < k
            · rw [hdX_ge (by omega), p0 k q hk hq hkq, Int.mul_zero]
            · rw [if_neg f, Int.zero_mul]
          have zs : sumN n (fun k => (if i < k then u i (cw k) else 0) * hdX i u G k (cw q)) = (if i < q then u i (cw q) else 0) * hdX i u G q (cw q) := by
            rw [← sumN_one (fun k => (if i < k then u i (cw k) else 0) * hdX i u G k (cw q)) hq]
            refine sumN_congr fun k hk => ?_
            by_cases g : k = q
            · rw [if_pos g]
            · rw [if_neg g, zk k hk g]
          (try dsimp only)
          rw [zs]
          rcases Nat.lt_trichotomy q i with e | e | e
          · rw [if_neg (by omega), p0 i q hi hq (by omega), Int.mul_zero, Int.zero_mul, H.uz q i e hi]; rfl
          · subst e
            rw [if_neg (by omega), p1, Int.mul_one, Int.zero_mul, Int.add_zero]
          · rw [if_pos e, hdX_ge (by omega), p1, p0 i q hi hq (by omega), Int.mul_one, Int.mul_zero, Int.zero_add]
        · rw [if_neg a]
          by_cases b : i < m
          · rw [hdX_lt b, hdX_lt (by omega)]
          · rw [hdX_ge b, hdX_ge (by omega)]
      rw [e1, hA.comb _ (by omega) (fun k => k) (fun k => if m < k then u m (cw k) else 0) _ n (fun k hk => by
        by_cases f : m < k
        · right; exact ⟨hk, by omega⟩
        · left; exact if_neg f), hA.scale _ _ _ (by omega), hdX_upd', prodN, em_mul rfl (ih (by omega))]
      congr 1
      grind
  have := key n (Nat.le_refl n)
  rw [← this]
  exact hA.cg _ _ fun i j hi hj => by rw [hdX_lt hi]
def pdX (n r : Nat) (cw : Nat → Nat) (u : Mx) : Int := if r = n then prodN n (fun k => u k (cw k)) * sgnI (fun k => (cw k : Int)) n else 0
theorem Cp.rle {R C : Nat} (H : Cp P R C r A rw cw c u) : r ≤ R := by
  rcases Nat.eq_zero_or_pos r with h | h
  · omega
  · have lo : ∀ k, k < r → k ≤ rw k := by
      intro k
      induction k with
      | zero => exact fun _ => Nat.zero_le _
      | succ k ih => intro hk; have := ih (by omega); have := H.rinc k (k + 1) (by omega) hk; omega
    have := lo (r - 1) (by omega)
    have := H.rlt (r - 1) (by omega)
    omega
theorem Cp.det (hA : Alt P n F) (H : Cp P n n r A rw cw c u) : F A % P = pdX n r cw u * F idX % P := by
  unfold pdX
  by_cases h : r = n
  · subst h
    rw [if_pos rfl, H.alt_full hA, em_mul rfl (hA.perm r (fun k => (cw k : Int)) (Nat.le_refl _) (fun i j hi hj he => H.cdis hi hj (by (try dsimp only at he); omega)) (fun i hi => ⟨by (try dsimp only); omega, by have := H.clt i hi; (try dsimp only); omega⟩) fun i a b => by omega), ← Int.mul_assoc]
  · have := H.rle
    rw [if_neg h, Int.zero_mul, H.alt_zero hA (by omega)]; rfl
end
end Go.Proofs.Ythnfphgjfpcpbaa.TM
namespace Go.Proofs.Ythnfphgjfpcpbaa.TM
open Go Go.RowKit
def Rk (P R C r : Nat) (A : Mx) : Prop := ∃ rw cw c u, Cp P R C r A rw cw c u
section
variable {P R C D S r s t : Nat} {A B : Mx}
theorem Cp.cong {rw cw : Nat → Nat} {c u : Mx} (H : Cp P R C r A rw cw c u) (h : ∀ i j, i < R → j < C → A i j % P = B i j % P) : Cp P R C r B rw cw c u :=
  ⟨H.rlt, H.rinc, H.clt, H.upiv, H.uz, H.uh, H.c1, H.cz, fun i hi j hj => by rw [← h i j hi hj]; exact H.made i hi j hj⟩
theorem rk_ex (hP : Prm P) (hp : Md P) (R C : Nat) (A : Mx) : ∃ r, Rk P R C r A := by
  have K := tkN_C (R := R) (C := C) (l := tbl (R * C) (fun q => A (q / C) (q % C) % P)) hP hp (tbl_len ..) (fun a ha => by
    obtain ⟨q, _, rfl⟩ := tbl_mem ha; exact in_emod hp _) R (Nat.le_refl R)
  refine ⟨_, _, _, _, _, K.H.cong fun i j hi hj => ?_⟩
  rw [cl_tbl _ hi hj, dc_div hj, dc_mod hj, em_refl]
theorem pow_le {P a b : Nat} (hP : Prm P) (h : P ^ a ≤ P ^ b) : a ≤ b := (Nat.pow_le_pow_iff_right hP.1).1 h
noncomputable def kB (P R C : Nat) (A : Mx) : Nat → Bool := fun n => by classical exact decide (∀ i, i < R → apX C A (vec P n) i % P = 0)
theorem kB_iff (n : Nat) : kB P R C A n = true ↔ ∀ i, i < R → apX C A (vec P n) i % P = 0 := by unfold kB; simp
theorem Rk.kc (hP : Prm P) (H : Rk P R C r A) : P ^ r * cntN (P ^ C) (kB P R C A) = P ^ C := by
  obtain ⟨_, _, _, _, H⟩ := H
  exact H.kcnt hP fun n _ => kB_iff n
theorem Rk.ker_le (hP : Prm P) (H : Rk P R C r A) (K : Rk P S C s B) (h : ∀ x : Nat → Int, (∀ i, i < R → apX C A x i % P = 0) → ∀ i, i < S → apX C B x i % P = 0) : s ≤ r := by
  have h1 := H.kc hP
  have h2 := K.kc hP
  have p0 : 0 < P := by have := hP.1; omega
  have h3 : cntN (P ^ C) (kB P R C A) ≤ cntN (P ^ C) (kB P S C B) := cnt_mono fun n _ hn => (kB_iff n).2 (h _ ((kB_iff n).1 hn))
  refine pow_le hP ?_
  have h4 : 0 < cntN (P ^ C) (kB P S C B) := by
    rcases Nat.eq_zero_or_pos (cntN (P ^ C) (kB P S C B)) with e | e
    · rw [e, Nat.mul_zero] at h2; have := Nat.pow_pos (n := C) p0; omega
    · exact e
  refine Nat.le_of_mul_le_mul_right ?_ h4
  exact Nat.le_trans (Nat.le_of_eq (h2.trans h1.symm)) (Nat.mul_le_mul_left _ h3)
theorem apX_mul (K C : Nat) (A B : Mx) (x : Nat → Int) (i : Nat) : apX C (mulX K A B) x i = apX K A (apX C B x) i := by
  unfold apX mulX
  rw [sumN_congr fun k _ => (sumN_mul C (A i k) (fun j => B k j * x j)).symm, sumN_swap]
  refine sumN_congr fun j _ => ?_
  rw [← sumN_mulr]
  exact sumN_congr fun k _ => by rw [Int.mul_assoc]
theorem apX_z {p : Int} {C : Nat} {A : Mx} {x : Nat → Int} (h : ∀ j, j < C → x j % p = 0) (i : Nat) : apX C A x i % p = 0 := sumN_0 fun j hj => em_z' (h j hj)
theorem Rk.mul_right (hP : Prm P) (K : Rk P S C s B) (M : Rk P R C t (mulX S A B)) : t ≤ s :=
  K.ker_le hP M fun x hx i _ => by rw [apX_mul]; exact apX_z hx i
end
section
variable {P n r : Nat} {A B : Mx} {rw cw : Nat → Nat} {c u : Mx}
theorem Lp_id : ∀ n, Lp n idX = 1
  | 0 => rfl
  | n + 1 => by
    rw [Lp_succ]
    have : sumN (n + 1) (fun k => sg k * idX 0 k * Lp n (mnr idX k)) = sumN (n + 1) (fun k => if k = 0 then (fun _ => (1 : Int)) k else 0) := sumN_congr fun k hk => by
      by_cases e : k = 0
      · subst e
        rw [if_pos rfl, sg_zero, show idX 0 0 = 1 from rfl]
        have : Lp n (mnr idX 0) = Lp n idX := Lp_congr n fun i j _ _ => by
          show (if skip 0 j = i + 1 then _ else _) = if j = i then _ else _
          rw [show skip 0 j = j + 1 from rfl]
          by_cases e : j = i
          · rw [if_pos (by omega), if_pos e]
          · rw [if_neg (by omega), if_neg e]
        rw [this, Lp_id n]; rfl
      · rw [if_neg e, show idX 0 k = 0 from if_neg e, Int.mul_zero, Int.zero_mul]
    rw [this, sumN_one _ (by omega)]
theorem Cp.lp (H : Cp P n n r A rw cw c u) : Lp n A % P = pdX n r cw u % P := by
  rw [H.det (Lp_alt P n), Lp_id, Int.mul_one]
theorem Lp_mulX (hP : Prm P) (hp : Md P) (n : Nat) (A B : Mx) : Lp n (mulX n A B) % P = Lp n A * Lp n B % P := by
  obtain ⟨r, _, _, _, _, H⟩ := rk_ex hP hp n n A
  have h1 := H.det (Lp_mul_alt P n B)
  have e : Lp n (mulX n idX B) = Lp n B := Lp_congr n fun i j hi hj => by
    unfold mulX
    rw [← sumN_one (fun k => B k j) hi]
    refine sumN_congr fun k _ => ?_
    unfold idX
    by_cases e : k = i
    · rw [if_pos e, if_pos e, Int.one_mul]
    · rw [if_neg e, if_neg e, Int.zero_mul]
  rw [e] at h1
  rw [h1]
  exact em_mul H.lp.symm rfl
end
end Go.Proofs.Ythnfphgjfpcpbaa.TM
namespace Go.Proofs.Ythnfphgjfpcpbaa.TM
open Go Go.RowKit
attribute [local irreducible] K W WOps Effs Xg Xo Xr Xdg Xdo Xdr Xif CallsP CallR
theorem nan_walk (x : Int) : CallsP Try.prog 139 [i64 x] (bl false) := by
  refine X_startP (n := 6) (m := 1) (rs := [.tmp 2]) Try.func139 rfl rfl rfl rfl (by decide) fun base => ?_
  repeat (first | refine X_opc rfl ?_ | refine X_dopc rfl ?_ | refine ⟨(by show drawK _ _ = true; kernel_rfl : drawX _ _ _), ?_⟩ | exact (by show drawK _ _ = true; kernel_rfl : drawX _ _ _) | simp -dsimp (maxSteps := 20000000) (disch := omega) only [simx, zzC, zzB, tys, ite_self, opnL, callB, callX, readsB, stepOp, nilCmp, ofVal, opBuiltin, opLen, PV.sk, scalBin, scalUn, intBin, opLoad, natOf, opConvert, opField, cellsP, oneP, Value.oneCell', opStore, toIV, scalT, scalA, scalC, boxesA, boxesC, zipB_none, zipB_mx, isZ, opZip, zeroP, opAppendZ, opMakeMap, opLookup, mboxB, opUpdate, ↓reduceIte, Nat.reduceSub, Nat.reduceEqDiff, Nat.reduceAdd, Nat.reduceMul, Nat.reduceLT, Nat.reduceLeDiff, Int.reduceToNat, Int.reduceLE, Int.reduceLT, Int.reduceNeg, reduceCtorEq, zzR, gos, Int.reduceAdd, Int.reduceSub, Int.reduceMul, Int.reduceEq])
theorem less_walk (x y : Int) : CallsP Try.prog 126 [i64 x, i64 y] (bl (decide (x < y))) := by
  have q1 := nan_walk x
  have q2 := nan_walk y
  by_cases c : x < y
  · rw [decide_eq_true c]
    refine X_startP (n := 17) (m := 2) (rs := [.tmp 4]) Try.func126 rfl rfl rfl rfl (by decide) fun base => ?_
    repeat (first | ((first | refine X_call_fn2 rfl (by simp only [tys]) ?_ | refine X_dcall_fn2 rfl (by simp only [tys]) ?_); apply Exists.intro; apply And.intro; (focus (simp -dsimp only [simx, zzC, zzB, tys, ite_self, opnL, callB, callX, readsB, stepOp, nilCmp, ofVal, opBuiltin, opLen, PV.sk, scalBin, scalUn, intBin, opLoad, natOf, opConvert, opField, cellsP, oneP, Value.oneCell', opStore, toIV, scalT, scalA, scalC, boxesA, boxesC, zipB_none, zipB_mx, isZ, opZip, zeroP, opAppendZ, opMakeMap, opLookup, mboxB, opUpdate, ↓reduceIte, Nat.reduceSub, Nat.reduceEqDiff, Nat.reduceAdd, Nat.reduceMul, Nat.reduceLT, Nat.reduceLeDiff, Int.reduceToNat, Int.reduceLE, Int.reduceLT, Int.reduceNeg, reduceCtorEq, zzL, if_true, if_false] <;> rfl)); apply Exists.intro; apply And.intro; (focus (first | exact q1 | exact q2))) | refine X_opc rfl ?_ | refine X_dopc rfl ?_ | refine ⟨(by show drawK _ _ = true; kernel_rfl : drawX _ _ _), ?_⟩ | exact (by show drawK _ _ = true; kernel_rfl : drawX _ _ _) | simp -dsimp (maxSteps := 20000000) (disch := omega) only [simx, zzC, zzB, tys, ite_self, opnL, callB, callX, readsB, stepOp, nilCmp, ofVal, opBuiltin, opLen, PV.sk, scalBin, scalUn, intBin, opLoad, natOf, opConvert, opField, cellsP, oneP, Value.oneCell', opStore, toIV, scalT, scalA, scalC, boxesA, boxesC, zipB_none, zipB_mx, isZ, opZip, zeroP, opAppendZ, opMakeMap, opLookup, mboxB, opUpdate, ↓reduceIte, Nat.reduceSub, Nat.reduceEqDiff, Nat.reduceAdd, Nat.reduceMul, Nat.reduceLT, Nat.reduceLeDiff, Int.reduceToNat, Int.reduceLE, Int.reduceLT, Int.reduceNeg, reduceCtorEq, zzR, gos, Int.reduceAdd, Int.reduceSub, Int.reduceMul, Int.reduceEq])
  · rw [decide_eq_false c]
    refine X_startP (n := 17) (m := 2) (rs := [.tmp 4]) Try.func126 rfl rfl rfl rfl (by decide) fun base => ?_
    repeat (first | ((first | refine X_call_fn2 rfl (by simp only [tys]) ?_ | refine X_dcall_fn2 rfl (by simp only [tys]) ?_); apply Exists.intro; apply And.intro; (focus (simp -dsimp only [simx, zzC, zzB, tys, ite_self, opnL, callB, callX, readsB, stepOp, nilCmp, ofVal, opBuiltin, opLen, PV.sk, scalBin, scalUn, intBin, opLoad, natOf, opConvert, opField, cellsP, oneP, Value.oneCell', opStore, toIV, scalT, scalA, scalC, boxesA, boxesC, zipB_none, zipB_mx, isZ, opZip, zeroP, opAppendZ, opMakeMap, opLookup, mboxB, opUpdate, ↓reduceIte, Nat.reduceSub, Nat.reduceEqDiff, Nat.reduceAdd, Nat.reduceMul, Nat.reduceLT, Nat.reduceLeDiff, Int.reduceToNat, Int.reduceLE, Int.reduceLT, Int.reduceNeg, reduceCtorEq, zzL, if_true, if_false] <;> rfl)); apply Exists.intro; apply And.intro; (focus (first | exact q1 | exact q2))) | refine X_opc rfl ?_ | refine X_dopc rfl ?_ | refine ⟨(by show drawK _ _ = true; kernel_rfl : drawX _ _ _), ?_⟩ | exact (by show drawK _ _ = true; kernel_rfl : drawX _ _ _) | simp -dsimp (maxSteps := 20000000) (disch := omega) only [simx, zzC, zzB, tys, ite_self, opnL, callB, callX, readsB, stepOp, nilCmp, ofVal, opBuiltin, opLen, PV.sk, scalBin, scalUn, intBin, opLoad, natOf, opConvert, opField, cellsP, oneP, Value.oneCell', opStore, toIV, scalT, scalA, scalC, boxesA, boxesC, zipB_none, zipB_mx, isZ, opZip, zeroP, opAppendZ, opMakeMap, opLookup, mboxB, opUpdate, ↓reduceIte, Nat.reduceSub, Nat.reduceEqDiff, Nat.reduceAdd, Nat.reduceMul, Nat.reduceLT, Nat.reduceLeDiff, Int.reduceToNat, Int.reduceLE, Int.reduceLT, Int.reduceNeg, reduceCtorEq, zzR, gos, Int.reduceAdd, Int.reduceSub, Int.reduceMul, Int.reduceEq])
theorem dropE {α : Type} {l : List α} {j : Nat} (h : j < l.length) : l.drop j = l[j] :: l.drop (j + 1) := List.drop_eq_getElem_cons h
def risF : Int → List Int → Int → Bool
  | _, [], _ => true
  | last, c :: l, most => if c ≤ last ∨ most ≤ c then false else risF c l most
end Go.Proofs.Ythnfphgjfpcpbaa.TM
namespace Go.Proofs.Ythnfphgjfpcpbaa.TM
open Go Go.RowKit
attribute [local irreducible] K W WOps Effs Xg Xo Xr Xdg Xdo Xdr Xif CallsP CallR
theorem within1_walk {b base : Name} {h : Heap} {most x : Int} (hb : h b = some (.var [i64 most])) : CallR Try.prog base 132 [i64 x, .ref b 0 1] h (bl (decide (x < 0) || decide (most ≤ x))) h := by
  by_cases c1 : x < 0
  · rw [decide_eq_true c1]
    refine X_startR (n := 11) (m := 2) (rs := [.tmp 3]) Try.func132 rfl rfl rfl rfl (by decide) ?_
    repeat (first | refine X_opc rfl ?_ | refine X_dopc rfl ?_ | refine ⟨(by show drawK _ _ = true; kernel_rfl : drawX _ _ _), ?_⟩ | exact (by show drawK _ _ = true; kernel_rfl : drawX _ _ _) | simp -dsimp (maxSteps := 20000000) (disch := omega) only [simx, zzC, zzB, tys, ite_self, opnL, callB, callX, readsB, stepOp, nilCmp, ofVal, opBuiltin, opLen, PV.sk, scalBin, scalUn, intBin, opLoad, natOf, opConvert, opField, cellsP, oneP, Value.oneCell', opStore, toIV, scalT, scalA, scalC, boxesA, boxesC, zipB_none, zipB_mx, isZ, opZip, zeroP, opAppendZ, opMakeMap, opLookup, mboxB, opUpdate, ↓reduceIte, Nat.reduceSub, Nat.reduceEqDiff, Nat.reduceAdd, Nat.reduceMul, Nat.reduceLT, Nat.reduceLeDiff, Int.reduceToNat, Int.reduceLE, Int.reduceLT, Int.reduceNeg, reduceCtorEq, zzR, gos, Int.reduceAdd, Int.reduceSub, Int.reduceMul, Int.reduceEq, hb])
  · rw [decide_eq_false c1]
    by_cases c2 : most ≤ x
    · rw [decide_eq_true c2]
      refine X_startR (n := 11) (m := 2) (rs := [.tmp 3]) Try.func132 rfl rfl rfl rfl (by decide) ?_
      repeat (first | refine X_opc rfl ?_ | refine X_dopc rfl ?_ | refine ⟨(by show drawK _ _ = true; kernel_rfl : drawX _ _ _), ?_⟩ | exact (by show drawK _ _ = true; kernel_rfl : drawX _ _ _) | simp -dsimp (maxSteps := 20000000) (disch := omega) only [simx, zzC, zzB, tys, ite_self, opnL, callB, callX, readsB, stepOp, nilCmp, ofVal, opBuiltin, opLen, PV.sk, scalBin, scalUn, intBin, opLoad, natOf, opConvert, opField, cellsP, oneP, Value.oneCell', opStore, toIV, scalT, scalA, scalC, boxesA, boxesC, zipB_none, zipB_mx, isZ, opZip, zeroP, opAppendZ, opMakeMap, opLookup, mboxB, opUpdate, ↓reduceIte, Nat.reduceSub, Nat.reduceEqDiff, Nat.reduceAdd, Nat.reduceMul, Nat.reduceLT, Nat.reduceLeDiff, Int.reduceToNat, Int.reduceLE, Int.reduceLT, Int.reduceNeg, reduceCtorEq, zzR, gos, Int.reduceAdd, Int.reduceSub, Int.reduceMul, Int.reduceEq, hb])
    · rw [decide_eq_false c2]
      refine X_startR (n := 11) (m := 2) (rs := [.tmp 3]) Try.func132 rfl rfl rfl rfl (by decide) ?_
      repeat (first | refine X_opc rfl ?_ | refine X_dopc rfl ?_ | refine ⟨(by show drawK _ _ = true; kernel_rfl : drawX _ _ _), ?_⟩ | exact (by show drawK _ _ = true; kernel_rfl : drawX _ _ _) | simp -dsimp (maxSteps := 20000000) (disch := omega) only [simx, zzC, zzB, tys, ite_self, opnL, callB, callX, readsB, stepOp, nilCmp, ofVal, opBuiltin, opLen, PV.sk, scalBin, scalUn, intBin, opLoad, natOf, opConvert, opField, cellsP, oneP, Value.oneCell', opStore, toIV, scalT, scalA, scalC, boxesA, boxesC, zipB_none, zipB_mx, isZ, opZip, zeroP, opAppendZ, opMakeMap, opLookup, mboxB, opUpdate, ↓reduceIte, Nat.reduceSub, Nat.reduceEqDiff, Nat.reduceAdd, Nat.reduceMul, Nat.reduceLT, Nat.reduceLeDiff, Int.reduceToNat, Int.reduceLE, Int.reduceLT, Int.reduceNeg, reduceCtorEq, zzR, gos, Int.reduceAdd, Int.reduceSub, Int.reduceMul, Int.reduceEq, hb])
def outF (most : Int) : List Int → Nat → Int
  | [], _ => -1
  | a :: l, k => if a < 0 ∨ most ≤ a then k else outF most l (k + 1)
theorem indexOut_walk {b base : Name} {h : Heap} {most : Int} {l : List Int} (hl : l.length ≤ maxLen) (hb : h b = some (.var [i64 most])) :
    CallR Try.prog base 140 [li l, .clo 132 [.ref b 0 1]] h (i64 (outF most l 0)) h := by
  rw [mx_len] at hl
  refine X_startR (n := 19) (m := 2) (rs := [.tmp 4]) Try.func140 rfl rfl rfl rfl (by decide) ?_
  repeat (first | refine X_opc rfl ?_ | refine X_dopc rfl ?_ | refine ⟨(by show drawK _ _ = true; kernel_rfl : drawX _ _ _), ?_⟩ | exact (by show drawK _ _ = true; kernel_rfl : drawX _ _ _) | simp -dsimp (maxSteps := 20000000) (disch := omega) only [simx, zzC, zzB, tys, ite_self, opnL, callB, callX, readsB, stepOp, nilCmp, ofVal, opBuiltin, opLen, PV.sk, scalBin, scalUn, intBin, opLoad, natOf, opConvert, opField, cellsP, oneP, Value.oneCell', opStore, toIV, scalT, scalA, scalC, boxesA, boxesC, zipB_none, zipB_mx, isZ, opZip, zeroP, opAppendZ, opMakeMap, opLookup, mboxB, opUpdate, ↓reduceIte, Nat.reduceSub, Nat.reduceEqDiff, Nat.reduceAdd, Nat.reduceMul, Nat.reduceLT, Nat.reduceLeDiff, Int.reduceToNat, Int.reduceLE, Int.reduceLT, Int.reduceNeg, reduceCtorEq, gos, Int.reduceAdd, Int.reduceSub, Int.reduceMul, Int.reduceEq])
  refine X_loopH [0, 1, 7, 8] [] (0) (l.length) (fun j => outF most (l.drop j) j = outF most l 0) (fun j => [(8, i64 j)]) (fun j => h) ?_ ?_ ?_ ?_ ?_ (by decide) ?_
  · exact (fgt_nil)
  · ((simp -dsimp (disch := omega) only [simx, zzB, tys, ite_self, opnL, callB, callX, readsB, stepOp, nilCmp, ofVal, opBuiltin, opLen, PV.sk, scalBin, scalUn, intBin, opLoad, natOf, opConvert, opField, cellsP, oneP, Value.oneCell', opStore, toIV, scalT, scalA, scalC, boxesA, boxesC, zipB_none, zipB_mx, isZ, opZip, zeroP, opAppendZ, opMakeMap, opLookup, mboxB, opUpdate, ↓reduceIte, Nat.reduceSub, Nat.reduceEqDiff, Nat.reduceAdd, Nat.reduceMul, Nat.reduceLT, Nat.reduceLeDiff, Int.reduceToNat, Int.reduceLE, Int.reduceLT, Int.reduceNeg, reduceCtorEq, gos, Int.reduceAdd, Int.reduceSub, Int.reduceMul, Int.reduceEq]) <;> first | rfl | simp)
  · exact drop_nil _
  · omega
  · rfl
  · intro j hj hf
    by_cases c : j < l.length
    · have g1 : l[j]? = some l[j] := List.getElem?_eq_getElem c
      rw [dropE c, outF] at hf
      repeat (first | refine X_opc rfl ?_ | refine X_dopc rfl ?_ | refine ⟨(by show drawK _ _ = true; kernel_rfl : drawX _ _ _), ?_⟩ | exact (by show drawK _ _ = true; kernel_rfl : drawX _ _ _) | simp -dsimp (maxSteps := 20000000) (disch := omega) only [simx, zzC, zzB, tys, ite_self, opnL, callB, callX, readsB, stepOp, nilCmp, ofVal, opBuiltin, opLen, PV.sk, scalBin, scalUn, intBin, opLoad, natOf, opConvert, opField, cellsP, oneP, Value.oneCell', opStore, toIV, scalT, scalA, scalC, boxesA, boxesC, zipB_none, zipB_mx, isZ, opZip, zeroP, opAppendZ, opMakeMap, opLookup, mboxB, opUpdate, ↓reduceIte, Nat.reduceSub, Nat.reduceEqDiff, Nat.reduceAdd, Nat.reduceMul, Nat.reduceLT, Nat.reduceLeDiff, Int.reduceToNat, Int.reduceLE, Int.reduceLT, Int.reduceNeg, reduceCtorEq, gos, Int.reduceAdd, Int.reduceSub, Int.reduceMul, Int.reduceEq, c, g1])
      refine X_call_shared (within1_walk (x := l[j]) hb) rfl (by simp -dsimp only [calleeOf, simx, zzB, tys, ite_self, opnL, callB, callX, readsB, stepOp, nilCmp, ofVal, opBuiltin, opLen, PV.sk, scalBin, scalUn, intBin, opLoad, natOf, opConvert, opField, cellsP, oneP, Value.oneCell', opStore, toIV, scalT, scalA, scalC, boxesA, boxesC, zipB_none, zipB_mx, isZ, opZip, zeroP, opAppendZ, opMakeMap, opLookup, mboxB, opUpdate, ↓reduceIte, Nat.reduceSub, Nat.reduceEqDiff, Nat.reduceAdd, Nat.reduceMul, Nat.reduceLT, Nat.reduceLeDiff, Int.reduceToNat, Int.reduceLE, Int.reduceLT, Int.reduceNeg, reduceCtorEq, gos, Int.reduceAdd, Int.reduceSub, Int.reduceMul, Int.reduceEq]) (by simp only [tys]) ?_
      by_cases e : l[j] < 0 ∨ most ≤ l[j]
      · rw [if_pos e] at hf
        rw [← hf]
        have eb : (decide (l[j] < 0) || decide (most ≤ l[j])) = true := by simpa using e
        rw [eb]
        repeat (first | refine X_opc rfl ?_ | refine X_dopc rfl ?_ | refine ⟨(by show drawK _ _ = true; kernel_rfl : drawX _ _ _), ?_⟩ | exact (by show drawK _ _ = true; kernel_rfl : drawX _ _ _) | simp -dsimp (maxSteps := 20000000) (disch := omega) only [simx, zzC, zzB, tys, ite_self, opnL, callB, callX, readsB, stepOp, nilCmp, ofVal, opBuiltin, opLen, PV.sk, scalBin, scalUn, intBin, opLoad, natOf, opConvert, opField, cellsP, oneP, Value.oneCell', opStore, toIV, scalT, scalA, scalC, boxesA, boxesC, zipB_none, zipB_mx, isZ, opZip, zeroP, opAppendZ, opMakeMap, opLookup, mboxB, opUpdate, ↓reduceIte, Nat.reduceSub, Nat.reduceEqDiff, Nat.reduceAdd, Nat.reduceMul, Nat.reduceLT, Nat.reduceLeDiff, Int.reduceToNat, Int.reduceLE, Int.reduceLT, Int.reduceNeg, reduceCtorEq, zzR, gos, Int.reduceAdd, Int.reduceSub, Int.reduceMul, Int.reduceEq])
      · rw [if_neg e] at hf
        have eb : (decide (l[j] < 0) || decide (most ≤ l[j])) = false := by simpa using e
        rw [eb]
        repeat (first | refine X_opc rfl ?_ | refine X_dopc rfl ?_ | refine ⟨(by show drawK _ _ = true; kernel_rfl : drawX _ _ _), ?_⟩ | exact (by show drawK _ _ = true; kernel_rfl : drawX _ _ _) | simp -dsimp (maxSteps := 20000000) (disch := omega) only [simx, zzC, zzB, tys, ite_self, opnL, callB, callX, readsB, stepOp, nilCmp, ofVal, opBuiltin, opLen, PV.sk, scalBin, scalUn, intBin, opLoad, natOf, opConvert, opField, cellsP, oneP, Value.oneCell', opStore, toIV, scalT, scalA, scalC, boxesA, boxesC, zipB_none, zipB_mx, isZ, opZip, zeroP, opAppendZ, opMakeMap, opLookup, mboxB, opUpdate, ↓reduceIte, Nat.reduceSub, Nat.reduceEqDiff, Nat.reduceAdd, Nat.reduceMul, Nat.reduceLT, Nat.reduceLeDiff, Int.reduceToNat, Int.reduceLE, Int.reduceLT, Int.reduceNeg, reduceCtorEq, gos, Int.reduceAdd, Int.reduceSub, Int.reduceMul, Int.reduceEq])
        exact ⟨c, (fgt_nil), hf, rfl, drop_nil _⟩
    · have hj : j = l.length := by omega
      subst hj
      rw [List.drop_length, outF] at hf
      rw [← hf]
      repeat (first | refine X_opc rfl ?_ | refine X_dopc rfl ?_ | refine ⟨(by show drawK _ _ = true; kernel_rfl : drawX _ _ _), ?_⟩ | exact (by show drawK _ _ = true; kernel_rfl : drawX _ _ _) | simp -dsimp (maxSteps := 20000000) (disch := omega) only [simx, zzC, zzB, tys, ite_self, opnL, callB, callX, readsB, stepOp, nilCmp, ofVal, opBuiltin, opLen, PV.sk, scalBin, scalUn, intBin, opLoad, natOf, opConvert, opField, cellsP, oneP, Value.oneCell', opStore, toIV, scalT, scalA, scalC, boxesA, boxesC, zipB_none, zipB_mx, isZ, opZip, zeroP, opAppendZ, opMakeMap, opLookup, mboxB, opUpdate, ↓reduceIte, Nat.reduceSub, Nat.reduceEqDiff, Nat.reduceAdd, Nat.reduceMul, Nat.reduceLT, Nat.reduceLeDiff, Int.reduceToNat, Int.reduceLE, Int.reduceLT, Int.reduceNeg, reduceCtorEq, zzR, gos, Int.reduceAdd, Int.reduceSub, Int.reduceMul, Int.reduceEq])
theorem containsOut_walk {b base : Name} {h : Heap} {most : Int} {l : List Int} (hl : l.length ≤ maxLen) (hb : h b = some (.var [i64 most])) :
    CallR Try.prog base 131 [li l, .clo 132 [.ref b 0 1]] h (bl (decide (0 ≤ outF most l 0))) h := by
  have q := fun bs => indexOut_walk (base := bs) hl hb
  generalize outF most l 0 = i at q
  by_cases c : 0 ≤ i
  · rw [decide_eq_true c]
    refine X_startR (n := 9) (m := 2) (rs := [.tmp 4]) Try.func131 rfl rfl rfl rfl (by decide) ?_
    repeat (first | refine X_opc rfl ?_ | refine X_dopc rfl ?_ | refine ⟨(by show drawK _ _ = true; kernel_rfl : drawX _ _ _), ?_⟩ | exact (by show drawK _ _ = true; kernel_rfl : drawX _ _ _) | simp -dsimp (maxSteps := 20000000) (disch := omega) only [simx, zzC, zzB, tys, ite_self, opnL, callB, callX, readsB, stepOp, nilCmp, ofVal, opBuiltin, opLen, PV.sk, scalBin, scalUn, intBin, opLoad, natOf, opConvert, opField, cellsP, oneP, Value.oneCell', opStore, toIV, scalT, scalA, scalC, boxesA, boxesC, zipB_none, zipB_mx, isZ, opZip, zeroP, opAppendZ, opMakeMap, opLookup, mboxB, opUpdate, ↓reduceIte, Nat.reduceSub, Nat.reduceEqDiff, Nat.reduceAdd, Nat.reduceMul, Nat.reduceLT, Nat.reduceLeDiff, Int.reduceToNat, Int.reduceLE, Int.reduceLT, Int.reduceNeg, reduceCtorEq, gos, Int.reduceAdd, Int.reduceSub, Int.reduceMul, Int.reduceEq])
    refine X_call_shared (q _) rfl (by simp -dsimp only [callee_fn, simx, zzB, tys, ite_self, opnL, callB, callX, readsB, stepOp, nilCmp, ofVal, opBuiltin, opLen, PV.sk, scalBin, scalUn, intBin, opLoad, natOf, opConvert, opField, cellsP, oneP, Value.oneCell', opStore, toIV, scalT, scalA, scalC, boxesA, boxesC, zipB_none, zipB_mx, isZ, opZip, zeroP, opAppendZ, opMakeMap, opLookup, mboxB, opUpdate, ↓reduceIte, Nat.reduceSub, Nat.reduceEqDiff, Nat.reduceAdd, Nat.reduceMul, Nat.reduceLT, Nat.reduceLeDiff, Int.reduceToNat, Int.reduceLE, Int.reduceLT, Int.reduceNeg, reduceCtorEq, gos, Int.reduceAdd, Int.reduceSub, Int.reduceMul, Int.reduceEq]) (by simp only [tys]) ?_
    repeat (first | refine X_opc rfl ?_ | refine X_dopc rfl ?_ | refine ⟨(by show drawK _ _ = true; kernel_rfl : drawX _ _ _), ?_⟩ | exact (by show drawK _ _ = true; kernel_rfl : drawX _ _ _) | simp -dsimp (maxSteps := 20000000) (disch := omega) only [simx, zzC, zzB, tys, ite_self, opnL, callB, callX, readsB, stepOp, nilCmp, ofVal, opBuiltin, opLen, PV.sk, scalBin, scalUn, intBin, opLoad, natOf, opConvert, opField, cellsP, oneP, Value.oneCell', opStore, toIV, scalT, scalA, scalC, boxesA, boxesC, zipB_none, zipB_mx, isZ, opZip, zeroP, opAppendZ, opMakeMap, opLookup, mboxB, opUpdate, ↓reduceIte, Nat.reduceSub, Nat.reduceEqDiff, Nat.reduceAdd, Nat.reduceMul, Nat.reduceLT, Nat.reduceLeDiff, Int.reduceToNat, Int.reduceLE, Int.reduceLT, Int.reduceNeg, reduceCtorEq, zzR, gos, Int.reduceAdd, Int.reduceSub, Int.reduceMul, Int.reduceEq])
  · rw [decide_eq_false c]
    refine X_startR (n := 9) (m := 2) (rs := [.tmp 4]) Try.func131 rfl rfl rfl rfl (by decide) ?_
    repeat (first | refine X_opc rfl ?_ | refine X_dopc rfl ?_ | refine ⟨(by show drawK _ _ = true; kernel_rfl : drawX _ _ _), ?_⟩ | exact (by show drawK _ _ = true; kernel_rfl : drawX _ _ _) | simp -dsimp (maxSteps := 20000000) (disch := omega) only [simx, zzC, zzB, tys, ite_self, opnL, callB, callX, readsB, stepOp, nilCmp, ofVal, opBuiltin, opLen, PV.sk, scalBin, scalUn, intBin, opLoad, natOf, opConvert, opField, cellsP, oneP, Value.oneCell', opStore, toIV, scalT, scalA, scalC, boxesA, boxesC, zipB_none, zipB_mx, isZ, opZip, zeroP, opAppendZ, opMakeMap, opLookup, mboxB, opUpdate, ↓reduceIte, Nat.reduceSub, Nat.reduceEqDiff, Nat.reduceAdd, Nat.reduceMul, Nat.reduceLT, Nat.reduceLeDiff, Int.reduceToNat, Int.reduceLE, Int.reduceLT, Int.reduceNeg, reduceCtorEq, gos, Int.reduceAdd, Int.reduceSub, Int.reduceMul, Int.reduceEq])
    refine X_call_shared (q _) rfl (by simp -dsimp only [callee_fn, simx, zzB, tys, ite_self, opnL, callB, callX, readsB, stepOp, nilCmp, ofVal, opBuiltin, opLen, PV.sk, scalBin, scalUn, intBin, opLoad, natOf, opConvert, opField, cellsP, oneP, Value.oneCell', opStore, toIV, scalT, scalA, scalC, boxesA, boxesC, zipB_none, zipB_mx, isZ, opZip, zeroP, opAppendZ, opMakeMap, opLookup, mboxB, opUpdate, ↓reduceIte, Nat.reduceSub, Nat.reduceEqDiff, Nat.reduceAdd, Nat.reduceMul, Nat.reduceLT, Nat.reduceLeDiff, Int.reduceToNat, Int.reduceLE, Int.reduceLT, Int.reduceNeg, reduceCtorEq, gos, Int.reduceAdd, Int.reduceSub, Int.reduceMul, Int.reduceEq]) (by simp only [tys]) ?_
    repeat (first | refine X_opc rfl ?_ | refine X_dopc rfl ?_ | refine ⟨(by show drawK _ _ = true; kernel_rfl : drawX _ _ _), ?_⟩ | exact (by show drawK _ _ = true; kernel_rfl : drawX _ _ _) | simp -dsimp (maxSteps := 20000000) (disch := omega) only [simx, zzC, zzB, tys, ite_self, opnL, callB, callX, readsB, stepOp, nilCmp, ofVal, opBuiltin, opLen, PV.sk, scalBin, scalUn, intBin, opLoad, natOf, opConvert, opField, cellsP, oneP, Value.oneCell', opStore, toIV, scalT, scalA, scalC, boxesA, boxesC, zipB_none, zipB_mx, isZ, opZip, zeroP, opAppendZ, opMakeMap, opLookup, mboxB, opUpdate, ↓reduceIte, Nat.reduceSub, Nat.reduceEqDiff, Nat.reduceAdd, Nat.reduceMul, Nat.reduceLT, Nat.reduceLeDiff, Int.reduceToNat, Int.reduceLE, Int.reduceLT, Int.reduceNeg, reduceCtorEq, zzR, gos, Int.reduceAdd, Int.reduceSub, Int.reduceMul, Int.reduceEq])
def withinB (l : List Int) (most : Int) : Bool := SideB l.length && !decide (0 ≤ outF most l 0)
theorem within_walk {most : Int} {l : List Int} (hl : l.length ≤ maxLen) : CallsP Try.prog 112 [li l, i64 most] (bl (withinB l most)) := by
  have s1 := side_walk (l.length : Int)
  unfold withinB
  cases h1 : SideB (l.length : Int) with
  | false =>
    rw [h1] at s1
    refine X_startP (n := 14) (m := 2) (rs := [.tmp 4]) Try.func112 rfl rfl rfl rfl (by decide) fun base => ?_
    repeat (first | ((first | refine X_call_fn2 rfl (by simp only [tys]) ?_ | refine X_dcall_fn2 rfl (by simp only [tys]) ?_); apply Exists.intro; apply And.intro; (focus (simp -dsimp only [simx, zzC, zzB, tys, ite_self, opnL, callB, callX, readsB, stepOp, nilCmp, ofVal, opBuiltin, opLen, PV.sk, scalBin, scalUn, intBin, opLoad, natOf, opConvert, opField, cellsP, oneP, Value.oneCell', opStore, toIV, scalT, scalA, scalC, boxesA, boxesC, zipB_none, zipB_mx, isZ, opZip, zeroP, opAppendZ, opMakeMap, opLookup, mboxB, opUpdate, ↓reduceIte, Nat.reduceSub, Nat.reduceEqDiff, Nat.reduceAdd, Nat.reduceMul, Nat.reduceLT, Nat.reduceLeDiff, Int.reduceToNat, Int.reduceLE, Int.reduceLT, Int.reduceNeg, reduceCtorEq, zzL, if_true, if_false] <;> rfl)); apply Exists.intro; apply And.intro; (focus (first | exact s1))) | refine X_opc rfl ?_ | refine X_dopc rfl ?_ | refine ⟨(by show drawK _ _ = true; kernel_rfl : drawX _ _ _), ?_⟩ | exact (by show drawK _ _ = true; kernel_rfl : drawX _ _ _) | simp -dsimp (maxSteps := 20000000) (disch := omega) only [simx, zzC, zzB, tys, ite_self, opnL, callB, callX, readsB, stepOp, nilCmp, ofVal, opBuiltin, opLen, PV.sk, scalBin, scalUn, intBin, opLoad, natOf, opConvert, opField, cellsP, oneP, Value.oneCell', opStore, toIV, scalT, scalA, scalC, boxesA, boxesC, zipB_none, zipB_mx, isZ, opZip, zeroP, opAppendZ, opMakeMap, opLookup, mboxB, opUpdate, ↓reduceIte, Nat.reduceSub, Nat.reduceEqDiff, Nat.reduceAdd, Nat.reduceMul, Nat.reduceLT, Nat.reduceLeDiff, Int.reduceToNat, Int.reduceLE, Int.reduceLT, Int.reduceNeg, reduceCtorEq, zzR, gos, Int.reduceAdd, Int.reduceSub, Int.reduceMul, Int.reduceEq])
  | true =>
    rw [h1] at s1
    refine X_startP (n := 14) (m := 2) (rs := [.tmp 4]) Try.func112 rfl rfl rfl rfl (by decide) fun base => ?_
    repeat (first | ((first | refine X_call_fn2 rfl (by simp only [tys]) ?_ | refine X_dcall_fn2 rfl (by simp only [tys]) ?_); apply Exists.intro; apply And.intro; (focus (simp -dsimp only [simx, zzC, zzB, tys, ite_self, opnL, callB, callX, readsB, stepOp, nilCmp, ofVal, opBuiltin, opLen, PV.sk, scalBin, scalUn, intBin, opLoad, natOf, opConvert, opField, cellsP, oneP, Value.oneCell', opStore, toIV, scalT, scalA, scalC, boxesA, boxesC, zipB_none, zipB_mx, isZ, opZip, zeroP, opAppendZ, opMakeMap, opLookup, mboxB, opUpdate, ↓reduceIte, Nat.reduceSub, Nat.reduceEqDiff, Nat.reduceAdd, Nat.reduceMul, Nat.reduceLT, Nat.reduceLeDiff, Int.reduceToNat, Int.reduceLE, Int.reduceLT, Int.reduceNeg, reduceCtorEq, zzL, if_true, if_false] <;> rfl)); apply Exists.intro; apply And.intro; (focus (first | exact s1))) | refine X_opc rfl ?_ | refine X_dopc rfl ?_ | refine ⟨(by show drawK _ _ = true; kernel_rfl : drawX _ _ _), ?_⟩ | exact (by show drawK _ _ = true; kernel_rfl : drawX _ _ _) | simp -dsimp (maxSteps := 20000000) (disch := omega) only [simx, zzC, zzB, tys, ite_self, opnL, callB, callX, readsB, stepOp, nilCmp, ofVal, opBuiltin, opLen, PV.sk, scalBin, scalUn, intBin, opLoad, natOf, opConvert, opField, cellsP, oneP, Value.oneCell', opStore, toIV, scalT, scalA, scalC, boxesA, boxesC, zipB_none, zipB_mx, isZ, opZip, zeroP, opAppendZ, opMakeMap, opLookup, mboxB, opUpdate, ↓reduceIte, Nat.reduceSub, Nat.reduceEqDiff, Nat.reduceAdd, Nat.reduceMul, Nat.reduceLT, Nat.reduceLeDiff, Int.reduceToNat, Int.reduceLE, Int.reduceLT, Int.reduceNeg, reduceCtorEq, gos, Int.reduceAdd, Int.reduceSub, Int.reduceMul, Int.reduceEq])
    refine X_call_shared (containsOut_walk (b := (0, 0) :: base) (most := most) hl (by simp [Heap.put_at])) rfl (by simp -dsimp only [callee_fn, simx, zzB, tys, ite_self, opnL, callB, callX, readsB, stepOp, nilCmp, ofVal, opBuiltin, opLen, PV.sk, scalBin, scalUn, intBin, opLoad, natOf, opConvert, opField, cellsP, oneP, Value.oneCell', opStore, toIV, scalT, scalA, scalC, boxesA, boxesC, zipB_none, zipB_mx, isZ, opZip, zeroP, opAppendZ, opMakeMap, opLookup, mboxB, opUpdate, ↓reduceIte, Nat.reduceSub, Nat.reduceEqDiff, Nat.reduceAdd, Nat.reduceMul, Nat.reduceLT, Nat.reduceLeDiff, Int.reduceToNat, Int.reduceLE, Int.reduceLT, Int.reduceNeg, reduceCtorEq, gos, Int.reduceAdd, Int.reduceSub, Int.reduceMul, Int.reduceEq]) (by simp only [tys]) ?_
    generalize decide (0 ≤ outF most l 0) = o
    repeat (first | refine X_opc rfl ?_ | refine X_dopc rfl ?_ | refine ⟨(by show drawK _ _ = true; kernel_rfl : drawX _ _ _), ?_⟩ | exact (by show drawK _ _ = true; kernel_rfl : drawX _ _ _) | simp -dsimp (maxSteps := 20000000) (disch := omega) only [simx, zzC, zzB, tys, ite_self, opnL, callB, callX, readsB, stepOp, nilCmp, ofVal, opBuiltin, opLen, PV.sk, scalBin, scalUn, intBin, opLoad, natOf, opConvert, opField, cellsP, oneP, Value.oneCell', opStore, toIV, scalT, scalA, scalC, boxesA, boxesC, zipB_none, zipB_mx, isZ, opZip, zeroP, opAppendZ, opMakeMap, opLookup, mboxB, opUpdate, ↓reduceIte, Nat.reduceSub, Nat.reduceEqDiff, Nat.reduceAdd, Nat.reduceMul, Nat.reduceLT, Nat.reduceLeDiff, Int.reduceToNat, Int.reduceLE, Int.reduceLT, Int.reduceNeg, reduceCtorEq, zzR, gos, Int.reduceAdd, Int.reduceSub, Int.reduceMul, Int.reduceEq])
end Go.Proofs.Ythnfphgjfpcpbaa.TM
namespace Go.Proofs.Ythnfphgjfpcpbaa.TM
open Go Go.RowKit
attribute [local irreducible] K W WOps Effs Xg Xo Xr Xdg Xdo Xdr Xif CallsP CallR
theorem outF_no (most : Int) : ∀ (l : List Int) (k : Nat), ¬ 0 ≤ outF most l k ↔ ∀ a ∈ l, 0 ≤ a ∧ a < most
  | [], k => by simp [outF]
  | a :: l, k => by
    rw [outF]
    by_cases h : a < 0 ∨ most ≤ a
    · rw [if_pos h]
      constructor
      · intro g; omega
      · intro g; have := g a (by simp); omega
    · rw [if_neg h, outF_no most l (k + 1)]
      constructor
      · intro g x hx
        rcases List.mem_cons.1 hx with rfl | hx
        · omega
        · exact g x hx
      · intro g x hx; exact g x (List.mem_cons_of_mem _ hx)
theorem within_iff (l : List Int) (most : Int) : withinB l most = true ↔ (1 ≤ l.length ∧ l.length ≤ 64) ∧ ∀ a ∈ l, 0 ≤ a ∧ a < most := by
  unfold withinB
  rw [Bool.and_eq_true, Bool.not_eq_true', decide_eq_false_iff_not, outF_no, side_iff]
  constructor
  · rintro ⟨h1, h2⟩; exact ⟨by omega, h2⟩
  · rintro ⟨h1, h2⟩; exact ⟨by omega, h2⟩
def pickRow (C : Nat) (l cols : List Int) (i : Int) : List Int := cols.map fun c => cl C l i.toNat c.toNat
def pickM (C : Nat) (l rows cols : List Int) : List Int := rows.flatMap (pickRow C l cols)
theorem pickM_len (C : Nat) (l cols : List Int) : ∀ rows : List Int, (pickM C l rows cols).length = rows.length * cols.length
  | [] => by simp [pickM]
  | i :: rows => by
    have := pickM_len C l cols rows
    unfold pickM at this ⊢
    rw [List.flatMap_cons, List.length_append, this, List.length_cons, Nat.succ_mul]
    simp [pickRow]; omega
theorem pickM_next (C : Nat) (l cols : List Int) {rows : List Int} {j : Nat} (h : j < rows.length) : pickM C l (rows.take (j + 1)) cols = pickM C l (rows.take j) cols ++ pickRow C l cols rows[j] := by
  unfold pickM
  rw [List.take_succ_eq_append_getElem h, List.flatMap_append]; simp
def pickR (p r c : Int) (l rows cols : List Int) : (Int × Int × List Int) × Int :=
  if MatB p r c l && (withinB rows r && withinB cols c) then ((rows.length, cols.length, pickM c.toNat l rows cols), 0) else ((0, 0, []), 1)
set_option maxHeartbeats 4000000 in
set_option maxRecDepth 100000 in
theorem pick_walk (p r c : Int) (l rows cols : List Int) (hl : l.length ≤ maxLen) (hr : rows.length ≤ maxLen) (hc : cols.length ≤ maxLen) :
    CallsP Try.prog 89 [u64 p, matP r c l, li rows, li cols] (mat2 (pickR p r c l rows cols)) := by
  have q1 := mright_walk p r c l hl
  have q2 := within_walk (most := r) hr
  have q3 := within_walk (most := c) hc
  unfold pickR
  cases h1 : MatB p r c l with
  | false =>
    rw [h1] at q1
    refine X_startP (n := 65) (m := 4) (rs := [.cell 8 25, .tmp 9]) Try.func89 rfl rfl rfl rfl (by decide) fun base => ?_
    repeat (first | ((first | refine X_call_fn2 rfl (by simp only [tys]) ?_ | refine X_dcall_fn2 rfl (by simp only [tys]) ?_); apply Exists.intro; apply And.intro; (focus (simp -dsimp only [simx, zzC, zzB, tys, ite_self, opnL, callB, callX, readsB, stepOp, nilCmp, ofVal, opBuiltin, opLen, PV.sk, scalBin, scalUn, intBin, opLoad, natOf, opConvert, opField, cellsP, oneP, Value.oneCell', opStore, toIV, scalT, scalA, scalC, boxesA, boxesC, zipB_none, zipB_mx, isZ, opZip, zeroP, opAppendZ, opMakeMap, opLookup, mboxB, opUpdate, ↓reduceIte, Nat.reduceSub, Nat.reduceEqDiff, Nat.reduceAdd, Nat.reduceMul, Nat.reduceLT, Nat.reduceLeDiff, Int.reduceToNat, Int.reduceLE, Int.reduceLT, Int.reduceNeg, reduceCtorEq, zzL, if_true, if_false] <;> rfl)); apply Exists.intro; apply And.intro; (focus (first | exact q1))) | refine X_opc rfl ?_ | refine X_dopc rfl ?_ | refine ⟨(by show drawK _ _ = true; kernel_rfl : drawX _ _ _), ?_⟩ | exact (by show drawK _ _ = true; kernel_rfl : drawX _ _ _) | simp -dsimp (maxSteps := 20000000) (disch := omega) only [simx, zzC, zzB, tys, ite_self, opnL, callB, callX, readsB, stepOp, nilCmp, ofVal, opBuiltin, opLen, PV.sk, scalBin, scalUn, intBin, opLoad, natOf, opConvert, opField, cellsP, oneP, Value.oneCell', opStore, toIV, scalT, scalA, scalC, boxesA, boxesC, zipB_none, zipB_mx, isZ, opZip, zeroP, opAppendZ, opMakeMap, opLookup, mboxB, opUpdate, ↓reduceIte, Nat.reduceSub, Nat.reduceEqDiff, Nat.reduceAdd, Nat.reduceMul, Nat.reduceLT, Nat.reduceLeDiff, Int.reduceToNat, Int.reduceLE, Int.reduceLT, Int.reduceNeg, reduceCtorEq, zzR, gos, Int.reduceAdd, Int.reduceSub, Int.reduceMul, Int.reduceEq])
    rfl
  | true =>
    rw [h1] at q1
    cases h2 : withinB rows r with
    | false =>
      rw [h2] at q2
      refine X_startP (n := 65) (m := 4) (rs := [.cell 8 25, .tmp 9]) Try.func89 rfl rfl rfl rfl (by decide) fun base => ?_
      repeat (first | ((first | refine X_call_fn2 rfl (by simp only [tys]) ?_ | refine X_dcall_fn2 rfl (by simp only [tys]) ?_); apply Exists.intro; apply And.intro; (focus (simp -dsimp only [simx, zzC, zzB, tys, ite_self, opnL, callB, callX, readsB, stepOp, nilCmp, ofVal, opBuiltin, opLen, PV.sk, scalBin, scalUn, intBin, opLoad, natOf, opConvert, opField, cellsP, oneP, Value.oneCell', opStore, toIV, scalT, scalA, scalC, boxesA, boxesC, zipB_none, zipB_mx, isZ, opZip, zeroP, opAppendZ, opMakeMap, opLookup, mboxB, opUpdate, ↓reduceIte, Nat.reduceSub, Nat.reduceEqDiff, Nat.reduceAdd, Nat.reduceMul, Nat.reduceLT, Nat.reduceLeDiff, Int.reduceToNat, Int.reduceLE, Int.reduceLT, Int.reduceNeg, reduceCtorEq, zzL, if_true, if_false] <;> rfl)); apply Exists.intro; apply And.intro; (focus (first | exact q1 | exact q2))) | refine X_opc rfl ?_ | refine X_dopc rfl ?_ | refine ⟨(by show drawK _ _ = true; kernel_rfl : drawX _ _ _), ?_⟩ | exact (by show drawK _ _ = true; kernel_rfl : drawX _ _ _) | simp -dsimp (maxSteps := 20000000) (disch := omega) only [simx, zzC, zzB, tys, ite_self, opnL, callB, callX, readsB, stepOp, nilCmp, ofVal, opBuiltin, opLen, PV.sk, scalBin, scalUn, intBin, opLoad, natOf, opConvert, opField, cellsP, oneP, Value.oneCell', opStore, toIV, scalT, scalA, scalC, boxesA, boxesC, zipB_none, zipB_mx, isZ, opZip, zeroP, opAppendZ, opMakeMap, opLookup, mboxB, opUpdate, ↓reduceIte, Nat.reduceSub, Nat.reduceEqDiff, Nat.reduceAdd, Nat.reduceMul, Nat.reduceLT, Nat.reduceLeDiff, Int.reduceToNat, Int.reduceLE, Int.reduceLT, Int.reduceNeg, reduceCtorEq, zzR, gos, Int.reduceAdd, Int.reduceSub, Int.reduceMul, Int.reduceEq])
      rfl
    | true =>
      rw [h2] at q2
      cases h3 : withinB cols c with
      | false =>
        rw [h3] at q3
        refine X_startP (n := 65) (m := 4) (rs := [.cell 8 25, .tmp 9]) Try.func89 rfl rfl rfl rfl (by decide) fun base => ?_
        repeat (first | ((first | refine X_call_fn2 rfl (by simp only [tys]) ?_ | refine X_dcall_fn2 rfl (by simp only [tys]) ?_); apply Exists.intro; apply And.intro; (focus (simp -dsimp only [simx, zzC, zzB, tys, ite_self, opnL, callB, callX, readsB, stepOp, nilCmp, ofVal, opBuiltin, opLen, PV.sk, scalBin, scalUn, intBin, opLoad, natOf, opConvert, opField, cellsP, oneP, Value.oneCell', opStore, toIV, scalT, scalA, scalC, boxesA, boxesC, zipB_none, zipB_mx, isZ, opZip, zeroP, opAppendZ, opMakeMap, opLookup, mboxB, opUpdate, ↓reduceIte, Nat.reduceSub, Nat.reduceEqDiff, Nat.reduceAdd, Nat.reduceMul, Nat.reduceLT, Nat.reduceLeDiff, Int.reduceToNat, Int.reduceLE, Int.reduceLT, Int.reduceNeg, reduceCtorEq, zzL, if_true, if_false] <;> rfl)); apply Exists.intro; apply And.intro; (focus (first | exact q1 | exact q2 | exact q3))) | refine X_opc rfl ?_ | refine X_dopc rfl ?_ | refine ⟨(by show drawK _ _ = true; kernel_rfl : drawX _ _ _), ?_⟩ | exact (by show drawK _ _ = true; kernel_rfl : drawX _ _ _) | simp -dsimp (maxSteps := 20000000) (disch := omega) only [simx, zzC, zzB, tys, ite_self, opnL, callB, callX, readsB, stepOp, nilCmp, ofVal, opBuiltin, opLen, PV.sk, scalBin, scalUn, intBin, opLoad, natOf, opConvert, opField, cellsP, oneP, Value.oneCell', opStore, toIV, scalT, scalA, scalC, boxesA, boxesC, zipB_none, zipB_mx, isZ, opZip, zeroP, opAppendZ, opMakeMap, opLookup, mboxB, opUpdate, ↓reduceIte, Nat.reduceSub, Nat.reduceEqDiff, Nat.reduceAdd, Nat.reduceMul, Nat.reduceLT, Nat.reduceLeDiff, Int.reduceToNat, Int.reduceLE, Int.reduceLT, Int.reduceNeg, reduceCtorEq, zzR, gos, Int.reduceAdd, Int.reduceSub, Int.reduceMul, Int.reduceEq])
        rfl
      | true =>
        rw [h3] at q3
        obtain ⟨R, C, rfl, rfl, M⟩ := mat_of h1
        obtain ⟨⟨a1, a2⟩, a3⟩ := (within_iff _ _).1 h2
        obtain ⟨⟨b1, b2⟩, b3⟩ := (within_iff _ _).1 h3
        simp only [Bool.and_self, if_true, Int.toNat_natCast]
        have rl := M.r2
        have cl2 := M.c2
        refine X_startP (n := 65) (m := 4) (rs := [.cell 8 25, .tmp 9]) Try.func89 rfl rfl rfl rfl (by decide) fun base => ?_
        repeat (first | ((first | refine X_call_fn2 rfl (by simp only [tys]) ?_ | refine X_dcall_fn2 rfl (by simp only [tys]) ?_); apply Exists.intro; apply And.intro; (focus (simp -dsimp only [simx, zzC, zzB, tys, ite_self, opnL, callB, callX, readsB, stepOp, nilCmp, ofVal, opBuiltin, opLen, PV.sk, scalBin, scalUn, intBin, opLoad, natOf, opConvert, opField, cellsP, oneP, Value.oneCell', opStore, toIV, scalT, scalA, scalC, boxesA, boxesC, zipB_none, zipB_mx, isZ, opZip, zeroP, opAppendZ, opMakeMap, opLookup, mboxB, opUpdate, ↓reduceIte, Nat.reduceSub, Nat.reduceEqDiff, Nat.reduceAdd, Nat.reduceMul, Nat.reduceLT, Nat.reduceLeDiff, Int.reduceToNat, Int.reduceLE, Int.reduceLT, Int.reduceNeg, reduceCtorEq, zzL, if_true, if_false] <;> rfl)); apply Exists.intro; apply And.intro; (focus (first | exact q1 | exact q2 | exact q3))) | refine X_opc rfl ?_ | refine X_dopc rfl ?_ | refine ⟨(by show drawK _ _ = true; kernel_rfl : drawX _ _ _), ?_⟩ | exact (by show drawK _ _ = true; kernel_rfl : drawX _ _ _) | simp -dsimp (maxSteps := 20000000) (disch := omega) only [simx, zzC, zzB, tys, ite_self, opnL, callB, callX, readsB, stepOp, nilCmp, ofVal, opBuiltin, opLen, PV.sk, scalBin, scalUn, intBin, opLoad, natOf, opConvert, opField, cellsP, oneP, Value.oneCell', opStore, toIV, scalT, scalA, scalC, boxesA, boxesC, zipB_none, zipB_mx, isZ, opZip, zeroP, opAppendZ, opMakeMap, opLookup, mboxB, opUpdate, ↓reduceIte, Nat.reduceSub, Nat.reduceEqDiff, Nat.reduceAdd, Nat.reduceMul, Nat.reduceLT, Nat.reduceLeDiff, Int.reduceToNat, Int.reduceLE, Int.reduceLT, Int.reduceNeg, reduceCtorEq, gos, Int.reduceAdd, Int.reduceSub, Int.reduceMul, Int.reduceEq])
        clear q1 q2 q3 h1 h2 h3
        refine X_loopH [3, 5, 8, 10, 39, 40, 41] [] (0) (rows.length) (fun j => True) (fun j => [(41, i64 j)]) (fun j => rowH (((Heap.none.put ((0, 0) :: base) (.var [i64 R, i64 C, lu l])).put ((0, 1) :: base) (.var [i64 0, i64 0, nilP])).put ((3, 5) :: base) (.var [i64 rows.length, i64 cols.length, rowP ((10, 9) :: base) 1 (pickM C l (rows.take j) cols).length ((pickM C l (rows.take j) cols).map iu)])) ((10, 9) :: base) (pickM C l (rows.take j) cols).length ((pickM C l (rows.take j) cols).map iu)) ?_ ?_ ?_ ?_ ?_ (by decide) ?_
        · exact (fgt_nil)
        · ((simp -dsimp (disch := omega) only [simx, zzB, tys, ite_self, opnL, callB, callX, readsB, stepOp, nilCmp, ofVal, opBuiltin, opLen, PV.sk, scalBin, scalUn, intBin, opLoad, natOf, opConvert, opField, cellsP, oneP, Value.oneCell', opStore, toIV, scalT, scalA, scalC, boxesA, boxesC, zipB_none, zipB_mx, isZ, opZip, zeroP, opAppendZ, opMakeMap, opLookup, mboxB, opUpdate, ↓reduceIte, Nat.reduceSub, Nat.reduceEqDiff, Nat.reduceAdd, Nat.reduceMul, Nat.reduceLT, Nat.reduceLeDiff, Int.reduceToNat, Int.reduceLE, Int.reduceLT, Int.reduceNeg, reduceCtorEq, gos, Int.reduceAdd, Int.reduceSub, Int.reduceMul, Int.reduceEq]) <;> first | rfl | simp)
        · funext c
          simp (maxSteps := 20000000) only [Heap.drop_at, rowH_app, Heap.put_at, Heap.none_at, List.mem_cons, List.not_mem_nil, or_false]
          by_cases e0 : c = (0, 0) :: base
          · subst e0; simp [pickM, rowP]
          by_cases e1 : c = (0, 1) :: base
          · subst e1; simp [pickM, rowP]
          by_cases e2 : c = (3, 5) :: base
          · subst e2; simp [pickM, rowP]
          simp [e0, e1, e2, pickM, rowP]
        · omega
        · trivial
        · intro j hj _
          by_cases cj : j < rows.length
          · have g1 : rows[j]? = some rows[j] := List.getElem?_eq_getElem cj
            have nxt := pickM_next C l cols cj
            obtain ⟨i0, i1⟩ := a3 _ (List.getElem_mem cj)
            generalize rows[j] = i at g1 i0 i1 nxt
            obtain ⟨I, rfl⟩ := Int.eq_ofNat_of_zero_le i0
            have hI : I < R := by omega
            have d := row_walk M.len M.r2 M.c2 hI
            have rlen := rowM_len M.len hI
            have pl := pickM_len C l cols (rows.take j)
            rw [List.length_take, Nat.min_eq_left (by omega)] at pl
            have pb : (pickM C l (rows.take j) cols).length + cols.length ≤ 4096 := by
              rw [pl, ← Nat.succ_mul]; exact Nat.mul_le_mul (show j + 1 ≤ 64 by omega) b2
            repeat (first | refine X_opc rfl ?_ | refine X_dopc rfl ?_ | refine ⟨(by show drawK _ _ = true; kernel_rfl : drawX _ _ _), ?_⟩ | exact (by show drawK _ _ = true; kernel_rfl : drawX _ _ _) | simp -dsimp (maxSteps := 20000000) (disch := omega) only [simx, zzC, zzB, tys, ite_self, opnL, callB, callX, readsB, stepOp, nilCmp, ofVal, opBuiltin, opLen, PV.sk, scalBin, scalUn, intBin, opLoad, natOf, opConvert, opField, cellsP, oneP, Value.oneCell', opStore, toIV, scalT, scalA, scalC, boxesA, boxesC, zipB_none, zipB_mx, isZ, opZip, zeroP, opAppendZ, opMakeMap, opLookup, mboxB, opUpdate, ↓reduceIte, Nat.reduceSub, Nat.reduceEqDiff, Nat.reduceAdd, Nat.reduceMul, Nat.reduceLT, Nat.reduceLeDiff, Int.reduceToNat, Int.reduceLE, Int.reduceLT, Int.reduceNeg, reduceCtorEq, gos, Int.reduceAdd, Int.reduceSub, Int.reduceMul, Int.reduceEq, cj, g1])
            refine X_loopH [3, 5, 8, 10, 12, 39, 40, 41, 45, 46, 47] [(10, 8) :: base] (0) (cols.length) (fun j_ => True) (fun j_ => [(47, i64 j_)]) (fun j_ => rowH (((Heap.none.put ((0, 0) :: base) (.var [i64 R, i64 C, lu l])).put ((0, 1) :: base) (.var [i64 0, i64 0, nilP])).put ((3, 5) :: base) (.var [i64 rows.length, i64 cols.length, rowP ((10, 9) :: base) 1 (pickM C l (rows.take j) cols ++ pickRow C l (cols.take j_) I).length ((pickM C l (rows.take j) cols ++ pickRow C l (cols.take j_) I).map iu)])) ((10, 9) :: base) (pickM C l (rows.take j) cols ++ pickRow C l (cols.take j_) I).length ((pickM C l (rows.take j) cols ++ pickRow C l (cols.take j_) I).map iu)) ?_ ?_ ?_ ?_ ?_ (by decide) ?_
            · exact (fgt_cons (by simp only [Heap.none_at]) (by (simp -dsimp only [zzB, tys, ite_self, opnL, callB, callX, readsB, stepOp, nilCmp, ofVal, opBuiltin, opLen, PV.sk, scalBin, scalUn, intBin, opLoad, natOf, opConvert, opField, cellsP, oneP, Value.oneCell', opStore, toIV, scalT, scalA, scalC, boxesA, boxesC, zipB_none, zipB_mx, isZ, opZip, zeroP, opAppendZ, opMakeMap, opLookup, mboxB, opUpdate, ↓reduceIte, Nat.reduceSub, Nat.reduceEqDiff, Nat.reduceAdd, Nat.reduceMul, Nat.reduceLT, Nat.reduceLeDiff, Int.reduceToNat, Int.reduceLE, Int.reduceLT, Int.reduceNeg, reduceCtorEq, notIn_cons, notIn_nil]) <;> simp [refsL, refsP, mem_refs_rowP]) (by repeat (first | exact noVar_none _ | refine noVar_row ?_ | refine noVar_map ?_ | refine noVar_rowH ?_ | refine noVar_var ?_ (by simp [refsL, refsP, mem_refs_rowP]))) (fgt_nil))
            · ((simp -dsimp (disch := omega) only [simx, zzB, tys, ite_self, opnL, callB, callX, readsB, stepOp, nilCmp, ofVal, opBuiltin, opLen, PV.sk, scalBin, scalUn, intBin, opLoad, natOf, opConvert, opField, cellsP, oneP, Value.oneCell', opStore, toIV, scalT, scalA, scalC, boxesA, boxesC, zipB_none, zipB_mx, isZ, opZip, zeroP, opAppendZ, opMakeMap, opLookup, mboxB, opUpdate, ↓reduceIte, Nat.reduceSub, Nat.reduceEqDiff, Nat.reduceAdd, Nat.reduceMul, Nat.reduceLT, Nat.reduceLeDiff, Int.reduceToNat, Int.reduceLE, Int.reduceLT, Int.reduceNeg, reduceCtorEq, gos, Int.reduceAdd, Int.reduceSub, Int.reduceMul, Int.reduceEq]) <;> first | rfl | simp)
            · funext c
              simp (maxSteps := 20000000) only [Heap.drop_at, rowH_app, Heap.put_at, Heap.none_at, List.mem_cons, List.not_mem_nil, or_false]
              by_cases e0 : c = (0, 0) :: base
              · subst e0; simp [pickRow]
              by_cases e1 : c = (0, 1) :: base
              · subst e1; simp [pickRow]
              by_cases e2 : c = (3, 5) :: base
              · subst e2; simp [pickRow]
              by_cases e3 : c = (10, 8) :: base
              · subst e3; simp [pickRow]
              by_cases e4 : c = (10, 9) :: base
              · subst e4; simp [pickRow]
              simp [e0, e1, e2, e3, e4, pickRow]
            · omega
            · trivial
            · intro m hm _
              by_cases cm : m < cols.length
              · have g2 : cols[m]? = some cols[m] := List.getElem?_eq_getElem cm
                obtain ⟨c0, c1⟩ := b3 _ (List.getElem_mem cm)
                have nx2 : pickRow C l (cols.take (m + 1)) I = pickRow C l (cols.take m) I ++ [cl C l I cols[m].toNat] := by
                  unfold pickRow; rw [List.take_succ_eq_append_getElem cm, List.map_append]; rfl
                have hle : (pickM C l (rows.take j) cols ++ pickRow C l (cols.take m) I).length ≤ 4096 := by
                  rw [List.length_append]; simp only [pickRow, List.length_map, List.length_take]; omega
                generalize cols[m] = k at g2 c0 c1 nx2
                obtain ⟨K, rfl⟩ := Int.eq_ofNat_of_zero_le c0
                have hK : K < C := by omega
                have g3 : (rowM C l I)[K]? = some (cl C l I K) := by
                  have := rowM_cl M.len hI hK
                  rw [List.getD_eq_getElem?_getD, List.getElem?_eq_getElem (by omega)] at this
                  rw [List.getElem?_eq_getElem (by omega)]
                  exact congrArg some this
                rw [Int.toNat_natCast] at nx2
                have nx3 : pickM C l (rows.take j) cols ++ pickRow C l (cols.take (m + 1)) I = (pickM C l (rows.take j) cols ++ pickRow C l (cols.take m) I) ++ [cl C l I K] := by rw [nx2, List.append_assoc]
                generalize cl C l I K = x at g3 nx3
                generalize pickM C l (rows.take j) cols ++ pickRow C l (cols.take m) I = acc at nx3 hle ⊢
                clear nx2 nxt pl pb
                cases acc with
                | nil =>
                  repeat (first | ((first | refine X_call_fn2 rfl (by simp only [tys]) ?_ | refine X_dcall_fn2 rfl (by simp only [tys]) ?_); apply Exists.intro; apply And.intro; (focus (simp -dsimp only [simx, zzC, zzB, tys, ite_self, opnL, callB, callX, readsB, stepOp, nilCmp, ofVal, opBuiltin, opLen, PV.sk, scalBin, scalUn, intBin, opLoad, natOf, opConvert, opField, cellsP, oneP, Value.oneCell', opStore, toIV, scalT, scalA, scalC, boxesA, boxesC, zipB_none, zipB_mx, isZ, opZip, zeroP, opAppendZ, opMakeMap, opLookup, mboxB, opUpdate, ↓reduceIte, Nat.reduceSub, Nat.reduceEqDiff, Nat.reduceAdd, Nat.reduceMul, Nat.reduceLT, Nat.reduceLeDiff, Int.reduceToNat, Int.reduceLE, Int.reduceLT, Int.reduceNeg, reduceCtorEq, zzL, if_true, if_false] <;> rfl)); apply Exists.intro; apply And.intro; (focus (first | exact d))) | refine X_opc rfl ?_ | refine X_dopc rfl ?_ | refine ⟨(by show drawK _ _ = true; kernel_rfl : drawX _ _ _), ?_⟩ | exact (by show drawK _ _ = true; kernel_rfl : drawX _ _ _) | simp -dsimp (maxSteps := 20000000) (disch := omega) only [simx, zzC, zzB, tys, ite_self, opnL, callB, callX, readsB, stepOp, nilCmp, ofVal, opBuiltin, opLen, PV.sk, scalBin, scalUn, intBin, opLoad, natOf, opConvert, opField, cellsP, oneP, Value.oneCell', opStore, toIV, scalT, scalA, scalC, boxesA, boxesC, zipB_none, zipB_mx, isZ, opZip, zeroP, opAppendZ, opMakeMap, opLookup, mboxB, opUpdate, ↓reduceIte, Nat.reduceSub, Nat.reduceEqDiff, Nat.reduceAdd, Nat.reduceMul, Nat.reduceLT, Nat.reduceLeDiff, Int.reduceToNat, Int.reduceLE, Int.reduceLT, Int.reduceNeg, reduceCtorEq, gos, Int.reduceAdd, Int.reduceSub, Int.reduceMul, Int.reduceEq, cm, hK, g2, g3, rlen, keysL_row0, keysL_rowS])
                  refine X_dappend_one 22 [.int .u64 0] [iu x] (by simp only [tys]) (by simp only [tys]) rfl (by decide) (by simp) (by simp [Heap.put_at, Heap.none_at, rowH_app]) (by simp [Heap.put_at]; rfl) rfl (by simp only [tys]; simp at hle; omega) (by rw [mx_len]; simp at hle; omega) ?_
                  repeat (first | refine X_opc rfl ?_ | refine X_dopc rfl ?_ | refine ⟨(by show drawK _ _ = true; kernel_rfl : drawX _ _ _), ?_⟩ | exact (by show drawK _ _ = true; kernel_rfl : drawX _ _ _) | simp -dsimp (maxSteps := 20000000) (disch := omega) only [simx, zzC, zzB, tys, ite_self, opnL, callB, callX, readsB, stepOp, nilCmp, ofVal, opBuiltin, opLen, PV.sk, scalBin, scalUn, intBin, opLoad, natOf, opConvert, opField, cellsP, oneP, Value.oneCell', opStore, toIV, scalT, scalA, scalC, boxesA, boxesC, zipB_none, zipB_mx, isZ, opZip, zeroP, opAppendZ, opMakeMap, opLookup, mboxB, opUpdate, ↓reduceIte, Nat.reduceSub, Nat.reduceEqDiff, Nat.reduceAdd, Nat.reduceMul, Nat.reduceLT, Nat.reduceLeDiff, Int.reduceToNat, Int.reduceLE, Int.reduceLT, Int.reduceNeg, reduceCtorEq, gos, Int.reduceAdd, Int.reduceSub, Int.reduceMul, Int.reduceEq, keysL_row0, keysL_rowS, rowP_succ])
                  refine ⟨cm, (fgt_cons (by simp only [Heap.none_at]) (by (simp -dsimp only [zzB, tys, ite_self, opnL, callB, callX, readsB, stepOp, nilCmp, ofVal, opBuiltin, opLen, PV.sk, scalBin, scalUn, intBin, opLoad, natOf, opConvert, opField, cellsP, oneP, Value.oneCell', opStore, toIV, scalT, scalA, scalC, boxesA, boxesC, zipB_none, zipB_mx, isZ, opZip, zeroP, opAppendZ, opMakeMap, opLookup, mboxB, opUpdate, ↓reduceIte, Nat.reduceSub, Nat.reduceEqDiff, Nat.reduceAdd, Nat.reduceMul, Nat.reduceLT, Nat.reduceLeDiff, Int.reduceToNat, Int.reduceLE, Int.reduceLT, Int.reduceNeg, reduceCtorEq, notIn_cons, notIn_nil]) <;> simp [refsL, refsP, mem_refs_rowP]) (by repeat (first | exact noVar_none _ | refine noVar_row ?_ | refine noVar_map ?_ | refine noVar_rowH ?_ | refine noVar_var ?_ (by simp [refsL, refsP, mem_refs_rowP]))) (fgt_nil)), rfl, ?_⟩
                  rw [nx3]
                  funext c
                  simp (maxSteps := 20000000) only [Heap.drop_at, rowH_app, Heap.put_at, Heap.none_at, List.mem_cons, List.not_mem_nil, or_false]
                  by_cases e0 : c = (0, 0) :: base
                  · subst e0; simp [rowP]
                  by_cases e1 : c = (0, 1) :: base
                  · subst e1; simp [rowP]
                  by_cases e2 : c = (3, 5) :: base
                  · subst e2; simp [rowP]
                  by_cases e3 : c = (10, 8) :: base
                  · subst e3; simp [rowP]
                  by_cases e4 : c = (10, 9) :: base
                  · subst e4; simp [rowP]
                  simp [e0, e1, e2, e3, e4, rowP]
                | cons a acc =>
                  repeat (first | ((first | refine X_call_fn2 rfl (by simp only [tys]) ?_ | refine X_dcall_fn2 rfl (by simp only [tys]) ?_); apply Exists.intro; apply And.intro; (focus (simp -dsimp only [simx, zzC, zzB, tys, ite_self, opnL, callB, callX, readsB, stepOp, nilCmp, ofVal, opBuiltin, opLen, PV.sk, scalBin, scalUn, intBin, opLoad, natOf, opConvert, opField, cellsP, oneP, Value.oneCell', opStore, toIV, scalT, scalA, scalC, boxesA, boxesC, zipB_none, zipB_mx, isZ, opZip, zeroP, opAppendZ, opMakeMap, opLookup, mboxB, opUpdate, ↓reduceIte, Nat.reduceSub, Nat.reduceEqDiff, Nat.reduceAdd, Nat.reduceMul, Nat.reduceLT, Nat.reduceLeDiff, Int.reduceToNat, Int.reduceLE, Int.reduceLT, Int.reduceNeg, reduceCtorEq, zzL, if_true, if_false] <;> rfl)); apply Exists.intro; apply And.intro; (focus (first | exact d))) | refine X_opc rfl ?_ | refine X_dopc rfl ?_ | refine ⟨(by show drawK _ _ = true; kernel_rfl : drawX _ _ _), ?_⟩ | exact (by show drawK _ _ = true; kernel_rfl : drawX _ _ _) | simp -dsimp (maxSteps := 20000000) (disch := omega) only [simx, zzC, zzB, tys, ite_self, opnL, callB, callX, readsB, stepOp, nilCmp, ofVal, opBuiltin, opLen, PV.sk, scalBin, scalUn, intBin, opLoad, natOf, opConvert, opField, cellsP, oneP, Value.oneCell', opStore, toIV, scalT, scalA, scalC, boxesA, boxesC, zipB_none, zipB_mx, isZ, opZip, zeroP, opAppendZ, opMakeMap, opLookup, mboxB, opUpdate, ↓reduceIte, Nat.reduceSub, Nat.reduceEqDiff, Nat.reduceAdd, Nat.reduceMul, Nat.reduceLT, Nat.reduceLeDiff, Int.reduceToNat, Int.reduceLE, Int.reduceLT, Int.reduceNeg, reduceCtorEq, gos, Int.reduceAdd, Int.reduceSub, Int.reduceMul, Int.reduceEq, cm, hK, g2, g3, rlen, keysL_row0, keysL_rowS])
                  refine X_dappend_one 22 [.int .u64 0] [iu x] (by simp only [tys]) (by simp only [tys]) rfl (by decide) (by simp) (by simp [Heap.put_at, Heap.none_at, rowH_app]) (by simp [Heap.put_at]; rfl) rfl (by simp only [tys]; simp at hle; omega) (by rw [mx_len]; simp at hle; omega) ?_
                  repeat (first | refine X_opc rfl ?_ | refine X_dopc rfl ?_ | refine ⟨(by show drawK _ _ = true; kernel_rfl : drawX _ _ _), ?_⟩ | exact (by show drawK _ _ = true; kernel_rfl : drawX _ _ _) | simp -dsimp (maxSteps := 20000000) (disch := omega) only [simx, zzC, zzB, tys, ite_self, opnL, callB, callX, readsB, stepOp, nilCmp, ofVal, opBuiltin, opLen, PV.sk, scalBin, scalUn, intBin, opLoad, natOf, opConvert, opField, cellsP, oneP, Value.oneCell', opStore, toIV, scalT, scalA, scalC, boxesA, boxesC, zipB_none, zipB_mx, isZ, opZip, zeroP, opAppendZ, opMakeMap, opLookup, mboxB, opUpdate, ↓reduceIte, Nat.reduceSub, Nat.reduceEqDiff, Nat.reduceAdd, Nat.reduceMul, Nat.reduceLT, Nat.reduceLeDiff, Int.reduceToNat, Int.reduceLE, Int.reduceLT, Int.reduceNeg, reduceCtorEq, gos, Int.reduceAdd, Int.reduceSub, Int.reduceMul, Int.reduceEq, keysL_row0, keysL_rowS, rowP_succ])
                  refine ⟨cm, (fgt_cons (by simp only [Heap.none_at]) (by (simp -dsimp only [zzB, tys, ite_self, opnL, callB, callX, readsB, stepOp, nilCmp, ofVal, opBuiltin, opLen, PV.sk, scalBin, scalUn, intBin, opLoad, natOf, opConvert, opField, cellsP, oneP, Value.oneCell', opStore, toIV, scalT, scalA, scalC, boxesA, boxesC, zipB_none, zipB_mx, isZ, opZip, zeroP, opAppendZ, opMakeMap, opLookup, mboxB, opUpdate, ↓reduceIte, Nat.reduceSub, Nat.reduceEqDiff, Nat.reduceAdd, Nat.reduceMul, Nat.reduceLT, Nat.reduceLeDiff, Int.reduceToNat, Int.reduceLE, Int.reduceLT, Int.reduceNeg, reduceCtorEq, notIn_cons, notIn_nil]) <;> simp [refsL, refsP, mem_refs_rowP]) (by repeat (first | exact noVar_none _ | refine noVar_row ?_ | refine noVar_map ?_ | refine noVar_rowH ?_ | refine noVar_var ?_ (by simp [refsL, refsP, mem_refs_rowP]))) (fgt_nil)), rfl, ?_⟩
                  rw [nx3]
                  funext c
                  simp (maxSteps := 20000000) only [Heap.drop_at, rowH_app, Heap.put_at, Heap.none_at, List.mem_cons, List.not_mem_nil, or_false]
                  by_cases e0 : c = (0, 0) :: base
                  · subst e0; simp [rowP]
                  by_cases e1 : c = (0, 1) :: base
                  · subst e1; simp [rowP]
                  by_cases e2 : c = (3, 5) :: base
                  · subst e2; simp [rowP]
                  by_cases e3 : c = (10, 8) :: base
                  · subst e3; simp [rowP]
                  by_cases e4 : c = (10, 9) :: base
                  · subst e4; simp [rowP]
                  simp [e0, e1, e2, e3, e4, rowP]
              · have hm' : m = cols.length := by omega
                subst hm'
                rw [List.take_length, ← nxt]
                repeat (first | refine X_opc rfl ?_ | refine X_dopc rfl ?_ | refine ⟨(by show drawK _ _ = true; kernel_rfl : drawX _ _ _), ?_⟩ | exact (by show drawK _ _ = true; kernel_rfl : drawX _ _ _) | simp -dsimp (maxSteps := 20000000) (disch := omega) only [simx, zzC, zzB, tys, ite_self, opnL, callB, callX, readsB, stepOp, nilCmp, ofVal, opBuiltin, opLen, PV.sk, scalBin, scalUn, intBin, opLoad, natOf, opConvert, opField, cellsP, oneP, Value.oneCell', opStore, toIV, scalT, scalA, scalC, boxesA, boxesC, zipB_none, zipB_mx, isZ, opZip, zeroP, opAppendZ, opMakeMap, opLookup, mboxB, opUpdate, ↓reduceIte, Nat.reduceSub, Nat.reduceEqDiff, Nat.reduceAdd, Nat.reduceMul, Nat.reduceLT, Nat.reduceLeDiff, Int.reduceToNat, Int.reduceLE, Int.reduceLT, Int.reduceNeg, reduceCtorEq, gos, Int.reduceAdd, Int.reduceSub, Int.reduceMul, Int.reduceEq])
                refine ⟨cj, (fgt_nil), rfl, ?_⟩
                exact drop_nil _
          · have hj' : j = rows.length := by omega
            subst hj'
            rw [List.take_length]
            have pl := pickM_len C l cols rows
            obtain ⟨a, acc, e⟩ : ∃ a acc, pickM C l rows cols = a :: acc := by
              cases h : pickM C l rows cols with
              | nil =>
                rw [h] at pl
                have := Nat.mul_pos a1 b1
                simp at pl; omega
              | cons a acc => exact ⟨a, acc, rfl⟩
            rw [e]
            have e1 : (acc.map iu).take acc.length = acc.map iu := List.take_of_length_le (by simp)
            repeat (first | refine X_opc rfl ?_ | refine X_dopc rfl ?_ | refine ⟨(by show drawK _ _ = true; kernel_rfl : drawX _ _ _), ?_⟩ | exact (by show drawK _ _ = true; kernel_rfl : drawX _ _ _) | simp -dsimp (maxSteps := 20000000) (disch := omega) only [simx, zzC, zzB, tys, ite_self, opnL, callB, callX, readsB, stepOp, nilCmp, ofVal, opBuiltin, opLen, PV.sk, scalBin, scalUn, intBin, opLoad, natOf, opConvert, opField, cellsP, oneP, Value.oneCell', opStore, toIV, scalT, scalA, scalC, boxesA, boxesC, zipB_none, zipB_mx, isZ, opZip, zeroP, opAppendZ, opMakeMap, opLookup, mboxB, opUpdate, ↓reduceIte, Nat.reduceSub, Nat.reduceEqDiff, Nat.reduceAdd, Nat.reduceMul, Nat.reduceLT, Nat.reduceLeDiff, Int.reduceToNat, Int.reduceLE, Int.reduceLT, Int.reduceNeg, reduceCtorEq, zzR, gos, Int.reduceAdd, Int.reduceSub, Int.reduceMul, Int.reduceEq, rowP_succ, List.length_map, e1, mat2, lu])
            rfl
end Go.Proofs.Ythnfphgjfpcpbaa.TM
namespace Go.Proofs.Ythnfphgjfpcpbaa.TM
open Go Go.RowKit
theorem timesM_get {p : Int} {r c : Nat} {l x : List Int} (hl : l.length = r * c) (hx : x.length = c) {i : Nat} (hi : i < r) : (timesM p r c l x).getD i 0 = sumN c (fun k => cl c l i k * x.getD k 0) % p := by
  rw [timesM_tbl hl hx, tbl_getD _ hi]
def leftM (p : Int) (x : List Int) (r c : Nat) (l : List Int) : List Int := timesM p c r (turnM r c l) x
theorem leftM_len (p : Int) (x : List Int) (r c : Nat) (l : List Int) : (leftM p x r c l).length = c := timesM_len ..
theorem leftM_get {p : Int} {r c : Nat} {l x : List Int} (hx : x.length = r) {k : Nat} (hk : k < c) : (leftM p x r c l).getD k 0 = sumN r (fun i => x.getD i 0 * cl c l i k) % p := by
  unfold leftM
  rw [timesM_get (turnM_len r c l) hx hk]
  congr 1
  apply sumN_congr
  intro i hi
  rw [turn_cl l hi hk, Int.mul_comm]
where pick_cell' (C : Nat) (l cols : List Int) {m : Nat} (hm : m < cols.length) : ∀ (rows : List Int) (j : Nat), j < rows.length → (pickM C l rows cols).getD (j * cols.length + m) 0 = cl C l (rows.getD j 0).toNat (cols.getD m 0).toNat
  | [], j, h => by simp at h
  | i :: rows, 0, _ => by
    unfold pickM
    rw [List.flatMap_cons, List.getD_eq_getElem?_getD, List.getElem?_append_left (by simp [pickRow]; omega)]
    simp [pickRow, List.getElem?_eq_getElem hm]
  | i :: rows, j + 1, h => by
    have ih := pick_cell' C l cols hm rows j (by simpa using h)
    unfold pickM at ih ⊢
    rw [List.flatMap_cons, List.getD_eq_getElem?_getD, List.getElem?_append_right (by simp [pickRow, Nat.succ_mul]; omega)]
    rw [List.getD_eq_getElem?_getD] at ih
    rw [show (j + 1) * cols.length + m - (pickRow C l cols i).length = j * cols.length + m by simp [pickRow, Nat.succ_mul]; omega, ih]
    simp
end Go.Proofs.Ythnfphgjfpcpbaa.TM
namespace Go.Proofs.Ythnfphgjfpcpbaa.TM
open Go Go.RowKit
def rwC (c : CupT) (k : Nat) : Nat := (c.1.getD k 0).toNat
def cwC (c : CupT) (k : Nat) : Nat := (c.2.1.getD k 0).toNat
def ccC (c : CupT) : Mx := fun i k => (c.2.2.1.getD i []).getD k 0
def uuC (c : CupT) : Mx := fun k j => (c.2.2.2.getD k []).getD j 0
abbrev CpC (P R C : Nat) (A : Mx) (c : CupT) : Prop := Cp P R C c.1.length A (rwC c) (cwC c) (ccC c) (uuC c)
theorem pad_get (r : Nat) (x : List Int) (k : Nat) : (padF r x).getD k 0 = x.getD k 0 := by
  unfold padF
  rw [List.getD_eq_getElem?_getD, List.getD_eq_getElem?_getD]
  by_cases h : k < x.length
  · rw [List.getElem?_append_left h]
  · rw [List.getElem?_append_right (by omega), List.getElem?_eq_none (l := x) (by omega), List.getElem?_replicate]
    split <;> rfl
theorem tkCup_Cp {P R C : Nat} {l : List Int} (hP : Prm P) (M : Mt P R C l) (hin : ∀ a ∈ l, In P a) : CpC P R C (cl C l) (tkCup P C R l) := by
  have K := tkN_C hP M.hp M.len hin R (Nat.le_refl R)
  have e1 : (tkCup P C R l).1.length = (tkN P C l R).us.length := K.I.rl
  have e2 : ccC (tkCup P C R l) = cF (tkN P C l R) := by
    funext i k
    show (((tkN P C l R).cs.map (padF (tkN P C l R).us.length)).getD i []).getD k 0 = (csF (tkN P C l R) i).getD k 0
    unfold csF
    by_cases h : i < (tkN P C l R).cs.length
    · rw [List.getD_eq_getElem?_getD (l := List.map _ _), List.getElem?_map, List.getElem?_eq_getElem h, Option.map_some, Option.getD_some, pad_get, List.getD_eq_getElem?_getD (l := (tkN P C l R).cs), List.getElem?_eq_getElem h]; rfl
    · rw [List.getD_eq_getElem?_getD (l := List.map _ _), List.getElem?_map, List.getElem?_eq_none (by omega), List.getD_eq_getElem?_getD (l := (tkN P C l R).cs), List.getElem?_eq_none (by omega)]; rfl
  unfold CpC
  rw [e1, e2]
  exact K.H
section
variable {P R C : Nat} {A : Mx} {c : CupT}
end
end Go.Proofs.Ythnfphgjfpcpbaa.TM
namespace Go.Proofs.Ythnfphgjfpcpbaa.TM
open Go Go.RowKit
theorem in_mod {p a : Int} (h : In p a) : a % p = a := Int.emod_eq_of_lt h.1 h.2
theorem list_ext0 {a b : List Int} {n : Nat} (ha : a.length = n) (hb : b.length = n) (h : ∀ i, i < n → a.getD i 0 = b.getD i 0) : a = b := by
  rw [tbl_of ha, tbl_of hb]; exact tbl_congr h
section
variable {P R C : Nat} {l b : List Int}
structure RowV (P R C : Nat) (l : List Int) (c : CupT) (i : Nat) (y : List Int) : Prop where
  len : y.length = R
  inn : ∀ a ∈ y, In P a
  one : y.getD i 0 = 1
  sup : ∀ m, m < R → m ≠ i → (∀ k, k < c.1.length → m ≠ rwC c k) → y.getD m 0 = 0
  zero : ∀ j, j < C → sumN R (fun m => y.getD m 0 * cl C l m j) % P = 0
theorem RowV.left {c : CupT} {i : Nat} {y : List Int} (hp : Md P) (V : RowV P R C l c i y) (hl : l.length = R * C) : leftM P y R C l = zeroV C :=
  list_ext0 (leftM_len ..) (zeroV_len C) fun k hk => by rw [leftM_get V.len hk, V.zero k hk]; exact (show (zeroV C).getD k 0 = 0 from tbl_getD _ hk).symm
end
end Go.Proofs.Ythnfphgjfpcpbaa.TM
namespace Go.Proofs.Ythnfphgjfpcpbaa.TM
open Go Go.RowKit
attribute [local irreducible] K W WOps Effs Xg Xo Xr Xdg Xdo Xdr Xif CallsP CallR
def dtN (p : Int) (c : CupT) : Nat → Int
  | 0 => 1
  | j + 1 => dtN p c j * (c.2.2.2.getD j []).getD (c.2.1.getD j 0).toNat 0 % p
theorem dtN_in {p : Int} (hp : Md p) (c : CupT) : ∀ j, In p (dtN p c j)
  | 0 => ⟨by show (0 : Int) ≤ 1; decide, by have := hp.1; show (1 : Int) < p; omega⟩
  | j + 1 => in_emod hp _
theorem dtN_eq (p : Int) (c : CupT) : ∀ j, dtN p c j % p = prodN j (fun k => uuC c k (cwC c k)) % p
  | 0 => rfl
  | j + 1 => by rw [dtN, em_refl, prodN]; exact em_mul (dtN_eq p c j) rfl
theorem cols_ord {P R : Nat} {A : Mx} {c : CupT} (h1 : 1 ≤ R) (h2 : R ≤ 64) (hw : CupW P R R c) (H : CpC P R R A c) (hr : c.1.length = R) : orderB c.2.1 = true ∧ sgnR c.2.1 = sgnI (fun k => (cwC c k : Int)) R := by
  have e : c.2.1 = tbl R (fun k => (cwC c k : Int)) := by
    rw [← hr]
    refine (tbl_of hw.ql).trans (tbl_congr fun k hk => ?_)
    have := hw.qb _ (getD_mm (l := c.2.1) (d := 0) (i := k) (by rw [hw.ql]; exact hk))
    unfold cwC; omega
  have i1 : InjN (fun k => (cwC c k : Int)) R := fun i j hi hj he => H.cdis (by omega) (by omega) (by have : (cwC c i : Int) = cwC c j := he; omega)
  have i2 : InN (fun k => (cwC c k : Int)) R := fun i hi => ⟨by show (0 : Int) ≤ (cwC c i : Int); omega, by have := H.clt i (by omega); show (cwC c i : Int) < R; omega⟩
  have o := ord_tbl h1 h2 i1 i2
  rw [e]
  exact ⟨(orderB_iff _).2 o, sgn_tbl o⟩
set_option maxHeartbeats 2000000 in
theorem det_yes {P R : Nat} {l : List Int} (hP : Prm P) (M : Mt P R R l) (hin : ∀ a ∈ l, In P a) : CallsP Try.prog 37 [u64 P, matP R R l] (.tup [u64 (Lp R (cl R l) % P), i64 0]) := by
  have q1 := take_yes hP M hin
  have hw := tkCup_W hP M hin
  have H := tkCup_Cp hP M hin
  have hl := H.lp
  have co := fun h => cols_ord M.r1 M.r2 hw H h
  have hp := M.hp
  have r1 := M.r1
  have r2 := M.r2
  rw [hl]
  unfold pdX
  clear hl H
  have di := dtN_in hp (tkCup P R R l)
  have de := dtN_eq P (tkCup P R R l) R
  generalize hG : prodN R (fun k => uuC (tkCup P R R l) k (cwC (tkCup P R R l) k)) = G at de ⊢
  generalize hS : sgnI (fun k => (cwC (tkCup P R R l) k : Int)) R = S at co ⊢
  have s1 : S = 1 ∨ S = -1 := by rw [← hS]; exact sgnI_one _ _
  clear hG hS
  generalize tkCup P R R l = c at *
  obtain ⟨rw0, cw, cc, uu⟩ := c
  have rle := hw.rle
  have ul := hw.ul
  have ql := hw.ql
  simp only at rle ul ql co ⊢
  by_cases hr : rw0.length = R
  case neg =>
    rw [if_neg hr, Int.zero_emod]
    have h1 : (rw0.length : Int) < R := by omega
    refine X_startP (n := 73) (m := 2) (rs := [.tmp 4, .tmp 5]) Try.func37 rfl rfl rfl rfl (by decide) fun base => ?_
    repeat (first | ((first | refine X_call_fn2 rfl (by simp only [tys]) ?_ | refine X_dcall_fn2 rfl (by simp only [tys]) ?_); apply Exists.intro; apply And.intro; (focus (simp -dsimp only [simx, zzC, zzB, tys, ite_self, opnL, callB, callX, readsB, stepOp, nilCmp, ofVal, opBuiltin, opLen, PV.sk, scalBin, scalUn, intBin, opLoad, natOf, opConvert, opField, cellsP, oneP, Value.oneCell', opStore, toIV, scalT, scalA, scalC, boxesA, boxesC, zipB_none, zipB_mx, isZ, opZip, zeroP, opAppendZ, opMakeMap, opLookup, mboxB, opUpdate, ↓reduceIte, Nat.reduceSub, Nat.reduceEqDiff, Nat.reduceAdd, Nat.reduceMul, Nat.reduceLT, Nat.reduceLeDiff, Int.reduceToNat, Int.reduceLE, Int.reduceLT, Int.reduceNeg, reduceCtorEq, zzL, if_true, if_false] <;> rfl)); apply Exists.intro; apply And.intro; (focus (first | exact q1))) | refine X_opc rfl ?_ | refine X_dopc rfl ?_ | refine ⟨(by show drawK _ _ = true; kernel_rfl : drawX _ _ _), ?_⟩ | exact (by show drawK _ _ = true; kernel_rfl : drawX _ _ _) | simp -dsimp (maxSteps := 20000000) (disch := omega) only [simx, zzC, zzB, tys, ite_self, opnL, callB, callX, readsB, stepOp, nilCmp, ofVal, opBuiltin, opLen, PV.sk, scalBin, scalUn, intBin, opLoad, natOf, opConvert, opField, cellsP, oneP, Value.oneCell', opStore, toIV, scalT, scalA, scalC, boxesA, boxesC, zipB_none, zipB_mx, isZ, opZip, zeroP, opAppendZ, opMakeMap, opLookup, mboxB, opUpdate, ↓reduceIte, Nat.reduceSub, Nat.reduceEqDiff, Nat.reduceAdd, Nat.reduceMul, Nat.reduceLT, Nat.reduceLeDiff, Int.reduceToNat, Int.reduceLE, Int.reduceLT, Int.reduceNeg, reduceCtorEq, zzR, gos, Int.reduceAdd, Int.reduceSub, Int.reduceMul, Int.reduceEq, SK.len, h1])
  rw [if_pos hr]
  obtain ⟨o1, o2⟩ := co hr
  have h1 : ¬ (rw0.length : Int) < R := by omega
  have q2 := sign_walk cw (by rw [ql, mx_len]; omega)
  unfold signR at q2
  rw [if_pos o1, o2] at q2
  have q3 := Sub_in hp ⟨Int.le_refl 0, by have := hp.1; omega⟩ (di R)
  have e3 : (0 - dtN P (rw0, cw, cc, uu) R) % P = G * -1 % P := by
    rw [em_sub (rfl : (0 : Int) % P = 0 % P) de]
    congr 1
    omega
  have e2 : dtN P (rw0, cw, cc, uu) R = G * 1 % P := by
    rw [Int.mul_one, ← de, in_mod (di R)]
  rw [e3] at q3
  refine X_startP (n := 73) (m := 2) (rs := [.tmp 4, .tmp 5]) Try.func37 rfl rfl rfl rfl (by decide) fun base => ?_
  repeat (first | ((first | refine X_call_fn2 rfl (by simp only [tys]) ?_ | refine X_dcall_fn2 rfl (by simp only [tys]) ?_); apply Exists.intro; apply And.intro; (focus (simp -dsimp only [simx, zzC, zzB, tys, ite_self, opnL, callB, callX, readsB, stepOp, nilCmp, ofVal, opBuiltin, opLen, PV.sk, scalBin, scalUn, intBin, opLoad, natOf, opConvert, opField, cellsP, oneP, Value.oneCell', opStore, toIV, scalT, scalA, scalC, boxesA, boxesC, zipB_none, zipB_mx, isZ, opZip, zeroP, opAppendZ, opMakeMap, opLookup, mboxB, opUpdate, ↓reduceIte, Nat.reduceSub, Nat.reduceEqDiff, Nat.reduceAdd, Nat.reduceMul, Nat.reduceLT, Nat.reduceLeDiff, Int.reduceToNat, Int.reduceLE, Int.reduceLT, Int.reduceNeg, reduceCtorEq, zzL, if_true, if_false] <;> rfl)); apply Exists.intro; apply And.intro; (focus (first | exact q1))) | refine X_opc rfl ?_ | refine X_dopc rfl ?_ | refine ⟨(by show drawK _ _ = true; kernel_rfl : drawX _ _ _), ?_⟩ | exact (by show drawK _ _ = true; kernel_rfl : drawX _ _ _) | simp -dsimp (maxSteps := 20000000) (disch := omega) only [simx, zzC, zzB, tys, ite_self, opnL, callB, callX, readsB, stepOp, nilCmp, ofVal, opBuiltin, opLen, PV.sk, scalBin, scalUn, intBin, opLoad, natOf, opConvert, opField, cellsP, oneP, Value.oneCell', opStore, toIV, scalT, scalA, scalC, boxesA, boxesC, zipB_none, zipB_mx, isZ, opZip, zeroP, opAppendZ, opMakeMap, opLookup, mboxB, opUpdate, ↓reduceIte, Nat.reduceSub, Nat.reduceEqDiff, Nat.reduceAdd, Nat.reduceMul, Nat.reduceLT, Nat.reduceLeDiff, Int.reduceToNat, Int.reduceLE, Int.reduceLT, Int.reduceNeg, reduceCtorEq, gos, Int.reduceAdd, Int.reduceSub, Int.reduceMul, Int.reduceEq, SK.len, h1])
  refine X_loopH [0, 6, 8, 36, 37, 38] [] (0) (R) (fun j => True) (fun j => [(8, u64 (dtN P (rw0, cw, cc, uu) j)), (37, i64 R), (38, i64 j)]) (fun j => (Heap.none.put ((0, 0) :: base) (.var [i64 R, i64 R, lu l])).put ((3, 6) :: base) (.var [li rw0, li cw, llP cc, llP uu])) ?_ ?_ ?_ ?_ ?_ (by decide) ?_
  · exact (fgt_nil)
  · repeat (first | refine X_opc rfl ?_ | refine X_dopc rfl ?_ | refine ⟨(by show drawK _ _ = true; kernel_rfl : drawX _ _ _), ?_⟩ | exact (by show drawK _ _ = true; kernel_rfl : drawX _ _ _) | simp -dsimp (maxSteps := 20000000) (disch := omega) only [simx, zzC, zzB, tys, ite_self, opnL, callB, callX, readsB, stepOp, nilCmp, ofVal, opBuiltin, opLen, PV.sk, scalBin, scalUn, intBin, opLoad, natOf, opConvert, opField, cellsP, oneP, Value.oneCell', opStore, toIV, scalT, scalA, scalC, boxesA, boxesC, zipB_none, zipB_mx, isZ, opZip, zeroP, opAppendZ, opMakeMap, opLookup, mboxB, opUpdate, ↓reduceIte, Nat.reduceSub, Nat.reduceEqDiff, Nat.reduceAdd, Nat.reduceMul, Nat.reduceLT, Nat.reduceLeDiff, Int.reduceToNat, Int.reduceLE, Int.reduceLT, Int.reduceNeg, reduceCtorEq, gos, Int.reduceAdd, Int.reduceSub, Int.reduceMul, Int.reduceEq, ul, hr, dtN])
    rfl
  · funext c
    simp (maxSteps := 20000000) only [Heap.drop_at, rowH_app, Heap.put_at, Heap.none_at, List.mem_cons, List.not_mem_nil, or_false]
    by_cases e0 : c = (0, 0) :: base
    · subst e0; simp []
    by_cases e1 : c = (3, 6) :: base
    · subst e1; simp []
    simp [e0, e1]
  · omega
  · trivial
  · intro j hj _
    by_cases cj : j < R
    · have hq := hw.qb (cw.getD j 0) (getD_mm (by simp only; omega))
      obtain ⟨q, hqe⟩ : ∃ q : Nat, cw.getD j 0 = q := ⟨(cw.getD j 0).toNat, by omega⟩
      obtain ⟨u1, u2⟩ := hw.ur (uu.getD j []) (getD_mm (by simp only; omega))
      have qC : q < R := by omega
      have g1 : (uu.map fun u => IV.l u.length (u.map iu))[j]? = some (.l R ((uu.getD j []).map iu)) := by rw [List.getElem?_map, getD_at' (d := []) (by omega), Option.map_some, u1]
      have g2 : (cw.map ii)[j]? = some (ii (q : Int)) := by rw [List.getElem?_map, getD_at' (d := 0) (by omega), Option.map_some, hqe]
      have g3 : ((uu.getD j []).map iu)[q]? = some (iu ((uu.getD j []).getD q 0)) := by rw [List.getElem?_map, getD_some u1 qC]; rfl
      have m1 := Mul_in hp (di j) (getD_of u2 (i := q) (by omega))
      have dn : dtN P (rw0, cw, cc, uu) (j + 1) = dtN P (rw0, cw, cc, uu) j * (uu.getD j []).getD q 0 % P := by
        rw [dtN]; simp only [hqe, Int.toNat_natCast]
      rw [← dn] at m1
      obtain ⟨D1, hD1⟩ : ∃ D, dtN P (rw0, cw, cc, uu) (j + 1) = D := ⟨_, rfl⟩
      rw [hD1] at m1
      clear dn e2 e3 q3 di de
      generalize dtN P (rw0, cw, cc, uu) j = D0 at m1 ⊢
      obtain ⟨U, hU⟩ : ∃ U, uu.getD j [] = U := ⟨_, rfl⟩
      rw [hU] at g1 g3 m1
      generalize U.getD q 0 = x at g3 m1
      repeat (first | ((first | refine X_call_fn2 rfl (by simp only [tys]) ?_ | refine X_dcall_fn2 rfl (by simp only [tys]) ?_); apply Exists.intro; apply And.intro; (focus (simp -dsimp only [simx, zzC, zzB, tys, ite_self, opnL, callB, callX, readsB, stepOp, nilCmp, ofVal, opBuiltin, opLen, PV.sk, scalBin, scalUn, intBin, opLoad, natOf, opConvert, opField, cellsP, oneP, Value.oneCell', opStore, toIV, scalT, scalA, scalC, boxesA, boxesC, zipB_none, zipB_mx, isZ, opZip, zeroP, opAppendZ, opMakeMap, opLookup, mboxB, opUpdate, ↓reduceIte, Nat.reduceSub, Nat.reduceEqDiff, Nat.reduceAdd, Nat.reduceMul, Nat.reduceLT, Nat.reduceLeDiff, Int.reduceToNat, Int.reduceLE, Int.reduceLT, Int.reduceNeg, reduceCtorEq, zzL, if_true, if_false] <;> rfl)); apply Exists.intro; apply And.intro; (focus (first | exact m1))) | refine X_opc rfl ?_ | refine X_dopc rfl ?_ | refine ⟨(by show drawK _ _ = true; kernel_rfl : drawX _ _ _), ?_⟩ | exact (by show drawK _ _ = true; kernel_rfl : drawX _ _ _) | simp -dsimp (maxSteps := 20000000) (disch := omega) only [simx, zzC, zzB, tys, ite_self, opnL, callB, callX, readsB, stepOp, nilCmp, ofVal, opBuiltin, opLen, PV.sk, scalBin, scalUn, intBin, opLoad, natOf, opConvert, opField, cellsP, oneP, Value.oneCell', opStore, toIV, scalT, scalA, scalC, boxesA, boxesC, zipB_none, zipB_mx, isZ, opZip, zeroP, opAppendZ, opMakeMap, opLookup, mboxB, opUpdate, ↓reduceIte, Nat.reduceSub, Nat.reduceEqDiff, Nat.reduceAdd, Nat.reduceMul, Nat.reduceLT, Nat.reduceLeDiff, Int.reduceToNat, Int.reduceLE, Int.reduceLT, Int.reduceNeg, reduceCtorEq, gos, Int.reduceAdd, Int.reduceSub, Int.reduceMul, Int.reduceEq, cj, ul, ql, List.length_map, g1, g2, g3, qC, hr])
      exact ⟨cj, (fgt_nil), by rw [hD1]; exact ⟨rfl, rfl⟩, drop_nil _⟩
    · have ej : R = j := by omega
      subst ej
      clear de di
      generalize dtN P (rw0, cw, cc, uu) R = D at e2 e3 q3 ⊢
      rcases s1 with rfl | rfl
      · subst e2
        repeat (first | ((first | refine X_call_fn2 rfl (by simp only [tys]) ?_ | refine X_dcall_fn2 rfl (by simp only [tys]) ?_); apply Exists.intro; apply And.intro; (focus (simp -dsimp only [simx, zzC, zzB, tys, ite_self, opnL, callB, callX, readsB, stepOp, nilCmp, ofVal, opBuiltin, opLen, PV.sk, scalBin, scalUn, intBin, opLoad, natOf, opConvert, opField, cellsP, oneP, Value.oneCell', opStore, toIV, scalT, scalA, scalC, boxesA, boxesC, zipB_none, zipB_mx, isZ, opZip, zeroP, opAppendZ, opMakeMap, opLookup, mboxB, opUpdate, ↓reduceIte, Nat.reduceSub, Nat.reduceEqDiff, Nat.reduceAdd, Nat.reduceMul, Nat.reduceLT, Nat.reduceLeDiff, Int.reduceToNat, Int.reduceLE, Int.reduceLT, Int.reduceNeg, reduceCtorEq, zzL, if_true, if_false] <;> rfl)); apply Exists.intro; apply And.intro; (focus (first | exact q2))) | refine X_opc rfl ?_ | refine X_dopc rfl ?_ | refine ⟨(by show drawK _ _ = true; kernel_rfl : drawX _ _ _), ?_⟩ | exact (by show drawK _ _ = true; kernel_rfl : drawX _ _ _) | simp -dsimp (maxSteps := 20000000) (disch := omega) only [simx, zzC, zzB, tys, ite_self, opnL, callB, callX, readsB, stepOp, nilCmp, ofVal, opBuiltin, opLen, PV.sk, scalBin, scalUn, intBin, opLoad, natOf, opConvert, opField, cellsP, oneP, Value.oneCell', opStore, toIV, scalT, scalA, scalC, boxesA, boxesC, zipB_none, zipB_mx, isZ, opZip, zeroP, opAppendZ, opMakeMap, opLookup, mboxB, opUpdate, ↓reduceIte, Nat.reduceSub, Nat.reduceEqDiff, Nat.reduceAdd, Nat.reduceMul, Nat.reduceLT, Nat.reduceLeDiff, Int.reduceToNat, Int.reduceLE, Int.reduceLT, Int.reduceNeg, reduceCtorEq, zzR, gos, Int.reduceAdd, Int.reduceSub, Int.reduceMul, Int.reduceEq])
      · repeat (first | ((first | refine X_call_fn2 rfl (by simp only [tys]) ?_ | refine X_dcall_fn2 rfl (by simp only [tys]) ?_); apply Exists.intro; apply And.intro; (focus (simp -dsimp only [simx, zzC, zzB, tys, ite_self, opnL, callB, callX, readsB, stepOp, nilCmp, ofVal, opBuiltin, opLen, PV.sk, scalBin, scalUn, intBin, opLoad, natOf, opConvert, opField, cellsP, oneP, Value.oneCell', opStore, toIV, scalT, scalA, scalC, boxesA, boxesC, zipB_none, zipB_mx, isZ, opZip, zeroP, opAppendZ, opMakeMap, opLookup, mboxB, opUpdate, ↓reduceIte, Nat.reduceSub, Nat.reduceEqDiff, Nat.reduceAdd, Nat.reduceMul, Nat.reduceLT, Nat.reduceLeDiff, Int.reduceToNat, Int.reduceLE, Int.reduceLT, Int.reduceNeg, reduceCtorEq, zzL, if_true, if_false] <;> rfl)); apply Exists.intro; apply And.intro; (focus (first | exact q2 | exact q3))) | refine X_opc rfl ?_ | refine X_dopc rfl ?_ | refine ⟨(by show drawK _ _ = true; kernel_rfl : drawX _ _ _), ?_⟩ | exact (by show drawK _ _ = true; kernel_rfl : drawX _ _ _) | simp -dsimp (maxSteps := 20000000) (disch := omega) only [simx, zzC, zzB, tys, ite_self, opnL, callB, callX, readsB, stepOp, nilCmp, ofVal, opBuiltin, opLen, PV.sk, scalBin, scalUn, intBin, opLoad, natOf, opConvert, opField, cellsP, oneP, Value.oneCell', opStore, toIV, scalT, scalA, scalC, boxesA, boxesC, zipB_none, zipB_mx, isZ, opZip, zeroP, opAppendZ, opMakeMap, opLookup, mboxB, opUpdate, ↓reduceIte, Nat.reduceSub, Nat.reduceEqDiff, Nat.reduceAdd, Nat.reduceMul, Nat.reduceLT, Nat.reduceLeDiff, Int.reduceToNat, Int.reduceLE, Int.reduceLT, Int.reduceNeg, reduceCtorEq, zzR, gos, Int.reduceAdd, Int.reduceSub, Int.reduceMul, Int.reduceEq])
theorem det_no {P : Nat} (hP : Prm P) {r c : Int} {l : List Int} (hl : l.length ≤ maxLen) (wl : W64s l) (h : r ≠ c ∨ MatB P r c l = false) :
    CallsP Try.prog 37 [u64 P, matP r c l] (.tup [u64 0, i64 1]) := by
  by_cases e : r = c
  · have h2 : MatB P r c l = false := by
      rcases h with h | h
      · exact absurd e h
      · exact h
    subst e
    have q1 := mat_walk_no hl h2
    refine X_startP (n := 73) (m := 2) (rs := [.tmp 4, .tmp 5]) Try.func37 rfl rfl rfl rfl (by decide) fun base => ?_
    repeat (first | ((first | refine X_call_fn2 rfl (by simp only [tys]) ?_ | refine X_dcall_fn2 rfl (by simp only [tys]) ?_); apply Exists.intro; apply And.intro; (focus (simp -dsimp only [simx, zzC, zzB, tys, ite_self, opnL, callB, callX, readsB, stepOp, nilCmp, ofVal, opBuiltin, opLen, PV.sk, scalBin, scalUn, intBin, opLoad, natOf, opConvert, opField, cellsP, oneP, Value.oneCell', opStore, toIV, scalT, scalA, scalC, boxesA, boxesC, zipB_none, zipB_mx, isZ, opZip, zeroP, opAppendZ, opMakeMap, opLookup, mboxB, opUpdate, ↓reduceIte, Nat.reduceSub, Nat.reduceEqDiff, Nat.reduceAdd, Nat.reduceMul, Nat.reduceLT, Nat.reduceLeDiff, Int.reduceToNat, Int.reduceLE, Int.reduceLT, Int.reduceNeg, reduceCtorEq, zzL, if_true, if_false] <;> rfl)); apply Exists.intro; apply And.intro; (focus (first | exact q1))) | refine X_opc rfl ?_ | refine X_dopc rfl ?_ | refine ⟨(by show drawK _ _ = true; kernel_rfl : drawX _ _ _), ?_⟩ | exact (by show drawK _ _ = true; kernel_rfl : drawX _ _ _) | simp -dsimp (maxSteps := 20000000) (disch := omega) only [simx, zzC, zzB, tys, ite_self, opnL, callB, callX, readsB, stepOp, nilCmp, ofVal, opBuiltin, opLen, PV.sk, scalBin, scalUn, intBin, opLoad, natOf, opConvert, opField, cellsP, oneP, Value.oneCell', opStore, toIV, scalT, scalA, scalC, boxesA, boxesC, zipB_none, zipB_mx, isZ, opZip, zeroP, opAppendZ, opMakeMap, opLookup, mboxB, opUpdate, ↓reduceIte, Nat.reduceSub, Nat.reduceEqDiff, Nat.reduceAdd, Nat.reduceMul, Nat.reduceLT, Nat.reduceLeDiff, Int.reduceToNat, Int.reduceLE, Int.reduceLT, Int.reduceNeg, reduceCtorEq, zzR, gos, Int.reduceAdd, Int.reduceSub, Int.reduceMul, Int.reduceEq])
  · refine X_startP (n := 73) (m := 2) (rs := [.tmp 4, .tmp 5]) Try.func37 rfl rfl rfl rfl (by decide) fun base => ?_
    repeat (first | refine X_opc rfl ?_ | refine X_dopc rfl ?_ | refine ⟨(by show drawK _ _ = true; kernel_rfl : drawX _ _ _), ?_⟩ | exact (by show drawK _ _ = true; kernel_rfl : drawX _ _ _) | simp -dsimp (maxSteps := 20000000) (disch := omega) only [simx, zzC, zzB, tys, ite_self, opnL, callB, callX, readsB, stepOp, nilCmp, ofVal, opBuiltin, opLen, PV.sk, scalBin, scalUn, intBin, opLoad, natOf, opConvert, opField, cellsP, oneP, Value.oneCell', opStore, toIV, scalT, scalA, scalC, boxesA, boxesC, zipB_none, zipB_mx, isZ, opZip, zeroP, opAppendZ, opMakeMap, opLookup, mboxB, opUpdate, ↓reduceIte, Nat.reduceSub, Nat.reduceEqDiff, Nat.reduceAdd, Nat.reduceMul, Nat.reduceLT, Nat.reduceLeDiff, Int.reduceToNat, Int.reduceLE, Int.reduceLT, Int.reduceNeg, reduceCtorEq, zzR, gos, Int.reduceAdd, Int.reduceSub, Int.reduceMul, Int.reduceEq, e])
end Go.Proofs.Ythnfphgjfpcpbaa.TM
namespace Go.Proofs.Ythnfphgjfpcpbaa.TM
open Go
def lowerJB (h : Heap) (b : Name) (p : PV) : Option IV := if (boxesC p).contains b then none else lowerJ h p
def lowerCA (h : Heap) (b : Name) : PV → Option PV
  | .view c off z n top => if c = b then some (.view c off z n top) else match h c with
    | some (.var cs) => if cs.length = top ∧ off + n * z ≤ cs.length then (mapO (lowerJB h b) ((cs.drop off).take (n * z))).map fun xs => .i (.l n xs) else none
    | _ => lowerC h (.view c off z n top)
  | p => if (boxesC p).contains b then none else lowerC h p
def lowerAA (h : Heap) (b : Name) : PV → Option PV
  | .agg cs => (mapO (lowerCA h b) cs).map .agg
  | p => lowerCA h b p
def lowerTA (h : Heap) (b : Name) : PV → Option PV
  | .tup cs => (mapO (lowerAA h b) cs).map .tup
  | p => lowerAA h b p
section
variable {P : Program} {β : Pl} {h1 : Heap} {w : World} {b : Name} {cs0 : List IV}
theorem not_box {p : PV} (h : ¬ (boxesC p).contains b = true) : ∀ c ∈ boxesC p, c ≠ b := fun c hc e => h (by subst e; simpa using hc)
theorem lowerCA_rep (H1 : HInv β h1 w) {h' : Heap} (hb : h1 b = some (.row false cs0)) (hb' : h' b = some (.row false cs0)) {p q : PV} {v : Value} (hp : Rep β h1 w p v) (hl : lowerCA h1 b p = some q)
    (hR1 : ∀ a v, Rd β h1 w a v → Rd β h' w a v) (hR2 : ∀ c, c ≠ b → ∀ x, h1 c = some x → ∀ j v, w.cell? ⟨β c, j, none⟩ = some v → Rd β h' w ⟨β c, j, none⟩ v) : Rep β h' w q v := by
  have low : ∀ p q v, (∀ c ∈ boxesC p, c ≠ b) → Rep β h1 w p v → lowerC h1 p = some q → Rep β h' w q v := fun p q v hne hp hq =>
    lowerC_rep H1 hp hq (fun c _ fz cs hb => ⟨fz, hb⟩) hR1 fun c hc x hx j v hcell => hR2 c (hne c hc) x hx j v hcell
  unfold lowerCA at hl
  split at hl
  · rename_i c off z n top
    split at hl
    · rename_i hcb
      subst hcb
      cases hl
      cases hp with
      | view b' off z n top x a cap hbx hrow ht hn ha hv =>
        rw [hb] at hbx; cases hbx
        exact .view c off z n top _ a cap hb' rfl ht hn ha hv
    · rename_i hcb
      split at hl
      · rename_i cs hbv
        split at hl
        case isFalse => cases hl
        rename_i hc
        cases hm : mapO (lowerJB h1 b) ((cs.drop off).take (n * z)) with
        | none => simp [hm] at hl
        | some xs =>
          simp [hm] at hl
          subst hl
          obtain ⟨hlen, hg⟩ := mapO_get hm
          cases hp with
          | view _ _ _ _ _ x a cap hbx hrow ht hn ha hva =>
            rw [hbv] at hbx; cases hbx
            rcases hva hc.1 with ⟨h0, hc0, _⟩ | ⟨h0, hs0, _⟩
            · subst h0
              have : xs = [] := List.eq_nil_of_length_eq_zero (by rw [hlen]; simp)
              subst this
              cases a with
              | none => rw [hc0]; exact .i _ _ .nil
              | some a => exact .i _ _ (.l _ _ a cap (fun _ => undef) hn (fun j hj => by simp at hj) (fun j hj => by simp at hj) (fun j y hj => by simp at hj))
            · subst h0
              obtain ⟨c', e, hcc, hr, hcell⟩ := box_cell H1 hbv
              have hlen2 : ((cs.drop off).take (n * z)).length = n * z := by simp; omega
              refine .i _ _ (.l _ _ _ cap (fun j => c'.getD (off + j) undef) hn (fun j hj => ?_) (fun j hj => ?_) (fun j y hj => ?_))
              · rw [add_lit]
                exact hR2 c hcb _ hbv _ _ (hcell _ (by have := hr.1; omega))
              · have hlt : off + j < cs.length := by omega
                exact (hr.2 (off + j) cs[off + j] (List.getElem?_eq_getElem hlt)).1
              · have hjl : j < xs.length := (List.getElem?_eq_some_iff.1 hj).1
                have hj2 : j < ((cs.drop off).take (n * z)).length := by omega
                obtain ⟨x, hx, hxy⟩ := hg j _ (List.getElem?_eq_getElem hj2)
                rw [hxy] at hj; cases hj
                unfold lowerJB at hx
                split at hx
                case isTrue => cases hx
                rename_i hnb
                unfold lowerJ at hx
                split at hx
                · rename_i x' hlc
                  cases hx
                  have h7 := (hr.2 _ _ (take_drop_get (List.getElem?_eq_getElem hj2)).2).2
                  have h8 : Rep β h' w (.i _) (c'.getD (off + j) undef) := low _ _ _ (not_box hnb) h7 hlc
                  generalize c'.getD (off + j) undef = u at h8
                  cases h8 with | i _ _ h9 => exact h9
                · cases hx
      · exact low _ _ _ (fun d hd => by simp [boxesC] at hd; subst hd; exact hcb) hp hl
  · split at hl
    case isTrue => cases hl
    rename_i hnb
    exact low _ _ _ (not_box hnb) hp hl
theorem lowerAA_rep (H1 : HInv β h1 w) {h' : Heap} (hb : h1 b = some (.row false cs0)) (hb' : h' b = some (.row false cs0)) {p q : PV} {v : Value} (hp : Rep β h1 w p v) (hl : lowerAA h1 b p = some q)
    (hR1 : ∀ a v, Rd β h1 w a v → Rd β h' w a v) (hR2 : ∀ c, c ≠ b → ∀ x, h1 c = some x → ∀ j v, w.cell? ⟨β c, j, none⟩ = some v → Rd β h' w ⟨β c, j, none⟩ v) : Rep β h' w q v := by
  unfold lowerAA at hl
  split at hl
  · rename_i cs
    cases hm : mapO (lowerCA h1 b) cs with
    | none => simp [hm] at hl
    | some qs =>
      simp [hm] at hl
      subst hl
      obtain ⟨hlen, hg⟩ := mapO_get hm
      cases hp with
      | agg cs arr hla hs =>
        refine .agg _ _ (by omega) fun j x hj => ?_
        have hlt : j < cs.length := by rw [← hlen]; exact (List.getElem?_eq_some_iff.1 hj).1
        obtain ⟨y, hy, hqy⟩ := hg j _ (List.getElem?_eq_getElem hlt)
        rw [hqy] at hj; cases hj
        exact lowerCA_rep H1 hb hb' (hs j _ (List.getElem?_eq_getElem hlt)) hy hR1 hR2
  · exact lowerCA_rep H1 hb hb' hp hl hR1 hR2
theorem lowerTA_rep (H1 : HInv β h1 w) {h' : Heap} (hb : h1 b = some (.row false cs0)) (hb' : h' b = some (.row false cs0)) {p q : PV} {v : Value} (hp : Rep β h1 w p v) (hl : lowerTA h1 b p = some q)
    (hR1 : ∀ a v, Rd β h1 w a v → Rd β h' w a v) (hR2 : ∀ c, c ≠ b → ∀ x, h1 c = some x → ∀ j v, w.cell? ⟨β c, j, none⟩ = some v → Rd β h' w ⟨β c, j, none⟩ v) : Rep β h' w q v := by
  unfold lowerTA at hl
  split at hl
  · rename_i cs
    cases hm : mapO (lowerAA h1 b) cs with
    | none => simp [hm] at hl
    | some qs =>
      simp [hm] at hl
      subst hl
      obtain ⟨hlen, hg⟩ := mapO_get hm
      cases hp with
      | tup cs arr hla hs =>
        refine .tup _ _ (by omega) fun j x hj => ?_
        have hlt : j < cs.length := by rw [← hlen]; exact (List.getElem?_eq_some_iff.1 hj).1
        obtain ⟨y, hy, hqy⟩ := hg j _ (List.getElem?_eq_getElem hlt)
        rw [hqy] at hj; cases hj
        exact lowerAA_rep H1 hb hb' (hs j _ (List.getElem?_eq_getElem hlt)) hy hR1 hR2
  · exact lowerAA_rep H1 hb hb' hp hl hR1 hR2
end
theorem CallsA.of_low {P : Program} (hm : P.follows .mixedOrders = true) {g : FuncId} {args : List PV} {vf : Name → PV} {cs : List IV}
    (h : ∀ base, ∃ b u hu u', CallR P base g args Heap.none u hu ∧ hu b = some (.row false cs) ∧ lowerTA hu b u = some u' ∧ ∀ s, adoptT (Heap.none.put b (.row false cs)) b s u' = some (vf s)) : CallsA P g args vf cs := by
  intro base
  obtain ⟨b, u, hu, u', h1, hb, h2, h3⟩ := h base
  have hb' : (Heap.none.put b (.row false cs)) b = some (.row false cs) := by simp [Heap.put_at]
  have only : ∀ c x, (Heap.none.put b (.row false cs)) c = some x → c = b ∧ x = .row false cs := fun c x hx => by
    by_cases e : c = b
    · subst e; rw [hb'] at hx; cases hx; exact ⟨rfl, rfl⟩
    · rw [Heap.put_at, if_neg e] at hx; cases hx
  refine ⟨b, u', _, CallR.of_sound ?_, hb', h3⟩
  intro β w rargs H Hr
  refine (CallR_sound hm _ _ _ _ _ _ h1 β w rargs H Hr).mono ?_
  rintro e w' ⟨rv, β1, rfl, H1, hrep, E1⟩
  have hRd : ∀ a v, Rd β1 hu w' a v → Rd β1 (Heap.none.put b (.row false cs)) w' a v := fun a v hrd => ⟨⟨hrd.1.1, fun c x hc ho => by
    obtain ⟨rfl, rfl⟩ := only c x hc
    exact hrd.1.2 c _ hb rfl⟩, hrd.2⟩
  refine ⟨rv, β1, rfl, ⟨fun c c' x x' hc hc' _ => by rw [(only c x hc).1, (only c' x' hc').1], fun c x hc => by
    obtain ⟨rfl, rfl⟩ := only c x hc
    exact H1.nf c _ hb, H1.flt, fun c x hc => ?_⟩, ?_, ⟨E1.os, E1.tape, E1.output, E1.size, E1.F, fun blk hl hs => ⟨fun c x hc ho => ?_, (E1.stab blk hl hs).2⟩, fun c x hc => (by cases hc), E1.sz⟩⟩
  · obtain ⟨rfl, rfl⟩ := only c x hc
    obtain ⟨c2, e2, ho, hc1, hc2⟩ := H1.cells hb rfl
    exact ⟨_, ho, c2, e2, rfl, hc1, fun j y hj => ⟨(hc2 j y hj).1, (hc2 j y hj).2.mono hRd⟩⟩
  · refine lowerTA_rep H1 hb hb' hrep h2 hRd fun c hcb x hx j v hcell => ⟨⟨H1.nf c x hx, fun d y hd ho => ?_⟩, hcell⟩
    obtain ⟨rfl, rfl⟩ := only d y hd
    exact fun he => hcb (H1.inj _ c _ x hb hx he).symm
  · obtain ⟨rfl, rfl⟩ := only c x hc
    exact (E1.stab blk hl hs).1 c _ hb rfl
end Go.Proofs.Ythnfphgjfpcpbaa.TM
namespace Go.Proofs.Ythnfphgjfpcpbaa.TM
open Go Go.RowKit
theorem lowerCA_row {h : Heap} {b s : Name} {n : Nat} {cs : List IV} (hn : cs.length = n) (h0 : n ≠ 0) (hs : h s = some (.row false cs)) (hne : s ≠ b) : lowerCA h b (rowP s 1 n cs) = some (.i (.l n cs)) := by
  rw [← low_row (h := h) (s := s) (n := n) (cs := cs) hn fun _ => hs]
  unfold rowP
  rw [if_neg h0]
  show (if s = b then _ else match h s with | some (.var cs) => _ | _ => _) = (match h s with | some (.var cs) => _ | _ => _)
  rw [if_neg hne, hs]
theorem lowerCA_own {h : Heap} {b : Name} {n : Nat} {cs : List IV} (h0 : n ≠ 0) : lowerCA h b (rowP b 1 n cs) = some (.view b 0 1 n cs.length) := by
  unfold rowP
  rw [if_neg h0]
  show (if b = b then _ else _) = _
  rw [if_pos rfl]
theorem lowerCA_col {h : Heap} {s b d : Name} {n : Nat} {f : Nat → List Int} (h0 : 0 < n) (hs : h s = some (.var (crowsL b f n))) (hr : ∀ k, k < n → (f k).length ≠ 0 → h ((900, k) :: b) = some (.row false ((f k).map iu))) (hd : s ≠ d) (hk : ∀ k, (900, k) :: b ≠ d) :
    lowerCA h d (.view s 0 1 n n) = some (.i (.l n ((List.range n).map fun k => .l (f k).length ((f k).map iu)))) := by
  have hm : mapO (lowerJB h d) (crowsL b f n) = some ((List.range n).map fun k => IV.l (f k).length ((f k).map iu)) := by
    unfold crowsL
    refine mapO_list fun k hk' => ?_
    have hk' := List.mem_range.1 hk'
    unfold lowerJB
    rw [if_neg]
    · unfold lowerJ rowN
      rw [lower_row (by simp) (fun h1 => hr k hk' h1)]
    · unfold rowN rowP
      split
      · simp [boxesC]
      · simp only [boxesC, List.contains_cons, List.contains_nil, Bool.or_false, beq_iff_eq]
        exact fun e => hk k e.symm
  show (if s = d then _ else match h s with | some (.var cs) => _ | _ => _) = _
  rw [if_neg hd, hs]
  simp only [crowsL_len, Nat.mul_one, Nat.zero_add, Nat.le_refl, and_self, if_true, List.drop_zero]
  rw [List.take_of_length_le (by rw [crowsL_len]; exact Nat.le_refl _), hm]
  rfl
abbrev cupS (c : CupT) (s : Name) : PV := .agg [li c.1, .view s 0 1 c.1.length c.1.length, llP c.2.2.1, llP c.2.2.2]
theorem take_ad {P R C : Nat} {l : List Int} (hP : Prm P) (M : Mt P R C l) (hin : ∀ a ∈ l, In P a) (h0 : (tkCup P C R l).1.length ≠ 0) : CallsA Try.prog 46 [u64 P, matP R C l] (fun s => .tup [cupS (tkCup P C R l) s, i64 0]) ((tkCup P C R l).2.1.map ii) := by
  refine CallsA.of_low mixed fun base => ?_
  have I := tkN_I hP M hin R (Nat.le_refl R)
  have r1 := M.r1
  have e : tkCup P C R l = ((tkN P C l R).rows, (tkN P C l R).cols, (List.range R).map (fP (tkN P C l R) R 0), (tkN P C l R).us) := by unfold tkCup; rw [fP_cs I]
  rw [e] at h0 ⊢
  generalize hT : tkN P C l R = T at I h0 e
  obtain ⟨hu, h1, H⟩ := take_run hP M hin base hT
  have rl := I.rl
  have ql := I.ql
  simp only at h0
  have n0 : T.us.length ≠ 0 := by omega
  have cp : clmP ((10, 8) :: (7, 14) :: base) R = .view ((10, 8) :: (7, 14) :: base) 0 1 R R := if_neg (by omega)
  rw [cp] at h1
  have e1 := lowerCA_row (h := hu) (b := (16, 19) :: (7, 14) :: base) (s := (16, 11) :: (7, 14) :: base) (n := T.us.length) (cs := T.rows.map ii) (by simp [rl]) n0 (H.r n0) (by simp)
  have e2 := lowerCA_own (h := hu) (b := (16, 19) :: (7, 14) :: base) (n := T.us.length) (cs := T.cols.map ii) n0
  have e3 := lowerCA_row (h := hu) (b := (16, 19) :: (7, 14) :: base) (s := (16, 27) :: (7, 14) :: base) (n := T.us.length) (cs := T.us.map (lv C)) (by simp) n0 (H.u n0) (by simp)
  have e4 := lowerCA_col (h := hu) (d := (16, 19) :: (7, 14) :: base) (by omega) H.c H.f (by simp) (by simp)
  have e5 : T.us.map (lv C) = T.us.map fun u => IV.l u.length (u.map iu) := List.map_congr_left fun u hm => by rw [(I.ul u hm).1]
  refine ⟨(16, 19) :: (7, 14) :: base, _, hu, .tup [cupS (T.rows, T.cols, (List.range R).map (fP T R 0), T.us) ((16, 19) :: (7, 14) :: base), i64 0], h1, H.q n0, ?_, fun s => ?_⟩
  · simp only [lowerTA, lowerAA, mapO, e1, e2, e3, e4, Option.map_some]
    simp [lowerAA, lowerCA, lowerC, boxesC, llP, rl, ql, e5, List.map_map, Function.comp_def]
  · simp [adoptT, adoptA, adoptC, mapO, lowerC, llP]
end Go.Proofs.Ythnfphgjfpcpbaa.TM
namespace Go.Proofs.Ythnfphgjfpcpbaa.TM
open Go Go.RowKit
attribute [local irreducible] K W WOps Effs Xg Xo Xr Xdg Xdo Xdr Xif CallsP CallR
def insF : Nat → (Nat → Int) → (Nat → Int)
  | 0, f => f
  | j + 1, f => if f (j + 1) < f j then insF j (sw j (j + 1) f) else f
def srtF : Nat → (Nat → Int) → (Nat → Int)
  | 0, f => f
  | i + 1, f => insF (i + 1) (srtF i f)
def stpF (i : Nat) (f : Nat → Int) : Nat → (Nat → Int)
  | 0 => f
  | k + 1 => sw (i - k - 1) (i - k) (stpF i f k)
theorem stp_put {n m : Nat} (f : Nat → Int) (h : m + 1 < n) :
    ((((tbl n f).map ii).take (m + 1) ++ [ii (f m)] ++ ((tbl n f).map ii).drop (m + 2)).take m ++ [ii (f (m + 1))] ++ (((tbl n f).map ii).take (m + 1) ++ [ii (f m)] ++ ((tbl n f).map ii).drop (m + 2)).drop (m + 1)) = (tbl n (sw m (m + 1) f)).map ii := by
  rw [tbl_put_ii f (f m) h, tbl_put_ii _ (f (m + 1)) (by omega)]
  congr 1
set_option maxHeartbeats 2000000 in
theorem insert_walk {n : Nat} (f : Nat → Int) (hn : n ≤ 64) (h0 : 0 < n) : CallsW Try.prog 120 [.view wN 0 1 n n, i64 0, i64 n] (.tup []) ((tbl n f).map ii) ((tbl n (srtF (n - 1) f)).map ii) := by
  intro base
  show ∃ hu, CallR Try.prog base 120 [.view [(950, 0)] 0 1 n n, i64 0, i64 n] (Heap.none.put [(950, 0)] (.row false ((tbl n f).map ii))) (.tup []) hu ∧ hu [(950, 0)] = _
  refine X_startE (n := 49) (m := 3) (rs := []) Try.func120 rfl rfl rfl rfl (by decide) ?_
  repeat (first | refine X_opc rfl ?_ | refine X_dopc rfl ?_ | refine ⟨(by show drawK _ _ = true; kernel_rfl : drawX _ _ _), ?_⟩ | exact (by show drawK _ _ = true; kernel_rfl : drawX _ _ _) | simp -dsimp (maxSteps := 20000000) (disch := omega) only [simx, zzC, zzB, tys, ite_self, opnL, callB, callX, readsB, stepOp, nilCmp, ofVal, opBuiltin, opLen, PV.sk, scalBin, scalUn, intBin, opLoad, natOf, opConvert, opField, cellsP, oneP, Value.oneCell', opStore, toIV, scalT, scalA, scalC, boxesA, boxesC, zipB_none, zipB_mx, isZ, opZip, zeroP, opAppendZ, opMakeMap, opLookup, mboxB, opUpdate, ↓reduceIte, Nat.reduceSub, Nat.reduceEqDiff, Nat.reduceAdd, Nat.reduceMul, Nat.reduceLT, Nat.reduceLeDiff, Int.reduceToNat, Int.reduceLE, Int.reduceLT, Int.reduceNeg, reduceCtorEq, gos, Int.reduceAdd, Int.reduceSub, Int.reduceMul, Int.reduceEq])
  refine X_loopH [0, 1, 2, 6] [] (0) (n - 1) (fun j => True) (fun j => [(6, i64 (j + 1 : Nat))]) (fun j => Heap.none.put [(950, 0)] (.row false ((tbl n (srtF j f)).map ii))) ?_ ?_ ?_ ?_ ?_ (by decide) ?_
  · exact (fgt_nil)
  · ((simp -dsimp (disch := omega) only [simx, zzB, tys, ite_self, opnL, callB, callX, readsB, stepOp, nilCmp, ofVal, opBuiltin, opLen, PV.sk, scalBin, scalUn, intBin, opLoad, natOf, opConvert, opField, cellsP, oneP, Value.oneCell', opStore, toIV, scalT, scalA, scalC, boxesA, boxesC, zipB_none, zipB_mx, isZ, opZip, zeroP, opAppendZ, opMakeMap, opLookup, mboxB, opUpdate, ↓reduceIte, Nat.reduceSub, Nat.reduceEqDiff, Nat.reduceAdd, Nat.reduceMul, Nat.reduceLT, Nat.reduceLeDiff, Int.reduceToNat, Int.reduceLE, Int.reduceLT, Int.reduceNeg, reduceCtorEq, gos, Int.reduceAdd, Int.reduceSub, Int.reduceMul, Int.reduceEq]) <;> first | rfl | simp)
  · rw [drop_nil]; rfl
  · omega
  · trivial
  · intro i hi _
    by_cases ci : i + 1 < n
    · obtain ⟨G, hG⟩ : ∃ G, srtF i f = G := ⟨_, rfl⟩
      have hS : srtF (i + 1) f = insF (i + 1) G := by rw [srtF, hG]
      rw [hG]
      have ci' : ((i + 1 : Nat) : Int) < (n : Int) := by omega
      have il : i < n - 1 := by omega
      repeat (first | refine X_opc rfl ?_ | refine X_dopc rfl ?_ | refine ⟨(by show drawK _ _ = true; kernel_rfl : drawX _ _ _), ?_⟩ | exact (by show drawK _ _ = true; kernel_rfl : drawX _ _ _) | simp -dsimp (maxSteps := 20000000) (disch := omega) only [simx, zzC, zzB, tys, ite_self, opnL, callB, callX, readsB, stepOp, nilCmp, ofVal, opBuiltin, opLen, PV.sk, scalBin, scalUn, intBin, opLoad, natOf, opConvert, opField, cellsP, oneP, Value.oneCell', opStore, toIV, scalT, scalA, scalC, boxesA, boxesC, zipB_none, zipB_mx, isZ, opZip, zeroP, opAppendZ, opMakeMap, opLookup, mboxB, opUpdate, ↓reduceIte, Nat.reduceSub, Nat.reduceEqDiff, Nat.reduceAdd, Nat.reduceMul, Nat.reduceLT, Nat.reduceLeDiff, Int.reduceToNat, Int.reduceLE, Int.reduceLT, Int.reduceNeg, reduceCtorEq, gos, Int.reduceAdd, Int.reduceSub, Int.reduceMul, Int.reduceEq, ci, ci'])
      refine X_loopH [0, 1, 2, 6, 7] [] (0) (i + 1) (fun j => insF (i + 1 - j) (stpF (i + 1) G j) = srtF (i + 1) f) (fun j => [(7, i64 ((i + 1 - j : Nat)))]) (fun j => Heap.none.put [(950, 0)] (.row false ((tbl n (stpF (i + 1) G j)).map ii))) ?_ ?_ ?_ ?_ ?_ (by decide) ?_
      · exact (fgt_nil)
      · ((simp -dsimp (disch := omega) only [simx, zzB, tys, ite_self, opnL, callB, callX, readsB, stepOp, nilCmp, ofVal, opBuiltin, opLen, PV.sk, scalBin, scalUn, intBin, opLoad, natOf, opConvert, opField, cellsP, oneP, Value.oneCell', opStore, toIV, scalT, scalA, scalC, boxesA, boxesC, zipB_none, zipB_mx, isZ, opZip, zeroP, opAppendZ, opMakeMap, opLookup, mboxB, opUpdate, ↓reduceIte, Nat.reduceSub, Nat.reduceEqDiff, Nat.reduceAdd, Nat.reduceMul, Nat.reduceLT, Nat.reduceLeDiff, Int.reduceToNat, Int.reduceLE, Int.reduceLT, Int.reduceNeg, reduceCtorEq, gos, Int.reduceAdd, Int.reduceSub, Int.reduceMul, Int.reduceEq]) <;> first | rfl | simp)
      · rw [drop_nil]; rfl
      · omega
      · exact hS.symm
      · intro k hk hf
        obtain ⟨F, hF⟩ : ∃ F, stpF (i + 1) G k = F := ⟨_, rfl⟩
        rw [hF] at hf ⊢
        by_cases ck : k < i + 1
        · obtain ⟨m, hm⟩ : ∃ m, i + 1 - k = m + 1 := ⟨i - k, by omega⟩
          have hn1 : stpF (i + 1) G (k + 1) = sw m (m + 1) F := by rw [stpF, hF, hm]; rfl
          have e1 : i + 1 - (k + 1) = m := by omega
          have e2 : ((m + 1 : Nat) : Int) - 1 = (m : Int) := by omega
          have mn : m + 1 < n := by omega
          have mn2 : m < n := by omega
          have mn3 : m + 1 + 1 ≤ n := by omega
          have mn4 : m + 1 ≤ n := by omega
          have m0 : (0 : Int) < ((m + 1 : Nat) : Int) := by omega
          have px := stp_put F mn
          have g1 : ((tbl n F).map ii)[m + 1]? = some (ii (F (m + 1))) := by rw [List.getElem?_map, tbl_get? _ mn]; rfl
          have g2 : ((tbl n F).map ii)[m]? = some (ii (F m)) := by rw [List.getElem?_map, tbl_get? _ mn2]; rfl
          have q1 := less_walk (F (m + 1)) (F m)
          have tl := tbl_len n F
          have lx : ∀ y, (((tbl n F).map ii).take (m + 1) ++ [ii y] ++ ((tbl n F).map ii).drop (m + 1 + 1)).length = n := fun y => by rw [tbl_put_ii F y mn, List.length_map, tbl_len]
          rw [hm, insF] at hf
          rw [hm]
          by_cases c : F (m + 1) < F m
          · rw [decide_eq_true c] at q1
            rw [if_pos c] at hf
            generalize F (m + 1) = x at g1 q1 px
            generalize F m = y at g2 q1 px
            repeat (first | ((first | refine X_call_fn2 rfl (by simp only [tys]) ?_ | refine X_dcall_fn2 rfl (by simp only [tys]) ?_); apply Exists.intro; apply And.intro; (focus (simp -dsimp only [simx, zzC, zzB, tys, ite_self, opnL, callB, callX, readsB, stepOp, nilCmp, ofVal, opBuiltin, opLen, PV.sk, scalBin, scalUn, intBin, opLoad, natOf, opConvert, opField, cellsP, oneP, Value.oneCell', opStore, toIV, scalT, scalA, scalC, boxesA, boxesC, zipB_none, zipB_mx, isZ, opZip, zeroP, opAppendZ, opMakeMap, opLookup, mboxB, opUpdate, ↓reduceIte, Nat.reduceSub, Nat.reduceEqDiff, Nat.reduceAdd, Nat.reduceMul, Nat.reduceLT, Nat.reduceLeDiff, Int.reduceToNat, Int.reduceLE, Int.reduceLT, Int.reduceNeg, reduceCtorEq, zzL, if_true, if_false] <;> rfl)); apply Exists.intro; apply And.intro; (focus (first | exact q1))) | refine X_opc rfl ?_ | refine X_dopc rfl ?_ | refine ⟨(by show drawK _ _ = true; kernel_rfl : drawX _ _ _), ?_⟩ | exact (by show drawK _ _ = true; kernel_rfl : drawX _ _ _) | simp -dsimp (maxSteps := 20000000) (disch := omega) only [simx, zzC, zzB, tys, ite_self, opnL, callB, callX, readsB, stepOp, nilCmp, ofVal, opBuiltin, opLen, PV.sk, scalBin, scalUn, intBin, opLoad, natOf, opConvert, opField, cellsP, oneP, Value.oneCell', opStore, toIV, scalT, scalA, scalC, boxesA, boxesC, zipB_none, zipB_mx, isZ, opZip, zeroP, opAppendZ, opMakeMap, opLookup, mboxB, opUpdate, ↓reduceIte, Nat.reduceSub, Nat.reduceEqDiff, Nat.reduceAdd, Nat.reduceMul, Nat.reduceLT, Nat.reduceLeDiff, Int.reduceToNat, Int.reduceLE, Int.reduceLT, Int.reduceNeg, reduceCtorEq, gos, Int.reduceAdd, Int.reduceSub, Int.reduceMul, Int.reduceEq, e2, mn, mn2, mn3, mn4, m0, g1, g2, List.length_map, tl, lx])
            refine ⟨ck, (fgt_nil), ?_, ?_, ?_⟩
            · rw [e1, hn1]; exact hf
            · rw [e1]
            · rw [drop_nil, hn1, ← px]
              funext c
              simp (maxSteps := 20000000) only [Heap.drop_at, rowH_app, Heap.put_at, Heap.none_at, List.mem_cons, List.not_mem_nil, or_false]
              by_cases e0 : c = [(950, 0)]
              · subst e0; simp []
              simp [e0]
          · rw [decide_eq_false c] at q1
            rw [if_neg c] at hf
            clear px c
            generalize F (m + 1) = x at g1 q1
            generalize F m = y at g2 q1
            subst hf
            repeat (first | ((first | refine X_call_fn2 rfl (by simp only [tys]) ?_ | refine X_dcall_fn2 rfl (by simp only [tys]) ?_); apply Exists.intro; apply And.intro; (focus (simp -dsimp only [simx, zzC, zzB, tys, ite_self, opnL, callB, callX, readsB, stepOp, nilCmp, ofVal, opBuiltin, opLen, PV.sk, scalBin, scalUn, intBin, opLoad, natOf, opConvert, opField, cellsP, oneP, Value.oneCell', opStore, toIV, scalT, scalA, scalC, boxesA, boxesC, zipB_none, zipB_mx, isZ, opZip, zeroP, opAppendZ, opMakeMap, opLookup, mboxB, opUpdate, ↓reduceIte, Nat.reduceSub, Nat.reduceEqDiff, Nat.reduceAdd, Nat.reduceMul, Nat.reduceLT, Nat.reduceLeDiff, Int.reduceToNat, Int.reduceLE, Int.reduceLT, Int.reduceNeg, reduceCtorEq, zzL, if_true, if_false] <;> rfl)); apply Exists.intro; apply And.intro; (focus (first | exact q1))) | refine X_opc rfl ?_ | refine X_dopc rfl ?_ | refine ⟨(by show drawK _ _ = true; kernel_rfl : drawX _ _ _), ?_⟩ | exact (by show drawK _ _ = true; kernel_rfl : drawX _ _ _) | simp -dsimp (maxSteps := 20000000) (disch := omega) only [simx, zzC, zzB, tys, ite_self, opnL, callB, callX, readsB, stepOp, nilCmp, ofVal, opBuiltin, opLen, PV.sk, scalBin, scalUn, intBin, opLoad, natOf, opConvert, opField, cellsP, oneP, Value.oneCell', opStore, toIV, scalT, scalA, scalC, boxesA, boxesC, zipB_none, zipB_mx, isZ, opZip, zeroP, opAppendZ, opMakeMap, opLookup, mboxB, opUpdate, ↓reduceIte, Nat.reduceSub, Nat.reduceEqDiff, Nat.reduceAdd, Nat.reduceMul, Nat.reduceLT, Nat.reduceLeDiff, Int.reduceToNat, Int.reduceLE, Int.reduceLT, Int.reduceNeg, reduceCtorEq, gos, Int.reduceAdd, Int.reduceSub, Int.reduceMul, Int.reduceEq, e2, mn, mn2, mn3, mn4, m0, g1, g2, List.length_map, tl])
            refine ⟨il, (fgt_nil), ?_, ?_⟩
            · rfl
            · funext c
              simp (maxSteps := 20000000) only [Heap.drop_at, rowH_app, Heap.put_at, Heap.none_at, List.mem_cons, List.not_mem_nil, or_false]
              by_cases e0 : c = [(950, 0)]
              · subst e0; simp []
              simp [e0]
        · have ek : i + 1 = k := by omega
          subst ek
          rw [Nat.sub_self, insF] at hf
          rw [Nat.sub_self]
          subst hf
          repeat (first | refine X_opc rfl ?_ | refine X_dopc rfl ?_ | refine ⟨(by show drawK _ _ = true; kernel_rfl : drawX _ _ _), ?_⟩ | exact (by show drawK _ _ = true; kernel_rfl : drawX _ _ _) | simp -dsimp (maxSteps := 20000000) (disch := omega) only [simx, zzC, zzB, tys, ite_self, opnL, callB, callX, readsB, stepOp, nilCmp, ofVal, opBuiltin, opLen, PV.sk, scalBin, scalUn, intBin, opLoad, natOf, opConvert, opField, cellsP, oneP, Value.oneCell', opStore, toIV, scalT, scalA, scalC, boxesA, boxesC, zipB_none, zipB_mx, isZ, opZip, zeroP, opAppendZ, opMakeMap, opLookup, mboxB, opUpdate, ↓reduceIte, Nat.reduceSub, Nat.reduceEqDiff, Nat.reduceAdd, Nat.reduceMul, Nat.reduceLT, Nat.reduceLeDiff, Int.reduceToNat, Int.reduceLE, Int.reduceLT, Int.reduceNeg, reduceCtorEq, gos, Int.reduceAdd, Int.reduceSub, Int.reduceMul, Int.reduceEq])
          refine ⟨il, (fgt_nil), ?_, ?_⟩
          · rfl
          · funext c
            simp (maxSteps := 20000000) only [Heap.drop_at, rowH_app, Heap.put_at, Heap.none_at, List.mem_cons, List.not_mem_nil, or_false]
            by_cases e0 : c = [(950, 0)]
            · subst e0; simp []
            simp [e0]
    · have ei : i = n - 1 := by omega
      subst ei
      have ci' : ¬ ((n - 1 + 1 : Nat) : Int) < (n : Int) := by omega
      repeat (first | refine X_opc rfl ?_ | refine X_dopc rfl ?_ | refine ⟨(by show drawK _ _ = true; kernel_rfl : drawX _ _ _), ?_⟩ | exact (by show drawK _ _ = true; kernel_rfl : drawX _ _ _) | simp -dsimp (maxSteps := 20000000) (disch := omega) only [simx, zzC, zzB, tys, ite_self, opnL, callB, callX, readsB, stepOp, nilCmp, ofVal, opBuiltin, opLen, PV.sk, scalBin, scalUn, intBin, opLoad, natOf, opConvert, opField, cellsP, oneP, Value.oneCell', opStore, toIV, scalT, scalA, scalC, boxesA, boxesC, zipB_none, zipB_mx, isZ, opZip, zeroP, opAppendZ, opMakeMap, opLookup, mboxB, opUpdate, ↓reduceIte, Nat.reduceSub, Nat.reduceEqDiff, Nat.reduceAdd, Nat.reduceMul, Nat.reduceLT, Nat.reduceLeDiff, Int.reduceToNat, Int.reduceLE, Int.reduceLT, Int.reduceNeg, reduceCtorEq, zzR, gos, Int.reduceAdd, Int.reduceSub, Int.reduceMul, Int.reduceEq, ci, ci'])
      rfl
set_option maxHeartbeats 2000000 in
theorem pdq_walk {n : Nat} (k : Int) (f : Nat → Int) (hn : n ≤ 12) (h0 : 0 < n) : CallsW Try.prog 110 [.view wN 0 1 n n, i64 0, i64 n, i64 k] (.tup []) ((tbl n f).map ii) ((tbl n (srtF (n - 1) f)).map ii) := by
  have q1 := insert_walk f (show n ≤ 64 by omega) h0
  have tl := tbl_len n f
  have tl2 := tbl_len n (srtF (n - 1) f)
  intro base
  show ∃ hu, CallR Try.prog base 110 [.view [(950, 0)] 0 1 n n, i64 0, i64 n, i64 k] (Heap.none.put [(950, 0)] (.row false ((tbl n f).map ii))) (.tup []) hu ∧ hu [(950, 0)] = _
  have c12 : (n : Int) ≤ 12 := by omega
  generalize tbl n (srtF (n - 1) f) = L' at q1 tl2 ⊢
  generalize tbl n f = L at q1 tl ⊢
  refine X_startE (n := 134) (m := 4) (rs := []) Try.func110 rfl rfl rfl rfl (by decide) ?_
  repeat (first | refine X_opc rfl ?_ | refine X_dopc rfl ?_ | refine ⟨(by show drawK _ _ = true; kernel_rfl : drawX _ _ _), ?_⟩ | exact (by show drawK _ _ = true; kernel_rfl : drawX _ _ _) | simp -dsimp (maxSteps := 20000000) (disch := omega) only [simx, zzC, zzB, tys, ite_self, opnL, callB, callX, readsB, stepOp, nilCmp, ofVal, opBuiltin, opLen, PV.sk, scalBin, scalUn, intBin, opLoad, natOf, opConvert, opField, cellsP, oneP, Value.oneCell', opStore, toIV, scalT, scalA, scalC, boxesA, boxesC, zipB_none, zipB_mx, isZ, opZip, zeroP, opAppendZ, opMakeMap, opLookup, mboxB, opUpdate, ↓reduceIte, Nat.reduceSub, Nat.reduceEqDiff, Nat.reduceAdd, Nat.reduceMul, Nat.reduceLT, Nat.reduceLeDiff, Int.reduceToNat, Int.reduceLE, Int.reduceLT, Int.reduceNeg, reduceCtorEq, gos, Int.reduceAdd, Int.reduceSub, Int.reduceMul, Int.reduceEq])
  refine X_loopH [0, 1, 2, 3, 8, 9] [] (0) (0) (fun j => True) (fun j => []) (fun j => Heap.none.put [(950, 0)] (.row false (L.map ii))) ?_ ?_ ?_ ?_ ?_ (by decide) ?_
  · exact (fgt_nil)
  · ((simp -dsimp (disch := omega) only [simx, zzB, tys, ite_self, opnL, callB, callX, readsB, stepOp, nilCmp, ofVal, opBuiltin, opLen, PV.sk, scalBin, scalUn, intBin, opLoad, natOf, opConvert, opField, cellsP, oneP, Value.oneCell', opStore, toIV, scalT, scalA, scalC, boxesA, boxesC, zipB_none, zipB_mx, isZ, opZip, zeroP, opAppendZ, opMakeMap, opLookup, mboxB, opUpdate, ↓reduceIte, Nat.reduceSub, Nat.reduceEqDiff, Nat.reduceAdd, Nat.reduceMul, Nat.reduceLT, Nat.reduceLeDiff, Int.reduceToNat, Int.reduceLE, Int.reduceLT, Int.reduceNeg, reduceCtorEq, gos, Int.reduceAdd, Int.reduceSub, Int.reduceMul, Int.reduceEq]) <;> first | rfl | simp)
  · rw [drop_nil]
  · omega
  · trivial
  · intro j hj _
    repeat (first | refine X_opc rfl ?_ | refine X_dopc rfl ?_ | refine ⟨(by show drawK _ _ = true; kernel_rfl : drawX _ _ _), ?_⟩ | exact (by show drawK _ _ = true; kernel_rfl : drawX _ _ _) | simp -dsimp (maxSteps := 20000000) (disch := omega) only [simx, zzC, zzB, tys, ite_self, opnL, callB, callX, readsB, stepOp, nilCmp, ofVal, opBuiltin, opLen, PV.sk, scalBin, scalUn, intBin, opLoad, natOf, opConvert, opField, cellsP, oneP, Value.oneCell', opStore, toIV, scalT, scalA, scalC, boxesA, boxesC, zipB_none, zipB_mx, isZ, opZip, zeroP, opAppendZ, opMakeMap, opLookup, mboxB, opUpdate, ↓reduceIte, Nat.reduceSub, Nat.reduceEqDiff, Nat.reduceAdd, Nat.reduceMul, Nat.reduceLT, Nat.reduceLeDiff, Int.reduceToNat, Int.reduceLE, Int.reduceLT, Int.reduceNeg, reduceCtorEq, gos, Int.reduceAdd, Int.reduceSub, Int.reduceMul, Int.reduceEq, c12])
    refine X_call_w (args := [.view [(950, 0)] 0 1 n n, i64 0, i64 n]) [(950, 0)] q1 rfl (by simp only [tys]) rfl (by simp [Heap.put_at]) (by simp [boxesA, boxesC]) (by simp [mapO, lowerW, isV, reV, boxesA, boxesC, lowerA, lowerC, wN]) rfl (by simp [tl, tl2]) ?_
    rw [show List.filter (notB [(950, 0)]) (List.flatMap boxesA [.view [(950, 0)] 0 1 n n, i64 0, i64 n]) = [] by simp [boxesA, boxesC, notB]]
    repeat (first | refine X_opc rfl ?_ | refine X_dopc rfl ?_ | refine ⟨(by show drawK _ _ = true; kernel_rfl : drawX _ _ _), ?_⟩ | exact (by show drawK _ _ = true; kernel_rfl : drawX _ _ _) | simp -dsimp (maxSteps := 20000000) (disch := omega) only [simx, zzC, zzB, tys, ite_self, opnL, callB, callX, readsB, stepOp, nilCmp, ofVal, opBuiltin, opLen, PV.sk, scalBin, scalUn, intBin, opLoad, natOf, opConvert, opField, cellsP, oneP, Value.oneCell', opStore, toIV, scalT, scalA, scalC, boxesA, boxesC, zipB_none, zipB_mx, isZ, opZip, zeroP, opAppendZ, opMakeMap, opLookup, mboxB, opUpdate, ↓reduceIte, Nat.reduceSub, Nat.reduceEqDiff, Nat.reduceAdd, Nat.reduceMul, Nat.reduceLT, Nat.reduceLeDiff, Int.reduceToNat, Int.reduceLE, Int.reduceLT, Int.reduceNeg, reduceCtorEq, zzR, gos, Int.reduceAdd, Int.reduceSub, Int.reduceMul, Int.reduceEq])
    rfl
set_option maxHeartbeats 2000000 in
theorem sort_walk {n : Nat} (f : Nat → Int) (hn : n ≤ 12) (h0 : 0 < n) : CallsW Try.prog 88 [.view wN 0 1 n n] (.tup []) ((tbl n f).map ii) ((tbl n (srtF (n - 1) f)).map ii) := by
  obtain ⟨k, d1, _⟩ := len64_walk n (by omega) (by omega)
  have d2 : CallsP Try.prog 111 [u64 n] (i64 k) := by
    refine X_startP (n := 8) (m := 1) (rs := [.tmp 2]) Try.func111 rfl rfl rfl rfl (by decide) fun base => ?_
    repeat (first | ((first | refine X_call_fn2 rfl (by simp only [tys]) ?_ | refine X_dcall_fn2 rfl (by simp only [tys]) ?_); apply Exists.intro; apply And.intro; (focus (simp -dsimp only [simx, zzC, zzB, tys, ite_self, opnL, callB, callX, readsB, stepOp, nilCmp, ofVal, opBuiltin, opLen, PV.sk, scalBin, scalUn, intBin, opLoad, natOf, opConvert, opField, cellsP, oneP, Value.oneCell', opStore, toIV, scalT, scalA, scalC, boxesA, boxesC, zipB_none, zipB_mx, isZ, opZip, zeroP, opAppendZ, opMakeMap, opLookup, mboxB, opUpdate, ↓reduceIte, Nat.reduceSub, Nat.reduceEqDiff, Nat.reduceAdd, Nat.reduceMul, Nat.reduceLT, Nat.reduceLeDiff, Int.reduceToNat, Int.reduceLE, Int.reduceLT, Int.reduceNeg, reduceCtorEq, zzL, if_true, if_false] <;> rfl)); apply Exists.intro; apply And.intro; (focus (first | exact d1))) | refine X_opc rfl ?_ | refine X_dopc rfl ?_ | refine ⟨(by show drawK _ _ = true; kernel_rfl : drawX _ _ _), ?_⟩ | exact (by show drawK _ _ = true; kernel_rfl : drawX _ _ _) | simp -dsimp (maxSteps := 20000000) (disch := omega) only [simx, zzC, zzB, tys, ite_self, opnL, callB, callX, readsB, stepOp, nilCmp, ofVal, opBuiltin, opLen, PV.sk, scalBin, scalUn, intBin, opLoad, natOf, opConvert, opField, cellsP, oneP, Value.oneCell', opStore, toIV, scalT, scalA, scalC, boxesA, boxesC, zipB_none, zipB_mx, isZ, opZip, zeroP, opAppendZ, opMakeMap, opLookup, mboxB, opUpdate, ↓reduceIte, Nat.reduceSub, Nat.reduceEqDiff, Nat.reduceAdd, Nat.reduceMul, Nat.reduceLT, Nat.reduceLeDiff, Int.reduceToNat, Int.reduceLE, Int.reduceLT, Int.reduceNeg, reduceCtorEq, zzR, gos, Int.reduceAdd, Int.reduceSub, Int.reduceMul, Int.reduceEq])
  have q1 := pdq_walk (k : Int) f hn h0
  have tl := tbl_len n f
  have tl2 := tbl_len n (srtF (n - 1) f)
  intro base
  show ∃ hu, CallR Try.prog base 88 [.view [(950, 0)] 0 1 n n] (Heap.none.put [(950, 0)] (.row false ((tbl n f).map ii))) (.tup []) hu ∧ hu [(950, 0)] = _
  generalize tbl n (srtF (n - 1) f) = L' at q1 tl2 ⊢
  generalize tbl n f = L at q1 tl ⊢
  refine X_startE (n := 11) (m := 1) (rs := []) Try.func88 rfl rfl rfl rfl (by decide) ?_
  repeat (first | ((first | refine X_call_fn2 rfl (by simp only [tys]) ?_ | refine X_dcall_fn2 rfl (by simp only [tys]) ?_); apply Exists.intro; apply And.intro; (focus (simp -dsimp only [simx, zzC, zzB, tys, ite_self, opnL, callB, callX, readsB, stepOp, nilCmp, ofVal, opBuiltin, opLen, PV.sk, scalBin, scalUn, intBin, opLoad, natOf, opConvert, opField, cellsP, oneP, Value.oneCell', opStore, toIV, scalT, scalA, scalC, boxesA, boxesC, zipB_none, zipB_mx, isZ, opZip, zeroP, opAppendZ, opMakeMap, opLookup, mboxB, opUpdate, ↓reduceIte, Nat.reduceSub, Nat.reduceEqDiff, Nat.reduceAdd, Nat.reduceMul, Nat.reduceLT, Nat.reduceLeDiff, Int.reduceToNat, Int.reduceLE, Int.reduceLT, Int.reduceNeg, reduceCtorEq, zzL, if_true, if_false] <;> rfl)); apply Exists.intro; apply And.intro; (focus (first | exact d2))) | refine X_opc rfl ?_ | refine X_dopc rfl ?_ | refine ⟨(by show drawK _ _ = true; kernel_rfl : drawX _ _ _), ?_⟩ | exact (by show drawK _ _ = true; kernel_rfl : drawX _ _ _) | simp -dsimp (maxSteps := 20000000) (disch := omega) only [simx, zzC, zzB, tys, ite_self, opnL, callB, callX, readsB, stepOp, nilCmp, ofVal, opBuiltin, opLen, PV.sk, scalBin, scalUn, intBin, opLoad, natOf, opConvert, opField, cellsP, oneP, Value.oneCell', opStore, toIV, scalT, scalA, scalC, boxesA, boxesC, zipB_none, zipB_mx, isZ, opZip, zeroP, opAppendZ, opMakeMap, opLookup, mboxB, opUpdate, ↓reduceIte, Nat.reduceSub, Nat.reduceEqDiff, Nat.reduceAdd, Nat.reduceMul, Nat.reduceLT, Nat.reduceLeDiff, Int.reduceToNat, Int.reduceLE, Int.reduceLT, Int.reduceNeg, reduceCtorEq, gos, Int.reduceAdd, Int.reduceSub, Int.reduceMul, Int.reduceEq, SK.len])
  refine X_call_w (args := [.view [(950, 0)] 0 1 n n, i64 0, i64 n, i64 k]) [(950, 0)] q1 rfl (by simp only [tys]) rfl (by simp [Heap.put_at]) (by simp [boxesA, boxesC]) (by simp [mapO, lowerW, isV, reV, boxesA, boxesC, lowerA, lowerC, wN]) rfl (by simp [tl, tl2]) ?_
  rw [show List.filter (notB [(950, 0)]) (List.flatMap boxesA [.view [(950, 0)] 0 1 n n, i64 0, i64 n, i64 k]) = [] by simp [boxesA, boxesC, notB]]
  repeat (first | refine X_opc rfl ?_ | refine X_dopc rfl ?_ | refine ⟨(by show drawK _ _ = true; kernel_rfl : drawX _ _ _), ?_⟩ | exact (by show drawK _ _ = true; kernel_rfl : drawX _ _ _) | simp -dsimp (maxSteps := 20000000) (disch := omega) only [simx, zzC, zzB, tys, ite_self, opnL, callB, callX, readsB, stepOp, nilCmp, ofVal, opBuiltin, opLen, PV.sk, scalBin, scalUn, intBin, opLoad, natOf, opConvert, opField, cellsP, oneP, Value.oneCell', opStore, toIV, scalT, scalA, scalC, boxesA, boxesC, zipB_none, zipB_mx, isZ, opZip, zeroP, opAppendZ, opMakeMap, opLookup, mboxB, opUpdate, ↓reduceIte, Nat.reduceSub, Nat.reduceEqDiff, Nat.reduceAdd, Nat.reduceMul, Nat.reduceLT, Nat.reduceLeDiff, Int.reduceToNat, Int.reduceLE, Int.reduceLT, Int.reduceNeg, reduceCtorEq, zzR, gos, Int.reduceAdd, Int.reduceSub, Int.reduceMul, Int.reduceEq])
  rfl
end Go.Proofs.Ythnfphgjfpcpbaa.TM
namespace Go.Proofs.Ythnfphgjfpcpbaa.TM
open Go Go.RowKit
attribute [local irreducible] K W WOps Effs Xg Xo Xr Xdg Xdo Xdr Xif CallsP CallR
def colS (c : CupT) : List Int := tbl c.1.length (srtF (c.1.length - 1) (fun i => c.2.1.getD i 0))
theorem colS_len (c : CupT) : (colS c).length = c.1.length := tbl_len ..
theorem insF_mem {n : Nat} {p : Int → Prop} : ∀ (j : Nat), j < n → ∀ f : Nat → Int, (∀ i, i < n → p (f i)) → ∀ i, i < n → p (insF j f i)
  | 0, _, f, h, i, hi => h i hi
  | j + 1, hj, f, h, i, hi => by
    rw [insF]
    split
    · refine insF_mem j (by omega) _ (fun m hm => ?_) i hi
      unfold sw
      split
      · exact h _ hj
      · split
        · exact h _ (by omega)
        · exact h m hm
    · exact h i hi
theorem srtF_mem {n : Nat} {p : Int → Prop} {f : Nat → Int} (h : ∀ i, i < n → p (f i)) : ∀ j, j < n → ∀ i, i < n → p (srtF j f i)
  | 0, _, i, hi => h i hi
  | j + 1, hj, i, hi => by rw [srtF]; exact insF_mem (j + 1) hj _ (fun m hm => srtF_mem h j (by omega) m hm) i hi
theorem colS_mem {P R C : Nat} {c : CupT} (hw : CupW P R C c) : ∀ a ∈ colS c, 0 ≤ a ∧ a < C := fun a ha => by
  obtain ⟨m, hm, rfl⟩ := tbl_mem ha
  refine srtF_mem (n := c.1.length) (p := fun a => 0 ≤ a ∧ a < C) (fun i hi => hw.qb _ (getD_mm (by rw [hw.ql]; exact hi))) (c.1.length - 1) (by omega) m hm
set_option maxHeartbeats 4000000 in
theorem minor_yes {P R C : Nat} {l : List Int} (hP : Prm P) (M : Mt P R C l) (hin : ∀ a ∈ l, In P a) (h0 : (tkCup P C R l).1.length ≠ 0) (h12 : (tkCup P C R l).1.length ≤ 12) :
    CallsP Try.prog 48 [u64 P, matP R C l] (mat2 (((tkCup P C R l).1.length, (tkCup P C R l).1.length, pickM C l (tkCup P C R l).1 (colS (tkCup P C R l))), 0)) := by
  have q1 := take_ad hP M hin h0
  have hw := tkCup_W hP M hin
  have ml := M.len
  have bd := rc_bd M.r2 M.c2
  have cs1 := colS_mem hw
  have cl1 := colS_len (tkCup P C R l)
  have q3 := pick_walk P R C l (tkCup P C R l).1 (colS (tkCup P C R l)) (by rw [mx_len]; omega) (by rw [mx_len]; omega) (by rw [mx_len]; omega)
  unfold pickR at q3
  rw [mat_mk M, (within_iff _ _).2 ⟨by omega, hw.rb⟩, (within_iff _ _).2 ⟨by omega, cs1⟩, cl1] at q3
  simp only [Bool.and_self, if_true, Int.toNat_natCast] at q3
  have q2 := sort_walk (n := (tkCup P C R l).1.length) (fun i => (tkCup P C R l).2.1.getD i 0) h12 (by omega)
  rw [← tbl_of hw.ql] at q2
  rw [show tbl (tkCup P C R l).1.length (srtF ((tkCup P C R l).1.length - 1) (fun i => (tkCup P C R l).2.1.getD i 0)) = colS (tkCup P C R l) from rfl] at q2
  have ql := hw.ql
  generalize colS (tkCup P C R l) = S at q2 q3 cl1
  generalize pickM C l (tkCup P C R l).1 S = N at q3 ⊢
  generalize tkCup P C R l = c at *
  obtain ⟨rw0, cw, cc, uu⟩ := c
  simp only at h0 h12 q1 q2 q3 cl1 ql ⊢
  have n0 : ¬ (rw0.length : Int) = 0 := by omega
  refine X_startP (n := 37) (m := 2) (rs := [.cell 4 25, .tmp 5]) Try.func48 rfl rfl rfl rfl (by decide) fun base => ?_
  repeat (first | refine X_opc rfl ?_ | refine X_dopc rfl ?_ | refine ⟨(by show drawK _ _ = true; kernel_rfl : drawX _ _ _), ?_⟩ | exact (by show drawK _ _ = true; kernel_rfl : drawX _ _ _) | simp -dsimp (maxSteps := 20000000) (disch := omega) only [simx, zzC, zzB, tys, ite_self, opnL, callB, callX, readsB, stepOp, nilCmp, ofVal, opBuiltin, opLen, PV.sk, scalBin, scalUn, intBin, opLoad, natOf, opConvert, opField, cellsP, oneP, Value.oneCell', opStore, toIV, scalT, scalA, scalC, boxesA, boxesC, zipB_none, zipB_mx, isZ, opZip, zeroP, opAppendZ, opMakeMap, opLookup, mboxB, opUpdate, ↓reduceIte, Nat.reduceSub, Nat.reduceEqDiff, Nat.reduceAdd, Nat.reduceMul, Nat.reduceLT, Nat.reduceLeDiff, Int.reduceToNat, Int.reduceLE, Int.reduceLT, Int.reduceNeg, reduceCtorEq, gos, Int.reduceAdd, Int.reduceSub, Int.reduceMul, Int.reduceEq])
  ((first | refine X_call_ad (q1) rfl (by simp only [tys]) (by (simp -dsimp only [simx, zzC, zzB, tys, ite_self, opnL, callB, callX, readsB, stepOp, nilCmp, ofVal, opBuiltin, opLen, PV.sk, scalBin, scalUn, intBin, opLoad, natOf, opConvert, opField, cellsP, oneP, Value.oneCell', opStore, toIV, scalT, scalA, scalC, boxesA, boxesC, zipB_none, zipB_mx, isZ, opZip, zeroP, opAppendZ, opMakeMap, opLookup, mboxB, opUpdate, ↓reduceIte, Nat.reduceSub, Nat.reduceEqDiff, Nat.reduceAdd, Nat.reduceMul, Nat.reduceLT, Nat.reduceLeDiff, Int.reduceToNat, Int.reduceLE, Int.reduceLT, Int.reduceNeg, reduceCtorEq, zzL, if_true, if_false] <;> rfl)) (by simp [Heap.put_at, Heap.none_at, rowH_app]) ?_ | refine X_dcall_ad (q1) rfl (by simp only [tys]) (by (simp -dsimp only [simx, zzC, zzB, tys, ite_self, opnL, callB, callX, readsB, stepOp, nilCmp, ofVal, opBuiltin, opLen, PV.sk, scalBin, scalUn, intBin, opLoad, natOf, opConvert, opField, cellsP, oneP, Value.oneCell', opStore, toIV, scalT, scalA, scalC, boxesA, boxesC, zipB_none, zipB_mx, isZ, opZip, zeroP, opAppendZ, opMakeMap, opLookup, mboxB, opUpdate, ↓reduceIte, Nat.reduceSub, Nat.reduceEqDiff, Nat.reduceAdd, Nat.reduceMul, Nat.reduceLT, Nat.reduceLeDiff, Int.reduceToNat, Int.reduceLE, Int.reduceLT, Int.reduceNeg, reduceCtorEq, zzL, if_true, if_false] <;> rfl)) (by simp [Heap.put_at, Heap.none_at, rowH_app]) ?_))
  repeat (first | refine X_opc rfl ?_ | refine X_dopc rfl ?_ | refine ⟨(by show drawK _ _ = true; kernel_rfl : drawX _ _ _), ?_⟩ | exact (by show drawK _ _ = true; kernel_rfl : drawX _ _ _) | simp -dsimp (maxSteps := 20000000) (disch := omega) only [simx, zzC, zzB, tys, ite_self, opnL, callB, callX, readsB, stepOp, nilCmp, ofVal, opBuiltin, opLen, PV.sk, scalBin, scalUn, intBin, opLoad, natOf, opConvert, opField, cellsP, oneP, Value.oneCell', opStore, toIV, scalT, scalA, scalC, boxesA, boxesC, zipB_none, zipB_mx, isZ, opZip, zeroP, opAppendZ, opMakeMap, opLookup, mboxB, opUpdate, ↓reduceIte, Nat.reduceSub, Nat.reduceEqDiff, Nat.reduceAdd, Nat.reduceMul, Nat.reduceLT, Nat.reduceLeDiff, Int.reduceToNat, Int.reduceLE, Int.reduceLT, Int.reduceNeg, reduceCtorEq, gos, Int.reduceAdd, Int.reduceSub, Int.reduceMul, Int.reduceEq, SK.len, n0])
  refine X_call_w (args := [.view ((1, 2) :: base) 0 1 rw0.length rw0.length]) ((1, 2) :: base) q2 rfl (by simp only [tys]) rfl (by simp [Heap.put_at]) (by simp [boxesA, boxesC]) (by simp [mapO, lowerW, isV, reV, boxesA, boxesC, lowerA, lowerC, wN]) rfl (by simp [ql, cl1]) ?_
  rw [show List.filter (notB ((1, 2) :: base)) (List.flatMap boxesA [.view ((1, 2) :: base) 0 1 rw0.length rw0.length]) = [] by simp [boxesA, boxesC, notB]]
  have tk : (S.map ii).take rw0.length = S.map ii := List.take_of_length_le (by rw [List.length_map]; omega)
  rw [show li S = PV.i (.l rw0.length (S.map ii)) by rw [li, cl1]] at q3
  repeat (first | ((first | refine X_call_fn2 rfl (by simp only [tys]) ?_ | refine X_dcall_fn2 rfl (by simp only [tys]) ?_); apply Exists.intro; apply And.intro; (focus (simp -dsimp only [simx, zzC, zzB, tys, ite_self, opnL, callB, callX, readsB, stepOp, nilCmp, ofVal, opBuiltin, opLen, PV.sk, scalBin, scalUn, intBin, opLoad, natOf, opConvert, opField, cellsP, oneP, Value.oneCell', opStore, toIV, scalT, scalA, scalC, boxesA, boxesC, zipB_none, zipB_mx, isZ, opZip, zeroP, opAppendZ, opMakeMap, opLookup, mboxB, opUpdate, ↓reduceIte, Nat.reduceSub, Nat.reduceEqDiff, Nat.reduceAdd, Nat.reduceMul, Nat.reduceLT, Nat.reduceLeDiff, Int.reduceToNat, Int.reduceLE, Int.reduceLT, Int.reduceNeg, reduceCtorEq, zzL, if_true, if_false, SK.len, List.length_map, cl1, tk] <;> rfl)); apply Exists.intro; apply And.intro; (focus (first | exact q3))) | refine X_opc rfl ?_ | refine X_dopc rfl ?_ | refine ⟨(by show drawK _ _ = true; kernel_rfl : drawX _ _ _), ?_⟩ | exact (by show drawK _ _ = true; kernel_rfl : drawX _ _ _) | simp -dsimp (maxSteps := 20000000) (disch := omega) only [simx, zzC, zzB, tys, ite_self, opnL, callB, callX, readsB, stepOp, nilCmp, ofVal, opBuiltin, opLen, PV.sk, scalBin, scalUn, intBin, opLoad, natOf, opConvert, opField, cellsP, oneP, Value.oneCell', opStore, toIV, scalT, scalA, scalC, boxesA, boxesC, zipB_none, zipB_mx, isZ, opZip, zeroP, opAppendZ, opMakeMap, opLookup, mboxB, opUpdate, ↓reduceIte, Nat.reduceSub, Nat.reduceEqDiff, Nat.reduceAdd, Nat.reduceMul, Nat.reduceLT, Nat.reduceLeDiff, Int.reduceToNat, Int.reduceLE, Int.reduceLT, Int.reduceNeg, reduceCtorEq, zzR, gos, Int.reduceAdd, Int.reduceSub, Int.reduceMul, Int.reduceEq, SK.len, List.length_map, cl1, tk])
  try rfl
end Go.Proofs.Ythnfphgjfpcpbaa.TM
namespace Go.Proofs.Ythnfphgjfpcpbaa.TM
open Go Go.RowKit
attribute [local irreducible] K W WOps Effs Xg Xo Xr Xdg Xdo Xdr Xif CallsP CallR
def rowOkB (p each : Int) (x : List Int) : Bool := decide ((x.length : Int) = each) && HasB p x
theorem rows71_walk {b b2 base : Name} {h : Heap} {p each : Int} {x : List Int} (hx : x.length ≤ maxLen) (hb : h b = some (.var [i64 each])) (hb2 : h b2 = some (.var [u64 p])) :
    CallR Try.prog base 109 [lu x, .ref b 0 1, .ref b2 0 1] h (bl (!rowOkB p each x)) h := by
  have q := has_walk p x hx
  unfold rowOkB
  by_cases c1 : (x.length : Int) = each
  · rw [decide_eq_true c1]
    cases c2 : HasB p x with
    | false =>
      rw [c2] at q
      refine X_startR (n := 15) (m := 3) (rs := [.tmp 4]) Try.func109 rfl rfl rfl rfl (by decide) ?_
      repeat (first | ((first | refine X_call_fn2 rfl (by simp only [tys]) ?_ | refine X_dcall_fn2 rfl (by simp only [tys]) ?_); apply Exists.intro; apply And.intro; (focus (simp -dsimp only [simx, zzC, zzB, tys, ite_self, opnL, callB, callX, readsB, stepOp, nilCmp, ofVal, opBuiltin, opLen, PV.sk, scalBin, scalUn, intBin, opLoad, natOf, opConvert, opField, cellsP, oneP, Value.oneCell', opStore, toIV, scalT, scalA, scalC, boxesA, boxesC, zipB_none, zipB_mx, isZ, opZip, zeroP, opAppendZ, opMakeMap, opLookup, mboxB, opUpdate, ↓reduceIte, Nat.reduceSub, Nat.reduceEqDiff, Nat.reduceAdd, Nat.reduceMul, Nat.reduceLT, Nat.reduceLeDiff, Int.reduceToNat, Int.reduceLE, Int.reduceLT, Int.reduceNeg, reduceCtorEq, zzL, if_true, if_false] <;> rfl)); apply Exists.intro; apply And.intro; (focus (first | exact q))) | refine X_opc rfl ?_ | refine X_dopc rfl ?_ | refine ⟨(by show drawK _ _ = true; kernel_rfl : drawX _ _ _), ?_⟩ | exact (by show drawK _ _ = true; kernel_rfl : drawX _ _ _) | simp -dsimp (maxSteps := 20000000) (disch := omega) only [simx, zzC, zzB, tys, ite_self, opnL, callB, callX, readsB, stepOp, nilCmp, ofVal, opBuiltin, opLen, PV.sk, scalBin, scalUn, intBin, opLoad, natOf, opConvert, opField, cellsP, oneP, Value.oneCell', opStore, toIV, scalT, scalA, scalC, boxesA, boxesC, zipB_none, zipB_mx, isZ, opZip, zeroP, opAppendZ, opMakeMap, opLookup, mboxB, opUpdate, ↓reduceIte, Nat.reduceSub, Nat.reduceEqDiff, Nat.reduceAdd, Nat.reduceMul, Nat.reduceLT, Nat.reduceLeDiff, Int.reduceToNat, Int.reduceLE, Int.reduceLT, Int.reduceNeg, reduceCtorEq, zzR, gos, Int.reduceAdd, Int.reduceSub, Int.reduceMul, Int.reduceEq, hb, hb2, c1])
    | true =>
      rw [c2] at q
      refine X_startR (n := 15) (m := 3) (rs := [.tmp 4]) Try.func109 rfl rfl rfl rfl (by decide) ?_
      repeat (first | ((first | refine X_call_fn2 rfl (by simp only [tys]) ?_ | refine X_dcall_fn2 rfl (by simp only [tys]) ?_); apply Exists.intro; apply And.intro; (focus (simp -dsimp only [simx, zzC, zzB, tys, ite_self, opnL, callB, callX, readsB, stepOp, nilCmp, ofVal, opBuiltin, opLen, PV.sk, scalBin, scalUn, intBin, opLoad, natOf, opConvert, opField, cellsP, oneP, Value.oneCell', opStore, toIV, scalT, scalA, scalC, boxesA, boxesC, zipB_none, zipB_mx, isZ, opZip, zeroP, opAppendZ, opMakeMap, opLookup, mboxB, opUpdate, ↓reduceIte, Nat.reduceSub, Nat.reduceEqDiff, Nat.reduceAdd, Nat.reduceMul, Nat.reduceLT, Nat.reduceLeDiff, Int.reduceToNat, Int.reduceLE, Int.reduceLT, Int.reduceNeg, reduceCtorEq, zzL, if_true, if_false] <;> rfl)); apply Exists.intro; apply And.intro; (focus (first | exact q))) | refine X_opc rfl ?_ | refine X_dopc rfl ?_ | refine ⟨(by show drawK _ _ = true; kernel_rfl : drawX _ _ _), ?_⟩ | exact (by show drawK _ _ = true; kernel_rfl : drawX _ _ _) | simp -dsimp (maxSteps := 20000000) (disch := omega) only [simx, zzC, zzB, tys, ite_self, opnL, callB, callX, readsB, stepOp, nilCmp, ofVal, opBuiltin, opLen, PV.sk, scalBin, scalUn, intBin, opLoad, natOf, opConvert, opField, cellsP, oneP, Value.oneCell', opStore, toIV, scalT, scalA, scalC, boxesA, boxesC, zipB_none, zipB_mx, isZ, opZip, zeroP, opAppendZ, opMakeMap, opLookup, mboxB, opUpdate, ↓reduceIte, Nat.reduceSub, Nat.reduceEqDiff, Nat.reduceAdd, Nat.reduceMul, Nat.reduceLT, Nat.reduceLeDiff, Int.reduceToNat, Int.reduceLE, Int.reduceLT, Int.reduceNeg, reduceCtorEq, zzR, gos, Int.reduceAdd, Int.reduceSub, Int.reduceMul, Int.reduceEq, hb, hb2, c1])
  · rw [decide_eq_false c1]
    refine X_startR (n := 15) (m := 3) (rs := [.tmp 4]) Try.func109 rfl rfl rfl rfl (by decide) ?_
    repeat (first | refine X_opc rfl ?_ | refine X_dopc rfl ?_ | refine ⟨(by show drawK _ _ = true; kernel_rfl : drawX _ _ _), ?_⟩ | exact (by show drawK _ _ = true; kernel_rfl : drawX _ _ _) | simp -dsimp (maxSteps := 20000000) (disch := omega) only [simx, zzC, zzB, tys, ite_self, opnL, callB, callX, readsB, stepOp, nilCmp, ofVal, opBuiltin, opLen, PV.sk, scalBin, scalUn, intBin, opLoad, natOf, opConvert, opField, cellsP, oneP, Value.oneCell', opStore, toIV, scalT, scalA, scalC, boxesA, boxesC, zipB_none, zipB_mx, isZ, opZip, zeroP, opAppendZ, opMakeMap, opLookup, mboxB, opUpdate, ↓reduceIte, Nat.reduceSub, Nat.reduceEqDiff, Nat.reduceAdd, Nat.reduceMul, Nat.reduceLT, Nat.reduceLeDiff, Int.reduceToNat, Int.reduceLE, Int.reduceLT, Int.reduceNeg, reduceCtorEq, zzR, gos, Int.reduceAdd, Int.reduceSub, Int.reduceMul, Int.reduceEq, hb, hb2, c1])
def badF (p each : Int) : List (List Int) → Nat → Int
  | [], _ => -1
  | a :: l, k => if rowOkB p each a then badF p each l (k + 1) else k
theorem badF_iff (p each : Int) : ∀ (l : List (List Int)) (k : Nat), ¬ 0 ≤ badF p each l k ↔ ∀ u ∈ l, (u.length : Int) = each ∧ HasB p u = true
  | [], k => by simp [badF]
  | a :: l, k => by
    rw [badF]
    cases h : rowOkB p each a with
    | true =>
      rw [if_pos rfl, badF_iff p each l (k + 1)]
      have : (a.length : Int) = each ∧ HasB p a = true := by simpa [rowOkB] using h
      simp [this.1, this.2]
    | false =>
      have hk : (0 : Int) ≤ (k : Int) := by omega
      have : ¬ ((a.length : Int) = each ∧ HasB p a = true) := by simpa [rowOkB] using h
      simp only [if_false, hk, not_true_eq_false, false_iff, Bool.false_eq_true]
      exact fun h2 => this (h2 a (by simp))
theorem indexBad_walk {b b2 base : Name} {h : Heap} {p each : Int} {l : List (List Int)} (hl : l.length ≤ maxLen) (hu : ∀ u ∈ l, u.length ≤ maxLen) (hb : h b = some (.var [i64 each])) (hb2 : h b2 = some (.var [u64 p])) :
    CallR Try.prog base 119 [llP l, .clo 109 [.ref b 0 1, .ref b2 0 1]] h (i64 (badF p each l 0)) h := by
  rw [mx_len] at hl
  refine X_startR (n := 19) (m := 2) (rs := [.tmp 4]) Try.func119 rfl rfl rfl rfl (by decide) ?_
  repeat (first | refine X_opc rfl ?_ | refine X_dopc rfl ?_ | refine ⟨(by show drawK _ _ = true; kernel_rfl : drawX _ _ _), ?_⟩ | exact (by show drawK _ _ = true; kernel_rfl : drawX _ _ _) | simp -dsimp (maxSteps := 20000000) (disch := omega) only [simx, zzC, zzB, tys, ite_self, opnL, callB, callX, readsB, stepOp, nilCmp, ofVal, opBuiltin, opLen, PV.sk, scalBin, scalUn, intBin, opLoad, natOf, opConvert, opField, cellsP, oneP, Value.oneCell', opStore, toIV, scalT, scalA, scalC, boxesA, boxesC, zipB_none, zipB_mx, isZ, opZip, zeroP, opAppendZ, opMakeMap, opLookup, mboxB, opUpdate, ↓reduceIte, Nat.reduceSub, Nat.reduceEqDiff, Nat.reduceAdd, Nat.reduceMul, Nat.reduceLT, Nat.reduceLeDiff, Int.reduceToNat, Int.reduceLE, Int.reduceLT, Int.reduceNeg, reduceCtorEq, gos, Int.reduceAdd, Int.reduceSub, Int.reduceMul, Int.reduceEq])
  refine X_loopH [0, 1, 7, 8] [] (0) (l.length) (fun j => badF p each (l.drop j) j = badF p each l 0) (fun j => [(8, i64 j)]) (fun j => h) ?_ ?_ ?_ ?_ ?_ (by decide) ?_
  · exact (fgt_nil)
  · ((simp -dsimp (disch := omega) only [simx, zzB, tys, ite_self, opnL, callB, callX, readsB, stepOp, nilCmp, ofVal, opBuiltin, opLen, PV.sk, scalBin, scalUn, intBin, opLoad, natOf, opConvert, opField, cellsP, oneP, Value.oneCell', opStore, toIV, scalT, scalA, scalC, boxesA, boxesC, zipB_none, zipB_mx, isZ, opZip, zeroP, opAppendZ, opMakeMap, opLookup, mboxB, opUpdate, ↓reduceIte, Nat.reduceSub, Nat.reduceEqDiff, Nat.reduceAdd, Nat.reduceMul, Nat.reduceLT, Nat.reduceLeDiff, Int.reduceToNat, Int.reduceLE, Int.reduceLT, Int.reduceNeg, reduceCtorEq, gos, Int.reduceAdd, Int.reduceSub, Int.reduceMul, Int.reduceEq]) <;> first | rfl | simp)
  · exact drop_nil _
  · omega
  · rfl
  · intro j hj hf
    by_cases c : j < l.length
    · have g1 : (l.map fun u => IV.l u.length (u.map iu))[j]? = some (.l (l[j]).length ((l[j]).map iu)) := by rw [List.getElem?_map, List.getElem?_eq_getElem c]; rfl
      rw [dropE c, badF] at hf
      have hj1 := hu l[j] (List.getElem_mem c)
      generalize l[j] = u at g1 hf hj1
      repeat (first | refine X_opc rfl ?_ | refine X_dopc rfl ?_ | refine ⟨(by show drawK _ _ = true; kernel_rfl : drawX _ _ _), ?_⟩ | exact (by show drawK _ _ = true; kernel_rfl : drawX _ _ _) | simp -dsimp (maxSteps := 20000000) (disch := omega) only [simx, zzC, zzB, tys, ite_self, opnL, callB, callX, readsB, stepOp, nilCmp, ofVal, opBuiltin, opLen, PV.sk, scalBin, scalUn, intBin, opLoad, natOf, opConvert, opField, cellsP, oneP, Value.oneCell', opStore, toIV, scalT, scalA, scalC, boxesA, boxesC, zipB_none, zipB_mx, isZ, opZip, zeroP, opAppendZ, opMakeMap, opLookup, mboxB, opUpdate, ↓reduceIte, Nat.reduceSub, Nat.reduceEqDiff, Nat.reduceAdd, Nat.reduceMul, Nat.reduceLT, Nat.reduceLeDiff, Int.reduceToNat, Int.reduceLE, Int.reduceLT, Int.reduceNeg, reduceCtorEq, gos, Int.reduceAdd, Int.reduceSub, Int.reduceMul, Int.reduceEq, c, g1])
      refine X_call_shared (rows71_walk (x := u) hj1 hb hb2) rfl (by simp -dsimp only [calleeOf, simx, zzB, tys, ite_self, opnL, callB, callX, readsB, stepOp, nilCmp, ofVal, opBuiltin, opLen, PV.sk, scalBin, scalUn, intBin, opLoad, natOf, opConvert, opField, cellsP, oneP, Value.oneCell', opStore, toIV, scalT, scalA, scalC, boxesA, boxesC, zipB_none, zipB_mx, isZ, opZip, zeroP, opAppendZ, opMakeMap, opLookup, mboxB, opUpdate, ↓reduceIte, Nat.reduceSub, Nat.reduceEqDiff, Nat.reduceAdd, Nat.reduceMul, Nat.reduceLT, Nat.reduceLeDiff, Int.reduceToNat, Int.reduceLE, Int.reduceLT, Int.reduceNeg, reduceCtorEq, gos, Int.reduceAdd, Int.reduceSub, Int.reduceMul, Int.reduceEq]) (by simp only [tys]) ?_
      cases e : rowOkB p each u with
      | false =>
        rw [e] at hf
        rw [← show (j : Int) = badF p each l 0 from hf]
        repeat (first | refine X_opc rfl ?_ | refine X_dopc rfl ?_ | refine ⟨(by show drawK _ _ = true; kernel_rfl : drawX _ _ _), ?_⟩ | exact (by show drawK _ _ = true; kernel_rfl : drawX _ _ _) | simp -dsimp (maxSteps := 20000000) (disch := omega) only [simx, zzC, zzB, tys, ite_self, opnL, callB, callX, readsB, stepOp, nilCmp, ofVal, opBuiltin, opLen, PV.sk, scalBin, scalUn, intBin, opLoad, natOf, opConvert, opField, cellsP, oneP, Value.oneCell', opStore, toIV, scalT, scalA, scalC, boxesA, boxesC, zipB_none, zipB_mx, isZ, opZip, zeroP, opAppendZ, opMakeMap, opLookup, mboxB, opUpdate, ↓reduceIte, Nat.reduceSub, Nat.reduceEqDiff, Nat.reduceAdd, Nat.reduceMul, Nat.reduceLT, Nat.reduceLeDiff, Int.reduceToNat, Int.reduceLE, Int.reduceLT, Int.reduceNeg, reduceCtorEq, zzR, gos, Int.reduceAdd, Int.reduceSub, Int.reduceMul, Int.reduceEq])
      | true =>
        rw [e, if_pos rfl] at hf
        repeat (first | refine X_opc rfl ?_ | refine X_dopc rfl ?_ | refine ⟨(by show drawK _ _ = true; kernel_rfl : drawX _ _ _), ?_⟩ | exact (by show drawK _ _ = true; kernel_rfl : drawX _ _ _) | simp -dsimp (maxSteps := 20000000) (disch := omega) only [simx, zzC, zzB, tys, ite_self, opnL, callB, callX, readsB, stepOp, nilCmp, ofVal, opBuiltin, opLen, PV.sk, scalBin, scalUn, intBin, opLoad, natOf, opConvert, opField, cellsP, oneP, Value.oneCell', opStore, toIV, scalT, scalA, scalC, boxesA, boxesC, zipB_none, zipB_mx, isZ, opZip, zeroP, opAppendZ, opMakeMap, opLookup, mboxB, opUpdate, ↓reduceIte, Nat.reduceSub, Nat.reduceEqDiff, Nat.reduceAdd, Nat.reduceMul, Nat.reduceLT, Nat.reduceLeDiff, Int.reduceToNat, Int.reduceLE, Int.reduceLT, Int.reduceNeg, reduceCtorEq, gos, Int.reduceAdd, Int.reduceSub, Int.reduceMul, Int.reduceEq])
        exact ⟨c, (fgt_nil), hf, rfl, drop_nil _⟩
    · have hj : j = l.length := by omega
      subst hj
      rw [List.drop_length, badF] at hf
      rw [← hf]
      repeat (first | refine X_opc rfl ?_ | refine X_dopc rfl ?_ | refine ⟨(by show drawK _ _ = true; kernel_rfl : drawX _ _ _), ?_⟩ | exact (by show drawK _ _ = true; kernel_rfl : drawX _ _ _) | simp -dsimp (maxSteps := 20000000) (disch := omega) only [simx, zzC, zzB, tys, ite_self, opnL, callB, callX, readsB, stepOp, nilCmp, ofVal, opBuiltin, opLen, PV.sk, scalBin, scalUn, intBin, opLoad, natOf, opConvert, opField, cellsP, oneP, Value.oneCell', opStore, toIV, scalT, scalA, scalC, boxesA, boxesC, zipB_none, zipB_mx, isZ, opZip, zeroP, opAppendZ, opMakeMap, opLookup, mboxB, opUpdate, ↓reduceIte, Nat.reduceSub, Nat.reduceEqDiff, Nat.reduceAdd, Nat.reduceMul, Nat.reduceLT, Nat.reduceLeDiff, Int.reduceToNat, Int.reduceLE, Int.reduceLT, Int.reduceNeg, reduceCtorEq, zzR, gos, Int.reduceAdd, Int.reduceSub, Int.reduceMul, Int.reduceEq])
theorem containsBad_walk {b b2 base : Name} {h : Heap} {p each : Int} {l : List (List Int)} (hl : l.length ≤ maxLen) (hu : ∀ u ∈ l, u.length ≤ maxLen) (hb : h b = some (.var [i64 each])) (hb2 : h b2 = some (.var [u64 p])) :
    CallR Try.prog base 108 [llP l, .clo 109 [.ref b 0 1, .ref b2 0 1]] h (bl (decide (0 ≤ badF p each l 0))) h := by
  have q := fun bs => indexBad_walk (base := bs) hl hu hb hb2
  generalize badF p each l 0 = i at q
  by_cases c : 0 ≤ i
  · rw [decide_eq_true c]
    refine X_startR (n := 9) (m := 2) (rs := [.tmp 4]) Try.func108 rfl rfl rfl rfl (by decide) ?_
    repeat (first | refine X_opc rfl ?_ | refine X_dopc rfl ?_ | refine ⟨(by show drawK _ _ = true; kernel_rfl : drawX _ _ _), ?_⟩ | exact (by show drawK _ _ = true; kernel_rfl : drawX _ _ _) | simp -dsimp (maxSteps := 20000000) (disch := omega) only [simx, zzC, zzB, tys, ite_self, opnL, callB, callX, readsB, stepOp, nilCmp, ofVal, opBuiltin, opLen, PV.sk, scalBin, scalUn, intBin, opLoad, natOf, opConvert, opField, cellsP, oneP, Value.oneCell', opStore, toIV, scalT, scalA, scalC, boxesA, boxesC, zipB_none, zipB_mx, isZ, opZip, zeroP, opAppendZ, opMakeMap, opLookup, mboxB, opUpdate, ↓reduceIte, Nat.reduceSub, Nat.reduceEqDiff, Nat.reduceAdd, Nat.reduceMul, Nat.reduceLT, Nat.reduceLeDiff, Int.reduceToNat, Int.reduceLE, Int.reduceLT, Int.reduceNeg, reduceCtorEq, gos, Int.reduceAdd, Int.reduceSub, Int.reduceMul, Int.reduceEq])
    refine X_call_shared (q _) rfl (by simp -dsimp only [callee_fn, simx, zzB, tys, ite_self, opnL, callB, callX, readsB, stepOp, nilCmp, ofVal, opBuiltin, opLen, PV.sk, scalBin, scalUn, intBin, opLoad, natOf, opConvert, opField, cellsP, oneP, Value.oneCell', opStore, toIV, scalT, scalA, scalC, boxesA, boxesC, zipB_none, zipB_mx, isZ, opZip, zeroP, opAppendZ, opMakeMap, opLookup, mboxB, opUpdate, ↓reduceIte, Nat.reduceSub, Nat.reduceEqDiff, Nat.reduceAdd, Nat.reduceMul, Nat.reduceLT, Nat.reduceLeDiff, Int.reduceToNat, Int.reduceLE, Int.reduceLT, Int.reduceNeg, reduceCtorEq, gos, Int.reduceAdd, Int.reduceSub, Int.reduceMul, Int.reduceEq]) (by simp only [tys]) ?_
    repeat (first | refine X_opc rfl ?_ | refine X_dopc rfl ?_ | refine ⟨(by show drawK _ _ = true; kernel_rfl : drawX _ _ _), ?_⟩ | exact (by show drawK _ _ = true; kernel_rfl : drawX _ _ _) | simp -dsimp (maxSteps := 20000000) (disch := omega) only [simx, zzC, zzB, tys, ite_self, opnL, callB, callX, readsB, stepOp, nilCmp, ofVal, opBuiltin, opLen, PV.sk, scalBin, scalUn, intBin, opLoad, natOf, opConvert, opField, cellsP, oneP, Value.oneCell', opStore, toIV, scalT, scalA, scalC, boxesA, boxesC, zipB_none, zipB_mx, isZ, opZip, zeroP, opAppendZ, opMakeMap, opLookup, mboxB, opUpdate, ↓reduceIte, Nat.reduceSub, Nat.reduceEqDiff, Nat.reduceAdd, Nat.reduceMul, Nat.reduceLT, Nat.reduceLeDiff, Int.reduceToNat, Int.reduceLE, Int.reduceLT, Int.reduceNeg, reduceCtorEq, zzR, gos, Int.reduceAdd, Int.reduceSub, Int.reduceMul, Int.reduceEq])
  · rw [decide_eq_false c]
    refine X_startR (n := 9) (m := 2) (rs := [.tmp 4]) Try.func108 rfl rfl rfl rfl (by decide) ?_
    repeat (first | refine X_opc rfl ?_ | refine X_dopc rfl ?_ | refine ⟨(by show drawK _ _ = true; kernel_rfl : drawX _ _ _), ?_⟩ | exact (by show drawK _ _ = true; kernel_rfl : drawX _ _ _) | simp -dsimp (maxSteps := 20000000) (disch := omega) only [simx, zzC, zzB, tys, ite_self, opnL, callB, callX, readsB, stepOp, nilCmp, ofVal, opBuiltin, opLen, PV.sk, scalBin, scalUn, intBin, opLoad, natOf, opConvert, opField, cellsP, oneP, Value.oneCell', opStore, toIV, scalT, scalA, scalC, boxesA, boxesC, zipB_none, zipB_mx, isZ, opZip, zeroP, opAppendZ, opMakeMap, opLookup, mboxB, opUpdate, ↓reduceIte, Nat.reduceSub, Nat.reduceEqDiff, Nat.reduceAdd, Nat.reduceMul, Nat.reduceLT, Nat.reduceLeDiff, Int.reduceToNat, Int.reduceLE, Int.reduceLT, Int.reduceNeg, reduceCtorEq, gos, Int.reduceAdd, Int.reduceSub, Int.reduceMul, Int.reduceEq])
    refine X_call_shared (q _) rfl (by simp -dsimp only [callee_fn, simx, zzB, tys, ite_self, opnL, callB, callX, readsB, stepOp, nilCmp, ofVal, opBuiltin, opLen, PV.sk, scalBin, scalUn, intBin, opLoad, natOf, opConvert, opField, cellsP, oneP, Value.oneCell', opStore, toIV, scalT, scalA, scalC, boxesA, boxesC, zipB_none, zipB_mx, isZ, opZip, zeroP, opAppendZ, opMakeMap, opLookup, mboxB, opUpdate, ↓reduceIte, Nat.reduceSub, Nat.reduceEqDiff, Nat.reduceAdd, Nat.reduceMul, Nat.reduceLT, Nat.reduceLeDiff, Int.reduceToNat, Int.reduceLE, Int.reduceLT, Int.reduceNeg, reduceCtorEq, gos, Int.reduceAdd, Int.reduceSub, Int.reduceMul, Int.reduceEq]) (by simp only [tys]) ?_
    repeat (first | refine X_opc rfl ?_ | refine X_dopc rfl ?_ | refine ⟨(by show drawK _ _ = true; kernel_rfl : drawX _ _ _), ?_⟩ | exact (by show drawK _ _ = true; kernel_rfl : drawX _ _ _) | simp -dsimp (maxSteps := 20000000) (disch := omega) only [simx, zzC, zzB, tys, ite_self, opnL, callB, callX, readsB, stepOp, nilCmp, ofVal, opBuiltin, opLen, PV.sk, scalBin, scalUn, intBin, opLoad, natOf, opConvert, opField, cellsP, oneP, Value.oneCell', opStore, toIV, scalT, scalA, scalC, boxesA, boxesC, zipB_none, zipB_mx, isZ, opZip, zeroP, opAppendZ, opMakeMap, opLookup, mboxB, opUpdate, ↓reduceIte, Nat.reduceSub, Nat.reduceEqDiff, Nat.reduceAdd, Nat.reduceMul, Nat.reduceLT, Nat.reduceLeDiff, Int.reduceToNat, Int.reduceLE, Int.reduceLT, Int.reduceNeg, reduceCtorEq, zzR, gos, Int.reduceAdd, Int.reduceSub, Int.reduceMul, Int.reduceEq])
def rowsB (p : Int) (l : List (List Int)) (each : Int) : Bool := !decide (0 ≤ badF p each l 0)
theorem rowsB_iff (p : Int) (l : List (List Int)) (each : Int) : rowsB p l each = true ↔ ∀ u ∈ l, (u.length : Int) = each ∧ HasB p u = true := by
  unfold rowsB
  rw [Bool.not_eq_true', decide_eq_false_iff_not]
  exact badF_iff p each l 0
theorem rows7_walk {p each : Int} {l : List (List Int)} (hl : l.length ≤ maxLen) (hu : ∀ u ∈ l, u.length ≤ maxLen) : CallsP Try.prog 87 [u64 p, llP l, i64 each] (bl (rowsB p l each)) := by
  unfold rowsB
  refine X_startP (n := 11) (m := 3) (rs := [.tmp 6]) Try.func87 rfl rfl rfl rfl (by decide) fun base => ?_
  repeat (first | refine X_opc rfl ?_ | refine X_dopc rfl ?_ | refine ⟨(by show drawK _ _ = true; kernel_rfl : drawX _ _ _), ?_⟩ | exact (by show drawK _ _ = true; kernel_rfl : drawX _ _ _) | simp -dsimp (maxSteps := 20000000) (disch := omega) only [simx, zzC, zzB, tys, ite_self, opnL, callB, callX, readsB, stepOp, nilCmp, ofVal, opBuiltin, opLen, PV.sk, scalBin, scalUn, intBin, opLoad, natOf, opConvert, opField, cellsP, oneP, Value.oneCell', opStore, toIV, scalT, scalA, scalC, boxesA, boxesC, zipB_none, zipB_mx, isZ, opZip, zeroP, opAppendZ, opMakeMap, opLookup, mboxB, opUpdate, ↓reduceIte, Nat.reduceSub, Nat.reduceEqDiff, Nat.reduceAdd, Nat.reduceMul, Nat.reduceLT, Nat.reduceLeDiff, Int.reduceToNat, Int.reduceLE, Int.reduceLT, Int.reduceNeg, reduceCtorEq, gos, Int.reduceAdd, Int.reduceSub, Int.reduceMul, Int.reduceEq])
  refine X_call_shared (containsBad_walk (b := (0, 1) :: base) (b2 := (0, 0) :: base) (p := p) (each := each) hl hu (by simp [Heap.put_at]) (by simp [Heap.put_at])) rfl (by simp -dsimp only [callee_fn, simx, zzB, tys, ite_self, opnL, callB, callX, readsB, stepOp, nilCmp, ofVal, opBuiltin, opLen, PV.sk, scalBin, scalUn, intBin, opLoad, natOf, opConvert, opField, cellsP, oneP, Value.oneCell', opStore, toIV, scalT, scalA, scalC, boxesA, boxesC, zipB_none, zipB_mx, isZ, opZip, zeroP, opAppendZ, opMakeMap, opLookup, mboxB, opUpdate, ↓reduceIte, Nat.reduceSub, Nat.reduceEqDiff, Nat.reduceAdd, Nat.reduceMul, Nat.reduceLT, Nat.reduceLeDiff, Int.reduceToNat, Int.reduceLE, Int.reduceLT, Int.reduceNeg, reduceCtorEq, gos, Int.reduceAdd, Int.reduceSub, Int.reduceMul, Int.reduceEq]) (by simp only [tys]) ?_
  generalize decide (0 ≤ badF p each l 0) = o
  repeat (first | refine X_opc rfl ?_ | refine X_dopc rfl ?_ | refine ⟨(by show drawK _ _ = true; kernel_rfl : drawX _ _ _), ?_⟩ | exact (by show drawK _ _ = true; kernel_rfl : drawX _ _ _) | simp -dsimp (maxSteps := 20000000) (disch := omega) only [simx, zzC, zzB, tys, ite_self, opnL, callB, callX, readsB, stepOp, nilCmp, ofVal, opBuiltin, opLen, PV.sk, scalBin, scalUn, intBin, opLoad, natOf, opConvert, opField, cellsP, oneP, Value.oneCell', opStore, toIV, scalT, scalA, scalC, boxesA, boxesC, zipB_none, zipB_mx, isZ, opZip, zeroP, opAppendZ, opMakeMap, opLookup, mboxB, opUpdate, ↓reduceIte, Nat.reduceSub, Nat.reduceEqDiff, Nat.reduceAdd, Nat.reduceMul, Nat.reduceLT, Nat.reduceLeDiff, Int.reduceToNat, Int.reduceLE, Int.reduceLT, Int.reduceNeg, reduceCtorEq, zzR, gos, Int.reduceAdd, Int.reduceSub, Int.reduceMul, Int.reduceEq])
theorem side7_walk (n : Int) : CallsP Try.prog 86 [i64 n] (bl (SideB n)) := by
  unfold SideB
  by_cases c1 : 1 ≤ n
  · rw [decide_eq_true c1]
    by_cases c2 : n ≤ 64
    · rw [decide_eq_true c2]
      refine X_startP (n := 9) (m := 1) (rs := [.tmp 2]) Try.func86 rfl rfl rfl rfl (by decide) fun base => ?_
      repeat (first | refine X_opc rfl ?_ | refine X_dopc rfl ?_ | refine ⟨(by show drawK _ _ = true; kernel_rfl : drawX _ _ _), ?_⟩ | exact (by show drawK _ _ = true; kernel_rfl : drawX _ _ _) | simp -dsimp (maxSteps := 20000000) (disch := omega) only [simx, zzC, zzB, tys, ite_self, opnL, callB, callX, readsB, stepOp, nilCmp, ofVal, opBuiltin, opLen, PV.sk, scalBin, scalUn, intBin, opLoad, natOf, opConvert, opField, cellsP, oneP, Value.oneCell', opStore, toIV, scalT, scalA, scalC, boxesA, boxesC, zipB_none, zipB_mx, isZ, opZip, zeroP, opAppendZ, opMakeMap, opLookup, mboxB, opUpdate, ↓reduceIte, Nat.reduceSub, Nat.reduceEqDiff, Nat.reduceAdd, Nat.reduceMul, Nat.reduceLT, Nat.reduceLeDiff, Int.reduceToNat, Int.reduceLE, Int.reduceLT, Int.reduceNeg, reduceCtorEq, zzR, gos, Int.reduceAdd, Int.reduceSub, Int.reduceMul, Int.reduceEq])
    · rw [decide_eq_false c2]
      refine X_startP (n := 9) (m := 1) (rs := [.tmp 2]) Try.func86 rfl rfl rfl rfl (by decide) fun base => ?_
      repeat (first | refine X_opc rfl ?_ | refine X_dopc rfl ?_ | refine ⟨(by show drawK _ _ = true; kernel_rfl : drawX _ _ _), ?_⟩ | exact (by show drawK _ _ = true; kernel_rfl : drawX _ _ _) | simp -dsimp (maxSteps := 20000000) (disch := omega) only [simx, zzC, zzB, tys, ite_self, opnL, callB, callX, readsB, stepOp, nilCmp, ofVal, opBuiltin, opLen, PV.sk, scalBin, scalUn, intBin, opLoad, natOf, opConvert, opField, cellsP, oneP, Value.oneCell', opStore, toIV, scalT, scalA, scalC, boxesA, boxesC, zipB_none, zipB_mx, isZ, opZip, zeroP, opAppendZ, opMakeMap, opLookup, mboxB, opUpdate, ↓reduceIte, Nat.reduceSub, Nat.reduceEqDiff, Nat.reduceAdd, Nat.reduceMul, Nat.reduceLT, Nat.reduceLeDiff, Int.reduceToNat, Int.reduceLE, Int.reduceLT, Int.reduceNeg, reduceCtorEq, zzR, gos, Int.reduceAdd, Int.reduceSub, Int.reduceMul, Int.reduceEq])
  · rw [decide_eq_false c1]
    refine X_startP (n := 9) (m := 1) (rs := [.tmp 2]) Try.func86 rfl rfl rfl rfl (by decide) fun base => ?_
    repeat (first | refine X_opc rfl ?_ | refine X_dopc rfl ?_ | refine ⟨(by show drawK _ _ = true; kernel_rfl : drawX _ _ _), ?_⟩ | exact (by show drawK _ _ = true; kernel_rfl : drawX _ _ _) | simp -dsimp (maxSteps := 20000000) (disch := omega) only [simx, zzC, zzB, tys, ite_self, opnL, callB, callX, readsB, stepOp, nilCmp, ofVal, opBuiltin, opLen, PV.sk, scalBin, scalUn, intBin, opLoad, natOf, opConvert, opField, cellsP, oneP, Value.oneCell', opStore, toIV, scalT, scalA, scalC, boxesA, boxesC, zipB_none, zipB_mx, isZ, opZip, zeroP, opAppendZ, opMakeMap, opLookup, mboxB, opUpdate, ↓reduceIte, Nat.reduceSub, Nat.reduceEqDiff, Nat.reduceAdd, Nat.reduceMul, Nat.reduceLT, Nat.reduceLeDiff, Int.reduceToNat, Int.reduceLE, Int.reduceLT, Int.reduceNeg, reduceCtorEq, zzR, gos, Int.reduceAdd, Int.reduceSub, Int.reduceMul, Int.reduceEq, c1])
end Go.Proofs.Ythnfphgjfpcpbaa.TM
