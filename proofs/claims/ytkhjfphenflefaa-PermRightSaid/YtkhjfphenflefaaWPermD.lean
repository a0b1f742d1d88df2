/- Layer 6: rings of an order, walked. -/
import Derived.Test.YtkhjfphenflefaaWPermC
namespace Go.Proofs.Ytkhjfphenflefaa.TM
open Go Go.RowKit
set_option linter.unusedVariables false
set_option linter.defProp false
set_option linter.unusedSimpArgs false
attribute [local irreducible] K W WOps Effs Xg Xo Xr Xdg Xdo Xdr Xif CallsP CallR

/-- Where so many steps of an order lead. -/
def itn (l : List Int) (a : Int) : Nat → Int
  | 0 => a
  | k + 1 => l.getD (itn l a k).toNat 0
def orb (l : List Int) (a : Int) (k : Nat) : List Int := (List.range k).map (itn l a)
theorem orb_len (l : List Int) (a : Int) (k : Nat) : (orb l a k).length = k := by simp [orb]
theorem orb_succ (l : List Int) (a : Int) (k : Nat) : orb l a (k + 1) = orb l a k ++ [itn l a k] := by unfold orb; rw [List.range_succ, List.map_append]; rfl
theorem orb_zero (l : List Int) (a : Int) : orb l a 0 = [] := rfl
/-- How many are in the ring of a, where those of s are gone. -/
def ringN (l s : List Int) (a : Int) : Nat := ((List.range (l.length + 1)).find? fun k => decide (itn l a k ∈ s ++ orb l a k)).getD 0
theorem itn_in {l : List Int} (o : Ord l) {a : Int} (h0 : 0 ≤ a) (h1 : a < l.length) : ∀ k, 0 ≤ itn l a k ∧ itn l a k < l.length
  | 0 => ⟨h0, h1⟩
  | k + 1 => by
    have := itn_in o h0 h1 k
    have h2 : (itn l a k).toNat < l.length := by omega
    rw [itn, List.getD_eq_getElem?_getD, List.getElem?_eq_getElem h2]
    exact o.mem _ (List.getElem_mem h2)
theorem orb_nodup {l s : List Int} {a : Int} : ∀ k, (∀ i, i < k → itn l a i ∉ s ++ orb l a i) → (orb l a k).Nodup
  | 0, _ => List.nodup_nil
  | k + 1, h => by
    rw [orb_succ, List.nodup_append]
    refine ⟨orb_nodup k fun i hi => h i (by omega), by simp, fun x hx y hy => ?_⟩
    have : y = itn l a k := by simpa using hy
    subst this
    intro e
    exact h k (by omega) (List.mem_append.2 (.inr (e ▸ hx)))
theorem ringN_spec {l : List Int} (o : Ord l) (s : List Int) {a : Int} (h0 : 0 ≤ a) (h1 : a < l.length) :
    itn l a (ringN l s a) ∈ s ++ orb l a (ringN l s a) ∧ (∀ i, i < ringN l s a → itn l a i ∉ s ++ orb l a i) ∧ ringN l s a ≤ l.length := by
  unfold ringN
  cases hf : (List.range (l.length + 1)).find? fun k => decide (itn l a k ∈ s ++ orb l a k) with
  | none =>
    exfalso
    have h2 : ∀ i, i < l.length + 1 → itn l a i ∉ s ++ orb l a i := fun i hi => by
      have := List.find?_eq_none.1 hf i (List.mem_range.2 hi)
      simpa using this
    have h3 := orb_nodup (l.length + 1) h2
    have h4 := nodup_bound h3 (n := l.length) (fun x hx => by
      obtain ⟨i, _, rfl⟩ := List.mem_map.1 hx
      exact itn_in o h0 h1 i)
    rw [orb_len] at h4
    omega
  | some m =>
    rw [List.find?_range_eq_some] at hf
    obtain ⟨h2, h3, h4⟩ := hf
    simp only [Option.getD_some]
    refine ⟨by simpa using h2, fun i hi => ?_, ?_⟩
    · have := h4 i hi
      simpa using this
    · have := List.mem_range.1 h3; omega
/-- The rings that begin with the first j numbers, and all that are in them. -/
def rgs (l : List Int) : Nat → List (List Int) × List Int
  | 0 => ([], [])
  | j + 1 => if (j : Int) ∈ (rgs l j).2 then rgs l j else ((rgs l j).1 ++ [orb l j (ringN l (rgs l j).2 j)], (rgs l j).2 ++ orb l j (ringN l (rgs l j).2 j))
def ringsI (l : List Int) : List (List Int) := (rgs l l.length).1
abbrev ivl (l : List Int) : IV := .l l.length (l.map ii)
abbrev lli (x : List (List Int)) : PV := .i (.l x.length (x.map ivl))
def trM (s : List Int) : List (Int × Value) := s.map fun a => (a, Value.bool true)
theorem getM_tr (n : Int) : ∀ s : List Int, getM n (trM s) = if n ∈ s then some (Value.bool true) else none
  | [] => by simp [trM, getM]
  | a :: s => by
    have ih := getM_tr n s
    unfold trM at ih ⊢
    rw [List.map_cons, getM]
    by_cases h : n = a
    · simp [h]
    · rw [if_neg h, ih]; simp [h]
theorem putM_tr (n : Int) : ∀ s : List Int, n ∉ s → putM n (Value.bool true) (trM s) = trM (s ++ [n])
  | [], _ => rfl
  | a :: s, hn => by
    have h1 : n ≠ a := fun e => hn (by simp [e])
    have ih := putM_tr n s fun h => hn (by simp [h])
    unfold trM at ih ⊢
    rw [List.cons_append, List.map_cons, List.map_cons, putM, if_neg h1, ih]
theorem rgs_len (l : List Int) : ∀ j, (rgs l j).1.length ≤ j
  | 0 => Nat.le_refl _
  | j + 1 => by
    have := rgs_len l j
    rw [rgs]
    split
    · omega
    · simp; omega
set_option maxHeartbeats 2000000 in
theorem rings_walk (l : List Int) (o : Ord l) : CallsP Try.prog 47 [li l] (lli (ringsI l)) := by
  have o1 := o.le
  have o2 := o.pos
  unfold ringsI
  refine X_startP (n := 38) (m := 1) (rs := [.tmp 2]) Try.func47 rfl rfl rfl rfl (by decide) fun base => ?_
  repeat (first | refine ⟨(by show drawK _ _ = true; kernel_rfl : drawX _ _ _), ?_⟩ | exact (by show drawK _ _ = true; kernel_rfl : drawX _ _ _) | simp -dsimp (maxSteps := 20000000) (disch := omega) only [simx, zzC, zzB, tys, ite_self, opnL, callB, readsB, stepOp, ofVal, opBuiltin, opLen, PV.sk, scalBin, scalUn, intBin, opLoad, natOf, opConvert, opField, cellsP, oneP, Value.oneCell', opStore, toIV, scalT, scalA, scalC, boxesA, boxesC, zipB_none, zipB_mx, isZ, opZip, zeroP, opAppendZ, opMakeMap, opLookup, mboxB, opUpdate, ↓reduceIte, Nat.reduceSub, Nat.reduceEqDiff, Nat.reduceAdd, Nat.reduceMul, Nat.reduceLT, Nat.reduceLeDiff, Int.reduceToNat, Int.reduceLE, Int.reduceLT, Int.reduceNeg, reduceCtorEq, gos, Int.reduceAdd, Int.reduceSub, Int.reduceMul, Int.reduceEq])
  refine X_loopH [0, 3, 4, 10, 11] [(12, 2) :: base, (12, 3) :: base, (13, 2) :: base] (0) (l.length) (fun j => True) (fun j => [(4, rowP ((13, 3) :: base) 1 (rgs l j).1.length ((rgs l j).1.map ivl)), (11, i64 j)]) (fun j => rowH (Heap.none.put ((1, 0) :: base) (.map .i64 (trM (rgs l j).2))) ((13, 3) :: base) (rgs l j).1.length ((rgs l j).1.map ivl)) ?_ ?_ ?_ ?_ ?_ (by decide) ?_
  · exact (fgt_cons (by simp only [Heap.none_at]) (by (simp -dsimp only [zzB, tys, ite_self, opnL, callB, readsB, stepOp, ofVal, opBuiltin, opLen, PV.sk, scalBin, scalUn, intBin, opLoad, natOf, opConvert, opField, cellsP, oneP, Value.oneCell', opStore, toIV, scalT, scalA, scalC, boxesA, boxesC, zipB_none, zipB_mx, isZ, opZip, zeroP, opAppendZ, opMakeMap, opLookup, mboxB, opUpdate, ↓reduceIte, Nat.reduceSub, Nat.reduceEqDiff, Nat.reduceAdd, Nat.reduceMul, Nat.reduceLT, Nat.reduceLeDiff, Int.reduceToNat, Int.reduceLE, Int.reduceLT, Int.reduceNeg, reduceCtorEq, notIn_cons, notIn_nil]) <;> simp [refsL, refsP, mem_refs_rowP]) (by repeat (first | exact noVar_none _ | refine noVar_row ?_ | refine noVar_map ?_ | refine noVar_rowH ?_ | refine noVar_var ?_ (by simp [refsL, refsP, mem_refs_rowP]))) (fgt_cons (by simp only [Heap.none_at]) (by (simp -dsimp only [zzB, tys, ite_self, opnL, callB, readsB, stepOp, ofVal, opBuiltin, opLen, PV.sk, scalBin, scalUn, intBin, opLoad, natOf, opConvert, opField, cellsP, oneP, Value.oneCell', opStore, toIV, scalT, scalA, scalC, boxesA, boxesC, zipB_none, zipB_mx, isZ, opZip, zeroP, opAppendZ, opMakeMap, opLookup, mboxB, opUpdate, ↓reduceIte, Nat.reduceSub, Nat.reduceEqDiff, Nat.reduceAdd, Nat.reduceMul, Nat.reduceLT, Nat.reduceLeDiff, Int.reduceToNat, Int.reduceLE, Int.reduceLT, Int.reduceNeg, reduceCtorEq, notIn_cons, notIn_nil]) <;> simp [refsL, refsP, mem_refs_rowP]) (by repeat (first | exact noVar_none _ | refine noVar_row ?_ | refine noVar_map ?_ | refine noVar_rowH ?_ | refine noVar_var ?_ (by simp [refsL, refsP, mem_refs_rowP]))) (fgt_cons (by simp only [Heap.none_at]) (by (simp -dsimp only [zzB, tys, ite_self, opnL, callB, readsB, stepOp, ofVal, opBuiltin, opLen, PV.sk, scalBin, scalUn, intBin, opLoad, natOf, opConvert, opField, cellsP, oneP, Value.oneCell', opStore, toIV, scalT, scalA, scalC, boxesA, boxesC, zipB_none, zipB_mx, isZ, opZip, zeroP, opAppendZ, opMakeMap, opLookup, mboxB, opUpdate, ↓reduceIte, Nat.reduceSub, Nat.reduceEqDiff, Nat.reduceAdd, Nat.reduceMul, Nat.reduceLT, Nat.reduceLeDiff, Int.reduceToNat, Int.reduceLE, Int.reduceLT, Int.reduceNeg, reduceCtorEq, notIn_cons, notIn_nil]) <;> simp [refsL, refsP, mem_refs_rowP]) (by repeat (first | exact noVar_none _ | refine noVar_row ?_ | refine noVar_map ?_ | refine noVar_rowH ?_ | refine noVar_var ?_ (by simp [refsL, refsP, mem_refs_rowP]))) (fgt_nil))))
  · ((simp -dsimp (disch := omega) only [simx, zzB, tys, ite_self, opnL, callB, readsB, stepOp, ofVal, opBuiltin, opLen, PV.sk, scalBin, scalUn, intBin, opLoad, natOf, opConvert, opField, cellsP, oneP, Value.oneCell', opStore, toIV, scalT, scalA, scalC, boxesA, boxesC, zipB_none, zipB_mx, isZ, opZip, zeroP, opAppendZ, opMakeMap, opLookup, mboxB, opUpdate, ↓reduceIte, Nat.reduceSub, Nat.reduceEqDiff, Nat.reduceAdd, Nat.reduceMul, Nat.reduceLT, Nat.reduceLeDiff, Int.reduceToNat, Int.reduceLE, Int.reduceLT, Int.reduceNeg, reduceCtorEq, gos, Int.reduceAdd, Int.reduceSub, Int.reduceMul, Int.reduceEq]) <;> first | rfl | simp [rowP, rgs])
  · funext c
    simp (maxSteps := 20000000) only [Heap.drop_at, rowH_app, Heap.put_at, Heap.none_at, List.mem_cons, List.not_mem_nil, or_false]
    by_cases e0 : c = (1, 0) :: base
    · subst e0; simp [rgs, trM]
    by_cases e1 : c = (12, 2) :: base
    · subst e1; simp [rgs, trM]
    by_cases e2 : c = (12, 3) :: base
    · subst e2; simp [rgs, trM]
    by_cases e3 : c = (13, 2) :: base
    · subst e3; simp [rgs, trM]
    simp [e0, e1, e2, e3, rgs, trM]
  · omega
  · trivial
  · intro j hj _
    by_cases cj : j < l.length
    · have gl := rgs_len l j
      have rs : rgs l (j + 1) = if (j : Int) ∈ (rgs l j).2 then rgs l j else ((rgs l j).1 ++ [orb l j (ringN l (rgs l j).2 j)], (rgs l j).2 ++ orb l j (ringN l (rgs l j).2 j)) := rfl
      generalize rgs l j = q at gl rs ⊢
      generalize hq' : rgs l (j + 1) = q' at rs
      obtain ⟨out, s⟩ := q
      simp only at gl rs ⊢
      have gm := getM_tr (j : Int) s
      by_cases c1 : (j : Int) ∈ s
      · rw [if_pos c1] at rs gm
        subst rs
        repeat (first | refine ⟨(by show drawK _ _ = true; kernel_rfl : drawX _ _ _), ?_⟩ | exact (by show drawK _ _ = true; kernel_rfl : drawX _ _ _) | simp -dsimp (maxSteps := 20000000) (disch := omega) only [simx, zzC, zzB, tys, ite_self, opnL, callB, readsB, stepOp, ofVal, opBuiltin, opLen, PV.sk, scalBin, scalUn, intBin, opLoad, natOf, opConvert, opField, cellsP, oneP, Value.oneCell', opStore, toIV, scalT, scalA, scalC, boxesA, boxesC, zipB_none, zipB_mx, isZ, opZip, zeroP, opAppendZ, opMakeMap, opLookup, mboxB, opUpdate, ↓reduceIte, Nat.reduceSub, Nat.reduceEqDiff, Nat.reduceAdd, Nat.reduceMul, Nat.reduceLT, Nat.reduceLeDiff, Int.reduceToNat, Int.reduceLE, Int.reduceLT, Int.reduceNeg, reduceCtorEq, gos, Int.reduceAdd, Int.reduceSub, Int.reduceMul, Int.reduceEq, cj, gm, Option.getD_some])
        refine ⟨cj, (fgt_cons (by simp only [Heap.none_at]) (by (simp -dsimp only [zzB, tys, ite_self, opnL, callB, readsB, stepOp, ofVal, opBuiltin, opLen, PV.sk, scalBin, scalUn, intBin, opLoad, natOf, opConvert, opField, cellsP, oneP, Value.oneCell', opStore, toIV, scalT, scalA, scalC, boxesA, boxesC, zipB_none, zipB_mx, isZ, opZip, zeroP, opAppendZ, opMakeMap, opLookup, mboxB, opUpdate, ↓reduceIte, Nat.reduceSub, Nat.reduceEqDiff, Nat.reduceAdd, Nat.reduceMul, Nat.reduceLT, Nat.reduceLeDiff, Int.reduceToNat, Int.reduceLE, Int.reduceLT, Int.reduceNeg, reduceCtorEq, notIn_cons, notIn_nil]) <;> simp [refsL, refsP, mem_refs_rowP]) (by repeat (first | exact noVar_none _ | refine noVar_row ?_ | refine noVar_map ?_ | refine noVar_rowH ?_ | refine noVar_var ?_ (by simp [refsL, refsP, mem_refs_rowP]))) (fgt_cons (by simp only [Heap.none_at]) (by (simp -dsimp only [zzB, tys, ite_self, opnL, callB, readsB, stepOp, ofVal, opBuiltin, opLen, PV.sk, scalBin, scalUn, intBin, opLoad, natOf, opConvert, opField, cellsP, oneP, Value.oneCell', opStore, toIV, scalT, scalA, scalC, boxesA, boxesC, zipB_none, zipB_mx, isZ, opZip, zeroP, opAppendZ, opMakeMap, opLookup, mboxB, opUpdate, ↓reduceIte, Nat.reduceSub, Nat.reduceEqDiff, Nat.reduceAdd, Nat.reduceMul, Nat.reduceLT, Nat.reduceLeDiff, Int.reduceToNat, Int.reduceLE, Int.reduceLT, Int.reduceNeg, reduceCtorEq, notIn_cons, notIn_nil]) <;> simp [refsL, refsP, mem_refs_rowP]) (by repeat (first | exact noVar_none _ | refine noVar_row ?_ | refine noVar_map ?_ | refine noVar_rowH ?_ | refine noVar_var ?_ (by simp [refsL, refsP, mem_refs_rowP]))) (fgt_cons (by simp only [Heap.none_at]) (by (simp -dsimp only [zzB, tys, ite_self, opnL, callB, readsB, stepOp, ofVal, opBuiltin, opLen, PV.sk, scalBin, scalUn, intBin, opLoad, natOf, opConvert, opField, cellsP, oneP, Value.oneCell', opStore, toIV, scalT, scalA, scalC, boxesA, boxesC, zipB_none, zipB_mx, isZ, opZip, zeroP, opAppendZ, opMakeMap, opLookup, mboxB, opUpdate, ↓reduceIte, Nat.reduceSub, Nat.reduceEqDiff, Nat.reduceAdd, Nat.reduceMul, Nat.reduceLT, Nat.reduceLeDiff, Int.reduceToNat, Int.reduceLE, Int.reduceLT, Int.reduceNeg, reduceCtorEq, notIn_cons, notIn_nil]) <;> simp [refsL, refsP, mem_refs_rowP]) (by repeat (first | exact noVar_none _ | refine noVar_row ?_ | refine noVar_map ?_ | refine noVar_rowH ?_ | refine noVar_var ?_ (by simp [refsL, refsP, mem_refs_rowP]))) (fgt_nil)))), ⟨?_, rfl⟩, ?_⟩
        · rw [hq']
        · rw [hq']
          funext c
          simp (maxSteps := 20000000) only [Heap.drop_at, rowH_app, Heap.put_at, Heap.none_at, List.mem_cons, List.not_mem_nil, or_false]
          by_cases e0 : c = (1, 0) :: base
          · subst e0; simp []
          by_cases e1 : c = (12, 2) :: base
          · subst e1; simp []
          by_cases e2 : c = (12, 3) :: base
          · subst e2; simp []
          by_cases e3 : c = (13, 2) :: base
          · subst e3; simp []
          by_cases e4 : c = (13, 3) :: base
          · subst e4; simp []
          simp [e0, e1, e2, e3, e4]
      · rw [if_neg c1] at rs gm
        subst rs
        obtain ⟨n1, n2, n3⟩ := ringN_spec o s (a := (j : Int)) (by omega) (by omega)
        generalize ringN l s j = m at n1 n2 n3 hq'
        have it := itn_in o (a := (j : Int)) (by omega) (by omega)
        repeat (first | refine ⟨(by show drawK _ _ = true; kernel_rfl : drawX _ _ _), ?_⟩ | exact (by show drawK _ _ = true; kernel_rfl : drawX _ _ _) | simp -dsimp (maxSteps := 20000000) (disch := omega) only [simx, zzC, zzB, tys, ite_self, opnL, callB, readsB, stepOp, ofVal, opBuiltin, opLen, PV.sk, scalBin, scalUn, intBin, opLoad, natOf, opConvert, opField, cellsP, oneP, Value.oneCell', opStore, toIV, scalT, scalA, scalC, boxesA, boxesC, zipB_none, zipB_mx, isZ, opZip, zeroP, opAppendZ, opMakeMap, opLookup, mboxB, opUpdate, ↓reduceIte, Nat.reduceSub, Nat.reduceEqDiff, Nat.reduceAdd, Nat.reduceMul, Nat.reduceLT, Nat.reduceLeDiff, Int.reduceToNat, Int.reduceLE, Int.reduceLT, Int.reduceNeg, reduceCtorEq, gos, Int.reduceAdd, Int.reduceSub, Int.reduceMul, Int.reduceEq, cj, gm, Option.getD_none])
        obtain ⟨J, hJ⟩ : ∃ J : Int, J = (j : Int) := ⟨_, rfl⟩
        rw [← hJ] at n1 n2 it hq' gm ⊢
        refine X_loopH [0, 3, 4, 6, 7, 10, 11] [(12, 2) :: base] (0) (m) (fun j => True) (fun j => [(6, rowP ((12, 3) :: base) 1 j ((orb l J j).map ii)), (7, i64 (itn l J j))]) (fun j => rowH (rowH (Heap.none.put ((1, 0) :: base) (.map .i64 (trM (s ++ orb l J j)))) ((13, 3) :: base) out.length (out.map ivl)) ((12, 3) :: base) j ((orb l J j).map ii)) ?_ ?_ ?_ ?_ ?_ (by decide) ?_
        · exact (fgt_cons (by simp only [Heap.none_at]) (by (simp -dsimp only [zzB, tys, ite_self, opnL, callB, readsB, stepOp, ofVal, opBuiltin, opLen, PV.sk, scalBin, scalUn, intBin, opLoad, natOf, opConvert, opField, cellsP, oneP, Value.oneCell', opStore, toIV, scalT, scalA, scalC, boxesA, boxesC, zipB_none, zipB_mx, isZ, opZip, zeroP, opAppendZ, opMakeMap, opLookup, mboxB, opUpdate, ↓reduceIte, Nat.reduceSub, Nat.reduceEqDiff, Nat.reduceAdd, Nat.reduceMul, Nat.reduceLT, Nat.reduceLeDiff, Int.reduceToNat, Int.reduceLE, Int.reduceLT, Int.reduceNeg, reduceCtorEq, notIn_cons, notIn_nil]) <;> simp [refsL, refsP, mem_refs_rowP]) (by repeat (first | exact noVar_none _ | refine noVar_row ?_ | refine noVar_map ?_ | refine noVar_rowH ?_ | refine noVar_var ?_ (by simp [refsL, refsP, mem_refs_rowP]))) (fgt_nil))
        · ((simp -dsimp (disch := omega) only [simx, zzB, tys, ite_self, opnL, callB, readsB, stepOp, ofVal, opBuiltin, opLen, PV.sk, scalBin, scalUn, intBin, opLoad, natOf, opConvert, opField, cellsP, oneP, Value.oneCell', opStore, toIV, scalT, scalA, scalC, boxesA, boxesC, zipB_none, zipB_mx, isZ, opZip, zeroP, opAppendZ, opMakeMap, opLookup, mboxB, opUpdate, ↓reduceIte, Nat.reduceSub, Nat.reduceEqDiff, Nat.reduceAdd, Nat.reduceMul, Nat.reduceLT, Nat.reduceLeDiff, Int.reduceToNat, Int.reduceLE, Int.reduceLT, Int.reduceNeg, reduceCtorEq, gos, Int.reduceAdd, Int.reduceSub, Int.reduceMul, Int.reduceEq]) <;> first | rfl | simp [rowP, orb, itn])
        · funext c
          simp (maxSteps := 20000000) only [Heap.drop_at, rowH_app, Heap.put_at, Heap.none_at, List.mem_cons, List.not_mem_nil, or_false]
          by_cases e0 : c = (1, 0) :: base
          · subst e0; simp [orb]
          by_cases e1 : c = (12, 2) :: base
          · subst e1; simp [orb]
          by_cases e2 : c = (12, 3) :: base
          · subst e2; simp [orb]
          by_cases e3 : c = (13, 2) :: base
          · subst e3; simp [orb]
          by_cases e4 : c = (13, 3) :: base
          · subst e4; simp [orb]
          simp [e0, e1, e2, e3, e4, orb]
        · omega
        · trivial
        · intro k hk _
          have gk := getM_tr (itn l J k) (s ++ orb l J k)
          by_cases ck : k < m
          · have nk := n2 k ck
            rw [if_neg nk] at gk
            have pk := putM_tr (itn l J k) (s ++ orb l J k) nk
            have os := orb_succ l J k
            rw [List.append_assoc, ← os] at pk
            have ol := orb_len l J k
            obtain ⟨a0, a1⟩ := it k
            have a2 : (itn l J k).toNat < l.length := by omega
            have g2 : l[(itn l J k).toNat]? = some (itn l J (k + 1)) := by
              rw [itn, List.getD_eq_getElem?_getD, List.getElem?_eq_getElem a2]; rfl
            generalize itn l J k = a at gk pk os a0 a2 g2 ⊢
            have a3 : (k + 1) * 8 ≤ 140737488355328 := by omega
            repeat (first | refine ⟨(by show drawK _ _ = true; kernel_rfl : drawX _ _ _), ?_⟩ | exact (by show drawK _ _ = true; kernel_rfl : drawX _ _ _) | simp -dsimp (maxSteps := 20000000) (disch := omega) only [simx, zzC, zzB, tys, ite_self, opnL, callB, readsB, stepOp, ofVal, opBuiltin, opLen, PV.sk, scalBin, scalUn, intBin, opLoad, natOf, opConvert, opField, cellsP, oneP, Value.oneCell', opStore, toIV, scalT, scalA, scalC, boxesA, boxesC, zipB_none, zipB_mx, isZ, opZip, zeroP, opAppendZ, opMakeMap, opLookup, mboxB, opUpdate, ↓reduceIte, Nat.reduceSub, Nat.reduceEqDiff, Nat.reduceAdd, Nat.reduceMul, Nat.reduceLT, Nat.reduceLeDiff, Int.reduceToNat, Int.reduceLE, Int.reduceLT, Int.reduceNeg, reduceCtorEq, gos, Int.reduceAdd, Int.reduceSub, Int.reduceMul, Int.reduceEq, gk, pk, Option.getD_none])
            refine X_append_one 3 [.int .i64 0] [ii a] (by simp only [tys]) (by simp only [tys]) rfl (by decide) (by simp [ol]) (by simp [Heap.put_at, Heap.none_at, rowH_app]) (by simp [Heap.put_at, rowH_app]; rfl) rfl (by simp only [tys]; exact a3) (by rw [mx_len]; omega) ?_
            repeat (first | refine ⟨(by show drawK _ _ = true; kernel_rfl : drawX _ _ _), ?_⟩ | exact (by show drawK _ _ = true; kernel_rfl : drawX _ _ _) | simp -dsimp (maxSteps := 20000000) (disch := omega) only [simx, zzC, zzB, tys, ite_self, opnL, callB, readsB, stepOp, ofVal, opBuiltin, opLen, PV.sk, scalBin, scalUn, intBin, opLoad, natOf, opConvert, opField, cellsP, oneP, Value.oneCell', opStore, toIV, scalT, scalA, scalC, boxesA, boxesC, zipB_none, zipB_mx, isZ, opZip, zeroP, opAppendZ, opMakeMap, opLookup, mboxB, opUpdate, ↓reduceIte, Nat.reduceSub, Nat.reduceEqDiff, Nat.reduceAdd, Nat.reduceMul, Nat.reduceLT, Nat.reduceLeDiff, Int.reduceToNat, Int.reduceLE, Int.reduceLT, Int.reduceNeg, reduceCtorEq, gos, Int.reduceAdd, Int.reduceSub, Int.reduceMul, Int.reduceEq, a0, a2, g2])
            refine ⟨ck, (fgt_cons (by simp only [Heap.none_at]) (by (simp -dsimp only [zzB, tys, ite_self, opnL, callB, readsB, stepOp, ofVal, opBuiltin, opLen, PV.sk, scalBin, scalUn, intBin, opLoad, natOf, opConvert, opField, cellsP, oneP, Value.oneCell', opStore, toIV, scalT, scalA, scalC, boxesA, boxesC, zipB_none, zipB_mx, isZ, opZip, zeroP, opAppendZ, opMakeMap, opLookup, mboxB, opUpdate, ↓reduceIte, Nat.reduceSub, Nat.reduceEqDiff, Nat.reduceAdd, Nat.reduceMul, Nat.reduceLT, Nat.reduceLeDiff, Int.reduceToNat, Int.reduceLE, Int.reduceLT, Int.reduceNeg, reduceCtorEq, notIn_cons, notIn_nil]) <;> simp [refsL, refsP, mem_refs_rowP]) (by repeat (first | exact noVar_none _ | refine noVar_row ?_ | refine noVar_map ?_ | refine noVar_rowH ?_ | refine noVar_var ?_ (by simp [refsL, refsP, mem_refs_rowP]))) (fgt_nil)), ?_, ?_⟩
            · rw [os]; simp
            · funext c
              simp (maxSteps := 20000000) only [Heap.drop_at, rowH_app, Heap.put_at, Heap.none_at, List.mem_cons, List.not_mem_nil, or_false]
              by_cases e0 : c = (1, 0) :: base
              · subst e0; simp [os]
              by_cases e1 : c = (12, 2) :: base
              · subst e1; simp [os]
              by_cases e2 : c = (12, 3) :: base
              · subst e2; simp [os]
              by_cases e3 : c = (13, 2) :: base
              · subst e3; simp [os]
              by_cases e4 : c = (13, 3) :: base
              · subst e4; simp [os]
              simp [e0, e1, e2, e3, e4, os]
          · have hkm : k = m := by omega
            subst hkm
            rw [if_pos n1] at gk
            have ol := orb_len l J k
            have kp : ∃ q, k = q + 1 := by
              cases k with
              | zero => rw [show itn l J 0 = J from rfl, orb_zero, List.append_nil] at n1; exact absurd n1 (hJ ▸ c1)
              | succ q => exact ⟨q, rfl⟩
            obtain ⟨q, rfl⟩ := kp
            have e2 : ((orb l J (q + 1)).map ii).take (q + 1) = (orb l J (q + 1)).map ii := List.take_of_length_le (by simp [ol])
            repeat (first | refine ⟨(by show drawK _ _ = true; kernel_rfl : drawX _ _ _), ?_⟩ | exact (by show drawK _ _ = true; kernel_rfl : drawX _ _ _) | simp -dsimp (maxSteps := 20000000) (disch := omega) only [simx, zzC, zzB, tys, ite_self, opnL, callB, readsB, stepOp, ofVal, opBuiltin, opLen, PV.sk, scalBin, scalUn, intBin, opLoad, natOf, opConvert, opField, cellsP, oneP, Value.oneCell', opStore, toIV, scalT, scalA, scalC, boxesA, boxesC, zipB_none, zipB_mx, isZ, opZip, zeroP, opAppendZ, opMakeMap, opLookup, mboxB, opUpdate, ↓reduceIte, Nat.reduceSub, Nat.reduceEqDiff, Nat.reduceAdd, Nat.reduceMul, Nat.reduceLT, Nat.reduceLeDiff, Int.reduceToNat, Int.reduceLE, Int.reduceLT, Int.reduceNeg, reduceCtorEq, gos, Int.reduceAdd, Int.reduceSub, Int.reduceMul, Int.reduceEq, gk, Option.getD_some, rowP_succ, rowH_succ, List.length_map, ol, e2])
            have e3 : ivl (orb l J (q + 1)) = IV.l (q + 1) ((orb l J (q + 1)).map ii) := by rw [ivl, ol]
            have e4 : (out.length + 1) * 24 ≤ 140737488355328 := by omega
            refine X_append_one 22 [.slice none 0 0] [IV.l (q + 1) ((orb l J (q + 1)).map ii)] (by simp only [tys]) (by simp only [tys]) rfl (by decide) (by simp) (by simp [Heap.put_at, Heap.none_at, rowH_app]) (by simp [Heap.put_at, rowH_app]; rfl) rfl (by simp only [tys]; exact e4) (by rw [mx_len]; omega) ?_
            rw [← e3]
            repeat (first | refine ⟨(by show drawK _ _ = true; kernel_rfl : drawX _ _ _), ?_⟩ | exact (by show drawK _ _ = true; kernel_rfl : drawX _ _ _) | simp -dsimp (maxSteps := 20000000) (disch := omega) only [simx, zzC, zzB, tys, ite_self, opnL, callB, readsB, stepOp, ofVal, opBuiltin, opLen, PV.sk, scalBin, scalUn, intBin, opLoad, natOf, opConvert, opField, cellsP, oneP, Value.oneCell', opStore, toIV, scalT, scalA, scalC, boxesA, boxesC, zipB_none, zipB_mx, isZ, opZip, zeroP, opAppendZ, opMakeMap, opLookup, mboxB, opUpdate, ↓reduceIte, Nat.reduceSub, Nat.reduceEqDiff, Nat.reduceAdd, Nat.reduceMul, Nat.reduceLT, Nat.reduceLeDiff, Int.reduceToNat, Int.reduceLE, Int.reduceLT, Int.reduceNeg, reduceCtorEq, gos, Int.reduceAdd, Int.reduceSub, Int.reduceMul, Int.reduceEq, hJ])
            refine ⟨cj, (fgt_cons (by simp only [Heap.none_at]) (by (simp -dsimp only [zzB, tys, ite_self, opnL, callB, readsB, stepOp, ofVal, opBuiltin, opLen, PV.sk, scalBin, scalUn, intBin, opLoad, natOf, opConvert, opField, cellsP, oneP, Value.oneCell', opStore, toIV, scalT, scalA, scalC, boxesA, boxesC, zipB_none, zipB_mx, isZ, opZip, zeroP, opAppendZ, opMakeMap, opLookup, mboxB, opUpdate, ↓reduceIte, Nat.reduceSub, Nat.reduceEqDiff, Nat.reduceAdd, Nat.reduceMul, Nat.reduceLT, Nat.reduceLeDiff, Int.reduceToNat, Int.reduceLE, Int.reduceLT, Int.reduceNeg, reduceCtorEq, notIn_cons, notIn_nil]) <;> simp [refsL, refsP, mem_refs_rowP]) (by repeat (first | exact noVar_none _ | refine noVar_row ?_ | refine noVar_map ?_ | refine noVar_rowH ?_ | refine noVar_var ?_ (by simp [refsL, refsP, mem_refs_rowP]))) (fgt_cons (by simp only [Heap.none_at]) (by (simp -dsimp only [zzB, tys, ite_self, opnL, callB, readsB, stepOp, ofVal, opBuiltin, opLen, PV.sk, scalBin, scalUn, intBin, opLoad, natOf, opConvert, opField, cellsP, oneP, Value.oneCell', opStore, toIV, scalT, scalA, scalC, boxesA, boxesC, zipB_none, zipB_mx, isZ, opZip, zeroP, opAppendZ, opMakeMap, opLookup, mboxB, opUpdate, ↓reduceIte, Nat.reduceSub, Nat.reduceEqDiff, Nat.reduceAdd, Nat.reduceMul, Nat.reduceLT, Nat.reduceLeDiff, Int.reduceToNat, Int.reduceLE, Int.reduceLT, Int.reduceNeg, reduceCtorEq, notIn_cons, notIn_nil]) <;> simp [refsL, refsP, mem_refs_rowP]) (by repeat (first | exact noVar_none _ | refine noVar_row ?_ | refine noVar_map ?_ | refine noVar_rowH ?_ | refine noVar_var ?_ (by simp [refsL, refsP, mem_refs_rowP]))) (fgt_cons (by simp only [Heap.none_at]) (by (simp -dsimp only [zzB, tys, ite_self, opnL, callB, readsB, stepOp, ofVal, opBuiltin, opLen, PV.sk, scalBin, scalUn, intBin, opLoad, natOf, opConvert, opField, cellsP, oneP, Value.oneCell', opStore, toIV, scalT, scalA, scalC, boxesA, boxesC, zipB_none, zipB_mx, isZ, opZip, zeroP, opAppendZ, opMakeMap, opLookup, mboxB, opUpdate, ↓reduceIte, Nat.reduceSub, Nat.reduceEqDiff, Nat.reduceAdd, Nat.reduceMul, Nat.reduceLT, Nat.reduceLeDiff, Int.reduceToNat, Int.reduceLE, Int.reduceLT, Int.reduceNeg, reduceCtorEq, notIn_cons, notIn_nil]) <;> simp [refsL, refsP, mem_refs_rowP]) (by repeat (first | exact noVar_none _ | refine noVar_row ?_ | refine noVar_map ?_ | refine noVar_rowH ?_ | refine noVar_var ?_ (by simp [refsL, refsP, mem_refs_rowP]))) (fgt_nil)))), ⟨?_, rfl⟩, ?_⟩
            · rw [hq', hJ]; simp
            · rw [hq', hJ]
              funext c
              simp (maxSteps := 20000000) only [Heap.drop_at, rowH_app, Heap.put_at, Heap.none_at, List.mem_cons, List.not_mem_nil, or_false]
              by_cases e0 : c = (1, 0) :: base
              · subst e0; simp [List.length_append, List.length_singleton, List.map_append, List.map_cons, List.map_nil]
              by_cases e1 : c = (12, 2) :: base
              · subst e1; simp [List.length_append, List.length_singleton, List.map_append, List.map_cons, List.map_nil]
              by_cases e2 : c = (12, 3) :: base
              · subst e2; simp [List.length_append, List.length_singleton, List.map_append, List.map_cons, List.map_nil]
              by_cases e3 : c = (13, 2) :: base
              · subst e3; simp [List.length_append, List.length_singleton, List.map_append, List.map_cons, List.map_nil]
              by_cases e4 : c = (13, 3) :: base
              · subst e4; simp [List.length_append, List.length_singleton, List.map_append, List.map_cons, List.map_nil]
              simp [e0, e1, e2, e3, e4, List.length_append, List.length_singleton, List.map_append, List.map_cons, List.map_nil]
    · have hj : j = l.length := by omega
      subst hj
      generalize (rgs l l.length).2 = s
      generalize (rgs l l.length).1 = out
      cases out with
      | nil =>
        repeat (first | refine ⟨(by show drawK _ _ = true; kernel_rfl : drawX _ _ _), ?_⟩ | exact (by show drawK _ _ = true; kernel_rfl : drawX _ _ _) | simp -dsimp (maxSteps := 20000000) (disch := omega) only [simx, zzC, zzB, tys, ite_self, opnL, callB, readsB, stepOp, ofVal, opBuiltin, opLen, PV.sk, scalBin, scalUn, intBin, opLoad, natOf, opConvert, opField, cellsP, oneP, Value.oneCell', opStore, toIV, scalT, scalA, scalC, boxesA, boxesC, zipB_none, zipB_mx, isZ, opZip, zeroP, opAppendZ, opMakeMap, opLookup, mboxB, opUpdate, ↓reduceIte, Nat.reduceSub, Nat.reduceEqDiff, Nat.reduceAdd, Nat.reduceMul, Nat.reduceLT, Nat.reduceLeDiff, Int.reduceToNat, Int.reduceLE, Int.reduceLT, Int.reduceNeg, reduceCtorEq, zzR, gos, Int.reduceAdd, Int.reduceSub, Int.reduceMul, Int.reduceEq, rowP_zero])
        rfl
      | cons r out =>
        have e1 : (r :: out).length = out.length + 1 := rfl
        have e2 : ((r :: out).map ivl).take (out.length + 1) = (r :: out).map ivl := List.take_of_length_le (by simp)
        have e3 : ((r :: out).map ivl).length = out.length + 1 := by simp
        rw [lli, e1]
        generalize (r :: out).map ivl = cs at e2 e3 ⊢
        repeat (first | refine ⟨(by show drawK _ _ = true; kernel_rfl : drawX _ _ _), ?_⟩ | exact (by show drawK _ _ = true; kernel_rfl : drawX _ _ _) | simp -dsimp (maxSteps := 20000000) (disch := omega) only [simx, zzC, zzB, tys, ite_self, opnL, callB, readsB, stepOp, ofVal, opBuiltin, opLen, PV.sk, scalBin, scalUn, intBin, opLoad, natOf, opConvert, opField, cellsP, oneP, Value.oneCell', opStore, toIV, scalT, scalA, scalC, boxesA, boxesC, zipB_none, zipB_mx, isZ, opZip, zeroP, opAppendZ, opMakeMap, opLookup, mboxB, opUpdate, ↓reduceIte, Nat.reduceSub, Nat.reduceEqDiff, Nat.reduceAdd, Nat.reduceMul, Nat.reduceLT, Nat.reduceLeDiff, Int.reduceToNat, Int.reduceLE, Int.reduceLT, Int.reduceNeg, reduceCtorEq, zzR, gos, Int.reduceAdd, Int.reduceSub, Int.reduceMul, Int.reduceEq, rowP_succ, rowH_succ, e2, e3])
end Go.Proofs.Ytkhjfphenflefaa.TM
