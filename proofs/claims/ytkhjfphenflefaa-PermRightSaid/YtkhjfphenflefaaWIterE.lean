/- slices.Grow, Concat. -/
import Derived.Test.YtkhjfphenflefaaWIterD
import Derived.Test.YtkhjfphenflefaaWTbl
namespace Go.Proofs.Ytkhjfphenflefaa.TM
open Go Go.RowKit
set_option linter.unusedVariables false
set_option linter.defProp false
set_option linter.unusedSimpArgs false
attribute [local irreducible] K W WOps Effs Xg Xo Xr Xdg Xdo Xdr Xif CallsP CallR

theorem X_append_room {P : Program} {C : CallRel} {h h0 : Heap} {base : Name} {Qf : Ex → List PV → Heap → Prop} {k : List It} {t : List PV} {R : It} {d : Option Tmp} {s b : Name} {ty : TypeId} (e : TypeId) (zs : List Value) {n m top : Nat} {cs : List IV} (xs : List IV)
    (he : elemB P ty = some e) (hz : zeroB P e = some zs) (hzl : zs.length = 1) (hb : h b = some (.row false cs)) (hl : cs.length = top) (hm : 0 < m) (hx : xs.length = m) (hroom : n + m ≤ top)
    (hby : (n + m) * P.bytesOf e ≤ 140737488355328) (hmx : n + m ≤ maxLen)
    (hk : K P C h0 base Qf (R :: k) .normal (putT t d (.view b 0 1 (n + m) top)) (h.put b (.row false (spliceL cs n xs)))) :
    Xr P C h0 base Qf (opAppend P h s ty (.view b 0 1 n top) (.i (.l m xs))) d R k t h := by
  refine Xr_eq (out := ⟨.view b 0 1 (n + m) top, [(b, .row false (spliceL cs n xs))]⟩) ?_ hk
  have h1 : ¬ m = 0 := by omega
  have h2 : ¬ (cs.length = n) := by omega
  subst hl
  simp only [opAppend, he, hz, hzl, PV.sk, SK.cells, SK.len, hx, hb, Nat.mul_one, if_true, h1, if_false, hby, hmx, Nat.zero_lt_one, and_self, true_and, h2, and_false, Nat.zero_add, hroom]
theorem X_append_e0 {P : Program} {C : CallRel} {h h0 : Heap} {base : Name} {Qf : Ex → List PV → Heap → Prop} {k : List It} {t : List PV} {R : It} {d : Option Tmp} {s : Name} {ty : TypeId} (e : TypeId) (zs : List Value)
    (he : elemB P ty = some e) (hz : zeroB P e = some zs) (hzl : zs.length = 1) (hk : K P C h0 base Qf (R :: k) .normal (putT t d (.i (.v (.slice none 0 0)))) h) :
    Xr P C h0 base Qf (opAppend P h s ty (.i (.v (.slice none 0 0))) (.i (.l 0 []))) d R k t h := by
  refine Xr_eq (out := ⟨.i (.v (.slice none 0 0)), []⟩) ?_ hk
  simp [opAppend, he, hz, hzl, PV.sk, SK.cells, SK.len, mx_len]
theorem X_append_e1 {P : Program} {C : CallRel} {h h0 : Heap} {base : Name} {Qf : Ex → List PV → Heap → Prop} {k : List It} {t : List PV} {R : It} {d : Option Tmp} {s b : Name} {off z n top : Nat} {ty : TypeId} (e : TypeId) (zs : List Value)
    (he : elemB P ty = some e) (hz : zeroB P e = some zs) (hzl : zs.length = 1) (hby : n * P.bytesOf e ≤ 140737488355328) (hmx : n ≤ maxLen) (hk : K P C h0 base Qf (R :: k) .normal (putT t d (.view b off z n top)) h) :
    Xr P C h0 base Qf (opAppend P h s ty (.view b off z n top) (.i (.l 0 []))) d R k t h := by
  refine Xr_eq (out := ⟨.view b off z n top, []⟩) ?_ hk
  simp [opAppend, he, hz, hzl, PV.sk, SK.cells, SK.len, hby, hmx]
theorem growU_walk {h : Heap} {base : Name} (n : Nat) (h0 : 0 < n) (hn : n ≤ 4398046511104) (hh : h ((5, 5) :: base) = none) :
    CallR Try.prog base 69 [.i (.v (.slice none 0 0)), i64 n] h (.view ((5, 5) :: base) 0 1 0 n) (h.put ((5, 5) :: base) (.row false ((zeroRow [.int .u64 0] n).map .v))) := by
  have h1 : ¬ (n : Int) < 0 := by omega
  have h2 : (0 : Int) < n := by omega
  refine X_startR (n := 27) (m := 2) (rs := [.tmp 4]) Try.func69 rfl rfl rfl rfl (by decide) ?_
  have e1 : (n : Int) - (0 - ((0 : Nat) : Int)) = n := by omega
  have b1 : n * 8 ≤ 140737488355328 := by omega
  have b2 : (n : Int) ≤ 140737488355328 := by omega
  repeat (first | refine ⟨(by show drawK _ _ = true; kernel_rfl : drawX _ _ _), ?_⟩ | exact (by show drawK _ _ = true; kernel_rfl : drawX _ _ _) | simp -dsimp (maxSteps := 20000000) (disch := omega) only [simx, zzC, zzB, tys, ite_self, opnL, callB, readsB, stepOp, ofVal, opBuiltin, opLen, PV.sk, scalBin, scalUn, intBin, opLoad, natOf, opConvert, opField, cellsP, oneP, Value.oneCell', opStore, toIV, scalT, scalA, scalC, boxesA, boxesC, zipB_none, zipB_mx, isZ, opZip, zeroP, opAppendZ, opMakeMap, opLookup, mboxB, opUpdate, ↓reduceIte, Nat.reduceSub, Nat.reduceEqDiff, Nat.reduceAdd, Nat.reduceMul, Nat.reduceLT, Nat.reduceLeDiff, Int.reduceToNat, Int.reduceLE, Int.reduceLT, Int.reduceNeg, reduceCtorEq, zzR, gos, Int.reduceAdd, Int.reduceSub, Int.reduceMul, Int.reduceEq, h1, h2, hh, e1, b1, b2, Int.toNat_natCast, SK.len, Nat.zero_le, Option.isNone_none, Option.map_some])
theorem growU_zero {h : Heap} {base : Name} : CallR Try.prog base 69 [.i (.v (.slice none 0 0)), i64 0] h (.i (.v (.slice none 0 0))) h := by
  refine X_startR (n := 27) (m := 2) (rs := [.tmp 4]) Try.func69 rfl rfl rfl rfl (by decide) ?_
  repeat (first | refine ⟨(by show drawK _ _ = true; kernel_rfl : drawX _ _ _), ?_⟩ | exact (by show drawK _ _ = true; kernel_rfl : drawX _ _ _) | simp -dsimp (maxSteps := 20000000) (disch := omega) only [simx, zzC, zzB, tys, ite_self, opnL, callB, readsB, stepOp, ofVal, opBuiltin, opLen, PV.sk, scalBin, scalUn, intBin, opLoad, natOf, opConvert, opField, cellsP, oneP, Value.oneCell', opStore, toIV, scalT, scalA, scalC, boxesA, boxesC, zipB_none, zipB_mx, isZ, opZip, zeroP, opAppendZ, opMakeMap, opLookup, mboxB, opUpdate, ↓reduceIte, Nat.reduceSub, Nat.reduceEqDiff, Nat.reduceAdd, Nat.reduceMul, Nat.reduceLT, Nat.reduceLeDiff, Int.reduceToNat, Int.reduceLE, Int.reduceLT, Int.reduceNeg, reduceCtorEq, zzR, gos, Int.reduceAdd, Int.reduceSub, Int.reduceMul, Int.reduceEq])
/-! ### Concat -/
theorem zeros_len (n : Nat) (k : IntKind) : ((zeroRow [Value.int k 0] n).map IV.v).length = n := by rw [List.length_map, zeroRow_len]; simp
abbrev ivN (l : List IV) : IV := .l l.length l
abbrev llL (L : List (List IV)) : PV := .i (.l L.length (L.map ivN))
theorem flatL_next {L : List (List IV)} {j : Nat} (h : j < L.length) : (L.take (j + 1)).flatten = (L.take j).flatten ++ L[j] := by
  rw [List.take_succ_eq_append_getElem h, List.flatten_append]; simp
theorem flatL_le (L : List (List IV)) (j : Nat) : (L.take j).flatten.length ≤ L.flatten.length := by
  have : L.flatten = (L.take j).flatten ++ (L.drop j).flatten := by rw [← List.flatten_append, List.take_append_drop]
  rw [this, List.length_append]; omega
/-- A row with room: what is there, and noughts. -/
def roomC (N : Nat) (z : List IV) (l : List IV) : List IV := l ++ z.drop l.length
theorem roomC_len {N : Nat} {z l : List IV} (hz : z.length = N) (hl : l.length ≤ N) : (roomC N z l).length = N := by
  unfold roomC; rw [List.length_append, List.length_drop]; omega
theorem roomC_app {N : Nat} {z l x : List IV} (hz : z.length = N) (hl : l.length + x.length ≤ N) : spliceL (roomC N z l) l.length x = roomC N z (l ++ x) := by
  unfold roomC spliceL
  rw [List.take_left' rfl, List.drop_append, List.length_append]
  simp [List.drop_drop]
theorem concatU_walk (L : List (List IV)) (hL : L.length ≤ 4398046511104) (hF : L.flatten.length ≤ 4398046511104) : CallsP Try.prog 52 [llL L] (.i (ivN L.flatten)) := by
  refine X_startP (n := 36) (m := 1) (rs := [.tmp 2]) Try.func52 rfl rfl rfl rfl (by decide) fun base => ?_
  repeat (first | refine ⟨(by show drawK _ _ = true; kernel_rfl : drawX _ _ _), ?_⟩ | exact (by show drawK _ _ = true; kernel_rfl : drawX _ _ _) | simp -dsimp (maxSteps := 20000000) (disch := omega) only [simx, zzC, zzB, tys, ite_self, opnL, callB, readsB, stepOp, ofVal, opBuiltin, opLen, PV.sk, scalBin, scalUn, intBin, opLoad, natOf, opConvert, opField, cellsP, oneP, Value.oneCell', opStore, toIV, scalT, scalA, scalC, boxesA, boxesC, zipB_none, zipB_mx, isZ, opZip, zeroP, opAppendZ, opMakeMap, opLookup, mboxB, opUpdate, ↓reduceIte, Nat.reduceSub, Nat.reduceEqDiff, Nat.reduceAdd, Nat.reduceMul, Nat.reduceLT, Nat.reduceLeDiff, Int.reduceToNat, Int.reduceLE, Int.reduceLT, Int.reduceNeg, reduceCtorEq, gos, Int.reduceAdd, Int.reduceSub, Int.reduceMul, Int.reduceEq])
  have fl := flatL_le L
  refine X_loopH [0, 3, 9, 10, 11] [] (0) (L.length) (fun j => True) (fun j => [(3, i64 ((L.take j).flatten.length : Nat)), (11, i64 j)]) (fun j => Heap.none) ?_ ?_ ?_ ?_ ?_ (by decide) ?_
  · exact (fgt_nil)
  · ((simp -dsimp (disch := omega) only [simx, zzB, tys, ite_self, opnL, callB, readsB, stepOp, ofVal, opBuiltin, opLen, PV.sk, scalBin, scalUn, intBin, opLoad, natOf, opConvert, opField, cellsP, oneP, Value.oneCell', opStore, toIV, scalT, scalA, scalC, boxesA, boxesC, zipB_none, zipB_mx, isZ, opZip, zeroP, opAppendZ, opMakeMap, opLookup, mboxB, opUpdate, ↓reduceIte, Nat.reduceSub, Nat.reduceEqDiff, Nat.reduceAdd, Nat.reduceMul, Nat.reduceLT, Nat.reduceLeDiff, Int.reduceToNat, Int.reduceLE, Int.reduceLT, Int.reduceNeg, reduceCtorEq, gos, Int.reduceAdd, Int.reduceSub, Int.reduceMul, Int.reduceEq]) <;> first | rfl | simp [rowP])
  · exact drop_nil _
  · omega
  · trivial
  · intro j hj _
    have f1 := fl j
    by_cases cj : j < L.length
    · have g1 : L[j]? = some L[j] := List.getElem?_eq_getElem cj
      have fx := flatL_next cj
      have f2 := fl (j + 1)
      generalize L[j] = r at g1 fx
      generalize (L.take j).flatten = F at fx f1
      rw [fx, List.length_append] at f2
      have h1 : ¬ ((F.length : Int) + (r.length : Int)) < 0 := by omega
      repeat (first | refine ⟨(by show drawK _ _ = true; kernel_rfl : drawX _ _ _), ?_⟩ | exact (by show drawK _ _ = true; kernel_rfl : drawX _ _ _) | simp -dsimp (maxSteps := 20000000) (disch := omega) only [simx, zzC, zzB, tys, ite_self, opnL, callB, readsB, stepOp, ofVal, opBuiltin, opLen, PV.sk, scalBin, scalUn, intBin, opLoad, natOf, opConvert, opField, cellsP, oneP, Value.oneCell', opStore, toIV, scalT, scalA, scalC, boxesA, boxesC, zipB_none, zipB_mx, isZ, opZip, zeroP, opAppendZ, opMakeMap, opLookup, mboxB, opUpdate, ↓reduceIte, Nat.reduceSub, Nat.reduceEqDiff, Nat.reduceAdd, Nat.reduceMul, Nat.reduceLT, Nat.reduceLeDiff, Int.reduceToNat, Int.reduceLE, Int.reduceLT, Int.reduceNeg, reduceCtorEq, gos, Int.reduceAdd, Int.reduceSub, Int.reduceMul, Int.reduceEq, cj, g1, h1])
      refine ⟨cj, (fgt_nil), ⟨?_, rfl⟩, drop_nil _⟩
      rw [fx, List.length_append]; simp
    · have hj : j = L.length := by omega
      subst hj
      rw [List.take_length]
      repeat (first | refine ⟨(by show drawK _ _ = true; kernel_rfl : drawX _ _ _), ?_⟩ | exact (by show drawK _ _ = true; kernel_rfl : drawX _ _ _) | simp -dsimp (maxSteps := 20000000) (disch := omega) only [simx, zzC, zzB, tys, ite_self, opnL, callB, readsB, stepOp, ofVal, opBuiltin, opLen, PV.sk, scalBin, scalUn, intBin, opLoad, natOf, opConvert, opField, cellsP, oneP, Value.oneCell', opStore, toIV, scalT, scalA, scalC, boxesA, boxesC, zipB_none, zipB_mx, isZ, opZip, zeroP, opAppendZ, opMakeMap, opLookup, mboxB, opUpdate, ↓reduceIte, Nat.reduceSub, Nat.reduceEqDiff, Nat.reduceAdd, Nat.reduceMul, Nat.reduceLT, Nat.reduceLeDiff, Int.reduceToNat, Int.reduceLE, Int.reduceLT, Int.reduceNeg, reduceCtorEq, gos, Int.reduceAdd, Int.reduceSub, Int.reduceMul, Int.reduceEq])
      generalize hFl : L.flatten = F at hF
      have sub0 : ∀ j (hj : j < L.length), L[j].length ≤ F.length := fun j hj => by
        have h1 := flatL_next hj
        have h2 := fl (j + 1)
        rw [h1, List.length_append, hFl] at h2
        omega
      by_cases hF0 : F.length = 0
      · have hFn : F = [] := List.eq_nil_of_length_eq_zero hF0
        subst hFn
        refine X_call_sh rfl (by simp only [tys]) rfl growU_zero ?_
        repeat (first | refine ⟨(by show drawK _ _ = true; kernel_rfl : drawX _ _ _), ?_⟩ | exact (by show drawK _ _ = true; kernel_rfl : drawX _ _ _) | simp -dsimp (maxSteps := 20000000) (disch := omega) only [simx, zzC, zzB, tys, ite_self, opnL, callB, readsB, stepOp, ofVal, opBuiltin, opLen, PV.sk, scalBin, scalUn, intBin, opLoad, natOf, opConvert, opField, cellsP, oneP, Value.oneCell', opStore, toIV, scalT, scalA, scalC, boxesA, boxesC, zipB_none, zipB_mx, isZ, opZip, zeroP, opAppendZ, opMakeMap, opLookup, mboxB, opUpdate, ↓reduceIte, Nat.reduceSub, Nat.reduceEqDiff, Nat.reduceAdd, Nat.reduceMul, Nat.reduceLT, Nat.reduceLeDiff, Int.reduceToNat, Int.reduceLE, Int.reduceLT, Int.reduceNeg, reduceCtorEq, gos, Int.reduceAdd, Int.reduceSub, Int.reduceMul, Int.reduceEq])
        refine X_loopH [6, 25, 26, 27] [] (0) (L.length) (fun j => True) (fun j => [(6, .i (.v (.slice none 0 0))), (27, i64 j)]) (fun j => Heap.none) ?_ ?_ ?_ ?_ ?_ (by decide) ?_
        · exact (fgt_nil)
        · ((simp -dsimp (disch := omega) only [simx, zzB, tys, ite_self, opnL, callB, readsB, stepOp, ofVal, opBuiltin, opLen, PV.sk, scalBin, scalUn, intBin, opLoad, natOf, opConvert, opField, cellsP, oneP, Value.oneCell', opStore, toIV, scalT, scalA, scalC, boxesA, boxesC, zipB_none, zipB_mx, isZ, opZip, zeroP, opAppendZ, opMakeMap, opLookup, mboxB, opUpdate, ↓reduceIte, Nat.reduceSub, Nat.reduceEqDiff, Nat.reduceAdd, Nat.reduceMul, Nat.reduceLT, Nat.reduceLeDiff, Int.reduceToNat, Int.reduceLE, Int.reduceLT, Int.reduceNeg, reduceCtorEq, gos, Int.reduceAdd, Int.reduceSub, Int.reduceMul, Int.reduceEq]) <;> first | rfl | simp [rowP])
        · exact drop_nil _
        · omega
        · trivial
        · intro j hj _
          by_cases cj : j < L.length
          · have g1 : L[j]? = some L[j] := List.getElem?_eq_getElem cj
            have g2 := sub0 j cj
            generalize L[j] = r at g1 g2
            have hr : r = [] := List.eq_nil_of_length_eq_zero (by simpa using g2)
            subst hr
            repeat (first | refine ⟨(by show drawK _ _ = true; kernel_rfl : drawX _ _ _), ?_⟩ | exact (by show drawK _ _ = true; kernel_rfl : drawX _ _ _) | simp -dsimp (maxSteps := 20000000) (disch := omega) only [simx, zzC, zzB, tys, ite_self, opnL, callB, readsB, stepOp, ofVal, opBuiltin, opLen, PV.sk, scalBin, scalUn, intBin, opLoad, natOf, opConvert, opField, cellsP, oneP, Value.oneCell', opStore, toIV, scalT, scalA, scalC, boxesA, boxesC, zipB_none, zipB_mx, isZ, opZip, zeroP, opAppendZ, opMakeMap, opLookup, mboxB, opUpdate, ↓reduceIte, Nat.reduceSub, Nat.reduceEqDiff, Nat.reduceAdd, Nat.reduceMul, Nat.reduceLT, Nat.reduceLeDiff, Int.reduceToNat, Int.reduceLE, Int.reduceLT, Int.reduceNeg, reduceCtorEq, gos, Int.reduceAdd, Int.reduceSub, Int.reduceMul, Int.reduceEq, cj, g1])
            refine X_append_e0 55 [.int .u64 0] (by simp only [tys]) (by simp only [tys]) rfl ?_
            repeat (first | refine ⟨(by show drawK _ _ = true; kernel_rfl : drawX _ _ _), ?_⟩ | exact (by show drawK _ _ = true; kernel_rfl : drawX _ _ _) | simp -dsimp (maxSteps := 20000000) (disch := omega) only [simx, zzC, zzB, tys, ite_self, opnL, callB, readsB, stepOp, ofVal, opBuiltin, opLen, PV.sk, scalBin, scalUn, intBin, opLoad, natOf, opConvert, opField, cellsP, oneP, Value.oneCell', opStore, toIV, scalT, scalA, scalC, boxesA, boxesC, zipB_none, zipB_mx, isZ, opZip, zeroP, opAppendZ, opMakeMap, opLookup, mboxB, opUpdate, ↓reduceIte, Nat.reduceSub, Nat.reduceEqDiff, Nat.reduceAdd, Nat.reduceMul, Nat.reduceLT, Nat.reduceLeDiff, Int.reduceToNat, Int.reduceLE, Int.reduceLT, Int.reduceNeg, reduceCtorEq, gos, Int.reduceAdd, Int.reduceSub, Int.reduceMul, Int.reduceEq])
            exact ⟨cj, (fgt_nil), rfl, drop_nil _⟩
          · have hj : j = L.length := by omega
            subst hj
            repeat (first | refine ⟨(by show drawK _ _ = true; kernel_rfl : drawX _ _ _), ?_⟩ | exact (by show drawK _ _ = true; kernel_rfl : drawX _ _ _) | simp -dsimp (maxSteps := 20000000) (disch := omega) only [simx, zzC, zzB, tys, ite_self, opnL, callB, readsB, stepOp, ofVal, opBuiltin, opLen, PV.sk, scalBin, scalUn, intBin, opLoad, natOf, opConvert, opField, cellsP, oneP, Value.oneCell', opStore, toIV, scalT, scalA, scalC, boxesA, boxesC, zipB_none, zipB_mx, isZ, opZip, zeroP, opAppendZ, opMakeMap, opLookup, mboxB, opUpdate, ↓reduceIte, Nat.reduceSub, Nat.reduceEqDiff, Nat.reduceAdd, Nat.reduceMul, Nat.reduceLT, Nat.reduceLeDiff, Int.reduceToNat, Int.reduceLE, Int.reduceLT, Int.reduceNeg, reduceCtorEq, zzR, gos, Int.reduceAdd, Int.reduceSub, Int.reduceMul, Int.reduceEq])
            rfl
      · have e0 : 0 < F.length := by omega
        refine X_call_sh rfl (by simp only [tys]) rfl (growU_walk F.length e0 hF rfl) ?_
        have zl := zeros_len F.length .u64
        generalize (zeroRow [Value.int .u64 0] F.length).map IV.v = z at zl
        repeat (first | refine ⟨(by show drawK _ _ = true; kernel_rfl : drawX _ _ _), ?_⟩ | exact (by show drawK _ _ = true; kernel_rfl : drawX _ _ _) | simp -dsimp (maxSteps := 20000000) (disch := omega) only [simx, zzC, zzB, tys, ite_self, opnL, callB, readsB, stepOp, ofVal, opBuiltin, opLen, PV.sk, scalBin, scalUn, intBin, opLoad, natOf, opConvert, opField, cellsP, oneP, Value.oneCell', opStore, toIV, scalT, scalA, scalC, boxesA, boxesC, zipB_none, zipB_mx, isZ, opZip, zeroP, opAppendZ, opMakeMap, opLookup, mboxB, opUpdate, ↓reduceIte, Nat.reduceSub, Nat.reduceEqDiff, Nat.reduceAdd, Nat.reduceMul, Nat.reduceLT, Nat.reduceLeDiff, Int.reduceToNat, Int.reduceLE, Int.reduceLT, Int.reduceNeg, reduceCtorEq, gos, Int.reduceAdd, Int.reduceSub, Int.reduceMul, Int.reduceEq])
        refine X_loopH [6, 25, 26, 27] [] (0) (L.length) (fun j => True) (fun j => [(6, .view ((5, 5) :: (9, 1) :: base) 0 1 (L.take j).flatten.length F.length), (27, i64 j)]) (fun j => Heap.none.put ((5, 5) :: (9, 1) :: base) (.row false (roomC F.length z (L.take j).flatten))) ?_ ?_ ?_ ?_ ?_ (by decide) ?_
        · exact (fgt_nil)
        · ((simp -dsimp (disch := omega) only [simx, zzB, tys, ite_self, opnL, callB, readsB, stepOp, ofVal, opBuiltin, opLen, PV.sk, scalBin, scalUn, intBin, opLoad, natOf, opConvert, opField, cellsP, oneP, Value.oneCell', opStore, toIV, scalT, scalA, scalC, boxesA, boxesC, zipB_none, zipB_mx, isZ, opZip, zeroP, opAppendZ, opMakeMap, opLookup, mboxB, opUpdate, ↓reduceIte, Nat.reduceSub, Nat.reduceEqDiff, Nat.reduceAdd, Nat.reduceMul, Nat.reduceLT, Nat.reduceLeDiff, Int.reduceToNat, Int.reduceLE, Int.reduceLT, Int.reduceNeg, reduceCtorEq, gos, Int.reduceAdd, Int.reduceSub, Int.reduceMul, Int.reduceEq]) <;> first | rfl | simp [rowP])
        · rw [drop_nil]; rfl
        · omega
        · trivial
        · intro j hj _
          by_cases cj : j < L.length
          · have g1 : L[j]? = some L[j] := List.getElem?_eq_getElem cj
            have fx := flatL_next cj
            have f2 := fl (j + 1)
            generalize L[j] = r at g1 fx
            rw [fx] at f2
            rw [hFl] at f2
            generalize (L.take j).flatten = G at fx f2 ⊢
            rw [List.length_append] at f2
            have rl := roomC_len (N := F.length) (l := G) zl (by omega)
            by_cases hr : r.length = 0
            · have hr : r = [] := List.eq_nil_of_length_eq_zero hr
              subst hr
              rw [List.append_nil] at fx
              repeat (first | refine ⟨(by show drawK _ _ = true; kernel_rfl : drawX _ _ _), ?_⟩ | exact (by show drawK _ _ = true; kernel_rfl : drawX _ _ _) | simp -dsimp (maxSteps := 20000000) (disch := omega) only [simx, zzC, zzB, tys, ite_self, opnL, callB, readsB, stepOp, ofVal, opBuiltin, opLen, PV.sk, scalBin, scalUn, intBin, opLoad, natOf, opConvert, opField, cellsP, oneP, Value.oneCell', opStore, toIV, scalT, scalA, scalC, boxesA, boxesC, zipB_none, zipB_mx, isZ, opZip, zeroP, opAppendZ, opMakeMap, opLookup, mboxB, opUpdate, ↓reduceIte, Nat.reduceSub, Nat.reduceEqDiff, Nat.reduceAdd, Nat.reduceMul, Nat.reduceLT, Nat.reduceLeDiff, Int.reduceToNat, Int.reduceLE, Int.reduceLT, Int.reduceNeg, reduceCtorEq, gos, Int.reduceAdd, Int.reduceSub, Int.reduceMul, Int.reduceEq, cj, g1])
              refine X_append_e1 55 [.int .u64 0] (by simp only [tys]) (by simp only [tys]) rfl (by simp only [tys]; omega) (by rw [mx_len]; omega) ?_
              repeat (first | refine ⟨(by show drawK _ _ = true; kernel_rfl : drawX _ _ _), ?_⟩ | exact (by show drawK _ _ = true; kernel_rfl : drawX _ _ _) | simp -dsimp (maxSteps := 20000000) (disch := omega) only [simx, zzC, zzB, tys, ite_self, opnL, callB, readsB, stepOp, ofVal, opBuiltin, opLen, PV.sk, scalBin, scalUn, intBin, opLoad, natOf, opConvert, opField, cellsP, oneP, Value.oneCell', opStore, toIV, scalT, scalA, scalC, boxesA, boxesC, zipB_none, zipB_mx, isZ, opZip, zeroP, opAppendZ, opMakeMap, opLookup, mboxB, opUpdate, ↓reduceIte, Nat.reduceSub, Nat.reduceEqDiff, Nat.reduceAdd, Nat.reduceMul, Nat.reduceLT, Nat.reduceLeDiff, Int.reduceToNat, Int.reduceLE, Int.reduceLT, Int.reduceNeg, reduceCtorEq, gos, Int.reduceAdd, Int.reduceSub, Int.reduceMul, Int.reduceEq])
              refine ⟨cj, (fgt_nil), ⟨by rw [fx], rfl⟩, by rw [fx]; exact drop_nil _⟩
            · repeat (first | refine ⟨(by show drawK _ _ = true; kernel_rfl : drawX _ _ _), ?_⟩ | exact (by show drawK _ _ = true; kernel_rfl : drawX _ _ _) | simp -dsimp (maxSteps := 20000000) (disch := omega) only [simx, zzC, zzB, tys, ite_self, opnL, callB, readsB, stepOp, ofVal, opBuiltin, opLen, PV.sk, scalBin, scalUn, intBin, opLoad, natOf, opConvert, opField, cellsP, oneP, Value.oneCell', opStore, toIV, scalT, scalA, scalC, boxesA, boxesC, zipB_none, zipB_mx, isZ, opZip, zeroP, opAppendZ, opMakeMap, opLookup, mboxB, opUpdate, ↓reduceIte, Nat.reduceSub, Nat.reduceEqDiff, Nat.reduceAdd, Nat.reduceMul, Nat.reduceLT, Nat.reduceLeDiff, Int.reduceToNat, Int.reduceLE, Int.reduceLT, Int.reduceNeg, reduceCtorEq, gos, Int.reduceAdd, Int.reduceSub, Int.reduceMul, Int.reduceEq, cj, g1])
              refine X_append_room 55 [.int .u64 0] r (by simp only [tys]) (by simp only [tys]) rfl (by simp [Heap.put_at]) rl (by omega) rfl (by omega) (by simp only [tys]; omega) (by rw [mx_len]; omega) ?_
              rw [roomC_app zl (by omega)]
              repeat (first | refine ⟨(by show drawK _ _ = true; kernel_rfl : drawX _ _ _), ?_⟩ | exact (by show drawK _ _ = true; kernel_rfl : drawX _ _ _) | simp -dsimp (maxSteps := 20000000) (disch := omega) only [simx, zzC, zzB, tys, ite_self, opnL, callB, readsB, stepOp, ofVal, opBuiltin, opLen, PV.sk, scalBin, scalUn, intBin, opLoad, natOf, opConvert, opField, cellsP, oneP, Value.oneCell', opStore, toIV, scalT, scalA, scalC, boxesA, boxesC, zipB_none, zipB_mx, isZ, opZip, zeroP, opAppendZ, opMakeMap, opLookup, mboxB, opUpdate, ↓reduceIte, Nat.reduceSub, Nat.reduceEqDiff, Nat.reduceAdd, Nat.reduceMul, Nat.reduceLT, Nat.reduceLeDiff, Int.reduceToNat, Int.reduceLE, Int.reduceLT, Int.reduceNeg, reduceCtorEq, gos, Int.reduceAdd, Int.reduceSub, Int.reduceMul, Int.reduceEq])
              refine ⟨cj, (fgt_nil), ⟨by rw [fx, List.length_append], rfl⟩, ?_⟩
              rw [fx]
              funext c
              simp (maxSteps := 20000000) only [Heap.drop_at, rowH_app, Heap.put_at, Heap.none_at, List.mem_cons, List.not_mem_nil, or_false]
              by_cases e0 : c = (5, 5) :: (9, 1) :: base
              · subst e0; simp []
              simp [e0]
          · have hj : j = L.length := by omega
            subst hj
            rw [List.take_length, hFl]
            have rz : roomC F.length z F = F := by unfold roomC; rw [List.drop_eq_nil_of_le (by omega), List.append_nil]
            rw [rz]
            have e2 : F.take F.length = F := List.take_length
            repeat (first | refine ⟨(by show drawK _ _ = true; kernel_rfl : drawX _ _ _), ?_⟩ | exact (by show drawK _ _ = true; kernel_rfl : drawX _ _ _) | simp -dsimp (maxSteps := 20000000) (disch := omega) only [simx, zzC, zzB, tys, ite_self, opnL, callB, readsB, stepOp, ofVal, opBuiltin, opLen, PV.sk, scalBin, scalUn, intBin, opLoad, natOf, opConvert, opField, cellsP, oneP, Value.oneCell', opStore, toIV, scalT, scalA, scalC, boxesA, boxesC, zipB_none, zipB_mx, isZ, opZip, zeroP, opAppendZ, opMakeMap, opLookup, mboxB, opUpdate, ↓reduceIte, Nat.reduceSub, Nat.reduceEqDiff, Nat.reduceAdd, Nat.reduceMul, Nat.reduceLT, Nat.reduceLeDiff, Int.reduceToNat, Int.reduceLE, Int.reduceLT, Int.reduceNeg, reduceCtorEq, zzR, gos, Int.reduceAdd, Int.reduceSub, Int.reduceMul, Int.reduceEq, e2])
end Go.Proofs.Ytkhjfphenflefaa.TM
