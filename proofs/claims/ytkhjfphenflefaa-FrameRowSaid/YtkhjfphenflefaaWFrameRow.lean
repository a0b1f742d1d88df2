/- FrameRow: the law, walked. -/
import Derived.Test.YtkhjfphenflefaaWFrmG
import Derived.Test.YtkhjfphenflefaaWFrameReads
namespace Go.Proofs.Ytkhjfphenflefaa.TM
open Go Go.RowKit
set_option linter.unusedVariables false
set_option linter.defProp false
set_option linter.unusedSimpArgs false
attribute [local irreducible] K W WOps Effs Xg Xo Xr Xdg Xdo Xdr Xif CallsP CallR

abbrev Frm := Int × Int × Int × List Int
def frC (y : Frm) : List IV := [ii y.1, ii y.2.1, .v (.int .u32 y.2.2.1), .l y.2.2.2.length (y.2.2.2.map iu)]
def frCs (l : List Frm) : List IV := l.flatMap frC
theorem frCs_len (l : List Frm) : (frCs l).length = l.length * 4 := by
  unfold frCs
  induction l with
  | nil => rfl
  | cons y l ih => rw [List.flatMap_cons, List.length_append, ih, List.length_cons]; simp [frC]; omega
theorem frCs_at : ∀ {l : List Frm} {j : Nat} (h : j < l.length), ((frCs l).drop (j * 4)).take 4 = frC l[j]
  | y :: l, 0, _ => by unfold frCs; rw [List.flatMap_cons]; simp [frC]
  | y :: l, j + 1, h => by
    have e : (frCs (y :: l)).drop ((j + 1) * 4) = (frCs l).drop (j * 4) := by
      unfold frCs
      rw [List.flatMap_cons, List.drop_append, List.drop_eq_nil_of_le (by simp [frC]; omega), List.nil_append]
      congr 1
      simp [frC]; omega
    rw [e]
    exact frCs_at (by simpa using h)
theorem frCs_get {l : List Frm} {j : Nat} (h : j < l.length) : (frCs l)[j * 4 + 3]? = some (.l l[j].2.2.2.length (l[j].2.2.2.map iu)) := by
  have := congrArg (fun x => x[3]?) (frCs_at h)
  simp only [List.getElem?_take, List.getElem?_drop] at this
  simpa [frC] using this
def putF (y : Frm) : List Int := putB y.1 y.2.1 y.2.2.1 y.2.2.2
def putAll (l : List Frm) : List Int := l.flatMap putF
theorem putF_len (y : Frm) : (putF y).length = 12 + 8 * y.2.2.2.length := putB_len ..
theorem putAll_next {l : List Frm} {j : Nat} (h : j < l.length) : putAll (l.take (j + 1)) = putAll (l.take j) ++ putF l[j] := by
  unfold putAll; rw [List.take_succ_eq_append_getElem h, List.flatMap_append]; simp
theorem putAll_split (l : List Frm) (j : Nat) : putAll l = putAll (l.take j) ++ putAll (l.drop j) := by
  unfold putAll; rw [← List.flatMap_append, List.take_append_drop]
def FrOk (y : Frm) : Prop := mayB y.1 y.2.1 y.2.2.2 = true ∧ y.2.2.2.length ≤ 60
theorem putAll_le : ∀ {l : List Frm}, (∀ y ∈ l, FrOk y) → (putAll l).length ≤ 492 * l.length
  | [], _ => by simp [putAll]
  | y :: l, h => by
    have ih := putAll_le (l := l) fun z hz => h z (by simp [hz])
    have e : putAll (y :: l) = putF y ++ putAll l := by unfold putAll; rw [List.flatMap_cons]
    have := (h y (by simp)).2
    rw [e, List.length_append, putF_len, List.length_cons]
    omega
theorem putAll_byts : ∀ {l : List Frm}, (∀ y ∈ l, FrOk y) → Byts (putAll l)
  | [], _ => fun x hx => by simp [putAll] at hx
  | y :: l, h => by
    have e : putAll (y :: l) = putF y ++ putAll l := by unfold putAll; rw [List.flatMap_cons]
    obtain ⟨k1, k2, r1, r2, _⟩ := may_iff.1 (h y (by simp)).1
    rw [e]
    exact (putB_byts ⟨by omega, by omega⟩ ⟨by omega, by omega⟩).app (putAll_byts fun z hz => h z (by simp [hz]))
theorem opBytes_v {h : Heap} {b : Name} {fz : Bool} {cs : List IV} {off n top : Nat} {l : List Int} (hb : h b = some (.row fz cs)) (ht : cs.length = top) (hn : off + n ≤ cs.length) (hl : (cs.drop off).take n = l.map ib) :
    opBytes Try.prog h 5 (.view b off 1 n top) = some (.i (.v (str l))) := by
  have e : tkB Try.prog 5 = some (.int .u8) := by simp only [tys]
  unfold opBytes
  rw [e]
  simp only [PV.sk, SK.cells, hb, ht, Nat.mul_one, hn, hl, and_self, if_true, bytesOfIV_lb]
  simp [hn, ht ▸ hn, hl, bytesOfIV_lb]
  rfl
theorem X_appW {C : CallRel} {h0 : Heap} {base : Name} {Qf : Ex → List PV → Heap → Prop} {k : List It} {t : List PV} {R : It} {d : Option Tmp} {s b : Name} {B a W : List Int}
    (hW : W = B ++ a) (hl : W.length ≤ 10000)
    (hk : K Try.prog C h0 base Qf (R :: k) .normal (putT t d (.view b 0 1 W.length W.length)) (Heap.none.put b (.row false (W.map ib)))) :
    Xr Try.prog C h0 base Qf (opAppend Try.prog (Heap.none.put b (.row false (B.map ib))) s 63 (.view b 0 1 B.length B.length) (lb a)) d R k t (Heap.none.put b (.row false (B.map ib))) := by
  subst hW
  cases a with
  | nil =>
    rw [List.append_nil] at hk hl
    exact X_append_e1 5 [.int .u8 0] (by simp only [tys]) (by simp only [tys]) rfl (by simp only [tys]; omega) (by rw [mx_len]; omega) hk
  | cons z a =>
    generalize hw : z :: a = l at *
    have lp : 0 < l.length := by rw [← hw]; simp
    rw [List.length_append, List.map_append] at hk
    rw [List.length_append] at hl
    refine X_append_full (cs := B.map ib) 5 [.int .u8 0] (l.map ib) (by simp only [tys]) (by simp only [tys]) rfl (by simp [Heap.put_at]) (by simp) lp (by simp) (by simp only [tys]; omega) (by rw [mx_len]; omega) ?_
    rw [Heap.put_put]
    exact hk
structure FrWf (y : Frm) : Prop where
  n : 0 ≤ y.2.2.1 ∧ y.2.2.1 < 4294967296
  b : ∀ a ∈ y.2.2.2, W64 a
  l : y.2.2.2.length ≤ maxLen
set_option maxHeartbeats 8000000 in
set_option maxRecDepth 20000 in
theorem frameRow_true (a0 : List (Int × Int × Int × List Int)) (a1 : List Int) (w0 : (a0.length ≤ maxLen ∧ ∀ e81_ ∈ a0, ((Lit.int .i64 e81_.1).wf = true ∧ (Lit.int .i64 e81_.2.1).wf = true ∧ (Lit.int .u32 e81_.2.2.1).wf = true ∧ (e81_.2.2.2.length ≤ maxLen ∧ ∀ e32_ ∈ e81_.2.2.2, (Lit.int .u64 e32_).wf = true)))) (w1 : (a1.length ≤ maxLen ∧ ∀ e63_ ∈ a1, (Lit.int .u8 e63_).wf = true)) : CallsP Try.prog 10 [.i (IV.l a0.length (a0.flatMap fun y => [IV.v (.int .i64 y.1), IV.v (.int .i64 y.2.1), IV.v (.int .u32 y.2.2.1), IV.l y.2.2.2.length (y.2.2.2.map fun y => IV.v (.int .u64 y))])), .i (IV.l a1.length (a1.map fun y => IV.v (.int .u8 y)))] (bl true) := by
  have aw := awake11_walk
  have hb1 := byts_of w1.2
  have wf : ∀ y ∈ a0, FrWf y := fun y hy => ⟨u32_of (w0.2 y hy).2.2.1, w64_all (w0.2 y hy).2.2.2.2, (w0.2 y hy).2.2.2.1⟩
  change CallsP _ _ [.i (.l a0.length (frCs a0)), lb a1] _
  by_cases h1 : 12 < a0.length
  · have h1' : (12 : Int) < a0.length := by omega
    refine X_startP (n := 119) (m := 2) (rs := [.tmp 4]) Try.func10 rfl rfl rfl rfl (by decide) fun base => ?_
    repeat (first | ((first | refine X_call_fn2 rfl (by simp only [tys]) ?_ | refine X_dcall_fn2 rfl (by simp only [tys]) ?_); apply Exists.intro; apply And.intro; (focus (simp -dsimp only [simx, zzC, zzB, tys, ite_self, opnL, callB, readsB, stepOp, ofVal, opBuiltin, opLen, PV.sk, scalBin, scalUn, intBin, opLoad, natOf, opConvert, opField, cellsP, oneP, Value.oneCell', opStore, toIV, scalT, scalA, scalC, boxesA, boxesC, zipB_none, zipB_mx, isZ, opZip, zeroP, opAppendZ, opMakeMap, opLookup, mboxB, opUpdate, ↓reduceIte, Nat.reduceSub, Nat.reduceEqDiff, Nat.reduceAdd, Nat.reduceMul, Nat.reduceLT, Nat.reduceLeDiff, Int.reduceToNat, Int.reduceLE, Int.reduceLT, Int.reduceNeg, reduceCtorEq, zzL, if_true, if_false] <;> rfl)); apply Exists.intro; apply And.intro; (focus (first | exact aw))) | refine ⟨(by show drawK _ _ = true; kernel_rfl : drawX _ _ _), ?_⟩ | exact (by show drawK _ _ = true; kernel_rfl : drawX _ _ _) | simp -dsimp (maxSteps := 20000000) (disch := omega) only [simx, zzC, zzB, tys, ite_self, opnL, callB, readsB, stepOp, ofVal, opBuiltin, opLen, PV.sk, scalBin, scalUn, intBin, opLoad, natOf, opConvert, opField, cellsP, oneP, Value.oneCell', opStore, toIV, scalT, scalA, scalC, boxesA, boxesC, zipB_none, zipB_mx, isZ, opZip, zeroP, opAppendZ, opMakeMap, opLookup, mboxB, opUpdate, ↓reduceIte, Nat.reduceSub, Nat.reduceEqDiff, Nat.reduceAdd, Nat.reduceMul, Nat.reduceLT, Nat.reduceLeDiff, Int.reduceToNat, Int.reduceLE, Int.reduceLT, Int.reduceNeg, reduceCtorEq, zzR, gos, Int.reduceAdd, Int.reduceSub, Int.reduceMul, Int.reduceEq, h1'])
  · have h1' : ¬ (12 : Int) < a0.length := by omega
    by_cases h2 : 11 < a1.length
    · have h2' : (11 : Int) < a1.length := by omega
      refine X_startP (n := 119) (m := 2) (rs := [.tmp 4]) Try.func10 rfl rfl rfl rfl (by decide) fun base => ?_
      repeat (first | ((first | refine X_call_fn2 rfl (by simp only [tys]) ?_ | refine X_dcall_fn2 rfl (by simp only [tys]) ?_); apply Exists.intro; apply And.intro; (focus (simp -dsimp only [simx, zzC, zzB, tys, ite_self, opnL, callB, readsB, stepOp, ofVal, opBuiltin, opLen, PV.sk, scalBin, scalUn, intBin, opLoad, natOf, opConvert, opField, cellsP, oneP, Value.oneCell', opStore, toIV, scalT, scalA, scalC, boxesA, boxesC, zipB_none, zipB_mx, isZ, opZip, zeroP, opAppendZ, opMakeMap, opLookup, mboxB, opUpdate, ↓reduceIte, Nat.reduceSub, Nat.reduceEqDiff, Nat.reduceAdd, Nat.reduceMul, Nat.reduceLT, Nat.reduceLeDiff, Int.reduceToNat, Int.reduceLE, Int.reduceLT, Int.reduceNeg, reduceCtorEq, zzL, if_true, if_false] <;> rfl)); apply Exists.intro; apply And.intro; (focus (first | exact aw))) | refine ⟨(by show drawK _ _ = true; kernel_rfl : drawX _ _ _), ?_⟩ | exact (by show drawK _ _ = true; kernel_rfl : drawX _ _ _) | simp -dsimp (maxSteps := 20000000) (disch := omega) only [simx, zzC, zzB, tys, ite_self, opnL, callB, readsB, stepOp, ofVal, opBuiltin, opLen, PV.sk, scalBin, scalUn, intBin, opLoad, natOf, opConvert, opField, cellsP, oneP, Value.oneCell', opStore, toIV, scalT, scalA, scalC, boxesA, boxesC, zipB_none, zipB_mx, isZ, opZip, zeroP, opAppendZ, opMakeMap, opLookup, mboxB, opUpdate, ↓reduceIte, Nat.reduceSub, Nat.reduceEqDiff, Nat.reduceAdd, Nat.reduceMul, Nat.reduceLT, Nat.reduceLeDiff, Int.reduceToNat, Int.reduceLE, Int.reduceLT, Int.reduceNeg, reduceCtorEq, zzR, gos, Int.reduceAdd, Int.reduceSub, Int.reduceMul, Int.reduceEq, h1', h2'])
    · have h2' : ¬ (11 : Int) < a1.length := by omega
      have cl := frCs_len a0
      refine X_startP (n := 119) (m := 2) (rs := [.tmp 4]) Try.func10 rfl rfl rfl rfl (by decide) fun base => ?_
      repeat (first | ((first | refine X_call_fn2 rfl (by simp only [tys]) ?_ | refine X_dcall_fn2 rfl (by simp only [tys]) ?_); apply Exists.intro; apply And.intro; (focus (simp -dsimp only [simx, zzC, zzB, tys, ite_self, opnL, callB, readsB, stepOp, ofVal, opBuiltin, opLen, PV.sk, scalBin, scalUn, intBin, opLoad, natOf, opConvert, opField, cellsP, oneP, Value.oneCell', opStore, toIV, scalT, scalA, scalC, boxesA, boxesC, zipB_none, zipB_mx, isZ, opZip, zeroP, opAppendZ, opMakeMap, opLookup, mboxB, opUpdate, ↓reduceIte, Nat.reduceSub, Nat.reduceEqDiff, Nat.reduceAdd, Nat.reduceMul, Nat.reduceLT, Nat.reduceLeDiff, Int.reduceToNat, Int.reduceLE, Int.reduceLT, Int.reduceNeg, reduceCtorEq, zzL, if_true, if_false] <;> rfl)); apply Exists.intro; apply And.intro; (focus (first | exact aw))) | refine ⟨(by show drawK _ _ = true; kernel_rfl : drawX _ _ _), ?_⟩ | exact (by show drawK _ _ = true; kernel_rfl : drawX _ _ _) | simp -dsimp (maxSteps := 20000000) (disch := omega) only [simx, zzC, zzB, tys, ite_self, opnL, callB, readsB, stepOp, ofVal, opBuiltin, opLen, PV.sk, scalBin, scalUn, intBin, opLoad, natOf, opConvert, opField, cellsP, oneP, Value.oneCell', opStore, toIV, scalT, scalA, scalC, boxesA, boxesC, zipB_none, zipB_mx, isZ, opZip, zeroP, opAppendZ, opMakeMap, opLookup, mboxB, opUpdate, ↓reduceIte, Nat.reduceSub, Nat.reduceEqDiff, Nat.reduceAdd, Nat.reduceMul, Nat.reduceLT, Nat.reduceLeDiff, Int.reduceToNat, Int.reduceLE, Int.reduceLT, Int.reduceNeg, reduceCtorEq, gos, Int.reduceAdd, Int.reduceSub, Int.reduceMul, Int.reduceEq, h1', h2'])
      refine X_loopH [0, 1, 5, 6] [] (0) (a0.length) (fun j => ∀ y ∈ a0.take j, FrOk y) (fun j => [(5, rowP ((14, 2) :: base) 1 (putAll (a0.take j)).length ((putAll (a0.take j)).map ib)), (6, i64 j)]) (fun j => rowH Heap.none ((14, 2) :: base) (putAll (a0.take j)).length ((putAll (a0.take j)).map ib)) ?_ ?_ ?_ ?_ ?_ (by decide) ?_
      · exact (fgt_nil)
      · ((simp -dsimp (disch := omega) only [simx, zzB, tys, ite_self, opnL, callB, readsB, stepOp, ofVal, opBuiltin, opLen, PV.sk, scalBin, scalUn, intBin, opLoad, natOf, opConvert, opField, cellsP, oneP, Value.oneCell', opStore, toIV, scalT, scalA, scalC, boxesA, boxesC, zipB_none, zipB_mx, isZ, opZip, zeroP, opAppendZ, opMakeMap, opLookup, mboxB, opUpdate, ↓reduceIte, Nat.reduceSub, Nat.reduceEqDiff, Nat.reduceAdd, Nat.reduceMul, Nat.reduceLT, Nat.reduceLeDiff, Int.reduceToNat, Int.reduceLE, Int.reduceLT, Int.reduceNeg, reduceCtorEq, gos, Int.reduceAdd, Int.reduceSub, Int.reduceMul, Int.reduceEq]) <;> first | rfl | simp [rowP, putAll])
      · exact drop_nil _
      · omega
      · intro y hy; simp at hy
      · intro j hj hf
        have pl := putAll_le hf
        rw [List.length_take, Nat.min_eq_left hj] at pl
        by_cases cj : j < a0.length
        · have w := wf _ (List.getElem_mem cj)
          have g1 := frCs_get cj
          have g2 := frCs_at cj
          have c3 : j * 4 + 3 < (frCs a0).length := by omega
          have c4 : j * 4 + 4 ≤ (frCs a0).length := by omega
          have fx := putAll_next cj
          have hf' : ∀ z, z ∈ a0.take (j + 1) → z = a0[j] ∨ z ∈ a0.take j := fun z hz => by
            rw [List.take_succ_eq_append_getElem cj] at hz
            rcases List.mem_append.1 hz with h | h
            · exact .inr h
            · exact .inl (by simpa using h)
          generalize a0[j] = y at w g1 g2 fx hf'
          obtain ⟨k, r, n, b⟩ := y
          obtain ⟨wn, wb, wl⟩ := w
          simp only at wn wb wl g1
          unfold frC at g2
          simp only at g2
          by_cases c60 : 60 < b.length
          · have c60' : (60 : Int) < b.length := by omega
            repeat (first | refine ⟨(by show drawK _ _ = true; kernel_rfl : drawX _ _ _), ?_⟩ | exact (by show drawK _ _ = true; kernel_rfl : drawX _ _ _) | simp -dsimp (maxSteps := 20000000) (disch := omega) only [simx, zzC, zzB, tys, ite_self, opnL, callB, readsB, stepOp, ofVal, opBuiltin, opLen, PV.sk, scalBin, scalUn, intBin, opLoad, natOf, opConvert, opField, cellsP, oneP, Value.oneCell', opStore, toIV, scalT, scalA, scalC, boxesA, boxesC, zipB_none, zipB_mx, isZ, opZip, zeroP, opAppendZ, opMakeMap, opLookup, mboxB, opUpdate, ↓reduceIte, Nat.reduceSub, Nat.reduceEqDiff, Nat.reduceAdd, Nat.reduceMul, Nat.reduceLT, Nat.reduceLeDiff, Int.reduceToNat, Int.reduceLE, Int.reduceLT, Int.reduceNeg, reduceCtorEq, zzR, gos, Int.reduceAdd, Int.reduceSub, Int.reduceMul, Int.reduceEq, cj, g1, c3, c60'])
          · have c60' : ¬ (60 : Int) < b.length := by omega
            have dp := put_walk k r n b wn wb
            unfold putR at dp
            cases hm : mayB k r b with
            | false =>
              rw [hm] at dp
              repeat (first | ((first | refine X_call_fn2 rfl (by simp only [tys]) ?_ | refine X_dcall_fn2 rfl (by simp only [tys]) ?_); apply Exists.intro; apply And.intro; (focus (simp -dsimp only [simx, zzC, zzB, tys, ite_self, opnL, callB, readsB, stepOp, ofVal, opBuiltin, opLen, PV.sk, scalBin, scalUn, intBin, opLoad, natOf, opConvert, opField, cellsP, oneP, Value.oneCell', opStore, toIV, scalT, scalA, scalC, boxesA, boxesC, zipB_none, zipB_mx, isZ, opZip, zeroP, opAppendZ, opMakeMap, opLookup, mboxB, opUpdate, ↓reduceIte, Nat.reduceSub, Nat.reduceEqDiff, Nat.reduceAdd, Nat.reduceMul, Nat.reduceLT, Nat.reduceLeDiff, Int.reduceToNat, Int.reduceLE, Int.reduceLT, Int.reduceNeg, reduceCtorEq, zzL, if_true, if_false] <;> rfl)); apply Exists.intro; apply And.intro; (focus (first | exact dp))) | refine ⟨(by show drawK _ _ = true; kernel_rfl : drawX _ _ _), ?_⟩ | exact (by show drawK _ _ = true; kernel_rfl : drawX _ _ _) | simp -dsimp (maxSteps := 20000000) (disch := omega) only [simx, zzC, zzB, tys, ite_self, opnL, callB, readsB, stepOp, ofVal, opBuiltin, opLen, PV.sk, scalBin, scalUn, intBin, opLoad, natOf, opConvert, opField, cellsP, oneP, Value.oneCell', opStore, toIV, scalT, scalA, scalC, boxesA, boxesC, zipB_none, zipB_mx, isZ, opZip, zeroP, opAppendZ, opMakeMap, opLookup, mboxB, opUpdate, ↓reduceIte, Nat.reduceSub, Nat.reduceEqDiff, Nat.reduceAdd, Nat.reduceMul, Nat.reduceLT, Nat.reduceLeDiff, Int.reduceToNat, Int.reduceLE, Int.reduceLT, Int.reduceNeg, reduceCtorEq, zzR, gos, Int.reduceAdd, Int.reduceSub, Int.reduceMul, Int.reduceEq, cj, g1, g2, c3, c4, c60'])
            | true =>
              rw [hm] at dp
              simp only [if_true] at dp
              have ok : FrOk (k, r, n, b) := ⟨hm, by show b.length ≤ 60; omega⟩
              have pf : putF (k, r, n, b) = putB k r n b := rfl
              have pbl := putB_len k r n b
              rw [pf] at fx
              rw [lb, pbl] at dp
              generalize putB k r n b = Z at fx dp pbl
              have zl : (Z.map ib).length = 12 + 8 * b.length := by rw [List.length_map, pbl]
              generalize putAll (a0.take j) = G at fx pl
              repeat (first | ((first | refine X_call_fn2 rfl (by simp only [tys]) ?_ | refine X_dcall_fn2 rfl (by simp only [tys]) ?_); apply Exists.intro; apply And.intro; (focus (simp -dsimp only [simx, zzC, zzB, tys, ite_self, opnL, callB, readsB, stepOp, ofVal, opBuiltin, opLen, PV.sk, scalBin, scalUn, intBin, opLoad, natOf, opConvert, opField, cellsP, oneP, Value.oneCell', opStore, toIV, scalT, scalA, scalC, boxesA, boxesC, zipB_none, zipB_mx, isZ, opZip, zeroP, opAppendZ, opMakeMap, opLookup, mboxB, opUpdate, ↓reduceIte, Nat.reduceSub, Nat.reduceEqDiff, Nat.reduceAdd, Nat.reduceMul, Nat.reduceLT, Nat.reduceLeDiff, Int.reduceToNat, Int.reduceLE, Int.reduceLT, Int.reduceNeg, reduceCtorEq, zzL, if_true, if_false] <;> rfl)); apply Exists.intro; apply And.intro; (focus (first | exact dp))) | refine ⟨(by show drawK _ _ = true; kernel_rfl : drawX _ _ _), ?_⟩ | exact (by show drawK _ _ = true; kernel_rfl : drawX _ _ _) | simp -dsimp (maxSteps := 20000000) (disch := omega) only [simx, zzC, zzB, tys, ite_self, opnL, callB, readsB, stepOp, ofVal, opBuiltin, opLen, PV.sk, scalBin, scalUn, intBin, opLoad, natOf, opConvert, opField, cellsP, oneP, Value.oneCell', opStore, toIV, scalT, scalA, scalC, boxesA, boxesC, zipB_none, zipB_mx, isZ, opZip, zeroP, opAppendZ, opMakeMap, opLookup, mboxB, opUpdate, ↓reduceIte, Nat.reduceSub, Nat.reduceEqDiff, Nat.reduceAdd, Nat.reduceMul, Nat.reduceLT, Nat.reduceLeDiff, Int.reduceToNat, Int.reduceLE, Int.reduceLT, Int.reduceNeg, reduceCtorEq, gos, Int.reduceAdd, Int.reduceSub, Int.reduceMul, Int.reduceEq, cj, g1, g2, c3, c4, c60'])
              refine X_append_list 5 [.int .u8 0] (Z.map ib) (by simp only [tys]) (by simp only [tys]) rfl (by decide) (by rw [List.length_map, Nat.mul_one]) (by simp [Heap.put_at, Heap.none_at, rowH_app]) (by omega) (by rw [zl, Nat.mul_one]) (by simp only [tys]; omega) (by rw [mx_len]; omega) ?_
              have ep : rowP ((14, 2) :: base) 1 (G.length + (12 + 8 * b.length)) (G.map ib ++ Z.map ib) = .view ((14, 2) :: base) 0 1 (G.length + (12 + 8 * b.length)) (G.map ib ++ Z.map ib).length := if_neg (by omega)
              repeat (first | refine ⟨(by show drawK _ _ = true; kernel_rfl : drawX _ _ _), ?_⟩ | exact (by show drawK _ _ = true; kernel_rfl : drawX _ _ _) | simp -dsimp (maxSteps := 20000000) (disch := omega) only [simx, zzC, zzB, tys, ite_self, opnL, callB, readsB, stepOp, ofVal, opBuiltin, opLen, PV.sk, scalBin, scalUn, intBin, opLoad, natOf, opConvert, opField, cellsP, oneP, Value.oneCell', opStore, toIV, scalT, scalA, scalC, boxesA, boxesC, zipB_none, zipB_mx, isZ, opZip, zeroP, opAppendZ, opMakeMap, opLookup, mboxB, opUpdate, ↓reduceIte, Nat.reduceSub, Nat.reduceEqDiff, Nat.reduceAdd, Nat.reduceMul, Nat.reduceLT, Nat.reduceLeDiff, Int.reduceToNat, Int.reduceLE, Int.reduceLT, Int.reduceNeg, reduceCtorEq, gos, Int.reduceAdd, Int.reduceSub, Int.reduceMul, Int.reduceEq, ep])
              have gz : (G ++ Z).length = G.length + (12 + 8 * b.length) := by rw [List.length_append, pbl]
              refine ⟨cj, (fgt_nil), fun z hz => (hf' z hz).elim (fun h => h ▸ ok) (hf z), ⟨?_, rfl⟩, ?_⟩
              · rw [fx, List.map_append, gz, ep]
              · rw [fx, List.map_append, gz]
                have hd : ¬ 12 + 8 * b.length = 0 := by omega
                funext c
                simp (maxSteps := 20000000) only [Heap.drop_at, rowH_app, Heap.put_at, Heap.none_at, List.mem_cons, List.not_mem_nil, or_false]
                by_cases e0 : c = (14, 2) :: base
                · subst e0; simp [hd]
                simp [e0, hd]
        · have hj : j = a0.length := by omega
          subst hj
          rw [List.take_length] at hf pl ⊢
          clear cj
          by_cases c0 : a0.length = 0
          · have e0 : a0 = [] := List.eq_nil_of_length_eq_zero c0
            subst e0
            have eA : putAll [] = [] := rfl
            rw [eA]
            have d := next_walk a1 w1.1 hb1
            rw [next_short (by omega)] at d
            cases a1 with
            | nil =>
              obtain ⟨sv, hsv⟩ : ∃ sv, str [] = .string sv := ⟨_, rfl⟩
              have s0 : ∀ h, opBytes Try.prog h 5 (.i (.v (.slice none 0 0))) = some (.i (.v (.string sv))) := fun h => by
                rw [← hsv]
                unfold opBytes
                rw [show tkB Try.prog 5 = some (.int .u8) by simp only [tys]]
                rfl
              have s1 : ∀ h, opBytes Try.prog h 5 (lb []) = some (.i (.v (.string sv))) := fun h => by rw [← hsv]; exact opBytes_lb (l := []) rfl
              repeat (first | refine ⟨(by show drawK _ _ = true; kernel_rfl : drawX _ _ _), ?_⟩ | exact (by show drawK _ _ = true; kernel_rfl : drawX _ _ _) | simp -dsimp (maxSteps := 20000000) (disch := omega) only [simx, zzC, zzB, tys, ite_self, opnL, callB, readsB, stepOp, ofVal, opBuiltin, opLen, PV.sk, scalBin, scalUn, intBin, opLoad, natOf, opConvert, opField, cellsP, oneP, Value.oneCell', opStore, toIV, scalT, scalA, scalC, boxesA, boxesC, zipB_none, zipB_mx, isZ, opZip, zeroP, opAppendZ, opMakeMap, opLookup, mboxB, opUpdate, ↓reduceIte, Nat.reduceSub, Nat.reduceEqDiff, Nat.reduceAdd, Nat.reduceMul, Nat.reduceLT, Nat.reduceLeDiff, Int.reduceToNat, Int.reduceLE, Int.reduceLT, Int.reduceNeg, reduceCtorEq, gos, Int.reduceAdd, Int.reduceSub, Int.reduceMul, Int.reduceEq, rowP_zero, rowH_zero])
              refine X_append_e0 5 [.int .u8 0] (by simp only [tys]) (by simp only [tys]) rfl ?_
              repeat (first | refine ⟨(by show drawK _ _ = true; kernel_rfl : drawX _ _ _), ?_⟩ | exact (by show drawK _ _ = true; kernel_rfl : drawX _ _ _) | simp -dsimp (maxSteps := 20000000) (disch := omega) only [simx, zzC, zzB, tys, ite_self, opnL, callB, readsB, stepOp, ofVal, opBuiltin, opLen, PV.sk, scalBin, scalUn, intBin, opLoad, natOf, opConvert, opField, cellsP, oneP, Value.oneCell', opStore, toIV, scalT, scalA, scalC, boxesA, boxesC, zipB_none, zipB_mx, isZ, opZip, zeroP, opAppendZ, opMakeMap, opLookup, mboxB, opUpdate, ↓reduceIte, Nat.reduceSub, Nat.reduceEqDiff, Nat.reduceAdd, Nat.reduceMul, Nat.reduceLT, Nat.reduceLeDiff, Int.reduceToNat, Int.reduceLE, Int.reduceLT, Int.reduceNeg, reduceCtorEq, gos, Int.reduceAdd, Int.reduceSub, Int.reduceMul, Int.reduceEq, rowP_zero, rowH_zero])
              refine X_loopH [0, 1, 5, 9] [] (0) (0) (fun j => True) (fun j => [(5, .i (.v (.slice none 0 0))), (9, i64 j)]) (fun j => Heap.none) ?_ ?_ ?_ ?_ ?_ (by decide) ?_
              · exact (fgt_nil)
              · ((simp -dsimp (disch := omega) only [simx, zzB, tys, ite_self, opnL, callB, readsB, stepOp, ofVal, opBuiltin, opLen, PV.sk, scalBin, scalUn, intBin, opLoad, natOf, opConvert, opField, cellsP, oneP, Value.oneCell', opStore, toIV, scalT, scalA, scalC, boxesA, boxesC, zipB_none, zipB_mx, isZ, opZip, zeroP, opAppendZ, opMakeMap, opLookup, mboxB, opUpdate, ↓reduceIte, Nat.reduceSub, Nat.reduceEqDiff, Nat.reduceAdd, Nat.reduceMul, Nat.reduceLT, Nat.reduceLeDiff, Int.reduceToNat, Int.reduceLE, Int.reduceLT, Int.reduceNeg, reduceCtorEq, gos, Int.reduceAdd, Int.reduceSub, Int.reduceMul, Int.reduceEq]) <;> first | rfl | simp [rowP])
              · exact drop_nil _
              · omega
              · trivial
              · intro j hj _
                have : j = 0 := by omega
                subst this
                repeat (first | ((first | refine X_call_fn2 rfl (by simp only [tys]) ?_ | refine X_dcall_fn2 rfl (by simp only [tys]) ?_); apply Exists.intro; apply And.intro; (focus (simp -dsimp only [simx, zzC, zzB, tys, ite_self, opnL, callB, readsB, stepOp, ofVal, opBuiltin, opLen, PV.sk, scalBin, scalUn, intBin, opLoad, natOf, opConvert, opField, cellsP, oneP, Value.oneCell', opStore, toIV, scalT, scalA, scalC, boxesA, boxesC, zipB_none, zipB_mx, isZ, opZip, zeroP, opAppendZ, opMakeMap, opLookup, mboxB, opUpdate, ↓reduceIte, Nat.reduceSub, Nat.reduceEqDiff, Nat.reduceAdd, Nat.reduceMul, Nat.reduceLT, Nat.reduceLeDiff, Int.reduceToNat, Int.reduceLE, Int.reduceLT, Int.reduceNeg, reduceCtorEq, zzL, if_true, if_false] <;> rfl)); apply Exists.intro; apply And.intro; (focus (first | exact d))) | refine ⟨(by show drawK _ _ = true; kernel_rfl : drawX _ _ _), ?_⟩ | exact (by show drawK _ _ = true; kernel_rfl : drawX _ _ _) | simp -dsimp (maxSteps := 20000000) (disch := omega) only [simx, zzC, zzB, tys, ite_self, opnL, callB, readsB, stepOp, ofVal, opBuiltin, opLen, PV.sk, scalBin, scalUn, intBin, opLoad, natOf, opConvert, opField, cellsP, oneP, Value.oneCell', opStore, toIV, scalT, scalA, scalC, boxesA, boxesC, zipB_none, zipB_mx, isZ, opZip, zeroP, opAppendZ, opMakeMap, opLookup, mboxB, opUpdate, ↓reduceIte, Nat.reduceSub, Nat.reduceEqDiff, Nat.reduceAdd, Nat.reduceMul, Nat.reduceLT, Nat.reduceLeDiff, Int.reduceToNat, Int.reduceLE, Int.reduceLT, Int.reduceNeg, reduceCtorEq, zzR, gos, Int.reduceAdd, Int.reduceSub, Int.reduceMul, Int.reduceEq, s0, s1, beq_self_eq_true])
            | cons z a1 =>
              generalize hw : z :: a1 = l at w1 hb1 h2 h2' d
              have lp : 0 < l.length := by rw [← hw]; simp
              clear hw
              repeat (first | refine ⟨(by show drawK _ _ = true; kernel_rfl : drawX _ _ _), ?_⟩ | exact (by show drawK _ _ = true; kernel_rfl : drawX _ _ _) | simp -dsimp (maxSteps := 20000000) (disch := omega) only [simx, zzC, zzB, tys, ite_self, opnL, callB, readsB, stepOp, ofVal, opBuiltin, opLen, PV.sk, scalBin, scalUn, intBin, opLoad, natOf, opConvert, opField, cellsP, oneP, Value.oneCell', opStore, toIV, scalT, scalA, scalC, boxesA, boxesC, zipB_none, zipB_mx, isZ, opZip, zeroP, opAppendZ, opMakeMap, opLookup, mboxB, opUpdate, ↓reduceIte, Nat.reduceSub, Nat.reduceEqDiff, Nat.reduceAdd, Nat.reduceMul, Nat.reduceLT, Nat.reduceLeDiff, Int.reduceToNat, Int.reduceLE, Int.reduceLT, Int.reduceNeg, reduceCtorEq, gos, Int.reduceAdd, Int.reduceSub, Int.reduceMul, Int.reduceEq, rowP_zero, rowH_zero])
              refine X_append_list (n := 0) (cs := []) 5 [.int .u8 0] (l.map ib) (by simp only [tys]) (by simp only [tys]) rfl (by decide) rfl rfl lp (by simp) (by simp only [tys]; omega) (by rw [mx_len]; omega) ?_
              have ep : rowP ((15, 2) :: base) [Value.int .u8 0].length (0 + l.length) ([] ++ l.map ib) = .view ((15, 2) :: base) 0 1 l.length l.length := by unfold rowP; rw [if_neg (by omega)]; simp
              have e2 : (l.map ib).take l.length = l.map ib := List.take_of_length_le (by simp)
              rw [ep, List.nil_append]
              repeat (first | refine ⟨(by show drawK _ _ = true; kernel_rfl : drawX _ _ _), ?_⟩ | exact (by show drawK _ _ = true; kernel_rfl : drawX _ _ _) | simp -dsimp (maxSteps := 20000000) (disch := omega) only [simx, zzC, zzB, tys, ite_self, opnL, callB, readsB, stepOp, ofVal, opBuiltin, opLen, PV.sk, scalBin, scalUn, intBin, opLoad, natOf, opConvert, opField, cellsP, oneP, Value.oneCell', opStore, toIV, scalT, scalA, scalC, boxesA, boxesC, zipB_none, zipB_mx, isZ, opZip, zeroP, opAppendZ, opMakeMap, opLookup, mboxB, opUpdate, ↓reduceIte, Nat.reduceSub, Nat.reduceEqDiff, Nat.reduceAdd, Nat.reduceMul, Nat.reduceLT, Nat.reduceLeDiff, Int.reduceToNat, Int.reduceLE, Int.reduceLT, Int.reduceNeg, reduceCtorEq, gos, Int.reduceAdd, Int.reduceSub, Int.reduceMul, Int.reduceEq])
              refine X_loopH [0, 1, 5, 9] [] (0) (0) (fun j => True) (fun j => [(5, .view ((15, 2) :: base) 0 1 l.length l.length), (9, i64 j)]) (fun j => Heap.none.put ((15, 2) :: base) (.row false (l.map ib))) ?_ ?_ ?_ ?_ ?_ (by decide) ?_
              · exact (fgt_nil)
              · ((simp -dsimp (disch := omega) only [simx, zzB, tys, ite_self, opnL, callB, readsB, stepOp, ofVal, opBuiltin, opLen, PV.sk, scalBin, scalUn, intBin, opLoad, natOf, opConvert, opField, cellsP, oneP, Value.oneCell', opStore, toIV, scalT, scalA, scalC, boxesA, boxesC, zipB_none, zipB_mx, isZ, opZip, zeroP, opAppendZ, opMakeMap, opLookup, mboxB, opUpdate, ↓reduceIte, Nat.reduceSub, Nat.reduceEqDiff, Nat.reduceAdd, Nat.reduceMul, Nat.reduceLT, Nat.reduceLeDiff, Int.reduceToNat, Int.reduceLE, Int.reduceLT, Int.reduceNeg, reduceCtorEq, gos, Int.reduceAdd, Int.reduceSub, Int.reduceMul, Int.reduceEq]) <;> first | rfl | simp [rowP])
              · exact drop_nil _
              · omega
              · trivial
              · intro j hj _
                have : j = 0 := by omega
                subst this
                obtain ⟨sv, hsv⟩ : ∃ sv, str l = .string sv := ⟨_, rfl⟩
                have s1 : ∀ h, opBytes Try.prog h 5 (lb l) = some (.i (.v (.string sv))) := fun h => by rw [← hsv]; exact opBytes_lb rfl
                repeat (first | ((first | refine X_call_fn2 rfl (by simp only [tys]) ?_ | refine X_dcall_fn2 rfl (by simp only [tys]) ?_); apply Exists.intro; apply And.intro; (focus (simp -dsimp only [simx, zzC, zzB, tys, ite_self, opnL, callB, readsB, stepOp, ofVal, opBuiltin, opLen, PV.sk, scalBin, scalUn, intBin, opLoad, natOf, opConvert, opField, cellsP, oneP, Value.oneCell', opStore, toIV, scalT, scalA, scalC, boxesA, boxesC, zipB_none, zipB_mx, isZ, opZip, zeroP, opAppendZ, opMakeMap, opLookup, mboxB, opUpdate, ↓reduceIte, Nat.reduceSub, Nat.reduceEqDiff, Nat.reduceAdd, Nat.reduceMul, Nat.reduceLT, Nat.reduceLeDiff, Int.reduceToNat, Int.reduceLE, Int.reduceLT, Int.reduceNeg, reduceCtorEq, zzL, if_true, if_false, e2, List.length_map, Nat.zero_add, Nat.mul_one, Nat.le_refl, List.drop_zero] <;> rfl)); apply Exists.intro; apply And.intro; (focus (first | exact d))) | refine ⟨(by show drawK _ _ = true; kernel_rfl : drawX _ _ _), ?_⟩ | exact (by show drawK _ _ = true; kernel_rfl : drawX _ _ _) | simp -dsimp (maxSteps := 20000000) (disch := omega) only [simx, zzC, zzB, tys, ite_self, opnL, callB, readsB, stepOp, ofVal, opBuiltin, opLen, PV.sk, scalBin, scalUn, intBin, opLoad, natOf, opConvert, opField, cellsP, oneP, Value.oneCell', opStore, toIV, scalT, scalA, scalC, boxesA, boxesC, zipB_none, zipB_mx, isZ, opZip, zeroP, opAppendZ, opMakeMap, opLookup, mboxB, opUpdate, ↓reduceIte, Nat.reduceSub, Nat.reduceEqDiff, Nat.reduceAdd, Nat.reduceMul, Nat.reduceLT, Nat.reduceLeDiff, Int.reduceToNat, Int.reduceLE, Int.reduceLT, Int.reduceNeg, reduceCtorEq, gos, Int.reduceAdd, Int.reduceSub, Int.reduceMul, Int.reduceEq, beq_self_eq_true, s1])
                rw [opBytes_v (fz := true) (cs := l.map ib) (l := l) (by simp [Heap.put_at]) (by simp) (by simp) (by simp [e2]), hsv]
                repeat (first | refine ⟨(by show drawK _ _ = true; kernel_rfl : drawX _ _ _), ?_⟩ | exact (by show drawK _ _ = true; kernel_rfl : drawX _ _ _) | simp -dsimp (maxSteps := 20000000) (disch := omega) only [simx, zzC, zzB, tys, ite_self, opnL, callB, readsB, stepOp, ofVal, opBuiltin, opLen, PV.sk, scalBin, scalUn, intBin, opLoad, natOf, opConvert, opField, cellsP, oneP, Value.oneCell', opStore, toIV, scalT, scalA, scalC, boxesA, boxesC, zipB_none, zipB_mx, isZ, opZip, zeroP, opAppendZ, opMakeMap, opLookup, mboxB, opUpdate, ↓reduceIte, Nat.reduceSub, Nat.reduceEqDiff, Nat.reduceAdd, Nat.reduceMul, Nat.reduceLT, Nat.reduceLeDiff, Int.reduceToNat, Int.reduceLE, Int.reduceLT, Int.reduceNeg, reduceCtorEq, zzR, gos, Int.reduceAdd, Int.reduceSub, Int.reduceMul, Int.reduceEq, beq_self_eq_true, s1])
          · have hB : 12 ≤ (putAll a0).length := by
              rw [putAll_split a0 1, List.length_append]
              have := putAll_next (l := a0) (j := 0) (by omega)
              rw [show (0 + 1) = 1 from rfl] at this
              rw [this, List.length_append, putF_len]; omega
            have rp : rowP ((14, 2) :: base) 1 (putAll a0).length ((putAll a0).map ib) = .view ((14, 2) :: base) 0 1 (putAll a0).length (putAll a0).length := by unfold rowP; rw [if_neg (by omega), List.length_map]
            have rh : rowH Heap.none ((14, 2) :: base) (putAll a0).length ((putAll a0).map ib) = Heap.none.put ((14, 2) :: base) (.row false ((putAll a0).map ib)) := by unfold rowH; rw [if_neg (by omega)]
            rw [rp, rh]
            have hoff : ∀ j, j < a0.length → ∃ y t, a0[j]? = some y ∧ FrOk y ∧ putAll a0 = putAll (a0.take j) ++ (putF y ++ t) ∧ putAll (a0.take (j + 1)) = putAll (a0.take j) ++ putF y ∧ FrWf y ∧ (frCs a0)[j * 4 + 3]? = some (.l y.2.2.2.length (y.2.2.2.map iu)) ∧ ((frCs a0).drop (j * 4)).take 4 = frC y := fun j hj => by
              refine ⟨a0[j], putAll (a0.drop (j + 1)), List.getElem?_eq_getElem hj, hf _ (List.getElem_mem hj), ?_, putAll_next hj, wf _ (List.getElem_mem hj), frCs_get hj, frCs_at hj⟩
              rw [putAll_split a0 (j + 1), putAll_next hj, List.append_assoc]
            have hbB : Byts (putAll a0) := putAll_byts hf
            have ofl : (putAll (a0.take a0.length)).length = (putAll a0).length := by rw [List.take_length]
            have of0 : (putAll []).length = 0 := by simp [putAll]
            obtain ⟨W, hW⟩ : ∃ W, W = putAll a0 ++ a1 := ⟨_, rfl⟩
            have hWb : Byts W := hW ▸ hbB.app hb1
            have hWl : W.length = (putAll a0).length + a1.length := by rw [hW, List.length_append]
            have d := next_walk a1 w1.1 hb1
            rw [next_short (by omega)] at d
            obtain ⟨sv, hsv⟩ : ∃ sv, str a1 = .string sv := ⟨_, rfl⟩
            have s1 : ∀ h, opBytes Try.prog h 5 (lb a1) = some (.i (.v (.string sv))) := fun h => by rw [← hsv]; exact opBytes_lb rfl
            have el : (W.map ib).drop (putAll a0).length = a1.map ib := by rw [hW, List.map_append, List.drop_left' (by simp)]
            have hWm : W.length ≤ 10000 := by omega
            have hoff' : ∀ j, j ≤ a0.length → (putAll (a0.take j)).length ≤ W.length := fun j hj => by
              rw [hWl, putAll_split a0 j, List.length_append]; omega
            generalize hbs : putAll a0 = B at *
            repeat (first | refine ⟨(by show drawK _ _ = true; kernel_rfl : drawX _ _ _), ?_⟩ | exact (by show drawK _ _ = true; kernel_rfl : drawX _ _ _) | simp -dsimp (maxSteps := 20000000) (disch := omega) only [simx, zzC, zzB, tys, ite_self, opnL, callB, readsB, stepOp, ofVal, opBuiltin, opLen, PV.sk, scalBin, scalUn, intBin, opLoad, natOf, opConvert, opField, cellsP, oneP, Value.oneCell', opStore, toIV, scalT, scalA, scalC, boxesA, boxesC, zipB_none, zipB_mx, isZ, opZip, zeroP, opAppendZ, opMakeMap, opLookup, mboxB, opUpdate, ↓reduceIte, Nat.reduceSub, Nat.reduceEqDiff, Nat.reduceAdd, Nat.reduceMul, Nat.reduceLT, Nat.reduceLeDiff, Int.reduceToNat, Int.reduceLE, Int.reduceLT, Int.reduceNeg, reduceCtorEq, gos, Int.reduceAdd, Int.reduceSub, Int.reduceMul, Int.reduceEq])
            refine X_appW hW hWm ?_
            repeat (first | refine ⟨(by show drawK _ _ = true; kernel_rfl : drawX _ _ _), ?_⟩ | exact (by show drawK _ _ = true; kernel_rfl : drawX _ _ _) | simp -dsimp (maxSteps := 20000000) (disch := omega) only [simx, zzC, zzB, tys, ite_self, opnL, callB, readsB, stepOp, ofVal, opBuiltin, opLen, PV.sk, scalBin, scalUn, intBin, opLoad, natOf, opConvert, opField, cellsP, oneP, Value.oneCell', opStore, toIV, scalT, scalA, scalC, boxesA, boxesC, zipB_none, zipB_mx, isZ, opZip, zeroP, opAppendZ, opMakeMap, opLookup, mboxB, opUpdate, ↓reduceIte, Nat.reduceSub, Nat.reduceEqDiff, Nat.reduceAdd, Nat.reduceMul, Nat.reduceLT, Nat.reduceLeDiff, Int.reduceToNat, Int.reduceLE, Int.reduceLT, Int.reduceNeg, reduceCtorEq, gos, Int.reduceAdd, Int.reduceSub, Int.reduceMul, Int.reduceEq])
            refine X_loopH [0, 1, 5, 9] [(19, 6) :: base] (0) (a0.length) (fun j => True) (fun j => [(5, .view ((14, 2) :: base) (putAll (a0.take j)).length 1 (W.length - (putAll (a0.take j)).length) W.length), (9, i64 j)]) (fun j => Heap.none.put ((14, 2) :: base) (.row (decide (0 < j)) (W.map ib))) ?_ ?_ ?_ ?_ ?_ (by decide) ?_
            · exact (fgt_cons (by simp only [Heap.none_at]) (by (simp -dsimp only [zzB, tys, ite_self, opnL, callB, readsB, stepOp, ofVal, opBuiltin, opLen, PV.sk, scalBin, scalUn, intBin, opLoad, natOf, opConvert, opField, cellsP, oneP, Value.oneCell', opStore, toIV, scalT, scalA, scalC, boxesA, boxesC, zipB_none, zipB_mx, isZ, opZip, zeroP, opAppendZ, opMakeMap, opLookup, mboxB, opUpdate, ↓reduceIte, Nat.reduceSub, Nat.reduceEqDiff, Nat.reduceAdd, Nat.reduceMul, Nat.reduceLT, Nat.reduceLeDiff, Int.reduceToNat, Int.reduceLE, Int.reduceLT, Int.reduceNeg, reduceCtorEq, notIn_cons, notIn_nil]) <;> simp [refsL, refsP, mem_refs_rowP]) (by repeat (first | exact noVar_none _ | refine noVar_row ?_ | refine noVar_map ?_ | refine noVar_rowH ?_ | refine noVar_var ?_ (by simp [refsL, refsP, mem_refs_rowP]))) (fgt_nil))
            · ((simp -dsimp (disch := omega) only [simx, zzB, tys, ite_self, opnL, callB, readsB, stepOp, ofVal, opBuiltin, opLen, PV.sk, scalBin, scalUn, intBin, opLoad, natOf, opConvert, opField, cellsP, oneP, Value.oneCell', opStore, toIV, scalT, scalA, scalC, boxesA, boxesC, zipB_none, zipB_mx, isZ, opZip, zeroP, opAppendZ, opMakeMap, opLookup, mboxB, opUpdate, ↓reduceIte, Nat.reduceSub, Nat.reduceEqDiff, Nat.reduceAdd, Nat.reduceMul, Nat.reduceLT, Nat.reduceLeDiff, Int.reduceToNat, Int.reduceLE, Int.reduceLT, Int.reduceNeg, reduceCtorEq, gos, Int.reduceAdd, Int.reduceSub, Int.reduceMul, Int.reduceEq]) <;> first | rfl | simp [of0, Nat.sub_zero])
            · funext c
              simp (maxSteps := 20000000) only [Heap.drop_at, rowH_app, Heap.put_at, Heap.none_at, List.mem_cons, List.not_mem_nil, or_false]
              by_cases e0 : c = (14, 2) :: base
              · subst e0; simp []
              by_cases e1 : c = (19, 6) :: base
              · subst e1; simp []
              simp [e0, e1]
            · omega
            · trivial
            · intro j hj _
              have o1 := hoff' j hj
              by_cases cj : j < a0.length
              · obtain ⟨y, t, e1, e2, e3, e4, e5, e6, e7⟩ := hoff j cj
                have e8 : W.drop (putAll (a0.take j)).length = putF y ++ (t ++ a1) := by rw [hW, e3, List.append_assoc, List.append_assoc, List.drop_left' rfl]
                have nk := next_of (next_put (t := t ++ a1) e2.1 e5.n e5.b)
                have dn := next_walk (W.drop (putAll (a0.take j)).length) (by rw [List.length_drop, mx_len]; omega) (hWb.drop _)
                rw [e8] at dn
                unfold putF at dn
                rw [nk] at dn
                have e9 : (putB y.1 y.2.1 y.2.2.1 y.2.2.2 ++ (t ++ a1)).length = W.length - (putAll (a0.take j)).length := by rw [← List.length_drop, e8]; rfl
                have e10 : ((W.map ib).drop (putAll (a0.take j)).length).take (W.length - (putAll (a0.take j)).length) = (putB y.1 y.2.1 y.2.2.1 y.2.2.2 ++ (t ++ a1)).map ib := by
                  rw [← List.map_drop, e8, ← e9, List.take_of_length_le (Nat.le_of_eq (by rw [List.length_map]; rfl))]; rfl
                have pl := putF_len y
                have ds := samef_walk y y e5.l
                rw [decide_eq_true rfl] at ds
                have o2 := hoff' (j + 1) cj
                have e11 : (putAll (a0.take (j + 1))).length = (putAll (a0.take j)).length + (12 + 8 * y.2.2.2.length) := by rw [e4, List.length_append, pl]
                rw [e11] at o2
                rw [lb, e9] at dn
                generalize (putB y.1 y.2.1 y.2.2.1 y.2.2.2 ++ (t ++ a1)).map ib = A at dn e10
                generalize (putAll (a0.take j)).length = O at *
                obtain ⟨k, r, n, b⟩ := y
                simp only at e6 dn ds o2 e10 e11 pl
                obtain ⟨m, hm⟩ : ∃ m, m = 12 + 8 * b.length := ⟨_, rfl⟩
                have hm' : (12 : Int) + 8 * (b.length : Int) = (m : Int) := by omega
                have m12 : ¬ (m : Int) < 12 := by omega
                rw [← hm] at dn o2 e11
                have o3 : m ≤ W.length - O := by omega
                have o4 : O + m ≤ W.length := by omega
                have c3 : j * 4 + 3 < (frCs a0).length := by omega
                have c4 : j * 4 + 4 ≤ (frCs a0).length := by omega
                unfold frC at e7
                simp only at e7
                repeat (first | ((first | refine X_call_fn2 rfl (by simp only [tys]) ?_ | refine X_dcall_fn2 rfl (by simp only [tys]) ?_); apply Exists.intro; apply And.intro; (focus (simp -dsimp only [simx, zzC, zzB, tys, ite_self, opnL, callB, readsB, stepOp, ofVal, opBuiltin, opLen, PV.sk, scalBin, scalUn, intBin, opLoad, natOf, opConvert, opField, cellsP, oneP, Value.oneCell', opStore, toIV, scalT, scalA, scalC, boxesA, boxesC, zipB_none, zipB_mx, isZ, opZip, zeroP, opAppendZ, opMakeMap, opLookup, mboxB, opUpdate, ↓reduceIte, Nat.reduceSub, Nat.reduceEqDiff, Nat.reduceAdd, Nat.reduceMul, Nat.reduceLT, Nat.reduceLeDiff, Int.reduceToNat, Int.reduceLE, Int.reduceLT, Int.reduceNeg, reduceCtorEq, zzL, if_true, if_false, e10, List.length_map, Nat.mul_one, Nat.le_refl, Nat.add_sub_cancel' o1] <;> rfl)); apply Exists.intro; apply And.intro; (focus (first | exact dn | exact ds))) | refine ⟨(by show drawK _ _ = true; kernel_rfl : drawX _ _ _), ?_⟩ | exact (by show drawK _ _ = true; kernel_rfl : drawX _ _ _) | simp -dsimp (maxSteps := 20000000) (disch := omega) only [simx, zzC, zzB, tys, ite_self, opnL, callB, readsB, stepOp, ofVal, opBuiltin, opLen, PV.sk, scalBin, scalUn, intBin, opLoad, natOf, opConvert, opField, cellsP, oneP, Value.oneCell', opStore, toIV, scalT, scalA, scalC, boxesA, boxesC, zipB_none, zipB_mx, isZ, opZip, zeroP, opAppendZ, opMakeMap, opLookup, mboxB, opUpdate, ↓reduceIte, Nat.reduceSub, Nat.reduceEqDiff, Nat.reduceAdd, Nat.reduceMul, Nat.reduceLT, Nat.reduceLeDiff, Int.reduceToNat, Int.reduceLE, Int.reduceLT, Int.reduceNeg, reduceCtorEq, gos, Int.reduceAdd, Int.reduceSub, Int.reduceMul, Int.reduceEq, cj, hm', m12, e6, e7, c3, c4, o3, SK.len, Option.isNone_none, Option.map_some, Nat.zero_le, Nat.le_refl, Nat.mul_one])
                refine ⟨cj, (fgt_cons (by simp only [Heap.none_at]) (by (simp -dsimp only [zzB, tys, ite_self, opnL, callB, readsB, stepOp, ofVal, opBuiltin, opLen, PV.sk, scalBin, scalUn, intBin, opLoad, natOf, opConvert, opField, cellsP, oneP, Value.oneCell', opStore, toIV, scalT, scalA, scalC, boxesA, boxesC, zipB_none, zipB_mx, isZ, opZip, zeroP, opAppendZ, opMakeMap, opLookup, mboxB, opUpdate, ↓reduceIte, Nat.reduceSub, Nat.reduceEqDiff, Nat.reduceAdd, Nat.reduceMul, Nat.reduceLT, Nat.reduceLeDiff, Int.reduceToNat, Int.reduceLE, Int.reduceLT, Int.reduceNeg, reduceCtorEq, notIn_cons, notIn_nil]) <;> simp [refsL, refsP, mem_refs_rowP]) (by repeat (first | exact noVar_none _ | refine noVar_row ?_ | refine noVar_map ?_ | refine noVar_rowH ?_ | refine noVar_var ?_ (by simp [refsL, refsP, mem_refs_rowP]))) (fgt_nil)), ?_, ?_⟩
                · rw [e11, Nat.sub_add_eq]; exact ⟨rfl, rfl⟩
                · have hd : decide (0 < j + 1) = true := decide_eq_true (by omega)
                  funext c
                  simp (maxSteps := 20000000) only [Heap.drop_at, rowH_app, Heap.put_at, Heap.none_at, List.mem_cons, List.not_mem_nil, or_false]
                  by_cases e0 : c = (14, 2) :: base
                  · subst e0; simp [hd]
                  by_cases e1 : c = (19, 6) :: base
                  · subst e1; simp [hd]
                  simp [e0, e1, hd]
              · have hj : j = a0.length := by omega
                subst hj
                rw [List.take_length, hbs] at o1 ⊢
                have e12 : W.length - B.length = a1.length := by omega
                rw [e12]
                have e10 : ((W.map ib).drop B.length).take a1.length = a1.map ib := by rw [el, List.take_of_length_le (by simp)]
                repeat (first | ((first | refine X_call_fn2 rfl (by simp only [tys]) ?_ | refine X_dcall_fn2 rfl (by simp only [tys]) ?_); apply Exists.intro; apply And.intro; (focus (simp -dsimp only [simx, zzC, zzB, tys, ite_self, opnL, callB, readsB, stepOp, ofVal, opBuiltin, opLen, PV.sk, scalBin, scalUn, intBin, opLoad, natOf, opConvert, opField, cellsP, oneP, Value.oneCell', opStore, toIV, scalT, scalA, scalC, boxesA, boxesC, zipB_none, zipB_mx, isZ, opZip, zeroP, opAppendZ, opMakeMap, opLookup, mboxB, opUpdate, ↓reduceIte, Nat.reduceSub, Nat.reduceEqDiff, Nat.reduceAdd, Nat.reduceMul, Nat.reduceLT, Nat.reduceLeDiff, Int.reduceToNat, Int.reduceLE, Int.reduceLT, Int.reduceNeg, reduceCtorEq, zzL, if_true, if_false, e10, hWl, Nat.le_refl, List.length_map, Nat.mul_one] <;> rfl)); apply Exists.intro; apply And.intro; (focus (first | exact d))) | refine ⟨(by show drawK _ _ = true; kernel_rfl : drawX _ _ _), ?_⟩ | exact (by show drawK _ _ = true; kernel_rfl : drawX _ _ _) | simp -dsimp (maxSteps := 20000000) (disch := omega) only [simx, zzC, zzB, tys, ite_self, opnL, callB, readsB, stepOp, ofVal, opBuiltin, opLen, PV.sk, scalBin, scalUn, intBin, opLoad, natOf, opConvert, opField, cellsP, oneP, Value.oneCell', opStore, toIV, scalT, scalA, scalC, boxesA, boxesC, zipB_none, zipB_mx, isZ, opZip, zeroP, opAppendZ, opMakeMap, opLookup, mboxB, opUpdate, ↓reduceIte, Nat.reduceSub, Nat.reduceEqDiff, Nat.reduceAdd, Nat.reduceMul, Nat.reduceLT, Nat.reduceLeDiff, Int.reduceToNat, Int.reduceLE, Int.reduceLT, Int.reduceNeg, reduceCtorEq, gos, Int.reduceAdd, Int.reduceSub, Int.reduceMul, Int.reduceEq, beq_self_eq_true, s1])
                rw [opBytes_v (fz := true) (cs := W.map ib) (l := a1) (by simp [Heap.put_at]) (by simp) (by rw [List.length_map]; omega) e10, hsv]
                repeat (first | refine ⟨(by show drawK _ _ = true; kernel_rfl : drawX _ _ _), ?_⟩ | exact (by show drawK _ _ = true; kernel_rfl : drawX _ _ _) | simp -dsimp (maxSteps := 20000000) (disch := omega) only [simx, zzC, zzB, tys, ite_self, opnL, callB, readsB, stepOp, ofVal, opBuiltin, opLen, PV.sk, scalBin, scalUn, intBin, opLoad, natOf, opConvert, opField, cellsP, oneP, Value.oneCell', opStore, toIV, scalT, scalA, scalC, boxesA, boxesC, zipB_none, zipB_mx, isZ, opZip, zeroP, opAppendZ, opMakeMap, opLookup, mboxB, opUpdate, ↓reduceIte, Nat.reduceSub, Nat.reduceEqDiff, Nat.reduceAdd, Nat.reduceMul, Nat.reduceLT, Nat.reduceLeDiff, Int.reduceToNat, Int.reduceLE, Int.reduceLT, Int.reduceNeg, reduceCtorEq, zzR, gos, Int.reduceAdd, Int.reduceSub, Int.reduceMul, Int.reduceEq, beq_self_eq_true, s1])
end Go.Proofs.Ytkhjfphenflefaa.TM
