/- FrameReads: the law, walked. -/
import Derived.Test.YtkhjfphenflefaaWFrmF
namespace Go.Proofs.Ytkhjfphenflefaa.TM
open Go Go.RowKit
set_option linter.unusedVariables false
set_option linter.defProp false
set_option linter.unusedSimpArgs false
attribute [local irreducible] K W WOps Effs Xg Xo Xr Xdg Xdo Xdr Xif CallsP CallR

theorem u16_of {a : Int} (h : (Lit.int .u16 a).wf = true) : 0 ≤ a ∧ a < 65536 := by
  have := wf_iff.1 h
  simp [IntKind.min, IntKind.max, IntKind.bits, IntKind.signed] at this
  omega
theorem byts_of {l : List Int} (h : ∀ a ∈ l, (Lit.int .u8 a).wf = true) : Byts l := fun a ha => u8_of (h a ha)
theorem bodyN_w64 {b : List Int} (hb : Byts b) {n : Nat} (h : 9 + 8 * n ≤ b.length) : ∀ a ∈ bodyN b n, W64 a := fun a ha => by
  unfold bodyN at ha
  obtain ⟨i, hi, rfl⟩ := List.mem_map.1 ha
  have hi := List.mem_range.1 hi
  have := ofL_bd 8 (slc_len (b := b) (i := 9 + 8 * i) (n := 8) (by omega)) (slc_byts hb _ _)
  rw [show p256 8 = 18446744073709551616 by decide] at this
  exact this
set_option maxHeartbeats 4000000 in
set_option maxRecDepth 20000 in
theorem frameReads_true (a0 : List Int) (a1 : Int) (w0 : (a0.length ≤ maxLen ∧ ∀ e63_ ∈ a0, (Lit.int .u8 e63_).wf = true)) (w1 : (Lit.int .u16 a1).wf = true) : CallsP Try.prog 9 [.i (IV.l a0.length (a0.map fun y => IV.v (.int .u8 y))), .i (IV.v (.int .u16 a1))] (bl true) := by
  have aw := awake11_walk
  have hb := byts_of w0.2
  have c0 := u16_of w1
  change CallsP _ _ [lb a0, .i (IV.v (.int .u16 a1))] _
  by_cases h1 : 3000 < a0.length
  · have h1' : (3000 : Int) < a0.length := by omega
    refine X_startP (n := 66) (m := 2) (rs := [.tmp 4]) Try.func9 rfl rfl rfl rfl (by decide) fun base => ?_
    repeat (first | ((first | refine X_call_fn2 rfl (by simp only [tys]) ?_ | refine X_dcall_fn2 rfl (by simp only [tys]) ?_); apply Exists.intro; apply And.intro; (focus (simp -dsimp only [simx, zzC, zzB, tys, ite_self, opnL, callB, readsB, stepOp, ofVal, opBuiltin, opLen, PV.sk, scalBin, scalUn, intBin, opLoad, natOf, opConvert, opField, cellsP, oneP, Value.oneCell', opStore, toIV, scalT, scalA, scalC, boxesA, boxesC, zipB_none, zipB_mx, isZ, opZip, zeroP, opAppendZ, opMakeMap, opLookup, mboxB, opUpdate, ↓reduceIte, Nat.reduceSub, Nat.reduceEqDiff, Nat.reduceAdd, Nat.reduceMul, Nat.reduceLT, Nat.reduceLeDiff, Int.reduceToNat, Int.reduceLE, Int.reduceLT, Int.reduceNeg, reduceCtorEq, zzL, if_true, if_false] <;> rfl)); apply Exists.intro; apply And.intro; (focus (first | exact aw))) | refine ⟨(by show drawK _ _ = true; kernel_rfl : drawX _ _ _), ?_⟩ | exact (by show drawK _ _ = true; kernel_rfl : drawX _ _ _) | simp -dsimp (maxSteps := 20000000) (disch := omega) only [simx, zzC, zzB, tys, ite_self, opnL, callB, readsB, stepOp, ofVal, opBuiltin, opLen, PV.sk, scalBin, scalUn, intBin, opLoad, natOf, opConvert, opField, cellsP, oneP, Value.oneCell', opStore, toIV, scalT, scalA, scalC, boxesA, boxesC, zipB_none, zipB_mx, isZ, opZip, zeroP, opAppendZ, opMakeMap, opLookup, mboxB, opUpdate, ↓reduceIte, Nat.reduceSub, Nat.reduceEqDiff, Nat.reduceAdd, Nat.reduceMul, Nat.reduceLT, Nat.reduceLeDiff, Int.reduceToNat, Int.reduceLE, Int.reduceLT, Int.reduceNeg, reduceCtorEq, zzR, gos, Int.reduceAdd, Int.reduceSub, Int.reduceMul, Int.reduceEq, h1'])
  · have h1' : ¬ (3000 : Int) < a0.length := by omega
    have d1 := next_walk a0 w0.1 hb
    rcases next_cases a0 with ⟨e, he, hq⟩ | ⟨f, m, hq, o⟩
    · rw [hq] at d1
      have d2 := samef_walk fr0 fr0 (by decide)
      rw [decide_eq_true rfl] at d2
      refine X_startP (n := 66) (m := 2) (rs := [.tmp 4]) Try.func9 rfl rfl rfl rfl (by decide) fun base => ?_
      repeat (first | ((first | refine X_call_fn2 rfl (by simp only [tys]) ?_ | refine X_dcall_fn2 rfl (by simp only [tys]) ?_); apply Exists.intro; apply And.intro; (focus (simp -dsimp only [simx, zzC, zzB, tys, ite_self, opnL, callB, readsB, stepOp, ofVal, opBuiltin, opLen, PV.sk, scalBin, scalUn, intBin, opLoad, natOf, opConvert, opField, cellsP, oneP, Value.oneCell', opStore, toIV, scalT, scalA, scalC, boxesA, boxesC, zipB_none, zipB_mx, isZ, opZip, zeroP, opAppendZ, opMakeMap, opLookup, mboxB, opUpdate, ↓reduceIte, Nat.reduceSub, Nat.reduceEqDiff, Nat.reduceAdd, Nat.reduceMul, Nat.reduceLT, Nat.reduceLeDiff, Int.reduceToNat, Int.reduceLE, Int.reduceLT, Int.reduceNeg, reduceCtorEq, zzL, if_true, if_false] <;> rfl)); apply Exists.intro; apply And.intro; (focus (first | exact aw | exact d1 | exact d2))) | refine ⟨(by show drawK _ _ = true; kernel_rfl : drawX _ _ _), ?_⟩ | exact (by show drawK _ _ = true; kernel_rfl : drawX _ _ _) | simp -dsimp (maxSteps := 20000000) (disch := omega) only [simx, zzC, zzB, tys, ite_self, opnL, callB, readsB, stepOp, ofVal, opBuiltin, opLen, PV.sk, scalBin, scalUn, intBin, opLoad, natOf, opConvert, opField, cellsP, oneP, Value.oneCell', opStore, toIV, scalT, scalA, scalC, boxesA, boxesC, zipB_none, zipB_mx, isZ, opZip, zeroP, opAppendZ, opMakeMap, opLookup, mboxB, opUpdate, ↓reduceIte, Nat.reduceSub, Nat.reduceEqDiff, Nat.reduceAdd, Nat.reduceMul, Nat.reduceLT, Nat.reduceLeDiff, Int.reduceToNat, Int.reduceLE, Int.reduceLT, Int.reduceNeg, reduceCtorEq, zzR, gos, Int.reduceAdd, Int.reduceSub, Int.reduceMul, Int.reduceEq, h1', he])
    · rw [hq] at d1
      have hf := o.fr
      have yl : f.2.2.2.length = manyN a0 := by rw [hf]; simp [bodyN]
      have hm9 := o.many
      have hm1 := o.m1
      have hml := o.len
      have o3 := ofL_bd 4 (slc_len (b := a0) (i := 3) (n := 4) (by omega)) (slc_byts hb _ _)
      rw [show p256 4 = 4294967296 by decide] at o3
      have d2 := put_walk f.1 f.2.1 f.2.2.1 f.2.2.2 (by rw [hf]; exact o3) (by rw [hf]; exact bodyN_w64 hb (by omega))
      rw [put_of hb o] at d2
      obtain ⟨C, rfl⟩ := Int.eq_ofNat_of_zero_le c0.1
      have m0 : 0 < m := by omega
      have cm : C % m < m := Nat.mod_lt _ m0
      have d3 := next_walk (a0.take (C % m)) (by rw [List.length_take, mx_len]; omega) (hb.take _)
      rw [next_cut o cm] at d3
      have tl : (a0.take m).length = m := by rw [List.length_take]; omega
      have tl3 : (a0.take (C % m)).length = C % m := by rw [List.length_take]; omega
      rw [lb, tl3, List.map_take] at d3
      have s1 : ∀ h, opBytes Try.prog h 5 (.i (.l m ((a0.take m).map ib))) = some (.i (.v (str (a0.take m)))) := fun h => opBytes_lb tl
      rw [List.map_take] at s1
      simp only [lb, tl, List.map_take] at d2
      have c1 : IntKind.i64.wrap (C : Int) = C := iw_of (by omega) (by omega)
      have c2 : (C : Int) % (m : Int) = ((C % m : Nat) : Int) := rfl
      have c3 : ¬ (m : Int) = 0 := by omega
      have cml : C % m ≤ a0.length := by omega
      generalize C % m = c at cm d3 c2 cml
      obtain ⟨sv, hsv⟩ : ∃ sv, str (a0.take m) = .string sv := ⟨_, rfl⟩
      rw [hsv] at s1
      generalize ha : (a0.map ib).take m = A at d2 s1
      clear hf hq o hm9 hm1 tl tl3 yl o3
      refine X_startP (n := 66) (m := 2) (rs := [.tmp 4]) Try.func9 rfl rfl rfl rfl (by decide) fun base => ?_
      repeat (first | ((first | refine X_call_fn2 rfl (by simp only [tys]) ?_ | refine X_dcall_fn2 rfl (by simp only [tys]) ?_); apply Exists.intro; apply And.intro; (focus (simp -dsimp only [simx, zzC, zzB, tys, ite_self, opnL, callB, readsB, stepOp, ofVal, opBuiltin, opLen, PV.sk, scalBin, scalUn, intBin, opLoad, natOf, opConvert, opField, cellsP, oneP, Value.oneCell', opStore, toIV, scalT, scalA, scalC, boxesA, boxesC, zipB_none, zipB_mx, isZ, opZip, zeroP, opAppendZ, opMakeMap, opLookup, mboxB, opUpdate, ↓reduceIte, Nat.reduceSub, Nat.reduceEqDiff, Nat.reduceAdd, Nat.reduceMul, Nat.reduceLT, Nat.reduceLeDiff, Int.reduceToNat, Int.reduceLE, Int.reduceLT, Int.reduceNeg, reduceCtorEq, zzL, if_true, if_false] <;> rfl)); apply Exists.intro; apply And.intro; (focus (first | exact aw | exact d1 | exact d2 | exact d3))) | refine ⟨(by show drawK _ _ = true; kernel_rfl : drawX _ _ _), ?_⟩ | exact (by show drawK _ _ = true; kernel_rfl : drawX _ _ _) | simp -dsimp (maxSteps := 20000000) (disch := omega) only [simx, zzC, zzB, tys, ite_self, opnL, callB, readsB, stepOp, ofVal, opBuiltin, opLen, PV.sk, scalBin, scalUn, intBin, opLoad, natOf, opConvert, opField, cellsP, oneP, Value.oneCell', opStore, toIV, scalT, scalA, scalC, boxesA, boxesC, zipB_none, zipB_mx, isZ, opZip, zeroP, opAppendZ, opMakeMap, opLookup, mboxB, opUpdate, ↓reduceIte, Nat.reduceSub, Nat.reduceEqDiff, Nat.reduceAdd, Nat.reduceMul, Nat.reduceLT, Nat.reduceLeDiff, Int.reduceToNat, Int.reduceLE, Int.reduceLT, Int.reduceNeg, reduceCtorEq, zzR, gos, Int.reduceAdd, Int.reduceSub, Int.reduceMul, Int.reduceEq, h1', beq_self_eq_true, s1, ha, c1, c2, c3, cml, hml, List.length_map, Nat.zero_le, Nat.sub_zero])
end Go.Proofs.Ytkhjfphenflefaa.TM
