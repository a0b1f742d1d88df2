/- math/bits: Mul64, Len64, LeadingZeros64, walked. -/
import Derived.Test.YtkhjfphenflefaaWWords
namespace Go.Proofs.Ytkhjfphenflefaa.TM
open Go Go.RowKit
set_option linter.unusedVariables false
set_option linter.defProp false
set_option linter.unusedSimpArgs false


theorem mul64_eq (a b : Int) (ha : 0 ≤ a) (ha' : a < 18446744073709551616) (hb : 0 ≤ b) (hb' : b < 18446744073709551616) :
    IntKind.u64.wrap (IntKind.u64.wrap (IntKind.u64.wrap (a / 4294967296 * (b / 4294967296)) + IntKind.u64.wrap (IntKind.u64.wrap (a / 4294967296 * (b % 4294967296)) + IntKind.u64.wrap (a % 4294967296 * (b % 4294967296)) / 4294967296) / 4294967296) + IntKind.u64.wrap (Go.bits .and .u64 (IntKind.u64.wrap (IntKind.u64.wrap (a / 4294967296 * (b % 4294967296)) + IntKind.u64.wrap (a % 4294967296 * (b % 4294967296)) / 4294967296)) 4294967295 + IntKind.u64.wrap (a % 4294967296 * (b / 4294967296))) / 4294967296) = a * b / 18446744073709551616 := by
  obtain ⟨a1, ea1⟩ : ∃ z, z = a / 4294967296 := ⟨_, rfl⟩
  obtain ⟨a0, ea0⟩ : ∃ z, z = a % 4294967296 := ⟨_, rfl⟩
  obtain ⟨b1, eb1⟩ : ∃ z, z = b / 4294967296 := ⟨_, rfl⟩
  obtain ⟨b0, eb0⟩ : ∃ z, z = b % 4294967296 := ⟨_, rfl⟩
  rw [← ea1, ← ea0, ← eb1, ← eb0]
  have hab : a * b = a1 * b1 * 18446744073709551616 + (a1 * b0 + a0 * b1) * 4294967296 + a0 * b0 := by
    have h1 : a = a1 * 4294967296 + a0 := by omega
    have h2 : b = b1 * 4294967296 + b0 := by omega
    rw [h1, h2]; grind
  have c11 := mul_bd (a := a1) (b := b1) (m := 4294967295) (n := 4294967295) (by omega) (by omega) (by omega) (by omega)
  have c10 := mul_bd (a := a1) (b := b0) (m := 4294967295) (n := 4294967295) (by omega) (by omega) (by omega) (by omega)
  have c01 := mul_bd (a := a0) (b := b1) (m := 4294967295) (n := 4294967295) (by omega) (by omega) (by omega) (by omega)
  have c00 := mul_bd (a := a0) (b := b0) (m := 4294967295) (n := 4294967295) (by omega) (by omega) (by omega) (by omega)
  rw [hab]
  generalize a1 * b1 = p11 at *
  generalize a1 * b0 = p10 at *
  generalize a0 * b1 = p01 at *
  generalize a0 * b0 = p00 at *
  clear hab ea1 ea0 eb1 eb0
  rw [uw_of (n := p11) (by omega) (by omega), uw_of (n := p10) (by omega) (by omega), uw_of (n := p00) (by omega) (by omega), uw_of (n := p01) (by omega) (by omega)]
  rw [uw_of (n := p10 + p00 / 4294967296) (by omega) (by omega), and32 (by omega) (by omega)]
  rw [uw_of (n := p11 + (p10 + p00 / 4294967296) / 4294967296) (by omega) (by omega), uw_of (n := (p10 + p00 / 4294967296) % 4294967296 + p01) (by omega) (by omega)]
  rw [uw_of (by omega) (by omega)]
  omega
theorem mul64_walk (a b : Int) (ha : W64 a) (hb : W64 b) : CallsP Try.prog 76 [u64 a, u64 b] (.tup [u64 (a * b / 18446744073709551616), u64 (a * b % 18446744073709551616)]) := by
  have e := mul64_eq a b ha.1 ha.2 hb.1 hb.2
  have e1 := and32 ha.1 ha.2
  have e2 := and32 hb.1 hb.2
  refine CallsP.start (n := 51) (rs := [.tmp 4, .tmp 5]) Try.func76 rfl rfl rfl fun base => ?_
  simp (maxSteps := 20000000) only [List.length_cons, List.length_nil, Nat.reduceAdd, Nat.reduceSub, List.replicate, List.cons_append, List.nil_append]
  simp (maxSteps := 20000000) (disch := omega) only [zzB, tys, ite_self, opnL, callB, readsB, stepOp, ofVal, opBuiltin, opLen, PV.sk, scalBin, scalUn, intBin, opLoad, natOf, opConvert, opField, cellsP, oneP, Value.oneCell', opStore, toIV, scalT, scalA, scalC, boxesA, boxesC, zipB_none, zipB_mx, isZ, opZip, zeroP, opAppendZ, opMakeMap, opLookup, mboxB, opUpdate, ↓reduceIte, Nat.reduceSub, Nat.reduceEqDiff, Nat.reduceAdd, Nat.reduceMul, Nat.reduceLT, Nat.reduceLeDiff, Int.reduceToNat, Int.reduceLE, Int.reduceLT, Int.reduceNeg, reduceCtorEq, zzR, gos, Int.reduceAdd, Int.reduceSub, Int.reduceMul, Int.reduceEq, shr32, e1, e2, e, uw (a * b)]

/-! ### how many bits -/
def tab : ByteArray := ⟨#[0, 1, 2, 2, 3, 3, 3, 3, 4, 4, 4, 4, 4, 4, 4, 4, 5, 5, 5, 5, 5, 5, 5, 5, 5, 5, 5, 5, 5, 5, 5, 5, 6, 6, 6, 6, 6, 6, 6, 6, 6, 6, 6, 6, 6, 6, 6, 6, 6, 6, 6, 6, 6, 6, 6, 6, 6, 6, 6, 6, 6, 6, 6, 6, 7, 7, 7, 7, 7, 7, 7, 7, 7, 7, 7, 7, 7, 7, 7, 7, 7, 7, 7, 7, 7, 7, 7, 7, 7, 7, 7, 7, 7, 7, 7, 7, 7, 7, 7, 7, 7, 7, 7, 7, 7, 7, 7, 7, 7, 7, 7, 7, 7, 7, 7, 7, 7, 7, 7, 7, 7, 7, 7, 7, 7, 7, 7, 7, 8, 8, 8, 8, 8, 8, 8, 8, 8, 8, 8, 8, 8, 8, 8, 8, 8, 8, 8, 8, 8, 8, 8, 8, 8, 8, 8, 8, 8, 8, 8, 8, 8, 8, 8, 8, 8, 8, 8, 8, 8, 8, 8, 8, 8, 8, 8, 8, 8, 8, 8, 8, 8, 8, 8, 8, 8, 8, 8, 8, 8, 8, 8, 8, 8, 8, 8, 8, 8, 8, 8, 8, 8, 8, 8, 8, 8, 8, 8, 8, 8, 8, 8, 8, 8, 8, 8, 8, 8, 8, 8, 8, 8, 8, 8, 8, 8, 8, 8, 8, 8, 8, 8, 8, 8, 8, 8, 8, 8, 8, 8, 8, 8, 8, 8, 8, 8, 8, 8, 8, 8, 8, 8, 8, 8, 8, 8, 8]⟩
theorem tab_all : ∀ i : Fin 256, 1 ≤ i.val → 1 ≤ tab.data.toList.getD i.val 0 ∧ (tab.data.toList.getD i.val 0).toNat ≤ 8 ∧ 2 ^ ((tab.data.toList.getD i.val 0).toNat - 1) ≤ i.val ∧ i.val < 2 ^ (tab.data.toList.getD i.val 0).toNat := by decide +kernel
theorem tab_size : tab.size = 256 := by decide +kernel
theorem tab_bt (i : Nat) (h1 : 1 ≤ i) (h : i < 256) : ∃ n : Nat, (tab.data.toList.getD i 0).toNat = n ∧ 1 ≤ n ∧ n ≤ 8 ∧ 2 ^ (n - 1) ≤ i ∧ i < 2 ^ n := by
  obtain ⟨h2, h3, h4, h5⟩ := tab_all ⟨i, h⟩ h1
  refine ⟨(tab.data.toList.getD i 0).toNat, rfl, ?_, h3, h4, h5⟩
  · have := UInt8.le_iff_toNat_le.1 h2
    simpa using this


theorem idx_tab {P : Program} {t : TypeId} {s : ByteArray} {i : Int} (ht : tkB P t = some .str) (hs : s = tab) (h0 : 0 ≤ i) (h1 : i < 256) : Option.map (fun v => (⟨v, []⟩ : Out)) (opIndex P t (.i (.v (.string s))) (.i (.v (.int .u8 i)))) = some ⟨.i (.v (.int .u8 (tab.data.toList.getD i.toNat 0).toNat)), []⟩ := by
  subst hs
  unfold opIndex
  rw [ht]
  have h2 : i.toNat < tab.size := by rw [tab_size]; omega
  simp only [natOf, h0, if_true, h2, dif_pos, Option.map_some]
  congr 6
  rw [List.getD_eq_getElem?_getD, List.getElem?_eq_getElem (show i.toNat < tab.data.toList.length from h2)]
  rfl
theorem u8_mod (x : Int) : IntKind.u8.wrap x = x % 256 := by simp [IntKind.wrap, IntKind.bits, IntKind.signed]
theorem len_end (x : Nat) (m : Nat) (h0 : 1 ≤ x / 2 ^ m) (h1 : x / 2 ^ m < 256) : ∃ n : Nat, (tab.data.toList.getD (x / 2 ^ m) 0).toNat = n ∧ 1 ≤ n ∧ n ≤ 8 ∧ 2 ^ (m + n - 1) ≤ x ∧ x < 2 ^ (m + n) := by
  obtain ⟨n, hb, g1, g2, g3, g4⟩ := tab_bt (x / 2 ^ m) h0 h1
  refine ⟨n, hb, g1, g2, ?_, ?_⟩
  · have : m + n - 1 = (n - 1) + m := by omega
    rw [this, Nat.pow_add]
    exact (Nat.le_div_iff_mul_le (Nat.two_pow_pos m)).1 g3
  · have : m + n = n + m := by omega
    rw [this, Nat.pow_add]
    exact (Nat.div_lt_iff_lt_mul (Nat.two_pow_pos m)).1 g4
set_option maxRecDepth 10000 in
theorem len64_000 (x : Nat) (hx : x < 18446744073709551616) (h0 : 1 ≤ x) (c0 : ¬ 4294967296 ≤ (x : Int)) (c1 : ¬ 65536 ≤ (x : Int)) (c2 : ¬ 256 ≤ (x : Int)) : ∃ n : Nat, CallsP Try.prog 81 [u64 x] (i64 n) ∧ 1 ≤ n ∧ n ≤ 64 ∧ 2 ^ (n - 1) ≤ x ∧ x < 2 ^ n := by
  obtain ⟨n, hb, g1, g2, g3, g4⟩ := len_end x 0 (by omega) (by omega)
  refine ⟨0 + n, ?_, by omega, by omega, g3, g4⟩
  have e : ((x : Int)).toNat = x / 2 ^ 0 := by omega
  refine CallsP.start (n := 25) (rs := [.tmp 2]) Try.func81 rfl rfl rfl fun base => ?_
  simp (maxSteps := 20000000) only [List.length_cons, List.length_nil, Nat.reduceAdd, Nat.reduceSub, List.replicate, List.cons_append, List.nil_append]
  simp (maxSteps := 20000000) (disch := omega) only [zzB, tys, ite_self, opnL, callB, readsB, stepOp, ofVal, opBuiltin, opLen, PV.sk, scalBin, scalUn, intBin, opLoad, natOf, opConvert, opField, cellsP, oneP, Value.oneCell', opStore, toIV, scalT, scalA, scalC, boxesA, boxesC, zipB_none, zipB_mx, isZ, opZip, zeroP, opAppendZ, opMakeMap, opLookup, mboxB, opUpdate, ↓reduceIte, Nat.reduceSub, Nat.reduceEqDiff, Nat.reduceAdd, Nat.reduceMul, Nat.reduceLT, Nat.reduceLeDiff, Int.reduceToNat, Int.reduceLE, Int.reduceLT, Int.reduceNeg, reduceCtorEq, gos, Int.reduceAdd, Int.reduceSub, Int.reduceMul, Int.reduceEq, c0, c1, c2, u8_mod]
  rw [show ((x : Int)) % 256 = (x : Int) by omega]
  refine Kres_eq (idx_tab (by simp only [tys]) (by kernel_rfl) (by omega) (by omega)) ?_
  rw [e, hb]
  simp (maxSteps := 20000000) (disch := omega) only [zzB, tys, ite_self, opnL, callB, readsB, stepOp, ofVal, opBuiltin, opLen, PV.sk, scalBin, scalUn, intBin, opLoad, natOf, opConvert, opField, cellsP, oneP, Value.oneCell', opStore, toIV, scalT, scalA, scalC, boxesA, boxesC, zipB_none, zipB_mx, isZ, opZip, zeroP, opAppendZ, opMakeMap, opLookup, mboxB, opUpdate, ↓reduceIte, Nat.reduceSub, Nat.reduceEqDiff, Nat.reduceAdd, Nat.reduceMul, Nat.reduceLT, Nat.reduceLeDiff, Int.reduceToNat, Int.reduceLE, Int.reduceLT, Int.reduceNeg, reduceCtorEq, gos, Int.reduceAdd, Int.reduceSub, Int.reduceMul, Int.reduceEq]
  rw [show ((0 : Int) + (n : Int)) = ((0 + n : Nat) : Int) by omega]
  all_goals simp (maxSteps := 20000000) (disch := omega) only [zzB, tys, ite_self, opnL, callB, readsB, stepOp, ofVal, opBuiltin, opLen, PV.sk, scalBin, scalUn, intBin, opLoad, natOf, opConvert, opField, cellsP, oneP, Value.oneCell', opStore, toIV, scalT, scalA, scalC, boxesA, boxesC, zipB_none, zipB_mx, isZ, opZip, zeroP, opAppendZ, opMakeMap, opLookup, mboxB, opUpdate, ↓reduceIte, Nat.reduceSub, Nat.reduceEqDiff, Nat.reduceAdd, Nat.reduceMul, Nat.reduceLT, Nat.reduceLeDiff, Int.reduceToNat, Int.reduceLE, Int.reduceLT, Int.reduceNeg, reduceCtorEq, zzR, gos, Int.reduceAdd, Int.reduceSub, Int.reduceMul, Int.reduceEq]
set_option maxRecDepth 10000 in
theorem len64_001 (x : Nat) (hx : x < 18446744073709551616) (h0 : 1 ≤ x) (c0 : ¬ 4294967296 ≤ (x : Int)) (c1 : ¬ 65536 ≤ (x : Int)) (c2 : 256 ≤ (x : Int)) : ∃ n : Nat, CallsP Try.prog 81 [u64 x] (i64 n) ∧ 1 ≤ n ∧ n ≤ 64 ∧ 2 ^ (n - 1) ≤ x ∧ x < 2 ^ n := by
  obtain ⟨n, hb, g1, g2, g3, g4⟩ := len_end x 8 (by omega) (by omega)
  refine ⟨8 + n, ?_, by omega, by omega, g3, g4⟩
  have e : ((x : Int) / 256).toNat = x / 2 ^ 8 := by omega
  refine CallsP.start (n := 25) (rs := [.tmp 2]) Try.func81 rfl rfl rfl fun base => ?_
  simp (maxSteps := 20000000) only [List.length_cons, List.length_nil, Nat.reduceAdd, Nat.reduceSub, List.replicate, List.cons_append, List.nil_append]
  simp (maxSteps := 20000000) (disch := omega) only [zzB, tys, ite_self, opnL, callB, readsB, stepOp, ofVal, opBuiltin, opLen, PV.sk, scalBin, scalUn, intBin, opLoad, natOf, opConvert, opField, cellsP, oneP, Value.oneCell', opStore, toIV, scalT, scalA, scalC, boxesA, boxesC, zipB_none, zipB_mx, isZ, opZip, zeroP, opAppendZ, opMakeMap, opLookup, mboxB, opUpdate, ↓reduceIte, Nat.reduceSub, Nat.reduceEqDiff, Nat.reduceAdd, Nat.reduceMul, Nat.reduceLT, Nat.reduceLeDiff, Int.reduceToNat, Int.reduceLE, Int.reduceLT, Int.reduceNeg, reduceCtorEq, gos, Int.reduceAdd, Int.reduceSub, Int.reduceMul, Int.reduceEq, c0, c1, c2, u8_mod]
  rw [show ((x : Int) / 256) % 256 = (x : Int) / 256 by omega]
  refine Kres_eq (idx_tab (by simp only [tys]) (by kernel_rfl) (by omega) (by omega)) ?_
  rw [e, hb]
  simp (maxSteps := 20000000) (disch := omega) only [zzB, tys, ite_self, opnL, callB, readsB, stepOp, ofVal, opBuiltin, opLen, PV.sk, scalBin, scalUn, intBin, opLoad, natOf, opConvert, opField, cellsP, oneP, Value.oneCell', opStore, toIV, scalT, scalA, scalC, boxesA, boxesC, zipB_none, zipB_mx, isZ, opZip, zeroP, opAppendZ, opMakeMap, opLookup, mboxB, opUpdate, ↓reduceIte, Nat.reduceSub, Nat.reduceEqDiff, Nat.reduceAdd, Nat.reduceMul, Nat.reduceLT, Nat.reduceLeDiff, Int.reduceToNat, Int.reduceLE, Int.reduceLT, Int.reduceNeg, reduceCtorEq, gos, Int.reduceAdd, Int.reduceSub, Int.reduceMul, Int.reduceEq]
  rw [show ((8 : Int) + (n : Int)) = ((8 + n : Nat) : Int) by omega]
  all_goals simp (maxSteps := 20000000) (disch := omega) only [zzB, tys, ite_self, opnL, callB, readsB, stepOp, ofVal, opBuiltin, opLen, PV.sk, scalBin, scalUn, intBin, opLoad, natOf, opConvert, opField, cellsP, oneP, Value.oneCell', opStore, toIV, scalT, scalA, scalC, boxesA, boxesC, zipB_none, zipB_mx, isZ, opZip, zeroP, opAppendZ, opMakeMap, opLookup, mboxB, opUpdate, ↓reduceIte, Nat.reduceSub, Nat.reduceEqDiff, Nat.reduceAdd, Nat.reduceMul, Nat.reduceLT, Nat.reduceLeDiff, Int.reduceToNat, Int.reduceLE, Int.reduceLT, Int.reduceNeg, reduceCtorEq, zzR, gos, Int.reduceAdd, Int.reduceSub, Int.reduceMul, Int.reduceEq]
set_option maxRecDepth 10000 in
theorem len64_010 (x : Nat) (hx : x < 18446744073709551616) (h0 : 1 ≤ x) (c0 : ¬ 4294967296 ≤ (x : Int)) (c1 : 65536 ≤ (x : Int)) (c2 : ¬ 256 ≤ (x : Int) / 65536) : ∃ n : Nat, CallsP Try.prog 81 [u64 x] (i64 n) ∧ 1 ≤ n ∧ n ≤ 64 ∧ 2 ^ (n - 1) ≤ x ∧ x < 2 ^ n := by
  obtain ⟨n, hb, g1, g2, g3, g4⟩ := len_end x 16 (by omega) (by omega)
  refine ⟨16 + n, ?_, by omega, by omega, g3, g4⟩
  have e : ((x : Int) / 65536).toNat = x / 2 ^ 16 := by omega
  refine CallsP.start (n := 25) (rs := [.tmp 2]) Try.func81 rfl rfl rfl fun base => ?_
  simp (maxSteps := 20000000) only [List.length_cons, List.length_nil, Nat.reduceAdd, Nat.reduceSub, List.replicate, List.cons_append, List.nil_append]
  simp (maxSteps := 20000000) (disch := omega) only [zzB, tys, ite_self, opnL, callB, readsB, stepOp, ofVal, opBuiltin, opLen, PV.sk, scalBin, scalUn, intBin, opLoad, natOf, opConvert, opField, cellsP, oneP, Value.oneCell', opStore, toIV, scalT, scalA, scalC, boxesA, boxesC, zipB_none, zipB_mx, isZ, opZip, zeroP, opAppendZ, opMakeMap, opLookup, mboxB, opUpdate, ↓reduceIte, Nat.reduceSub, Nat.reduceEqDiff, Nat.reduceAdd, Nat.reduceMul, Nat.reduceLT, Nat.reduceLeDiff, Int.reduceToNat, Int.reduceLE, Int.reduceLT, Int.reduceNeg, reduceCtorEq, gos, Int.reduceAdd, Int.reduceSub, Int.reduceMul, Int.reduceEq, c0, c1, c2, u8_mod]
  rw [show ((x : Int) / 65536) % 256 = (x : Int) / 65536 by omega]
  refine Kres_eq (idx_tab (by simp only [tys]) (by kernel_rfl) (by omega) (by omega)) ?_
  rw [e, hb]
  simp (maxSteps := 20000000) (disch := omega) only [zzB, tys, ite_self, opnL, callB, readsB, stepOp, ofVal, opBuiltin, opLen, PV.sk, scalBin, scalUn, intBin, opLoad, natOf, opConvert, opField, cellsP, oneP, Value.oneCell', opStore, toIV, scalT, scalA, scalC, boxesA, boxesC, zipB_none, zipB_mx, isZ, opZip, zeroP, opAppendZ, opMakeMap, opLookup, mboxB, opUpdate, ↓reduceIte, Nat.reduceSub, Nat.reduceEqDiff, Nat.reduceAdd, Nat.reduceMul, Nat.reduceLT, Nat.reduceLeDiff, Int.reduceToNat, Int.reduceLE, Int.reduceLT, Int.reduceNeg, reduceCtorEq, gos, Int.reduceAdd, Int.reduceSub, Int.reduceMul, Int.reduceEq]
  rw [show ((16 : Int) + (n : Int)) = ((16 + n : Nat) : Int) by omega]
  all_goals simp (maxSteps := 20000000) (disch := omega) only [zzB, tys, ite_self, opnL, callB, readsB, stepOp, ofVal, opBuiltin, opLen, PV.sk, scalBin, scalUn, intBin, opLoad, natOf, opConvert, opField, cellsP, oneP, Value.oneCell', opStore, toIV, scalT, scalA, scalC, boxesA, boxesC, zipB_none, zipB_mx, isZ, opZip, zeroP, opAppendZ, opMakeMap, opLookup, mboxB, opUpdate, ↓reduceIte, Nat.reduceSub, Nat.reduceEqDiff, Nat.reduceAdd, Nat.reduceMul, Nat.reduceLT, Nat.reduceLeDiff, Int.reduceToNat, Int.reduceLE, Int.reduceLT, Int.reduceNeg, reduceCtorEq, zzR, gos, Int.reduceAdd, Int.reduceSub, Int.reduceMul, Int.reduceEq]
set_option maxRecDepth 10000 in
theorem len64_011 (x : Nat) (hx : x < 18446744073709551616) (h0 : 1 ≤ x) (c0 : ¬ 4294967296 ≤ (x : Int)) (c1 : 65536 ≤ (x : Int)) (c2 : 256 ≤ (x : Int) / 65536) : ∃ n : Nat, CallsP Try.prog 81 [u64 x] (i64 n) ∧ 1 ≤ n ∧ n ≤ 64 ∧ 2 ^ (n - 1) ≤ x ∧ x < 2 ^ n := by
  obtain ⟨n, hb, g1, g2, g3, g4⟩ := len_end x 24 (by omega) (by omega)
  refine ⟨24 + n, ?_, by omega, by omega, g3, g4⟩
  have e : ((x : Int) / 65536 / 256).toNat = x / 2 ^ 24 := by omega
  refine CallsP.start (n := 25) (rs := [.tmp 2]) Try.func81 rfl rfl rfl fun base => ?_
  simp (maxSteps := 20000000) only [List.length_cons, List.length_nil, Nat.reduceAdd, Nat.reduceSub, List.replicate, List.cons_append, List.nil_append]
  simp (maxSteps := 20000000) (disch := omega) only [zzB, tys, ite_self, opnL, callB, readsB, stepOp, ofVal, opBuiltin, opLen, PV.sk, scalBin, scalUn, intBin, opLoad, natOf, opConvert, opField, cellsP, oneP, Value.oneCell', opStore, toIV, scalT, scalA, scalC, boxesA, boxesC, zipB_none, zipB_mx, isZ, opZip, zeroP, opAppendZ, opMakeMap, opLookup, mboxB, opUpdate, ↓reduceIte, Nat.reduceSub, Nat.reduceEqDiff, Nat.reduceAdd, Nat.reduceMul, Nat.reduceLT, Nat.reduceLeDiff, Int.reduceToNat, Int.reduceLE, Int.reduceLT, Int.reduceNeg, reduceCtorEq, gos, Int.reduceAdd, Int.reduceSub, Int.reduceMul, Int.reduceEq, c0, c1, c2, u8_mod]
  rw [show ((x : Int) / 65536 / 256) % 256 = (x : Int) / 65536 / 256 by omega]
  refine Kres_eq (idx_tab (by simp only [tys]) (by kernel_rfl) (by omega) (by omega)) ?_
  rw [e, hb]
  simp (maxSteps := 20000000) (disch := omega) only [zzB, tys, ite_self, opnL, callB, readsB, stepOp, ofVal, opBuiltin, opLen, PV.sk, scalBin, scalUn, intBin, opLoad, natOf, opConvert, opField, cellsP, oneP, Value.oneCell', opStore, toIV, scalT, scalA, scalC, boxesA, boxesC, zipB_none, zipB_mx, isZ, opZip, zeroP, opAppendZ, opMakeMap, opLookup, mboxB, opUpdate, ↓reduceIte, Nat.reduceSub, Nat.reduceEqDiff, Nat.reduceAdd, Nat.reduceMul, Nat.reduceLT, Nat.reduceLeDiff, Int.reduceToNat, Int.reduceLE, Int.reduceLT, Int.reduceNeg, reduceCtorEq, gos, Int.reduceAdd, Int.reduceSub, Int.reduceMul, Int.reduceEq]
  rw [show ((24 : Int) + (n : Int)) = ((24 + n : Nat) : Int) by omega]
  all_goals simp (maxSteps := 20000000) (disch := omega) only [zzB, tys, ite_self, opnL, callB, readsB, stepOp, ofVal, opBuiltin, opLen, PV.sk, scalBin, scalUn, intBin, opLoad, natOf, opConvert, opField, cellsP, oneP, Value.oneCell', opStore, toIV, scalT, scalA, scalC, boxesA, boxesC, zipB_none, zipB_mx, isZ, opZip, zeroP, opAppendZ, opMakeMap, opLookup, mboxB, opUpdate, ↓reduceIte, Nat.reduceSub, Nat.reduceEqDiff, Nat.reduceAdd, Nat.reduceMul, Nat.reduceLT, Nat.reduceLeDiff, Int.reduceToNat, Int.reduceLE, Int.reduceLT, Int.reduceNeg, reduceCtorEq, zzR, gos, Int.reduceAdd, Int.reduceSub, Int.reduceMul, Int.reduceEq]
set_option maxRecDepth 10000 in
theorem len64_100 (x : Nat) (hx : x < 18446744073709551616) (h0 : 1 ≤ x) (c0 : 4294967296 ≤ (x : Int)) (c1 : ¬ 65536 ≤ (x : Int) / 4294967296) (c2 : ¬ 256 ≤ (x : Int) / 4294967296) : ∃ n : Nat, CallsP Try.prog 81 [u64 x] (i64 n) ∧ 1 ≤ n ∧ n ≤ 64 ∧ 2 ^ (n - 1) ≤ x ∧ x < 2 ^ n := by
  obtain ⟨n, hb, g1, g2, g3, g4⟩ := len_end x 32 (by omega) (by omega)
  refine ⟨32 + n, ?_, by omega, by omega, g3, g4⟩
  have e : ((x : Int) / 4294967296).toNat = x / 2 ^ 32 := by omega
  refine CallsP.start (n := 25) (rs := [.tmp 2]) Try.func81 rfl rfl rfl fun base => ?_
  simp (maxSteps := 20000000) only [List.length_cons, List.length_nil, Nat.reduceAdd, Nat.reduceSub, List.replicate, List.cons_append, List.nil_append]
  simp (maxSteps := 20000000) (disch := omega) only [zzB, tys, ite_self, opnL, callB, readsB, stepOp, ofVal, opBuiltin, opLen, PV.sk, scalBin, scalUn, intBin, opLoad, natOf, opConvert, opField, cellsP, oneP, Value.oneCell', opStore, toIV, scalT, scalA, scalC, boxesA, boxesC, zipB_none, zipB_mx, isZ, opZip, zeroP, opAppendZ, opMakeMap, opLookup, mboxB, opUpdate, ↓reduceIte, Nat.reduceSub, Nat.reduceEqDiff, Nat.reduceAdd, Nat.reduceMul, Nat.reduceLT, Nat.reduceLeDiff, Int.reduceToNat, Int.reduceLE, Int.reduceLT, Int.reduceNeg, reduceCtorEq, gos, Int.reduceAdd, Int.reduceSub, Int.reduceMul, Int.reduceEq, c0, c1, c2, u8_mod]
  rw [show ((x : Int) / 4294967296) % 256 = (x : Int) / 4294967296 by omega]
  refine Kres_eq (idx_tab (by simp only [tys]) (by kernel_rfl) (by omega) (by omega)) ?_
  rw [e, hb]
  simp (maxSteps := 20000000) (disch := omega) only [zzB, tys, ite_self, opnL, callB, readsB, stepOp, ofVal, opBuiltin, opLen, PV.sk, scalBin, scalUn, intBin, opLoad, natOf, opConvert, opField, cellsP, oneP, Value.oneCell', opStore, toIV, scalT, scalA, scalC, boxesA, boxesC, zipB_none, zipB_mx, isZ, opZip, zeroP, opAppendZ, opMakeMap, opLookup, mboxB, opUpdate, ↓reduceIte, Nat.reduceSub, Nat.reduceEqDiff, Nat.reduceAdd, Nat.reduceMul, Nat.reduceLT, Nat.reduceLeDiff, Int.reduceToNat, Int.reduceLE, Int.reduceLT, Int.reduceNeg, reduceCtorEq, gos, Int.reduceAdd, Int.reduceSub, Int.reduceMul, Int.reduceEq]
  rw [show ((32 : Int) + (n : Int)) = ((32 + n : Nat) : Int) by omega]
  all_goals simp (maxSteps := 20000000) (disch := omega) only [zzB, tys, ite_self, opnL, callB, readsB, stepOp, ofVal, opBuiltin, opLen, PV.sk, scalBin, scalUn, intBin, opLoad, natOf, opConvert, opField, cellsP, oneP, Value.oneCell', opStore, toIV, scalT, scalA, scalC, boxesA, boxesC, zipB_none, zipB_mx, isZ, opZip, zeroP, opAppendZ, opMakeMap, opLookup, mboxB, opUpdate, ↓reduceIte, Nat.reduceSub, Nat.reduceEqDiff, Nat.reduceAdd, Nat.reduceMul, Nat.reduceLT, Nat.reduceLeDiff, Int.reduceToNat, Int.reduceLE, Int.reduceLT, Int.reduceNeg, reduceCtorEq, zzR, gos, Int.reduceAdd, Int.reduceSub, Int.reduceMul, Int.reduceEq]
set_option maxRecDepth 10000 in
theorem len64_101 (x : Nat) (hx : x < 18446744073709551616) (h0 : 1 ≤ x) (c0 : 4294967296 ≤ (x : Int)) (c1 : ¬ 65536 ≤ (x : Int) / 4294967296) (c2 : 256 ≤ (x : Int) / 4294967296) : ∃ n : Nat, CallsP Try.prog 81 [u64 x] (i64 n) ∧ 1 ≤ n ∧ n ≤ 64 ∧ 2 ^ (n - 1) ≤ x ∧ x < 2 ^ n := by
  obtain ⟨n, hb, g1, g2, g3, g4⟩ := len_end x 40 (by omega) (by omega)
  refine ⟨40 + n, ?_, by omega, by omega, g3, g4⟩
  have e : ((x : Int) / 4294967296 / 256).toNat = x / 2 ^ 40 := by omega
  refine CallsP.start (n := 25) (rs := [.tmp 2]) Try.func81 rfl rfl rfl fun base => ?_
  simp (maxSteps := 20000000) only [List.length_cons, List.length_nil, Nat.reduceAdd, Nat.reduceSub, List.replicate, List.cons_append, List.nil_append]
  simp (maxSteps := 20000000) (disch := omega) only [zzB, tys, ite_self, opnL, callB, readsB, stepOp, ofVal, opBuiltin, opLen, PV.sk, scalBin, scalUn, intBin, opLoad, natOf, opConvert, opField, cellsP, oneP, Value.oneCell', opStore, toIV, scalT, scalA, scalC, boxesA, boxesC, zipB_none, zipB_mx, isZ, opZip, zeroP, opAppendZ, opMakeMap, opLookup, mboxB, opUpdate, ↓reduceIte, Nat.reduceSub, Nat.reduceEqDiff, Nat.reduceAdd, Nat.reduceMul, Nat.reduceLT, Nat.reduceLeDiff, Int.reduceToNat, Int.reduceLE, Int.reduceLT, Int.reduceNeg, reduceCtorEq, gos, Int.reduceAdd, Int.reduceSub, Int.reduceMul, Int.reduceEq, c0, c1, c2, u8_mod]
  rw [show ((x : Int) / 4294967296 / 256) % 256 = (x : Int) / 4294967296 / 256 by omega]
  refine Kres_eq (idx_tab (by simp only [tys]) (by kernel_rfl) (by omega) (by omega)) ?_
  rw [e, hb]
  simp (maxSteps := 20000000) (disch := omega) only [zzB, tys, ite_self, opnL, callB, readsB, stepOp, ofVal, opBuiltin, opLen, PV.sk, scalBin, scalUn, intBin, opLoad, natOf, opConvert, opField, cellsP, oneP, Value.oneCell', opStore, toIV, scalT, scalA, scalC, boxesA, boxesC, zipB_none, zipB_mx, isZ, opZip, zeroP, opAppendZ, opMakeMap, opLookup, mboxB, opUpdate, ↓reduceIte, Nat.reduceSub, Nat.reduceEqDiff, Nat.reduceAdd, Nat.reduceMul, Nat.reduceLT, Nat.reduceLeDiff, Int.reduceToNat, Int.reduceLE, Int.reduceLT, Int.reduceNeg, reduceCtorEq, gos, Int.reduceAdd, Int.reduceSub, Int.reduceMul, Int.reduceEq]
  rw [show ((40 : Int) + (n : Int)) = ((40 + n : Nat) : Int) by omega]
  all_goals simp (maxSteps := 20000000) (disch := omega) only [zzB, tys, ite_self, opnL, callB, readsB, stepOp, ofVal, opBuiltin, opLen, PV.sk, scalBin, scalUn, intBin, opLoad, natOf, opConvert, opField, cellsP, oneP, Value.oneCell', opStore, toIV, scalT, scalA, scalC, boxesA, boxesC, zipB_none, zipB_mx, isZ, opZip, zeroP, opAppendZ, opMakeMap, opLookup, mboxB, opUpdate, ↓reduceIte, Nat.reduceSub, Nat.reduceEqDiff, Nat.reduceAdd, Nat.reduceMul, Nat.reduceLT, Nat.reduceLeDiff, Int.reduceToNat, Int.reduceLE, Int.reduceLT, Int.reduceNeg, reduceCtorEq, zzR, gos, Int.reduceAdd, Int.reduceSub, Int.reduceMul, Int.reduceEq]
set_option maxRecDepth 10000 in
theorem len64_110 (x : Nat) (hx : x < 18446744073709551616) (h0 : 1 ≤ x) (c0 : 4294967296 ≤ (x : Int)) (c1 : 65536 ≤ (x : Int) / 4294967296) (c2 : ¬ 256 ≤ (x : Int) / 4294967296 / 65536) : ∃ n : Nat, CallsP Try.prog 81 [u64 x] (i64 n) ∧ 1 ≤ n ∧ n ≤ 64 ∧ 2 ^ (n - 1) ≤ x ∧ x < 2 ^ n := by
  obtain ⟨n, hb, g1, g2, g3, g4⟩ := len_end x 48 (by omega) (by omega)
  refine ⟨48 + n, ?_, by omega, by omega, g3, g4⟩
  have e : ((x : Int) / 4294967296 / 65536).toNat = x / 2 ^ 48 := by omega
  refine CallsP.start (n := 25) (rs := [.tmp 2]) Try.func81 rfl rfl rfl fun base => ?_
  simp (maxSteps := 20000000) only [List.length_cons, List.length_nil, Nat.reduceAdd, Nat.reduceSub, List.replicate, List.cons_append, List.nil_append]
  simp (maxSteps := 20000000) (disch := omega) only [zzB, tys, ite_self, opnL, callB, readsB, stepOp, ofVal, opBuiltin, opLen, PV.sk, scalBin, scalUn, intBin, opLoad, natOf, opConvert, opField, cellsP, oneP, Value.oneCell', opStore, toIV, scalT, scalA, scalC, boxesA, boxesC, zipB_none, zipB_mx, isZ, opZip, zeroP, opAppendZ, opMakeMap, opLookup, mboxB, opUpdate, ↓reduceIte, Nat.reduceSub, Nat.reduceEqDiff, Nat.reduceAdd, Nat.reduceMul, Nat.reduceLT, Nat.reduceLeDiff, Int.reduceToNat, Int.reduceLE, Int.reduceLT, Int.reduceNeg, reduceCtorEq, gos, Int.reduceAdd, Int.reduceSub, Int.reduceMul, Int.reduceEq, c0, c1, c2, u8_mod]
  rw [show ((x : Int) / 4294967296 / 65536) % 256 = (x : Int) / 4294967296 / 65536 by omega]
  refine Kres_eq (idx_tab (by simp only [tys]) (by kernel_rfl) (by omega) (by omega)) ?_
  rw [e, hb]
  simp (maxSteps := 20000000) (disch := omega) only [zzB, tys, ite_self, opnL, callB, readsB, stepOp, ofVal, opBuiltin, opLen, PV.sk, scalBin, scalUn, intBin, opLoad, natOf, opConvert, opField, cellsP, oneP, Value.oneCell', opStore, toIV, scalT, scalA, scalC, boxesA, boxesC, zipB_none, zipB_mx, isZ, opZip, zeroP, opAppendZ, opMakeMap, opLookup, mboxB, opUpdate, ↓reduceIte, Nat.reduceSub, Nat.reduceEqDiff, Nat.reduceAdd, Nat.reduceMul, Nat.reduceLT, Nat.reduceLeDiff, Int.reduceToNat, Int.reduceLE, Int.reduceLT, Int.reduceNeg, reduceCtorEq, gos, Int.reduceAdd, Int.reduceSub, Int.reduceMul, Int.reduceEq]
  rw [show ((48 : Int) + (n : Int)) = ((48 + n : Nat) : Int) by omega]
  all_goals simp (maxSteps := 20000000) (disch := omega) only [zzB, tys, ite_self, opnL, callB, readsB, stepOp, ofVal, opBuiltin, opLen, PV.sk, scalBin, scalUn, intBin, opLoad, natOf, opConvert, opField, cellsP, oneP, Value.oneCell', opStore, toIV, scalT, scalA, scalC, boxesA, boxesC, zipB_none, zipB_mx, isZ, opZip, zeroP, opAppendZ, opMakeMap, opLookup, mboxB, opUpdate, ↓reduceIte, Nat.reduceSub, Nat.reduceEqDiff, Nat.reduceAdd, Nat.reduceMul, Nat.reduceLT, Nat.reduceLeDiff, Int.reduceToNat, Int.reduceLE, Int.reduceLT, Int.reduceNeg, reduceCtorEq, zzR, gos, Int.reduceAdd, Int.reduceSub, Int.reduceMul, Int.reduceEq]
set_option maxRecDepth 10000 in
theorem len64_111 (x : Nat) (hx : x < 18446744073709551616) (h0 : 1 ≤ x) (c0 : 4294967296 ≤ (x : Int)) (c1 : 65536 ≤ (x : Int) / 4294967296) (c2 : 256 ≤ (x : Int) / 4294967296 / 65536) : ∃ n : Nat, CallsP Try.prog 81 [u64 x] (i64 n) ∧ 1 ≤ n ∧ n ≤ 64 ∧ 2 ^ (n - 1) ≤ x ∧ x < 2 ^ n := by
  obtain ⟨n, hb, g1, g2, g3, g4⟩ := len_end x 56 (by omega) (by omega)
  refine ⟨56 + n, ?_, by omega, by omega, g3, g4⟩
  have e : ((x : Int) / 4294967296 / 65536 / 256).toNat = x / 2 ^ 56 := by omega
  refine CallsP.start (n := 25) (rs := [.tmp 2]) Try.func81 rfl rfl rfl fun base => ?_
  simp (maxSteps := 20000000) only [List.length_cons, List.length_nil, Nat.reduceAdd, Nat.reduceSub, List.replicate, List.cons_append, List.nil_append]
  simp (maxSteps := 20000000) (disch := omega) only [zzB, tys, ite_self, opnL, callB, readsB, stepOp, ofVal, opBuiltin, opLen, PV.sk, scalBin, scalUn, intBin, opLoad, natOf, opConvert, opField, cellsP, oneP, Value.oneCell', opStore, toIV, scalT, scalA, scalC, boxesA, boxesC, zipB_none, zipB_mx, isZ, opZip, zeroP, opAppendZ, opMakeMap, opLookup, mboxB, opUpdate, ↓reduceIte, Nat.reduceSub, Nat.reduceEqDiff, Nat.reduceAdd, Nat.reduceMul, Nat.reduceLT, Nat.reduceLeDiff, Int.reduceToNat, Int.reduceLE, Int.reduceLT, Int.reduceNeg, reduceCtorEq, gos, Int.reduceAdd, Int.reduceSub, Int.reduceMul, Int.reduceEq, c0, c1, c2, u8_mod]
  rw [show ((x : Int) / 4294967296 / 65536 / 256) % 256 = (x : Int) / 4294967296 / 65536 / 256 by omega]
  refine Kres_eq (idx_tab (by simp only [tys]) (by kernel_rfl) (by omega) (by omega)) ?_
  rw [e, hb]
  simp (maxSteps := 20000000) (disch := omega) only [zzB, tys, ite_self, opnL, callB, readsB, stepOp, ofVal, opBuiltin, opLen, PV.sk, scalBin, scalUn, intBin, opLoad, natOf, opConvert, opField, cellsP, oneP, Value.oneCell', opStore, toIV, scalT, scalA, scalC, boxesA, boxesC, zipB_none, zipB_mx, isZ, opZip, zeroP, opAppendZ, opMakeMap, opLookup, mboxB, opUpdate, ↓reduceIte, Nat.reduceSub, Nat.reduceEqDiff, Nat.reduceAdd, Nat.reduceMul, Nat.reduceLT, Nat.reduceLeDiff, Int.reduceToNat, Int.reduceLE, Int.reduceLT, Int.reduceNeg, reduceCtorEq, gos, Int.reduceAdd, Int.reduceSub, Int.reduceMul, Int.reduceEq]
  rw [show ((56 : Int) + (n : Int)) = ((56 + n : Nat) : Int) by omega]
  all_goals simp (maxSteps := 20000000) (disch := omega) only [zzB, tys, ite_self, opnL, callB, readsB, stepOp, ofVal, opBuiltin, opLen, PV.sk, scalBin, scalUn, intBin, opLoad, natOf, opConvert, opField, cellsP, oneP, Value.oneCell', opStore, toIV, scalT, scalA, scalC, boxesA, boxesC, zipB_none, zipB_mx, isZ, opZip, zeroP, opAppendZ, opMakeMap, opLookup, mboxB, opUpdate, ↓reduceIte, Nat.reduceSub, Nat.reduceEqDiff, Nat.reduceAdd, Nat.reduceMul, Nat.reduceLT, Nat.reduceLeDiff, Int.reduceToNat, Int.reduceLE, Int.reduceLT, Int.reduceNeg, reduceCtorEq, zzR, gos, Int.reduceAdd, Int.reduceSub, Int.reduceMul, Int.reduceEq]
theorem len64_walk (x : Nat) (h0 : 1 ≤ x) (hx : x < 18446744073709551616) : ∃ n : Nat, CallsP Try.prog 81 [u64 x] (i64 n) ∧ 1 ≤ n ∧ n ≤ 64 ∧ 2 ^ (n - 1) ≤ x ∧ x < 2 ^ n := by
  by_cases c0 : 4294967296 ≤ (x : Int)
  · by_cases c1 : 65536 ≤ (x : Int) / 4294967296
    · by_cases c2 : 256 ≤ (x : Int) / 4294967296 / 65536
      · exact len64_111 x hx h0 c0 c1 c2
      · exact len64_110 x hx h0 c0 c1 c2
    · by_cases c2 : 256 ≤ (x : Int) / 4294967296
      · exact len64_101 x hx h0 c0 c1 c2
      · exact len64_100 x hx h0 c0 c1 c2
  · by_cases c1 : 65536 ≤ (x : Int)
    · by_cases c2 : 256 ≤ (x : Int) / 65536
      · exact len64_011 x hx h0 c0 c1 c2
      · exact len64_010 x hx h0 c0 c1 c2
    · by_cases c2 : 256 ≤ (x : Int)
      · exact len64_001 x hx h0 c0 c1 c2
      · exact len64_000 x hx h0 c0 c1 c2

theorem lz64_walk (y : Nat) (h1 : 1 ≤ y) (h : y < 18446744073709551616) :
    ∃ s : Nat, CallsP Try.prog 80 [u64 y] (i64 s) ∧ s ≤ 63 ∧ 2 ^ 63 ≤ y * 2 ^ s ∧ y * 2 ^ s < 2 ^ 64 := by
  obtain ⟨n, hn, g1, g2, g3, g4⟩ := len64_walk y h1 h
  refine ⟨64 - n, ?_, by omega, ?_, ?_⟩
  · refine CallsP.start (n := 6) (rs := [.tmp 2]) Try.func80 rfl rfl rfl fun base => ?_
    simp (maxSteps := 20000000) only [List.length_cons, List.length_nil, Nat.reduceAdd, Nat.reduceSub, List.replicate, List.cons_append, List.nil_append]
    simp (maxSteps := 20000000) (disch := omega) only [zzB, tys, ite_self, opnL, callB, readsB, stepOp, ofVal, opBuiltin, opLen, PV.sk, scalBin, scalUn, intBin, opLoad, natOf, opConvert, opField, cellsP, oneP, Value.oneCell', opStore, toIV, scalT, scalA, scalC, boxesA, boxesC, zipB_none, zipB_mx, isZ, opZip, zeroP, opAppendZ, opMakeMap, opLookup, mboxB, opUpdate, ↓reduceIte, Nat.reduceSub, Nat.reduceEqDiff, Nat.reduceAdd, Nat.reduceMul, Nat.reduceLT, Nat.reduceLeDiff, Int.reduceToNat, Int.reduceLE, Int.reduceLT, Int.reduceNeg, reduceCtorEq, gos, Int.reduceAdd, Int.reduceSub, Int.reduceMul, Int.reduceEq]
    refine K_call_pure (hn) rfl rfl (by simp only [tys]) (by first | rfl | simp [sim7, ofVal, undefP, zzL, if_true, if_false, ite_self, Nat.reduceEqDiff, Nat.reduceMul, Nat.reduceAdd, reduceCtorEq]) ?_
    simp (maxSteps := 20000000) (disch := omega) only [zzB, tys, ite_self, opnL, callB, readsB, stepOp, ofVal, opBuiltin, opLen, PV.sk, scalBin, scalUn, intBin, opLoad, natOf, opConvert, opField, cellsP, oneP, Value.oneCell', opStore, toIV, scalT, scalA, scalC, boxesA, boxesC, zipB_none, zipB_mx, isZ, opZip, zeroP, opAppendZ, opMakeMap, opLookup, mboxB, opUpdate, ↓reduceIte, Nat.reduceSub, Nat.reduceEqDiff, Nat.reduceAdd, Nat.reduceMul, Nat.reduceLT, Nat.reduceLeDiff, Int.reduceToNat, Int.reduceLE, Int.reduceLT, Int.reduceNeg, reduceCtorEq, gos, Int.reduceAdd, Int.reduceSub, Int.reduceMul, Int.reduceEq]
    rw [show (64 : Int) - (n : Int) = ((64 - n : Nat) : Int) by omega]
    all_goals simp (maxSteps := 20000000) (disch := omega) only [zzB, tys, ite_self, opnL, callB, readsB, stepOp, ofVal, opBuiltin, opLen, PV.sk, scalBin, scalUn, intBin, opLoad, natOf, opConvert, opField, cellsP, oneP, Value.oneCell', opStore, toIV, scalT, scalA, scalC, boxesA, boxesC, zipB_none, zipB_mx, isZ, opZip, zeroP, opAppendZ, opMakeMap, opLookup, mboxB, opUpdate, ↓reduceIte, Nat.reduceSub, Nat.reduceEqDiff, Nat.reduceAdd, Nat.reduceMul, Nat.reduceLT, Nat.reduceLeDiff, Int.reduceToNat, Int.reduceLE, Int.reduceLT, Int.reduceNeg, reduceCtorEq, zzR, gos, Int.reduceAdd, Int.reduceSub, Int.reduceMul, Int.reduceEq]
  · have := Nat.mul_le_mul_right (2 ^ (64 - n)) g3
    rwa [← Nat.pow_add, show n - 1 + (64 - n) = 63 by omega] at this
  · have := Nat.mul_lt_mul_of_pos_right g4 (Nat.two_pow_pos (64 - n))
    rwa [← Nat.pow_add, show n + (64 - n) = 64 by omega] at this

/-! ### division of two words by one -/
/-- What is known of a divisor of two digits, and a digit's guess. -/
structure Dv (V v1 v0 U u : Int) : Prop where
  hV : V = v1 * 4294967296 + v0
  h1 : 2147483648 ≤ v1
  h1' : v1 < 4294967296
  h0 : 0 ≤ v0
  h0' : v0 < 4294967296
  hU : 0 ≤ U
  hUV : U < V
  hu : 0 ≤ u
  hu' : u < 4294967296

structure Gs (v1 U q r qt : Int) : Prop where
  hr : r = U - q * v1
  hr0 : 0 ≤ r
  hr1 : r < 4294967296
  hq : q ≤ 4294967297
  ht : qt ≤ q

section
variable {V v1 v0 U u q r : Int}
theorem qt_bd (D : Dv V v1 v0 U u) : 0 ≤ (U * 4294967296 + u) / V ∧ (U * 4294967296 + u) / V < 4294967296 := by
  obtain ⟨hV, h1, h1', h0, h0', hU, hUV, hu, hu'⟩ := D
  refine ⟨Int.ediv_nonneg (by omega) (by omega), ?_⟩
  rw [Int.ediv_lt_iff_lt_mul (by omega)]
  omega
theorem le_qt (D : Dv V v1 v0 U u) (hr : r = U - q * v1) (h : q * v0 ≤ 4294967296 * r + u) : q ≤ (U * 4294967296 + u) / V := by
  obtain ⟨hV, h1, h1', h0, h0', hU, hUV, hu, hu'⟩ := D
  rw [Int.le_ediv_iff_mul_le (by omega)]
  have : q * V = q * v1 * 4294967296 + q * v0 := by rw [hV]; grind
  omega
theorem qt_lt (D : Dv V v1 v0 U u) (hr : r = U - q * v1) (h : 4294967296 * r + u < q * v0) : (U * 4294967296 + u) / V < q := by
  obtain ⟨hV, h1, h1', h0, h0', hU, hUV, hu, hu'⟩ := D
  rw [Int.ediv_lt_iff_lt_mul (by omega)]
  have : q * V = q * v1 * 4294967296 + q * v0 := by rw [hV]; grind
  omega
/-- A guess that is too great, and the one below it. -/
theorem down (D : Dv V v1 v0 U u) (G : Gs v1 U q r ((U * 4294967296 + u) / V)) (hc : (U * 4294967296 + u) / V < q) :
    (r + v1 ≥ 4294967296 → q - 1 = (U * 4294967296 + u) / V) ∧ (r + v1 < 4294967296 → Gs v1 U (q - 1) (r + v1) ((U * 4294967296 + u) / V)) := by
  have D' := D
  have hb := qt_bd D
  obtain ⟨hV, h1, h1', h0, h0', hU, hUV, hu, hu'⟩ := D
  obtain ⟨hr, hr0, hr1, hq, ht⟩ := G
  have hm : (q - 1) * v1 = q * v1 - v1 := by grind
  constructor
  · intro h
    have hle : q - 1 ≤ 4294967295 := by
      rcases Int.lt_or_le (q - 1) 4294967296 with g | g
      · omega
      · have : (4294967296 : Int) * v1 ≤ (q - 1) * v1 := Int.mul_le_mul_of_nonneg_right g (by omega)
        omega
    have hp := mul_bd (a := q - 1) (b := v0) (m := 4294967295) (n := 4294967295) (by omega) h0 hle (by omega)
    have := le_qt (q := q - 1) (r := r + v1) D' (by omega) (by omega)
    omega
  · intro h
    exact ⟨by omega, by omega, h, by omega, by omega⟩
theorem ends (D : Dv V v1 v0 U u) (G : Gs v1 U q r ((U * 4294967296 + u) / V)) (h : q * v0 ≤ 4294967296 * r + u) : q = (U * 4294967296 + u) / V := by
  have := le_qt D G.hr h
  have := G.ht
  omega
theorem starts (D : Dv V v1 v0 U u) : Gs v1 U (U / v1) (U % v1) ((U * 4294967296 + u) / V) := by
  have D' := D
  obtain ⟨hV, h1, h1', h0, h0', hU, hUV, hu, hu'⟩ := D
  have he := Int.emod_add_mul_ediv U v1
  have hc : v1 * (U / v1) = U / v1 * v1 := Int.mul_comm _ _
  have hm0 := Int.emod_nonneg U (show v1 ≠ 0 by omega)
  have hm1 := Int.emod_lt_of_pos U (show 0 < v1 by omega)
  refine ⟨by omega, hm0, by omega, ?_, ?_⟩
  · have : U / v1 < 4294967298 := by
      rw [Int.ediv_lt_iff_lt_mul (by omega)]
      omega
    omega
  · rcases Int.lt_or_le (U / v1) ((U * 4294967296 + u) / V) with g | g
    · exfalso
      have h2 : U / v1 + 1 ≤ (U * 4294967296 + u) / V := g
      rw [Int.le_ediv_iff_mul_le (by omega)] at h2
      have h3 : (U / v1 + 1) * V = (U / v1 * v1 + v1) * 4294967296 + (U / v1 + 1) * v0 := by rw [hV]; grind
      have h4 : 0 ≤ (U / v1 + 1) * v0 := Int.mul_nonneg (by have := Int.ediv_nonneg hU (show 0 ≤ v1 by omega); omega) h0
      omega
    · exact g
end

theorem test_ {q v0 r u v1 U qt : Int} (G : Gs v1 U q r qt) (hq0 : 0 ≤ q) (h0 : 0 ≤ v0) (h0' : v0 < 4294967296) (hu : 0 ≤ u) (hu' : u < 4294967296) :
    IntKind.u64.wrap (q * v0) = q * v0 ∧ IntKind.u64.wrap (IntKind.u64.wrap (4294967296 * r) + u) = 4294967296 * r + u ∧ 0 ≤ q * v0 := by
  obtain ⟨hr, hr0, hr1, hq, ht⟩ := G
  have hp := mul_bd (a := q) (b := v0) (m := 4294967297) (n := 4294967295) hq0 h0 hq (by omega)
  refine ⟨uw_of (by omega) (by omega), ?_, hp.1⟩
  rw [uw_of (n := 4294967296 * r) (by omega) (by omega), uw_of (by omega) (by omega)]


end Go.Proofs.Ytkhjfphenflefaa.TM
