/- math/bits: Div64 and Rem64, walked. -/
import Derived.Test.YtkhjfphenflefaaWBits
namespace Go.Proofs.Ytkhjfphenflefaa.TM
open Go Go.RowKit
set_option linter.unusedVariables false
set_option linter.defProp false
set_option linter.unusedSimpArgs false

/-- A digit's guess, some steps above the digit. -/
def GI (v1 U qt : Int) (T : Int → Int → List PV) (j : Nat) (t : List PV) (h : Heap) : Prop :=
  ∃ q r, q = qt + j ∧ Gs v1 U q r qt ∧ t = T q r ∧ h = Heap.none

theorem dv_test {V v1 v0 U u q r : Int} (D : Dv V v1 v0 U u) (G : Gs v1 U q r ((U * 4294967296 + u) / V)) (hc : (U * 4294967296 + u) / V < q) : 4294967296 ≤ q ∨ 4294967296 * r + u < q * v0 := by
  rcases Int.lt_or_le (4294967296 * r + u) (q * v0) with h | h
  · exact .inr h
  · have := ends D G h; omega

theorem qt_ge {V v1 v0 U u q r : Int} (D : Dv V v1 v0 U u) (G : Gs v1 U q r ((U * 4294967296 + u) / V)) (hc : q = (U * 4294967296 + u) / V) : ¬ 4294967296 * r + u < q * v0 := fun h => by
  have := qt_lt D G.hr h; omega
theorem test2 {V v1 v0 U u q r qt : Int} (G : Gs v1 U q r qt) (hq0 : 0 ≤ q) (D : Dv V v1 v0 U u) : IntKind.u64.wrap (q * v0) = q * v0 ∧ IntKind.u64.wrap (4294967296 * r + u) = 4294967296 * r + u := by
  obtain ⟨t1, t2, t3⟩ := test_ (v0 := v0) (u := u) G hq0 D.h0 D.h0' D.hu D.hu'
  refine ⟨t1, ?_⟩
  rwa [uw_of (n := 4294967296 * r) (by have := G.hr0; omega) (by have := G.hr1; omega)] at t2
/-- The parts of a division, and what each step of it comes to. -/
structure Dz (hi lo : Int) (n s : Nat) (V v1 v0 U L u1 u0 Q1 R1 Q0 M : Int) : Prop where
  D : Dv V v1 v0 U u1
  D2 : Dv V v1 v0 R1 u0
  hQ1 : Q1 = (U * 4294967296 + u1) / V
  hQ0 : Q0 = (R1 * 4294967296 + u0) / V
  a1 : (hi * 18446744073709551616 + lo) / n = Q1 * 4294967296 + Q0
  a2 : (hi * 18446744073709551616 + lo) % n = M / 2 ^ s
  hmin : min s IntKind.u64.bits = s
  hmin2 : min (64 - (s : Int)).toNat IntKind.u64.bits = 64 - s
  sV : IntKind.u64.wrap ((n : Int) * 2 ^ s) = V
  sH : IntKind.u64.wrap (hi * 2 ^ s) = hi * 2 ^ s
  sL : IntKind.u64.wrap (lo * 2 ^ s) = L
  sR : lo.fdiv (2 ^ (64 - s)) = lo / 2 ^ (64 - s)
  sO : Go.bits .or .u64 (hi * 2 ^ s) (lo / 2 ^ (64 - s)) = U
  sM : M.fdiv (2 ^ s) = M / 2 ^ s
  aV : Go.bits .and .u64 V 4294967295 = v0
  aL : Go.bits .and .u64 L 4294967295 = u0
  v1e : V / 4294967296 = v1
  u1e : L / 4294967296 = u1
  wq : IntKind.u64.wrap (U / v1) = U / v1
  wm : IntKind.u64.wrap (U / v1 * v1) = U / v1 * v1
  wr : IntKind.u64.wrap (U - U / v1 * v1) = U % v1
  e1 : IntKind.u64.wrap (IntKind.u64.wrap (IntKind.u64.wrap (U * 4294967296) + u1) - IntKind.u64.wrap (Q1 * V)) = R1
  f1 : IntKind.u64.wrap (IntKind.u64.wrap (Q1 * 4294967296) + Q0) = Q1 * 4294967296 + Q0
  f2 : IntKind.u64.wrap (IntKind.u64.wrap (IntKind.u64.wrap (R1 * 4294967296) + u0) - IntKind.u64.wrap (Q0 * V)) = M
  w2q : IntKind.u64.wrap (R1 / v1) = R1 / v1
  w2m : IntKind.u64.wrap (R1 / v1 * v1) = R1 / v1 * v1
  w2r : IntKind.u64.wrap (R1 - R1 / v1 * v1) = R1 % v1

theorem dz_of (hi lo : Int) (n s : Nat) (hh : 0 < hi) (h1 : hi < (n : Int)) (h2 : (n : Int) < 18446744073709551616) (h3 : W64 lo) (s1 : s ≤ 63) (s2 : 2 ^ 63 ≤ n * 2 ^ s) (s3 : n * 2 ^ s < 2 ^ 64) :
    ∃ V v1 v0 U L u1 u0 Q1 R1 Q0 M : Int, Dz hi lo n s V v1 v0 U L u1 u0 Q1 R1 Q0 M := by
  have h0 : 0 ≤ hi := by omega
  obtain ⟨h3, h4⟩ := h3
  have hpos : (0 : Int) < 2 ^ s := Int.pow_pos (by decide)
  have pow_nat : ((n * 2 ^ s : Nat) : Int) = (n : Int) * 2 ^ s := by push_cast; rfl
  have s2' : (9223372036854775808 : Int) ≤ (n : Int) * 2 ^ s := by rw [← pow_nat]; exact Int.ofNat_le.2 (show 9223372036854775808 ≤ n * 2 ^ s from s2)
  have s3' : (n : Int) * 2 ^ s < 18446744073709551616 := by rw [← pow_nat]; exact Int.ofNat_lt.2 (show n * 2 ^ s < 18446744073709551616 from s3)
  have hpow : (2 : Int) ^ s * 2 ^ (64 - s) = 18446744073709551616 := by
    rw [← Int.pow_add, show s + (64 - s) = 64 by omega]; rfl
  have hpos2 : (0 : Int) < 2 ^ (64 - s) := Int.pow_pos (by decide)
  -- the parts
  obtain ⟨V, hV⟩ : ∃ V, V = (n : Int) * 2 ^ s := ⟨_, rfl⟩
  obtain ⟨v1, hv1⟩ : ∃ v, v = V / 4294967296 := ⟨_, rfl⟩
  obtain ⟨v0, hv0⟩ : ∃ v, v = V % 4294967296 := ⟨_, rfl⟩
  have hhi : hi * 2 ^ s + 2 ^ s ≤ V := by
    have := Int.mul_le_mul_of_nonneg_right (show hi + 1 ≤ (n : Int) by omega) (Int.le_of_lt hpos)
    rw [Int.add_mul, Int.one_mul] at this
    omega
  have hhi0 : 0 ≤ hi * 2 ^ s := Int.mul_nonneg h0 (Int.le_of_lt hpos)
  have hl0 : 0 ≤ lo / 2 ^ (64 - s) := Int.ediv_nonneg h3 (Int.le_of_lt hpos2)
  have hl1 : lo / 2 ^ (64 - s) < 2 ^ s := by
    rw [Int.ediv_lt_iff_lt_mul hpos2, hpow]; exact h4
  obtain ⟨U, hU⟩ : ∃ U, U = hi * 2 ^ s + lo / 2 ^ (64 - s) := ⟨_, rfl⟩
  obtain ⟨L, hL⟩ : ∃ L, L = lo * 2 ^ s % 18446744073709551616 := ⟨_, rfl⟩
  obtain ⟨u1, hu1⟩ : ∃ v, v = L / 4294967296 := ⟨_, rfl⟩
  obtain ⟨u0, hu0⟩ : ∃ v, v = L % 4294967296 := ⟨_, rfl⟩
  have D : Dv V v1 v0 U u1 := ⟨by omega, by omega, by omega, by omega, by omega, by omega, by omega, by omega, by omega⟩
  have S := starts D
  have hall : (hi * 18446744073709551616 + lo) * 2 ^ s = (U * 4294967296 + u1) * 4294967296 + u0 := by
    have e1 : lo * 2 ^ s = (lo / 2 ^ (64 - s)) * 18446744073709551616 + L := by
      have e2 := Int.emod_add_mul_ediv (lo * 2 ^ s) 18446744073709551616
      have e3 : lo * 2 ^ s / 18446744073709551616 = lo / 2 ^ (64 - s) := by
        rw [← hpow, Int.mul_comm lo, Int.mul_ediv_mul_of_pos _ _ hpos]
      rw [e3] at e2
      omega
    have e4 : (hi * 18446744073709551616 + lo) * 2 ^ s = hi * 2 ^ s * 18446744073709551616 + lo * 2 ^ s := by grind
    rw [e4, e1]
    omega
  have hq0 := Int.ediv_nonneg D.hU (show 0 ≤ v1 by omega)
  have hqb := S.hq
  have hm := Int.emod_add_mul_ediv U v1
  have hmc : v1 * (U / v1) = U / v1 * v1 := Int.mul_comm _ _
  have hm0 := Int.emod_nonneg U (show v1 ≠ 0 by omega)
  have hm1 := Int.emod_lt_of_pos U (show 0 < v1 by omega)
  have hmp : 0 ≤ U / v1 * v1 := Int.mul_nonneg hq0 (by omega)
  -- the answer
  have hVp : 0 < V := by omega
  have qb := qt_bd D
  have hN := Int.emod_add_mul_ediv (U * 4294967296 + u1) V
  have hR0 := Int.emod_nonneg (U * 4294967296 + u1) (show V ≠ 0 by omega)
  have hR1 := Int.emod_lt_of_pos (U * 4294967296 + u1) (show 0 < V by omega)
  obtain ⟨Q1, hQ1⟩ : ∃ z, z = (U * 4294967296 + u1) / V := ⟨_, rfl⟩
  obtain ⟨R1, hR1'⟩ : ∃ z, z = (U * 4294967296 + u1) % V := ⟨_, rfl⟩
  have D2 : Dv V v1 v0 R1 u0 := ⟨D.hV, D.h1, D.h1', D.h0, D.h0', by omega, by omega, by omega, by omega⟩
  have S2 := starts D2
  have qb2 := qt_bd D2
  have hN2 := Int.emod_add_mul_ediv (R1 * 4294967296 + u0) V
  have hM0 := Int.emod_nonneg (R1 * 4294967296 + u0) (show V ≠ 0 by omega)
  have hM1 := Int.emod_lt_of_pos (R1 * 4294967296 + u0) hVp
  obtain ⟨Q0, hQ0⟩ : ∃ z, z = (R1 * 4294967296 + u0) / V := ⟨_, rfl⟩
  obtain ⟨M, hM⟩ : ∃ z, z = (R1 * 4294967296 + u0) % V := ⟨_, rfl⟩
  rw [← hQ1, ← hR1'] at hN
  rw [← hQ0, ← hM] at hN2
  rw [← hR1'] at hR0 hR1
  rw [← hM] at hM0 hM1
  rw [← hQ1] at qb
  rw [← hQ0] at qb2
  have hX : (hi * 18446744073709551616 + lo) * 2 ^ s = (Q1 * 4294967296 + Q0) * V + M := by
    rw [hall]
    have : (Q1 * 4294967296 + Q0) * V = V * Q1 * 4294967296 + V * Q0 := by grind
    rw [this]
    omega
  have hn0 : (0 : Int) < n := by omega
  have hdm : (hi * 18446744073709551616 + lo) / n = Q1 * 4294967296 + Q0 ∧ (hi * 18446744073709551616 + lo) % n = M / 2 ^ s := by
    have e5 : M % 2 ^ s = 0 := by
      have : M = ((hi * 18446744073709551616 + lo) - (Q1 * 4294967296 + Q0) * n) * 2 ^ s := by
        have : ((hi * 18446744073709551616 + lo) - (Q1 * 4294967296 + Q0) * n) * 2 ^ s = (hi * 18446744073709551616 + lo) * 2 ^ s - (Q1 * 4294967296 + Q0) * (n * 2 ^ s) := by grind
        rw [this, ← hV]; omega
      rw [this]; exact Int.mul_emod_left _ _
    have e6 : M = M / 2 ^ s * 2 ^ s := by
      have := Int.emod_add_mul_ediv M (2 ^ s)
      rw [e5, Int.zero_add, Int.mul_comm] at this
      exact this.symm
    have e7 : (hi * 18446744073709551616 + lo) = (Q1 * 4294967296 + Q0) * n + M / 2 ^ s := by
      have : (hi * 18446744073709551616 + lo) * 2 ^ s = ((Q1 * 4294967296 + Q0) * n + M / 2 ^ s) * 2 ^ s := by
        rw [hX, Int.add_mul (_ * _) (M / 2 ^ s), ← e6, hV]; grind
      exact Int.eq_of_mul_eq_mul_right (by omega) this
    have e8 : 0 ≤ M / 2 ^ s := Int.ediv_nonneg hM0 (Int.le_of_lt hpos)
    have e9 : M / 2 ^ s < n := by
      rw [Int.ediv_lt_iff_lt_mul hpos, ← hV]; exact hM1
    have e10 : (hi * 18446744073709551616 + lo) = M / 2 ^ s + n * (Q1 * 4294967296 + Q0) := by rw [Int.mul_comm (n : Int), Int.add_comm (M / 2 ^ s)]; exact e7
    exact (Int.ediv_emod_unique (a := hi * 18446744073709551616 + lo) (b := n) (q := Q1 * 4294967296 + Q0) (r := M / 2 ^ s) hn0).2 ⟨e10.symm, e8, e9⟩
  have hmin : min s IntKind.u64.bits = s := Nat.min_eq_left (show s ≤ IntKind.u64.bits by simp [IntKind.bits]; omega)
  have hmin2 : min (64 - (s : Int)).toNat IntKind.u64.bits = 64 - s := by
    rw [show (64 - (s : Int)).toNat = 64 - s by omega]
    exact Nat.min_eq_left (show 64 - s ≤ IntKind.u64.bits by simp [IntKind.bits])
  have sV : IntKind.u64.wrap ((n : Int) * 2 ^ s) = V := by rw [← hV, uw_of (by omega) (by omega)]
  have sH : IntKind.u64.wrap (hi * 2 ^ s) = hi * 2 ^ s := uw_of (by omega) (by omega)
  have sL : IntKind.u64.wrap (lo * 2 ^ s) = L := by rw [uw, hL]
  have sR : lo.fdiv (2 ^ (64 - s)) = lo / 2 ^ (64 - s) := fdiv_pos _ (Int.le_of_lt hpos2)
  have sO : Go.bits .or .u64 (hi * 2 ^ s) (lo / 2 ^ (64 - s)) = U := by
    rw [hU]
    exact bits_join .u64 64 (by decide) (fun n a b => uw_of a b) s _ _ hhi0 (Int.mul_emod_left _ _) (by omega) hl0 hl1 (by omega)
  have sM : M.fdiv (2 ^ s) = M / 2 ^ s := fdiv_pos _ (Int.le_of_lt hpos)
  have aV : Go.bits .and .u64 V 4294967295 = v0 := by rw [and32 (by omega) (by omega), hv0]
  have aL : Go.bits .and .u64 L 4294967295 = u0 := by rw [and32 (by omega) (by omega), hu0]
  have wq : IntKind.u64.wrap (U / v1) = U / v1 := uw_of hq0 (by omega)
  have wm : IntKind.u64.wrap (U / v1 * v1) = U / v1 * v1 := uw_of hmp (by omega)
  have wr : IntKind.u64.wrap (U - U / v1 * v1) = U % v1 := by rw [uw_of (by omega) (by omega)]; omega
  have e1 : IntKind.u64.wrap (IntKind.u64.wrap (IntKind.u64.wrap (U * 4294967296) + u1) - IntKind.u64.wrap (Q1 * V)) = R1 := by
    have hc : V * Q1 = Q1 * V := Int.mul_comm _ _
    clear hX hall hdm
    rw [uw, uw, uw, uw]
    generalize Q1 * V = P at *
    generalize V * Q1 = P2 at *
    omega
  have f1 : IntKind.u64.wrap (IntKind.u64.wrap (Q1 * 4294967296) + Q0) = Q1 * 4294967296 + Q0 := by rw [uw_of (n := Q1 * 4294967296) (by omega) (by omega), uw_of (by omega) (by omega)]
  have f2 : IntKind.u64.wrap (IntKind.u64.wrap (IntKind.u64.wrap (R1 * 4294967296) + u0) - IntKind.u64.wrap (Q0 * V)) = M := by
    have hc : V * Q0 = Q0 * V := Int.mul_comm _ _
    clear hX hall hdm
    rw [uw, uw, uw, uw]
    generalize Q0 * V = P at *
    generalize V * Q0 = P2 at *
    omega
  obtain ⟨i1, i2, i3, i4, i5, i6⟩ : 0 ≤ R1 / v1 ∧ R1 / v1 ≤ 4294967297 ∧ 0 ≤ R1 / v1 * v1 ∧ R1 / v1 * v1 + R1 % v1 = R1 ∧ 0 ≤ R1 % v1 ∧ R1 % v1 < v1 := by
    have h := Int.ediv_nonneg hR0 (show 0 ≤ v1 by omega)
    refine ⟨h, S2.hq, Int.mul_nonneg h (by omega), by have := Int.emod_add_mul_ediv R1 v1; have : v1 * (R1 / v1) = R1 / v1 * v1 := Int.mul_comm _ _; omega, Int.emod_nonneg R1 (by omega), Int.emod_lt_of_pos R1 (by omega)⟩
  have w2q : IntKind.u64.wrap (R1 / v1) = R1 / v1 := uw_of i1 (by omega)
  have w2m : IntKind.u64.wrap (R1 / v1 * v1) = R1 / v1 * v1 := uw_of i3 (by omega)
  have w2r : IntKind.u64.wrap (R1 - R1 / v1 * v1) = R1 % v1 := by rw [uw_of (by omega) (by omega)]; omega
  exact ⟨V, v1, v0, U, L, u1, u0, Q1, R1, Q0, M, D, D2, hQ1, hQ0, hdm.1, hdm.2, hmin, hmin2, sV, sH, sL, sR, sO, sM, aV, aL, hv1.symm, hu1.symm, wq, wm, wr, e1, f1, f2, w2q, w2m, w2r⟩

set_option maxRecDepth 10000 in
set_option maxHeartbeats 2000000 in
theorem div64_hi (hi lo y : Int) (hh : 0 < hi) (h1 : hi < y) (h2 : y < 18446744073709551616) (h3 : W64 lo) :
    CallsP Try.prog 79 [u64 hi, u64 lo, u64 y] (.tup [u64 ((hi * 18446744073709551616 + lo) / y), u64 ((hi * 18446744073709551616 + lo) % y)]) := by
  obtain ⟨n, rfl⟩ := Int.eq_ofNat_of_zero_le (show 0 ≤ y by omega)
  obtain ⟨s, hs, s1, s2, s3⟩ := lz64_walk n (by omega) (by omega)
  obtain ⟨V, v1, v0, U, L, u1, u0, Q1, R1, Q0, M, Z⟩ := dz_of hi lo n s hh h1 h2 h3 s1 s2 s3
  rw [Z.a1, Z.a2]
  clear s2 s3
  have d0 : 0 < v1 := by have := Z.D.h1; omega
  have hU := Z.D.hU
  have hR := Z.D2.hU
  refine CallsP.start (n := 135) (rs := [.tmp 6, .tmp 7]) Try.func79 rfl rfl rfl fun base => ?_
  simp (maxSteps := 20000000) only [List.length_cons, List.length_nil, Nat.reduceAdd, Nat.reduceSub, List.replicate, List.cons_append, List.nil_append]
  simp (maxSteps := 20000000) (disch := omega) only [zzB, tys, ite_self, opnL, callB, readsB, stepOp, ofVal, opBuiltin, opLen, PV.sk, scalBin, scalUn, intBin, opLoad, natOf, opConvert, opField, cellsP, oneP, Value.oneCell', opStore, toIV, scalT, scalA, scalC, boxesA, boxesC, zipB_none, zipB_mx, isZ, opZip, zeroP, opAppendZ, opMakeMap, opLookup, mboxB, opUpdate, ↓reduceIte, Nat.reduceSub, Nat.reduceEqDiff, Nat.reduceAdd, Nat.reduceMul, Nat.reduceLT, Nat.reduceLeDiff, Int.reduceToNat, Int.reduceLE, Int.reduceLT, Int.reduceNeg, reduceCtorEq, gos, Int.reduceAdd, Int.reduceSub, Int.reduceMul, Int.reduceEq]
  refine K_call_pure (hs) rfl rfl (by simp only [tys]) (by first | rfl | simp [sim7, ofVal, undefP, zzL, if_true, if_false, ite_self, Nat.reduceEqDiff, Nat.reduceMul, Nat.reduceAdd, reduceCtorEq]) ?_
  simp (maxSteps := 20000000) (disch := omega) only [zzB, tys, ite_self, opnL, callB, readsB, stepOp, ofVal, opBuiltin, opLen, PV.sk, scalBin, scalUn, intBin, opLoad, natOf, opConvert, opField, cellsP, oneP, Value.oneCell', opStore, toIV, scalT, scalA, scalC, boxesA, boxesC, zipB_none, zipB_mx, isZ, opZip, zeroP, opAppendZ, opMakeMap, opLookup, mboxB, opUpdate, ↓reduceIte, Nat.reduceSub, Nat.reduceEqDiff, Nat.reduceAdd, Nat.reduceMul, Nat.reduceLT, Nat.reduceLeDiff, Int.reduceToNat, Int.reduceLE, Int.reduceLT, Int.reduceNeg, reduceCtorEq, gos, Int.reduceAdd, Int.reduceSub, Int.reduceMul, Int.reduceEq, Z.hmin, Z.hmin2, Z.sV, Z.sH, Z.sL, Z.sR, Z.sO, Z.aV, Z.aL, Z.v1e, Z.u1e, Z.wq, Z.wm, Z.wr]
  clear hs
  refine K_loopX (false :: false :: true :: false :: false :: false :: false :: false :: true :: true :: true :: true :: false :: true :: true :: true :: true :: false :: false :: false :: false :: false :: false :: false :: false :: false :: false :: false :: false :: false :: false :: false :: false :: false :: false :: false :: false :: false :: false :: false :: false :: false :: false :: false :: false :: false :: false :: false :: false :: false :: false :: false :: false :: false :: false :: false :: false :: false :: false :: false :: false :: false :: false :: false :: false :: false :: false :: false :: false :: false :: false :: false :: false :: false :: false :: false :: false :: false :: false :: false :: false :: false :: false :: false :: false :: false :: false :: false :: false :: false :: false :: false :: false :: false :: false :: false :: false :: false :: false :: false :: false :: false :: false :: false :: false :: false :: false :: false :: false :: false :: false :: false :: false :: false :: false :: false :: false :: false :: false :: false :: false :: false :: false :: [false, false, false, false, false, false, false, false, false, false, false, false]) [] (U / v1 - Q1).toNat (GI v1 U Q1 (fun q r => (.dead :: .dead :: (u64 V) :: .dead :: .dead :: .dead :: .dead :: .dead :: (u64 s) :: (u64 v1) :: (u64 v0) :: (u64 U) :: .dead :: (u64 u1) :: (u64 u0) :: (u64 q) :: (u64 r) :: .dead :: .dead :: .dead :: .dead :: .dead :: .dead :: .dead :: .dead :: .dead :: .dead :: .dead :: .dead :: .dead :: .dead :: .dead :: .dead :: .dead :: .dead :: .dead :: .dead :: .dead :: .dead :: .dead :: .dead :: .dead :: .dead :: .dead :: .dead :: .dead :: .dead :: .dead :: .dead :: .dead :: .dead :: .dead :: .dead :: .dead :: .dead :: .dead :: .dead :: .dead :: .dead :: .dead :: .dead :: .dead :: .dead :: .dead :: .dead :: .dead :: .dead :: .dead :: .dead :: .dead :: .dead :: .dead :: .dead :: .dead :: .dead :: .dead :: .dead :: .dead :: .dead :: .dead :: .dead :: .dead :: .dead :: .dead :: .dead :: .dead :: .dead :: .dead :: .dead :: .dead :: .dead :: .dead :: .dead :: .dead :: .dead :: .dead :: .dead :: .dead :: .dead :: .dead :: .dead :: .dead :: .dead :: .dead :: .dead :: .dead :: .dead :: .dead :: .dead :: .dead :: .dead :: .dead :: .dead :: .dead :: .dead :: .dead :: .dead :: .dead :: .dead :: .dead :: .dead :: .dead :: .dead :: [.dead, .dead, .dead, .dead, .dead, .dead, .dead, .dead, .dead, .dead, .dead, .dead]))) 0 (fun t h => Shape (fun ff : Nat → PV => ((ff 0) :: (ff 1) :: (u64 V) :: (ff 3) :: (ff 4) :: (ff 5) :: (ff 6) :: (ff 7) :: (u64 s) :: (u64 v1) :: (u64 v0) :: (u64 U) :: (ff 12) :: (u64 u1) :: (u64 u0) :: (u64 Q1) :: (ff 16) :: (ff 17) :: (ff 18) :: (ff 19) :: (ff 20) :: (ff 21) :: (ff 22) :: (ff 23) :: (ff 24) :: (ff 25) :: (ff 26) :: (ff 27) :: (ff 28) :: (ff 29) :: (ff 30) :: (ff 31) :: (ff 32) :: (ff 33) :: (ff 34) :: (ff 35) :: (ff 36) :: (ff 37) :: (ff 38) :: (ff 39) :: (ff 40) :: (ff 41) :: (ff 42) :: (ff 43) :: (ff 44) :: (ff 45) :: (ff 46) :: (ff 47) :: (ff 48) :: (ff 49) :: (ff 50) :: (ff 51) :: (ff 52) :: (ff 53) :: (ff 54) :: (ff 55) :: (ff 56) :: (ff 57) :: (ff 58) :: (ff 59) :: (ff 60) :: (ff 61) :: (ff 62) :: (ff 63) :: (ff 64) :: (ff 65) :: (ff 66) :: (ff 67) :: (ff 68) :: (ff 69) :: (ff 70) :: (ff 71) :: (ff 72) :: (ff 73) :: (ff 74) :: (ff 75) :: (ff 76) :: (ff 77) :: (ff 78) :: (ff 79) :: (ff 80) :: (ff 81) :: (ff 82) :: (ff 83) :: (ff 84) :: (ff 85) :: (ff 86) :: (ff 87) :: (ff 88) :: (ff 89) :: (ff 90) :: (ff 91) :: (ff 92) :: (ff 93) :: (ff 94) :: (ff 95) :: (ff 96) :: (ff 97) :: (ff 98) :: (ff 99) :: (ff 100) :: (ff 101) :: (ff 102) :: (ff 103) :: (ff 104) :: (ff 105) :: (ff 106) :: (ff 107) :: (ff 108) :: (ff 109) :: (ff 110) :: (ff 111) :: (ff 112) :: (ff 113) :: (ff 114) :: (ff 115) :: (ff 116) :: (ff 117) :: (ff 118) :: (ff 119) :: (ff 120) :: (ff 121) :: (ff 122) :: [ff 123, ff 124, ff 125, ff 126, ff 127, ff 128, ff 129, ff 130, ff 131, ff 132, ff 133, ff 134])) t ∧ h = Heap.none) ?_ ?_ ?_ ?_
  · exact forget_nil rfl
  · exact ⟨U / v1, U % v1, by have := (starts Z.D).ht; rw [← Z.hQ1] at this; omega, Z.hQ1 ▸ starts Z.D, rfl, drop_nil _⟩
  · rintro j t h ⟨q, r, hq, G, rfl, rfl⟩
    have G' : Gs v1 U q r ((U * 4294967296 + u1) / V) := Z.hQ1 ▸ G
    obtain ⟨q0, q1⟩ := qt_bd Z.D
    rw [← Z.hQ1] at q0 q1
    obtain ⟨t1, t2⟩ := test2 G' (by omega) Z.D
    obtain ⟨b1, b2, b3⟩ : 0 ≤ r ∧ r < 4294967296 ∧ q ≤ 4294967297 := ⟨G.hr0, G.hr1, G.hq⟩
    obtain ⟨d1, d2⟩ : 0 ≤ v1 ∧ v1 < 4294967296 := ⟨by have := Z.D.h1; omega, Z.D.h1'⟩
    rcases Nat.eq_zero_or_pos j with c | c
    · have hn := qt_ge Z.D G' (by rw [← Z.hQ1]; omega)
      have hqq : q = Q1 := by omega
      rw [hqq] at t1 hn ⊢
      clear G' G hq
      simp (maxSteps := 20000000) (disch := omega) only [zzB, tys, ite_self, opnL, callB, readsB, stepOp, ofVal, opBuiltin, opLen, PV.sk, scalBin, scalUn, intBin, opLoad, natOf, opConvert, opField, cellsP, oneP, Value.oneCell', opStore, toIV, scalT, scalA, scalC, boxesA, boxesC, zipB_none, zipB_mx, isZ, opZip, zeroP, opAppendZ, opMakeMap, opLookup, mboxB, opUpdate, ↓reduceIte, Nat.reduceSub, Nat.reduceEqDiff, Nat.reduceAdd, Nat.reduceMul, Nat.reduceLT, Nat.reduceLeDiff, Int.reduceToNat, Int.reduceLE, Int.reduceLT, Int.reduceNeg, reduceCtorEq, gos, Int.reduceAdd, Int.reduceSub, Int.reduceMul, Int.reduceEq, t1, t2]
      exact Shape.of rfl
    · have dn := down Z.D G' (by rw [← Z.hQ1]; omega)
      have dt := dv_test Z.D G' (by rw [← Z.hQ1]; omega)
      rw [← Z.hQ1] at dn
      clear G' G
      by_cases c0 : 4294967296 ≤ q
      · by_cases c2 : 4294967296 ≤ r + v1
        · have hqq := dn.1 c2
          clear dn dt
          simp (maxSteps := 20000000) (disch := omega) only [zzB, tys, ite_self, opnL, callB, readsB, stepOp, ofVal, opBuiltin, opLen, PV.sk, scalBin, scalUn, intBin, opLoad, natOf, opConvert, opField, cellsP, oneP, Value.oneCell', opStore, toIV, scalT, scalA, scalC, boxesA, boxesC, zipB_none, zipB_mx, isZ, opZip, zeroP, opAppendZ, opMakeMap, opLookup, mboxB, opUpdate, ↓reduceIte, Nat.reduceSub, Nat.reduceEqDiff, Nat.reduceAdd, Nat.reduceMul, Nat.reduceLT, Nat.reduceLeDiff, Int.reduceToNat, Int.reduceLE, Int.reduceLT, Int.reduceNeg, reduceCtorEq, gos, Int.reduceAdd, Int.reduceSub, Int.reduceMul, Int.reduceEq, t1, t2, hqq]
          exact Shape.of rfl
        · have hG := dn.2 (by omega)
          clear dn dt
          simp (maxSteps := 20000000) (disch := omega) only [zzB, tys, ite_self, opnL, callB, readsB, stepOp, ofVal, opBuiltin, opLen, PV.sk, scalBin, scalUn, intBin, opLoad, natOf, opConvert, opField, cellsP, oneP, Value.oneCell', opStore, toIV, scalT, scalA, scalC, boxesA, boxesC, zipB_none, zipB_mx, isZ, opZip, zeroP, opAppendZ, opMakeMap, opLookup, mboxB, opUpdate, ↓reduceIte, Nat.reduceSub, Nat.reduceEqDiff, Nat.reduceAdd, Nat.reduceMul, Nat.reduceLT, Nat.reduceLeDiff, Int.reduceToNat, Int.reduceLE, Int.reduceLT, Int.reduceNeg, reduceCtorEq, gos, Int.reduceAdd, Int.reduceSub, Int.reduceMul, Int.reduceEq, t1, t2]
          refine ⟨j - 1, by omega, forget_nil rfl, ⟨q - 1, r + v1, by omega, hG, ?_, drop_nil _⟩⟩
          simp (maxSteps := 20000000) only [keepT, if_true, if_false, Bool.false_eq_true]
      · have c1 : 4294967296 * r + u1 < q * v0 := by
          rcases dt with c1 | c1
          · omega
          · exact c1
        by_cases c2 : 4294967296 ≤ r + v1
        · have hqq := dn.1 c2
          clear dn dt
          simp (maxSteps := 20000000) (disch := omega) only [zzB, tys, ite_self, opnL, callB, readsB, stepOp, ofVal, opBuiltin, opLen, PV.sk, scalBin, scalUn, intBin, opLoad, natOf, opConvert, opField, cellsP, oneP, Value.oneCell', opStore, toIV, scalT, scalA, scalC, boxesA, boxesC, zipB_none, zipB_mx, isZ, opZip, zeroP, opAppendZ, opMakeMap, opLookup, mboxB, opUpdate, ↓reduceIte, Nat.reduceSub, Nat.reduceEqDiff, Nat.reduceAdd, Nat.reduceMul, Nat.reduceLT, Nat.reduceLeDiff, Int.reduceToNat, Int.reduceLE, Int.reduceLT, Int.reduceNeg, reduceCtorEq, gos, Int.reduceAdd, Int.reduceSub, Int.reduceMul, Int.reduceEq, t1, t2, hqq]
          exact Shape.of rfl
        · have hG := dn.2 (by omega)
          clear dn dt
          simp (maxSteps := 20000000) (disch := omega) only [zzB, tys, ite_self, opnL, callB, readsB, stepOp, ofVal, opBuiltin, opLen, PV.sk, scalBin, scalUn, intBin, opLoad, natOf, opConvert, opField, cellsP, oneP, Value.oneCell', opStore, toIV, scalT, scalA, scalC, boxesA, boxesC, zipB_none, zipB_mx, isZ, opZip, zeroP, opAppendZ, opMakeMap, opLookup, mboxB, opUpdate, ↓reduceIte, Nat.reduceSub, Nat.reduceEqDiff, Nat.reduceAdd, Nat.reduceMul, Nat.reduceLT, Nat.reduceLeDiff, Int.reduceToNat, Int.reduceLE, Int.reduceLT, Int.reduceNeg, reduceCtorEq, gos, Int.reduceAdd, Int.reduceSub, Int.reduceMul, Int.reduceEq, t1, t2]
          refine ⟨j - 1, by omega, forget_nil rfl, ⟨q - 1, r + v1, by omega, hG, ?_, drop_nil _⟩⟩
          simp (maxSteps := 20000000) only [keepT, if_true, if_false, Bool.false_eq_true]
  · rintro t h ⟨⟨ff, rfl⟩, rfl⟩

    simp (maxSteps := 20000000) (disch := omega) only [zzB, tys, ite_self, opnL, callB, readsB, stepOp, ofVal, opBuiltin, opLen, PV.sk, scalBin, scalUn, intBin, opLoad, natOf, opConvert, opField, cellsP, oneP, Value.oneCell', opStore, toIV, scalT, scalA, scalC, boxesA, boxesC, zipB_none, zipB_mx, isZ, opZip, zeroP, opAppendZ, opMakeMap, opLookup, mboxB, opUpdate, ↓reduceIte, Nat.reduceSub, Nat.reduceEqDiff, Nat.reduceAdd, Nat.reduceMul, Nat.reduceLT, Nat.reduceLeDiff, Int.reduceToNat, Int.reduceLE, Int.reduceLT, Int.reduceNeg, reduceCtorEq, gos, Int.reduceAdd, Int.reduceSub, Int.reduceMul, Int.reduceEq, Z.e1, Z.w2q, Z.w2m, Z.w2r]
    refine K_loopX (false :: false :: true :: false :: false :: false :: false :: false :: true :: true :: true :: false :: false :: false :: true :: true :: true :: true :: true :: false :: false :: false :: false :: false :: false :: false :: false :: false :: false :: false :: false :: false :: false :: false :: false :: false :: false :: false :: false :: false :: false :: false :: false :: false :: false :: false :: false :: false :: false :: false :: false :: false :: false :: false :: false :: false :: false :: false :: false :: false :: false :: false :: false :: false :: false :: false :: false :: false :: false :: false :: false :: false :: false :: false :: false :: false :: false :: false :: false :: false :: false :: false :: false :: false :: false :: false :: false :: false :: false :: false :: false :: false :: false :: false :: false :: false :: false :: false :: false :: false :: false :: false :: false :: false :: false :: false :: false :: false :: false :: false :: false :: false :: false :: false :: false :: false :: false :: false :: false :: false :: false :: false :: false :: [false, false, false, false, false, false, false, false, false, false, false, false]) [] (R1 / v1 - Q0).toNat (GI v1 R1 Q0 (fun q r => (.dead :: .dead :: (u64 V) :: .dead :: .dead :: .dead :: .dead :: .dead :: (u64 s) :: (u64 v1) :: (u64 v0) :: .dead :: .dead :: .dead :: (u64 u0) :: (u64 Q1) :: (u64 r) :: (u64 R1) :: (u64 q) :: .dead :: .dead :: .dead :: .dead :: .dead :: .dead :: .dead :: .dead :: .dead :: .dead :: .dead :: .dead :: .dead :: .dead :: .dead :: .dead :: .dead :: .dead :: .dead :: .dead :: .dead :: .dead :: .dead :: .dead :: .dead :: .dead :: .dead :: .dead :: .dead :: .dead :: .dead :: .dead :: .dead :: .dead :: .dead :: .dead :: .dead :: .dead :: .dead :: .dead :: .dead :: .dead :: .dead :: .dead :: .dead :: .dead :: .dead :: .dead :: .dead :: .dead :: .dead :: .dead :: .dead :: .dead :: .dead :: .dead :: .dead :: .dead :: .dead :: .dead :: .dead :: .dead :: .dead :: .dead :: .dead :: .dead :: .dead :: .dead :: .dead :: .dead :: .dead :: .dead :: .dead :: .dead :: .dead :: .dead :: .dead :: .dead :: .dead :: .dead :: .dead :: .dead :: .dead :: .dead :: .dead :: .dead :: .dead :: .dead :: .dead :: .dead :: .dead :: .dead :: .dead :: .dead :: .dead :: .dead :: .dead :: .dead :: .dead :: .dead :: .dead :: .dead :: .dead :: .dead :: [.dead, .dead, .dead, .dead, .dead, .dead, .dead, .dead, .dead, .dead, .dead, .dead]))) 2 (fun t h => Shape (fun ff : Nat → PV => ((ff 0) :: (ff 1) :: (u64 V) :: (ff 3) :: (ff 4) :: (ff 5) :: (ff 6) :: (ff 7) :: (u64 s) :: (u64 v1) :: (u64 v0) :: (ff 11) :: (ff 12) :: (ff 13) :: (u64 u0) :: (u64 Q1) :: (ff 16) :: (u64 R1) :: (u64 Q0) :: (ff 19) :: (ff 20) :: (ff 21) :: (ff 22) :: (ff 23) :: (ff 24) :: (ff 25) :: (ff 26) :: (ff 27) :: (ff 28) :: (ff 29) :: (ff 30) :: (ff 31) :: (ff 32) :: (ff 33) :: (ff 34) :: (ff 35) :: (ff 36) :: (ff 37) :: (ff 38) :: (ff 39) :: (ff 40) :: (ff 41) :: (ff 42) :: (ff 43) :: (ff 44) :: (ff 45) :: (ff 46) :: (ff 47) :: (ff 48) :: (ff 49) :: (ff 50) :: (ff 51) :: (ff 52) :: (ff 53) :: (ff 54) :: (ff 55) :: (ff 56) :: (ff 57) :: (ff 58) :: (ff 59) :: (ff 60) :: (ff 61) :: (ff 62) :: (ff 63) :: (ff 64) :: (ff 65) :: (ff 66) :: (ff 67) :: (ff 68) :: (ff 69) :: (ff 70) :: (ff 71) :: (ff 72) :: (ff 73) :: (ff 74) :: (ff 75) :: (ff 76) :: (ff 77) :: (ff 78) :: (ff 79) :: (ff 80) :: (ff 81) :: (ff 82) :: (ff 83) :: (ff 84) :: (ff 85) :: (ff 86) :: (ff 87) :: (ff 88) :: (ff 89) :: (ff 90) :: (ff 91) :: (ff 92) :: (ff 93) :: (ff 94) :: (ff 95) :: (ff 96) :: (ff 97) :: (ff 98) :: (ff 99) :: (ff 100) :: (ff 101) :: (ff 102) :: (ff 103) :: (ff 104) :: (ff 105) :: (ff 106) :: (ff 107) :: (ff 108) :: (ff 109) :: (ff 110) :: (ff 111) :: (ff 112) :: (ff 113) :: (ff 114) :: (ff 115) :: (ff 116) :: (ff 117) :: (ff 118) :: (ff 119) :: (ff 120) :: (ff 121) :: (ff 122) :: [ff 123, ff 124, ff 125, ff 126, ff 127, ff 128, ff 129, ff 130, ff 131, ff 132, ff 133, ff 134])) t ∧ h = Heap.none) ?_ ?_ ?_ ?_
    · exact forget_nil rfl
    · exact ⟨R1 / v1, R1 % v1, by have := (starts Z.D2).ht; rw [← Z.hQ0] at this; omega, Z.hQ0 ▸ starts Z.D2, rfl, drop_nil _⟩
    · rintro j t h ⟨q, r, hq, G, rfl, rfl⟩
      have G' : Gs v1 R1 q r ((R1 * 4294967296 + u0) / V) := Z.hQ0 ▸ G
      obtain ⟨q0, q1⟩ := qt_bd Z.D2
      rw [← Z.hQ0] at q0 q1
      obtain ⟨t1, t2⟩ := test2 G' (by omega) Z.D2
      obtain ⟨b1, b2, b3⟩ : 0 ≤ r ∧ r < 4294967296 ∧ q ≤ 4294967297 := ⟨G.hr0, G.hr1, G.hq⟩
      obtain ⟨d1, d2⟩ : 0 ≤ v1 ∧ v1 < 4294967296 := ⟨by have := Z.D.h1; omega, Z.D.h1'⟩
      rcases Nat.eq_zero_or_pos j with c | c
      · have hn := qt_ge Z.D2 G' (by rw [← Z.hQ0]; omega)
        have hqq : q = Q0 := by omega
        rw [hqq] at t1 hn ⊢
        clear G' G hq
        simp (maxSteps := 20000000) (disch := omega) only [zzB, tys, ite_self, opnL, callB, readsB, stepOp, ofVal, opBuiltin, opLen, PV.sk, scalBin, scalUn, intBin, opLoad, natOf, opConvert, opField, cellsP, oneP, Value.oneCell', opStore, toIV, scalT, scalA, scalC, boxesA, boxesC, zipB_none, zipB_mx, isZ, opZip, zeroP, opAppendZ, opMakeMap, opLookup, mboxB, opUpdate, ↓reduceIte, Nat.reduceSub, Nat.reduceEqDiff, Nat.reduceAdd, Nat.reduceMul, Nat.reduceLT, Nat.reduceLeDiff, Int.reduceToNat, Int.reduceLE, Int.reduceLT, Int.reduceNeg, reduceCtorEq, gos, Int.reduceAdd, Int.reduceSub, Int.reduceMul, Int.reduceEq, t1, t2]
        exact Shape.of rfl
      · have dn := down Z.D2 G' (by rw [← Z.hQ0]; omega)
        have dt := dv_test Z.D2 G' (by rw [← Z.hQ0]; omega)
        rw [← Z.hQ0] at dn
        clear G' G
        by_cases c0 : 4294967296 ≤ q
        · by_cases c2 : 4294967296 ≤ r + v1
          · have hqq := dn.1 c2
            clear dn dt
            simp (maxSteps := 20000000) (disch := omega) only [zzB, tys, ite_self, opnL, callB, readsB, stepOp, ofVal, opBuiltin, opLen, PV.sk, scalBin, scalUn, intBin, opLoad, natOf, opConvert, opField, cellsP, oneP, Value.oneCell', opStore, toIV, scalT, scalA, scalC, boxesA, boxesC, zipB_none, zipB_mx, isZ, opZip, zeroP, opAppendZ, opMakeMap, opLookup, mboxB, opUpdate, ↓reduceIte, Nat.reduceSub, Nat.reduceEqDiff, Nat.reduceAdd, Nat.reduceMul, Nat.reduceLT, Nat.reduceLeDiff, Int.reduceToNat, Int.reduceLE, Int.reduceLT, Int.reduceNeg, reduceCtorEq, gos, Int.reduceAdd, Int.reduceSub, Int.reduceMul, Int.reduceEq, t1, t2, hqq]
            exact Shape.of rfl
          · have hG := dn.2 (by omega)
            clear dn dt
            simp (maxSteps := 20000000) (disch := omega) only [zzB, tys, ite_self, opnL, callB, readsB, stepOp, ofVal, opBuiltin, opLen, PV.sk, scalBin, scalUn, intBin, opLoad, natOf, opConvert, opField, cellsP, oneP, Value.oneCell', opStore, toIV, scalT, scalA, scalC, boxesA, boxesC, zipB_none, zipB_mx, isZ, opZip, zeroP, opAppendZ, opMakeMap, opLookup, mboxB, opUpdate, ↓reduceIte, Nat.reduceSub, Nat.reduceEqDiff, Nat.reduceAdd, Nat.reduceMul, Nat.reduceLT, Nat.reduceLeDiff, Int.reduceToNat, Int.reduceLE, Int.reduceLT, Int.reduceNeg, reduceCtorEq, gos, Int.reduceAdd, Int.reduceSub, Int.reduceMul, Int.reduceEq, t1, t2]
            refine ⟨j - 1, by omega, forget_nil rfl, ⟨q - 1, r + v1, by omega, hG, ?_, drop_nil _⟩⟩
            simp (maxSteps := 20000000) only [keepT, if_true, if_false, Bool.false_eq_true]
        · have c1 : 4294967296 * r + u0 < q * v0 := by
            rcases dt with c1 | c1
            · omega
            · exact c1
          by_cases c2 : 4294967296 ≤ r + v1
          · have hqq := dn.1 c2
            clear dn dt
            simp (maxSteps := 20000000) (disch := omega) only [zzB, tys, ite_self, opnL, callB, readsB, stepOp, ofVal, opBuiltin, opLen, PV.sk, scalBin, scalUn, intBin, opLoad, natOf, opConvert, opField, cellsP, oneP, Value.oneCell', opStore, toIV, scalT, scalA, scalC, boxesA, boxesC, zipB_none, zipB_mx, isZ, opZip, zeroP, opAppendZ, opMakeMap, opLookup, mboxB, opUpdate, ↓reduceIte, Nat.reduceSub, Nat.reduceEqDiff, Nat.reduceAdd, Nat.reduceMul, Nat.reduceLT, Nat.reduceLeDiff, Int.reduceToNat, Int.reduceLE, Int.reduceLT, Int.reduceNeg, reduceCtorEq, gos, Int.reduceAdd, Int.reduceSub, Int.reduceMul, Int.reduceEq, t1, t2, hqq]
            exact Shape.of rfl
          · have hG := dn.2 (by omega)
            clear dn dt
            simp (maxSteps := 20000000) (disch := omega) only [zzB, tys, ite_self, opnL, callB, readsB, stepOp, ofVal, opBuiltin, opLen, PV.sk, scalBin, scalUn, intBin, opLoad, natOf, opConvert, opField, cellsP, oneP, Value.oneCell', opStore, toIV, scalT, scalA, scalC, boxesA, boxesC, zipB_none, zipB_mx, isZ, opZip, zeroP, opAppendZ, opMakeMap, opLookup, mboxB, opUpdate, ↓reduceIte, Nat.reduceSub, Nat.reduceEqDiff, Nat.reduceAdd, Nat.reduceMul, Nat.reduceLT, Nat.reduceLeDiff, Int.reduceToNat, Int.reduceLE, Int.reduceLT, Int.reduceNeg, reduceCtorEq, gos, Int.reduceAdd, Int.reduceSub, Int.reduceMul, Int.reduceEq, t1, t2]
            refine ⟨j - 1, by omega, forget_nil rfl, ⟨q - 1, r + v1, by omega, hG, ?_, drop_nil _⟩⟩
            simp (maxSteps := 20000000) only [keepT, if_true, if_false, Bool.false_eq_true]
    · rintro t h ⟨⟨ff, rfl⟩, rfl⟩

      simp (maxSteps := 20000000) (disch := omega) only [zzB, tys, ite_self, opnL, callB, readsB, stepOp, ofVal, opBuiltin, opLen, PV.sk, scalBin, scalUn, intBin, opLoad, natOf, opConvert, opField, cellsP, oneP, Value.oneCell', opStore, toIV, scalT, scalA, scalC, boxesA, boxesC, zipB_none, zipB_mx, isZ, opZip, zeroP, opAppendZ, opMakeMap, opLookup, mboxB, opUpdate, ↓reduceIte, Nat.reduceSub, Nat.reduceEqDiff, Nat.reduceAdd, Nat.reduceMul, Nat.reduceLT, Nat.reduceLeDiff, Int.reduceToNat, Int.reduceLE, Int.reduceLT, Int.reduceNeg, reduceCtorEq, zzR, gos, Int.reduceAdd, Int.reduceSub, Int.reduceMul, Int.reduceEq, Z.hmin, Z.sM, Z.f1, Z.f2]

theorem div64_lo (lo y : Int) (h1 : 0 < y) (h2 : y < 18446744073709551616) (h3 : W64 lo) :
    CallsP Try.prog 79 [u64 0, u64 lo, u64 y] (.tup [u64 (lo / y), u64 (lo % y)]) := by
  obtain ⟨h3, h4⟩ := h3
  have b1 := Int.ediv_nonneg h3 (show 0 ≤ y by omega)
  have b2 : lo / y ≤ lo := Int.ediv_le_self _ h3
  refine CallsP.start (n := 135) (rs := [.tmp 6, .tmp 7]) Try.func79 rfl rfl rfl fun base => ?_
  simp (maxSteps := 20000000) only [List.length_cons, List.length_nil, Nat.reduceAdd, Nat.reduceSub, List.replicate, List.cons_append, List.nil_append]
  simp (maxSteps := 20000000) (disch := omega) only [zzB, tys, ite_self, opnL, callB, readsB, stepOp, ofVal, opBuiltin, opLen, PV.sk, scalBin, scalUn, intBin, opLoad, natOf, opConvert, opField, cellsP, oneP, Value.oneCell', opStore, toIV, scalT, scalA, scalC, boxesA, boxesC, zipB_none, zipB_mx, isZ, opZip, zeroP, opAppendZ, opMakeMap, opLookup, mboxB, opUpdate, ↓reduceIte, Nat.reduceSub, Nat.reduceEqDiff, Nat.reduceAdd, Nat.reduceMul, Nat.reduceLT, Nat.reduceLeDiff, Int.reduceToNat, Int.reduceLE, Int.reduceLT, Int.reduceNeg, reduceCtorEq, gos, Int.reduceAdd, Int.reduceSub, Int.reduceMul, Int.reduceEq]
  refine ⟨by kernel_rfl, ?_⟩
  simp (maxSteps := 20000000) (disch := omega) only [zzB, tys, ite_self, opnL, callB, readsB, stepOp, ofVal, opBuiltin, opLen, PV.sk, scalBin, scalUn, intBin, opLoad, natOf, opConvert, opField, cellsP, oneP, Value.oneCell', opStore, toIV, scalT, scalA, scalC, boxesA, boxesC, zipB_none, zipB_mx, isZ, opZip, zeroP, opAppendZ, opMakeMap, opLookup, mboxB, opUpdate, ↓reduceIte, Nat.reduceSub, Nat.reduceEqDiff, Nat.reduceAdd, Nat.reduceMul, Nat.reduceLT, Nat.reduceLeDiff, Int.reduceToNat, Int.reduceLE, Int.reduceLT, Int.reduceNeg, reduceCtorEq, zzR, gos, Int.reduceAdd, Int.reduceSub, Int.reduceMul, Int.reduceEq]
theorem div64_walk (hi lo y : Int) (h0 : 0 ≤ hi) (h1 : hi < y) (h2 : y < 18446744073709551616) (h3 : W64 lo) :
    CallsP Try.prog 79 [u64 hi, u64 lo, u64 y] (.tup [u64 ((hi * 18446744073709551616 + lo) / y), u64 ((hi * 18446744073709551616 + lo) % y)]) := by
  by_cases c : hi = 0
  · subst c
    rw [Int.zero_mul, Int.zero_add]
    exact div64_lo lo y h1 h2 h3
  · exact div64_hi hi lo y (by omega) h1 h2 h3
theorem rem64_walk (hi lo y : Int) (h0 : 0 ≤ hi) (h1 : 0 < y) (h2 : y < 18446744073709551616) (h3 : W64 lo) :
    CallsP Try.prog 77 [u64 hi, u64 lo, u64 y] (u64 ((hi * 18446744073709551616 + lo) % y)) := by
  have hm0 := Int.emod_nonneg hi (show y ≠ 0 by omega)
  have hm1 := Int.emod_lt_of_pos hi h1
  have ev := div64_walk (hi % y) lo y hm0 hm1 h2 h3
  have e : (hi % y * 18446744073709551616 + lo) % y = (hi * 18446744073709551616 + lo) % y := by
    rw [Int.add_emod, Int.mul_emod, Int.emod_emod_of_dvd hi (Int.dvd_refl y), ← Int.mul_emod, ← Int.add_emod]
  rw [e] at ev
  refine CallsP.start (n := 19) (rs := [.tmp 6]) Try.func77 rfl rfl rfl fun base => ?_
  simp (maxSteps := 20000000) only [List.length_cons, List.length_nil, Nat.reduceAdd, Nat.reduceSub, List.replicate, List.cons_append, List.nil_append]
  simp (maxSteps := 20000000) (disch := omega) only [zzB, tys, ite_self, opnL, callB, readsB, stepOp, ofVal, opBuiltin, opLen, PV.sk, scalBin, scalUn, intBin, opLoad, natOf, opConvert, opField, cellsP, oneP, Value.oneCell', opStore, toIV, scalT, scalA, scalC, boxesA, boxesC, zipB_none, zipB_mx, isZ, opZip, zeroP, opAppendZ, opMakeMap, opLookup, mboxB, opUpdate, ↓reduceIte, Nat.reduceSub, Nat.reduceEqDiff, Nat.reduceAdd, Nat.reduceMul, Nat.reduceLT, Nat.reduceLeDiff, Int.reduceToNat, Int.reduceLE, Int.reduceLT, Int.reduceNeg, reduceCtorEq, gos, Int.reduceAdd, Int.reduceSub, Int.reduceMul, Int.reduceEq]
  refine K_call_pure (ev) rfl rfl (by simp only [tys]) (by first | rfl | simp [sim7, ofVal, undefP, zzL, if_true, if_false, ite_self, Nat.reduceEqDiff, Nat.reduceMul, Nat.reduceAdd, reduceCtorEq]) ?_
  simp (maxSteps := 20000000) (disch := omega) only [zzB, tys, ite_self, opnL, callB, readsB, stepOp, ofVal, opBuiltin, opLen, PV.sk, scalBin, scalUn, intBin, opLoad, natOf, opConvert, opField, cellsP, oneP, Value.oneCell', opStore, toIV, scalT, scalA, scalC, boxesA, boxesC, zipB_none, zipB_mx, isZ, opZip, zeroP, opAppendZ, opMakeMap, opLookup, mboxB, opUpdate, ↓reduceIte, Nat.reduceSub, Nat.reduceEqDiff, Nat.reduceAdd, Nat.reduceMul, Nat.reduceLT, Nat.reduceLeDiff, Int.reduceToNat, Int.reduceLE, Int.reduceLT, Int.reduceNeg, reduceCtorEq, zzR, gos, Int.reduceAdd, Int.reduceSub, Int.reduceMul, Int.reduceEq]
end Go.Proofs.Ytkhjfphenflefaa.TM
