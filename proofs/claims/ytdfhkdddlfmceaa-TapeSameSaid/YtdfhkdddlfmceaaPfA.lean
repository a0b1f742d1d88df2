/- Pure facts of words of 64 bits: what math/bits.Mul64, Len64, Div64 and Rem64 come to. -/
import Derived.Test.YtdfhkdddlfmceaaX9
import Derived.Laws.BitsLemmas
namespace Go.Proofs.Ytdfhkdddlfmceaa.PfA
open Go.RowKit Go.Proofs.YtdfhkdddlfmceaaW.PrintWords Go.Proofs.YtdfhkdddlfmceaaW.PrintLast Go.Proofs.YtdfhkdddlfmceaaW.PrintMore Go.Proofs.Ytdfhkdddlfmceaa.X
set_option linter.unusedVariables false
set_option linter.unusedSimpArgs false

theorem uw (n : Int) : IntKind.u64.wrap n = n % 18446744073709551616 := by simp [IntKind.wrap, IntKind.bits, IntKind.signed]
theorem uw_of {n : Int} (h0 : 0 ≤ n) (h1 : n < 18446744073709551616) : IntKind.u64.wrap n = n := by rw [uw]; omega
theorem iw_of {n : Int} (h0 : -9223372036854775808 ≤ n) (h1 : n < 9223372036854775808) : wrap64 n = n := by unfold wrap64; omega
theorem and32 {x : Int} (h0 : 0 ≤ x) (h1 : x < 18446744073709551616) : Go.bits .and .u64 x 4294967295 = x % 4294967296 :=
  bits_mask .u64 64 (by decide) (fun n a b => uw_of a b) 32 (by decide) x h0 h1
theorem and1 {x : Int} (h0 : 0 ≤ x) (h1 : x < 18446744073709551616) : Go.bits .and .u64 x 1 = x % 2 :=
  bits_mask .u64 64 (by decide) (fun n a b => uw_of a b) 1 (by decide) x h0 h1
theorem tmod_nn {a b : Int} (h : 0 ≤ a) : Int.tmod a b = a % b := Int.tmod_eq_emod_of_nonneg h
theorem tdiv_nn {a b : Int} (h : 0 ≤ a) : Int.tdiv a b = a / b := Int.tdiv_eq_ediv_of_nonneg h

theorem mul_bd {a b m n : Int} (ha : 0 ≤ a) (hb : 0 ≤ b) (hm : a ≤ m) (hn : b ≤ n) : 0 ≤ a * b ∧ a * b ≤ m * n :=
  ⟨Int.mul_nonneg ha hb, Int.mul_le_mul hm hn hb (by omega)⟩

theorem mul64 (a b : Int) (ha : 0 ≤ a) (ha' : a < 18446744073709551616) (hb : 0 ≤ b) (hb' : b < 18446744073709551616) :
    bits_Mul64.f a b = some (a * b / 18446744073709551616, a * b % 18446744073709551616) := by
  unfold bits_Mul64.f
  rw [and32 ha ha', and32 hb hb']
  obtain ⟨a1, ea1⟩ : ∃ z, z = a / 4294967296 := ⟨_, rfl⟩
  obtain ⟨a0, ea0⟩ : ∃ z, z = a % 4294967296 := ⟨_, rfl⟩
  obtain ⟨b1, eb1⟩ : ∃ z, z = b / 4294967296 := ⟨_, rfl⟩
  obtain ⟨b0, eb0⟩ : ∃ z, z = b % 4294967296 := ⟨_, rfl⟩
  rw [← ea1, ← ea0, ← eb1, ← eb0]
  have hab : a * b = a1 * b1 * 18446744073709551616 + (a1 * b0 + a0 * b1) * 4294967296 + a0 * b0 := by
    have h1 : a = a1 * 4294967296 + a0 := by omega
    have h2 : b = b1 * 4294967296 + b0 := by omega
    rw [h1, h2]; grind
  have c11 := mul_bd (a := a1) (b := b1) (m := 4294967295) (n := 4294967295) (by omega) (by omega) (by omega) (by omega)
  have c10 := mul_bd (a := a1) (b := b0) (m := 4294967295) (n := 4294967295) (by omega) (by omega) (by omega) (by omega)
  have c01 := mul_bd (a := a0) (b := b1) (m := 4294967295) (n := 4294967295) (by omega) (by omega) (by omega) (by omega)
  have c00 := mul_bd (a := a0) (b := b0) (m := 4294967295) (n := 4294967295) (by omega) (by omega) (by omega) (by omega)
  rw [uw (a * b), hab]
  generalize a1 * b1 = p11 at *
  generalize a1 * b0 = p10 at *
  generalize a0 * b1 = p01 at *
  generalize a0 * b0 = p00 at *
  clear hab ea1 ea0 eb1 eb0
  rw [uw_of (n := p11) (by omega) (by omega), uw_of (n := p10) (by omega) (by omega), uw_of (n := p00) (by omega) (by omega), uw_of (n := p01) (by omega) (by omega)]
  rw [uw_of (n := p10 + p00 / 4294967296) (by omega) (by omega), and32 (by omega) (by omega)]
  rw [uw_of (n := p11 + (p10 + p00 / 4294967296) / 4294967296) (by omega) (by omega), uw_of (n := (p10 + p00 / 4294967296) % 4294967296 + p01) (by omega) (by omega)]
  rw [uw_of (by omega) (by omega)]
  congr 1
  refine Prod.ext ?_ rfl
  simp only
  omega

/-! ### how many bits -/
def tab : ByteArray := ⟨#[0, 1, 2, 2, 3, 3, 3, 3, 4, 4, 4, 4, 4, 4, 4, 4, 5, 5, 5, 5, 5, 5, 5, 5, 5, 5, 5, 5, 5, 5, 5, 5, 6, 6, 6, 6, 6, 6, 6, 6, 6, 6, 6, 6, 6, 6, 6, 6, 6, 6, 6, 6, 6, 6, 6, 6, 6, 6, 6, 6, 6, 6, 6, 6, 7, 7, 7, 7, 7, 7, 7, 7, 7, 7, 7, 7, 7, 7, 7, 7, 7, 7, 7, 7, 7, 7, 7, 7, 7, 7, 7, 7, 7, 7, 7, 7, 7, 7, 7, 7, 7, 7, 7, 7, 7, 7, 7, 7, 7, 7, 7, 7, 7, 7, 7, 7, 7, 7, 7, 7, 7, 7, 7, 7, 7, 7, 7, 7, 8, 8, 8, 8, 8, 8, 8, 8, 8, 8, 8, 8, 8, 8, 8, 8, 8, 8, 8, 8, 8, 8, 8, 8, 8, 8, 8, 8, 8, 8, 8, 8, 8, 8, 8, 8, 8, 8, 8, 8, 8, 8, 8, 8, 8, 8, 8, 8, 8, 8, 8, 8, 8, 8, 8, 8, 8, 8, 8, 8, 8, 8, 8, 8, 8, 8, 8, 8, 8, 8, 8, 8, 8, 8, 8, 8, 8, 8, 8, 8, 8, 8, 8, 8, 8, 8, 8, 8, 8, 8, 8, 8, 8, 8, 8, 8, 8, 8, 8, 8, 8, 8, 8, 8, 8, 8, 8, 8, 8, 8, 8, 8, 8, 8, 8, 8, 8, 8, 8, 8, 8, 8, 8, 8, 8, 8, 8, 8]⟩
theorem tab_all : ∀ i : Fin 256, 1 ≤ i.val → 1 ≤ tab.data.toList.getD i.val 0 ∧ (tab.data.toList.getD i.val 0).toNat ≤ 8 ∧ 2 ^ ((tab.data.toList.getD i.val 0).toNat - 1) ≤ i.val ∧ i.val < 2 ^ (tab.data.toList.getD i.val 0).toNat := by decide +kernel
theorem tab_size : tab.size = 256 := by decide +kernel
theorem tab_bt (i : Nat) (h1 : 1 ≤ i) (h : i < 256) : ∃ n : Nat, bt tab (i : Int) = (n : Int) ∧ 1 ≤ n ∧ n ≤ 8 ∧ 2 ^ (n - 1) ≤ i ∧ i < 2 ^ n := by
  obtain ⟨h2, h3, h4, h5⟩ := tab_all ⟨i, h⟩ h1
  refine ⟨(tab.data.toList.getD i 0).toNat, ?_, ?_, h3, h4, h5⟩
  · unfold bt
    have hs : i < tab.size := by rw [tab_size]; exact h
    rw [dif_pos (show (i : Int).toNat < tab.size by rw [Int.toNat_natCast]; exact hs)]
    have : tab.data.toList.getD i 0 = tab[i]'hs := by
      rw [List.getD_eq_getElem?_getD, List.getElem?_eq_getElem (show i < tab.data.toList.length from hs)]
      rfl
    rw [this]
    rfl
  · have := UInt8.le_iff_toNat_le.1 h2
    simpa using this

set_option maxRecDepth 10000 in
theorem len_j0 (k : Nat) (x n2 : Nat) (h1 : 1 ≤ x) (h : x < 4294967296) (hn : n2 ≤ 64) :
    ∃ n : Nat, bits_Len64.j0 (k + 1) (x : Int) (n2 : Int) = some ((n2 + n : Nat) : Int) ∧ 1 ≤ n ∧ n ≤ 32 ∧ 2 ^ (n - 1) ≤ x ∧ x < 2 ^ n := by
  have key : ∀ (y m e : Nat), 1 ≤ y → y < 256 → x / 2 ^ m = y → m ≤ 24 → ∃ n : Nat, bt tab (y : Int) = (n : Int) ∧ 1 ≤ n ∧ n ≤ 8 ∧ 2 ^ (m + n - 1) ≤ x ∧ x < 2 ^ (m + n) := by
    intro y m e hy1 hy2 hxy hm
    obtain ⟨n, hb, g1, g2, g3, g4⟩ := tab_bt y hy1 hy2
    refine ⟨n, hb, g1, g2, ?_, ?_⟩
    · have : m + n - 1 = (n - 1) + m := by omega
      rw [this, Nat.pow_add]
      have h5 : 2 ^ (n - 1) ≤ x / 2 ^ m := by rw [hxy]; exact g3
      exact (Nat.le_div_iff_mul_le (Nat.two_pow_pos m)).1 h5
    · have : m + n = n + m := by omega
      rw [this, Nat.pow_add]
      have h5 : x / 2 ^ m < 2 ^ n := by rw [hxy]; exact g4
      exact (Nat.div_lt_iff_lt_mul (Nat.two_pow_pos m)).1 h5
  have e0 : bits_Len64.j0 (k + 1) (x : Int) (n2 : Int) = (let x0 : Int := x; let x2 : Int := n2; if x0 ≥ 65536 then (if (x0 / 65536) ≥ 256 then (if 0 ≤ (((x0 / 65536) / 256) % 256) then (if (((x0 / 65536) / 256) % 256) < 256 then (some (wrap64 ((wrap64 ((wrap64 (x2 + 16)) + 8)) + (wrap64 (bt tab (((x0 / 65536) / 256) % 256)))))) else (none)) else (none)) else (if 0 ≤ ((x0 / 65536) % 256) then (if ((x0 / 65536) % 256) < 256 then (some (wrap64 ((wrap64 (x2 + 16)) + (wrap64 (bt tab ((x0 / 65536) % 256)))))) else (none)) else (none))) else (if x0 ≥ 256 then (if 0 ≤ ((x0 / 256) % 256) then (if ((x0 / 256) % 256) < 256 then (some (wrap64 ((wrap64 (x2 + 8)) + (wrap64 (bt tab ((x0 / 256) % 256)))))) else (none)) else (none)) else (if 0 ≤ ((x0) % 256) then (if ((x0) % 256) < 256 then (some (wrap64 (x2 + (wrap64 (bt tab ((x0) % 256)))))) else (none)) else (none)))) := rfl
  rw [e0]
  simp only
  by_cases c1 : x ≥ 65536
  · rw [if_pos (by omega)]
    by_cases c2 : x / 65536 ≥ 256
    · rw [if_pos (by omega), if_pos (by omega), if_pos (by omega)]
      obtain ⟨n, hb, g1, g2, g3, g4⟩ := key (x / 16777216) 24 0 (by omega) (by omega) rfl (by omega)
      refine ⟨24 + n, ?_, by omega, by omega, g3, g4⟩
      have e1 : ((x : Int) / 65536 / 256) % 256 = ((x / 16777216 : Nat) : Int) := by omega
      rw [e1, hb, iw_of (n := (n2 : Int) + 16) (by omega) (by omega), iw_of (n := (n : Int)) (by omega) (by omega), iw_of (n := (n2 : Int) + 16 + 8) (by omega) (by omega), iw_of (by omega) (by omega)]
      congr 1; omega
    · rw [if_neg (by omega), if_pos (by omega), if_pos (by omega)]
      obtain ⟨n, hb, g1, g2, g3, g4⟩ := key (x / 65536) 16 0 (by omega) (by omega) rfl (by omega)
      refine ⟨16 + n, ?_, by omega, by omega, g3, g4⟩
      have e1 : ((x : Int) / 65536) % 256 = ((x / 65536 : Nat) : Int) := by omega
      rw [e1, hb, iw_of (n := (n2 : Int) + 16) (by omega) (by omega), iw_of (n := (n : Int)) (by omega) (by omega), iw_of (by omega) (by omega)]
      congr 1; omega
  · rw [if_neg (by omega)]
    by_cases c2 : x ≥ 256
    · rw [if_pos (by omega), if_pos (by omega), if_pos (by omega)]
      obtain ⟨n, hb, g1, g2, g3, g4⟩ := key (x / 256) 8 0 (by omega) (by omega) rfl (by omega)
      refine ⟨8 + n, ?_, by omega, by omega, g3, g4⟩
      have e1 : ((x : Int) / 256) % 256 = ((x / 256 : Nat) : Int) := by omega
      rw [e1, hb, iw_of (n := (n2 : Int) + 8) (by omega) (by omega), iw_of (n := (n : Int)) (by omega) (by omega), iw_of (by omega) (by omega)]
      congr 1; omega
    · rw [if_neg (by omega), if_pos (by omega), if_pos (by omega)]
      obtain ⟨n, hb, g1, g2, g3, g4⟩ := key x 0 0 (by omega) (by omega) (by simp) (by omega)
      refine ⟨n, ?_, by omega, by omega, by simpa using g3, by simpa using g4⟩
      have e1 : ((x : Int)) % 256 = (x : Int) := by omega
      rw [e1, hb, iw_of (n := (n : Int)) (by omega) (by omega), iw_of (by omega) (by omega)]
      congr 1

theorem lz64 (k : Nat) (y : Nat) (h1 : 1 ≤ y) (h : y < 18446744073709551616) :
    ∃ s : Nat, bits_LeadingZeros64.f (k + 1) (y : Int) = some (s : Int) ∧ s ≤ 63 ∧ 2 ^ 63 ≤ y * 2 ^ s ∧ y * 2 ^ s < 2 ^ 64 := by
  have fin : ∀ n : Nat, 1 ≤ n → n ≤ 64 → 2 ^ (n - 1) ≤ y → y < 2 ^ n → ∃ s : Nat, some (wrap64 (64 - (n : Int))) = some (s : Int) ∧ s ≤ 63 ∧ 2 ^ 63 ≤ y * 2 ^ s ∧ y * 2 ^ s < 2 ^ 64 := by
    intro n g1 g2 g3 g4
    refine ⟨64 - n, ?_, by omega, ?_, ?_⟩
    · rw [iw_of (by omega) (by omega)]; congr 1; omega
    · have := Nat.mul_le_mul_right (2 ^ (64 - n)) g3
      rwa [← Nat.pow_add, show n - 1 + (64 - n) = 63 by omega] at this
    · have := Nat.mul_lt_mul_of_pos_right g4 (Nat.two_pow_pos (64 - n))
      rwa [← Nat.pow_add, show n + (64 - n) = 64 by omega] at this
  unfold bits_LeadingZeros64.f bits_Len64.f
  by_cases c : y ≥ 4294967296
  · rw [if_pos (by omega)]
    have e : (y : Int) / 4294967296 = ((y / 4294967296 : Nat) : Int) := by omega
    obtain ⟨n, hb, g1, g2, g3, g4⟩ := len_j0 k (y / 4294967296) 32 (by omega) (by omega) (by omega)
    rw [e, show (32 : Int) = ((32 : Nat) : Int) from rfl, hb]
    refine fin (32 + n) (by omega) (by omega) ?_ ?_
    · have := (Nat.le_div_iff_mul_le (by decide)).1 g3
      rwa [show (4294967296 : Nat) = 2 ^ 32 by decide, ← Nat.pow_add, show n - 1 + 32 = 32 + n - 1 by omega] at this
    · have := (Nat.div_lt_iff_lt_mul (by decide)).1 g4
      rwa [show (4294967296 : Nat) = 2 ^ 32 by decide, ← Nat.pow_add, show n + 32 = 32 + n by omega] at this
  · rw [if_neg (by omega)]
    obtain ⟨n, hb, g1, g2, g3, g4⟩ := len_j0 k y 0 h1 (by omega) (by omega)
    rw [show (0 : Int) = ((0 : Nat) : Int) from rfl, hb]
    exact fin (0 + n) (by omega) (by omega) (by simpa using g3) (by simpa using g4)
end Go.Proofs.Ytdfhkdddlfmceaa.PfA
