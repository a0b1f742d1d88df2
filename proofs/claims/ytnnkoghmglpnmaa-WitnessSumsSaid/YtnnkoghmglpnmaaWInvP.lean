/- Pure facts of layer 1: what turns a number round, by Euclid's rule. Conditions: none. -/
import Derived.Test.YtnnkoghmglpnmaaWField
namespace Go.Proofs.Ytnnkoghmglpnmaa.TM
open Go Go.RowKit
set_option linter.unusedVariables false
set_option linter.defProp false
set_option linter.unusedSimpArgs false

noncomputable def finv (p a : Int) : Int := by
  classical exact if h : ∃ x, In p x ∧ a * x % p = 1 then h.choose else 0
theorem finv_spec {p a x : Int} (hx : In p x) (h : a * x % p = 1) : finv p a = x := by
  have hex : ∃ x, In p x ∧ a * x % p = 1 := ⟨x, hx, h⟩
  have hd : finv p a = hex.choose := by unfold finv; rw [dif_pos hex]
  obtain ⟨h1, h2⟩ := hex.choose_spec
  rw [hd]
  generalize hex.choose = y at h1 h2
  have e1 : y * (a * x % p) % p = y := by rw [h, Int.mul_one, h1.emod]
  have e2 : x * (a * y % p) % p = x := by rw [h2, Int.mul_one, hx.emod]
  have e3 : y * (a * x % p) % p = x * (a * y % p) % p := by
    rw [mm_r, mm_r]
    congr 1
    grind
  rw [← e1, e3, e2]
/-- What Inv answers. -/
noncomputable def invR (p a : Int) : Int × Int := if Int.gcd p a = 1 then (finv p a, 0) else (0, 5)

/-- Euclid's rule, step by step: what its four numbers are. -/
structure Eu (p a r s x y : Int) : Prop where
  hs0 : 0 ≤ s
  hsr : s < r
  hrp : r ≤ p
  hg : Int.gcd r s = Int.gcd p a
  hx : ∃ z, x * a = r + z * p
  hy : ∃ z, y * a = s + z * p
  hsg : (0 ≤ x ∧ y ≤ 0 ∧ -y * r + x * s = p) ∨ (x ≤ 0 ∧ 0 ≤ y ∧ y * r + -x * s = p)
  hx2 : 2 * x ≤ p ∧ -(2 * x) ≤ p

theorem eu_next {p a r s x y : Int} (h : Eu p a r s x y) (hp : p < 9223372036854775808) (h0 : s ≠ 0) :
    Eu p a s (r - r / s * s) y (x - r / s * y) ∧ (∀ z, z = r / s * y → -9223372036854775808 ≤ z ∧ z < 9223372036854775808 ∧ -9223372036854775808 ≤ x - z ∧ x - z < 9223372036854775808) ∧ 0 ≤ r / s * s ∧ r / s * s ≤ r ∧ 0 ≤ r / s ∧ r / s ≤ r := by
  obtain ⟨hs0, hsr, hrp, hg, ⟨z1, hx⟩, ⟨z2, hy⟩, hsg, hx2, hx3⟩ := h
  have hq := Int.emod_add_mul_ediv r s
  have hqc : s * (r / s) = r / s * s := Int.mul_comm _ _
  have hm0 := Int.emod_nonneg r h0
  have hm1 := Int.emod_lt_of_pos r (show 0 < s by omega)
  have hq0 : 0 ≤ r / s := Int.ediv_nonneg (by omega) hs0
  have hqr : r / s ≤ r := Int.ediv_le_self _ (by omega)
  have hrem : r - r / s * s = r % s := by omega
  have hqs0 : 0 ≤ r / s * s := Int.mul_nonneg hq0 hs0
  have zs : (0 ≤ x ∧ r / s * y ≤ 0) ∨ (x ≤ 0 ∧ 0 ≤ r / s * y) := by
    rcases hsg with ⟨g1, g2, g3⟩ | ⟨g1, g2, g3⟩
    · have h1 : 0 ≤ r / s * -y := Int.mul_nonneg hq0 (by omega)
      have e : r / s * -y = -(r / s * y) := by grind
      exact .inl ⟨g1, by omega⟩
    · exact .inr ⟨g1, Int.mul_nonneg hq0 g2⟩
  -- the signs, and that nothing is beyond p
  have sg : (0 ≤ y ∧ x - r / s * y ≤ 0 ∧ -(x - r / s * y) * s + y * (r - r / s * s) = p) ∨ (y ≤ 0 ∧ 0 ≤ x - r / s * y ∧ (x - r / s * y) * s + -y * (r - r / s * s) = p) := by
    rcases hsg with ⟨g1, g2, g3⟩ | ⟨g1, g2, g3⟩
    · right
      have : 0 ≤ r / s * -y := Int.mul_nonneg hq0 (by omega)
      have e : r / s * -y = -(r / s * y) := by grind
      refine ⟨g2, by omega, ?_⟩
      rw [← g3]; grind
    · left
      have : 0 ≤ r / s * y := Int.mul_nonneg hq0 g2
      refine ⟨g2, by omega, ?_⟩
      rw [← g3]; grind
  have hy2 : 2 * y ≤ p ∧ -(2 * y) ≤ p := by
    rcases hsg with ⟨g1, g2, g3⟩ | ⟨g1, g2, g3⟩
    · have h1 : 2 * -y ≤ r * -y := Int.mul_le_mul_of_nonneg_right (by omega) (by omega)
      have h2 : 0 ≤ x * s := Int.mul_nonneg g1 hs0
      have e : -y * r = r * -y := by grind
      omega
    · have h1 : 2 * y ≤ r * y := Int.mul_le_mul_of_nonneg_right (by omega) g2
      have h2 : 0 ≤ -x * s := Int.mul_nonneg (by omega) hs0
      have e : y * r = r * y := by grind
      omega
  have bd : ∀ u, (0 ≤ u ∧ u * s ≤ p → u ≤ p) := by
    intro u ⟨h1, h2⟩
    have : u * 1 ≤ u * s := Int.mul_le_mul_of_nonneg_left (by omega) h1
    omega
  have hb : -p ≤ x - r / s * y ∧ x - r / s * y ≤ p := by
    rcases sg with ⟨g1, g2, g3⟩ | ⟨g1, g2, g3⟩
    · have h2 : 0 ≤ y * (r - r / s * s) := Int.mul_nonneg g1 (by omega)
      have := bd (-(x - r / s * y)) ⟨by omega, by omega⟩
      omega
    · have h2 : 0 ≤ -y * (r - r / s * s) := Int.mul_nonneg (by omega) (by omega)
      have := bd (x - r / s * y) ⟨by omega, by omega⟩
      omega
  refine ⟨⟨by omega, by omega, by omega, ?_, ⟨z2, hy⟩, ⟨z1 - r / s * z2, ?_⟩, sg, hy2⟩, ?_, hqs0, by omega, hq0, hqr⟩
  · rw [Int.gcd_sub_mul_right_right, Int.gcd_comm, hg]
  · have : (x - r / s * y) * a = x * a - r / s * (y * a) := by grind
    rw [this, hx, hy]; grind
  · intro z hz
    subst hz
    clear sg hsg bd
    omega
theorem gcd_self0 (r : Int) (h : 0 ≤ r) : (Int.gcd r 0 : Int) = r := by simp [Int.gcd_zero_right]; omega

/-- Who has none has a divisor with p. -/
theorem gcd_of_inv {p a x : Int} (hp : 2 ≤ p) (h : a * x % p = 1) : Int.gcd p a = 1 := by
  have h1 : ((Int.gcd p a : Nat) : Int) ∣ p := Int.gcd_dvd_left ..
  have h2 : ((Int.gcd p a : Nat) : Int) ∣ a := Int.gcd_dvd_right ..
  have h3 : ((Int.gcd p a : Nat) : Int) ∣ 1 := by
    have e := Int.emod_add_mul_ediv (a * x) p
    rw [h] at e
    have : (1 : Int) = a * x - p * (a * x / p) := by omega
    rw [this]
    exact Int.dvd_sub (Int.dvd_trans h2 (Int.dvd_mul_right _ _)) (Int.dvd_trans h1 (Int.dvd_mul_right _ _))
  have h4 := Int.eq_one_of_dvd_one (by omega) h3
  omega

def itJ {α : Type} (f : α → α) : Nat → α → α
  | 0, t => t
  | n + 1, t => f (itJ f n t)
theorem itJ_front {α : Type} (f : α → α) : ∀ (n : Nat) (t : α), itJ f (n + 1) t = itJ f n (f t)
  | 0, _ => rfl
  | n + 1, t => by rw [itJ, itJ_front f n t]; rfl
/-- A loop that comes to an end. -/
theorem run_ex {α : Type} (f : α → α) (z : α → Int) (I : α → Prop) (h : ∀ t, I t → z t ≠ 0 → I (f t) ∧ 0 ≤ z (f t) ∧ z (f t) < z t) : ∀ (n : Nat) (t : α), z t = n → I t → ∃ N, N ≤ n ∧ z (itJ f N t) = 0 ∧ ∀ j, j ≤ N → I (itJ f j t) ∧ (j < N → z (itJ f j t) ≠ 0) := by
  intro n
  induction n using Nat.strongRecOn with
  | _ n ih =>
  intro t hz hI
  by_cases c : z t = 0
  · exact ⟨0, by omega, c, fun j hj => by obtain rfl : j = 0 := by omega
                                          exact ⟨hI, fun h => by omega⟩⟩
  · obtain ⟨h1, h2, h3⟩ := h t hI c
    obtain ⟨N, g0, g1, g2⟩ := ih (z (f t)).toNat (by omega) (f t) (by omega) h1
    refine ⟨N + 1, by omega, by rw [itJ_front]; exact g1, fun j hj => ?_⟩
    cases j with
    | zero => exact ⟨hI, fun _ => c⟩
    | succ j =>
      rw [itJ_front]
      obtain ⟨k1, k2⟩ := g2 j (by omega)
      exact ⟨k1, fun h => k2 (by omega)⟩
abbrev T4 := Int × Int × Int × Int
def euT (t : T4) : T4 := (t.2.1, t.1 - t.1 / t.2.1 * t.2.1, t.2.2.2, t.2.2.1 - t.1 / t.2.1 * t.2.2.2)
theorem eu_run {p a : Int} (hp : p < 9223372036854775808) (hp2 : 2 ≤ p) (ha : In p a) : ∃ N, (itJ euT N (p, a, 0, 1)).2.1 = 0 ∧ ∀ j, j ≤ N → Eu p a (itJ euT j (p, a, 0, 1)).1 (itJ euT j (p, a, 0, 1)).2.1 (itJ euT j (p, a, 0, 1)).2.2.1 (itJ euT j (p, a, 0, 1)).2.2.2 ∧ (j < N → (itJ euT j (p, a, 0, 1)).2.1 ≠ 0) := by
  have h1 := ha.1; have h2 := ha.2
  have E : Eu p a p a 0 1 := ⟨h1, h2, Int.le_refl _, rfl, ⟨-1, by omega⟩, ⟨0, by omega⟩, .inr ⟨by omega, by omega, by omega⟩, by omega⟩
  obtain ⟨N, _, g⟩ := run_ex euT (fun t => t.2.1) (fun t => Eu p a t.1 t.2.1 t.2.2.1 t.2.2.2) (fun t hI hz => by
    obtain ⟨E2, _⟩ := eu_next hI hp hz
    exact ⟨E2, E2.hs0, E2.hsr⟩) a.toNat (p, a, 0, 1) (by show a = _; omega) E
  exact ⟨N, g⟩
/-- At the end. -/
theorem eu_end {p a r x y : Int} (hp2 : 2 ≤ p) (E : Eu p a r 0 x y) : (r == 1) = decide (Int.gcd p a = 1) ∧ (Int.gcd p a = 1 → In p (if x < 0 then x + p else x) ∧ a * (if x < 0 then x + p else x) % p = 1) := by
  have h0 := E.hsr
  have hg := E.hg
  have hg2 : (Int.gcd p a : Int) = r := by rw [← hg]; exact gcd_self0 r (by omega)
  obtain ⟨z, hz⟩ := E.hx
  have hx2 := E.hx2
  refine ⟨?_, fun h1 => ?_⟩
  · rw [Bool.eq_iff_iff]
    simp
    omega
  · by_cases cx : x < 0
    · rw [if_pos cx]
      refine ⟨⟨by omega, by omega⟩, ?_⟩
      have : a * (x + p) = r + (z + a) * p := by rw [Int.add_mul, ← Int.add_assoc, ← hz]; grind
      rw [this, Int.add_mul_emod_self_right, Int.emod_eq_of_lt (by omega) (by omega)]
      omega
    · rw [if_neg cx]
      refine ⟨⟨by omega, by omega⟩, ?_⟩
      rw [Int.mul_comm, hz, Int.add_mul_emod_self_right, Int.emod_eq_of_lt (by omega) (by omega)]
      omega
theorem finv_in {p a : Int} (hp2 : 2 ≤ p) (hp : p < 9223372036854775808) (ha : In p a) (h : Int.gcd p a = 1) : In p (finv p a) ∧ a * finv p a % p = 1 := by
  obtain ⟨N, g1, g2⟩ := eu_run hp hp2 ha
  obtain ⟨E, _⟩ := g2 N (Nat.le_refl _)
  rw [g1] at E
  obtain ⟨i1, i2⟩ := (eu_end hp2 E).2 h
  rw [finv_spec i1 i2]
  exact ⟨i1, i2⟩
/-- Euclid's rule, all modulo p: what its numbers are. -/
structure Em (p a r s x y : Int) : Prop where
  hs0 : 0 ≤ s
  hsr : s < r
  hrp : r ≤ p
  hg : Int.gcd r s = Int.gcd p a
  hx : x * a % p = r % p
  hy : y * a % p = s % p
  ix : In p x
  iy : In p y
theorem em_next {p a r s x y : Int} (hp2 : 2 ≤ p) (E : Em p a r s x y) (c : s ≠ 0) : Em p a s (r - r / s * s) y ((x - r / s % p * y % p) % p) := by
  have hs0 := E.hs0; have hsr := E.hsr; have hrp := E.hrp
  have hq := Int.emod_add_mul_ediv r s
  have hqc : s * (r / s) = r / s * s := Int.mul_comm _ _
  have hm0 := Int.emod_nonneg r c
  have hm1 := Int.emod_lt_of_pos r (show 0 < s by omega)
  refine ⟨by omega, by omega, by omega, ?_, E.hy, ?_, E.iy, emod_in _ (by omega)⟩
  · rw [Int.gcd_sub_mul_right_right, Int.gcd_comm, E.hg]
  · rw [mm_l, Int.sub_mul, ← sm_r, mm_l, sm_r, Int.mul_assoc]
    rw [← sm_l, E.hx, sm_l, ← sm_r, mm_l, ← mm_r, E.hy, mm_r, sm_r]
def emT (p : Int) (t : T4) : T4 := (t.2.1, t.1 - t.1 / t.2.1 * t.2.1, t.2.2.2, (t.2.2.1 - t.1 / t.2.1 % p * t.2.2.2 % p) % p)
theorem em_run {p a : Int} (hp2 : 2 ≤ p) (ha : In p a) : ∃ N, (itJ (emT p) N (p, a, 0, 1)).2.1 = 0 ∧ ∀ j, j ≤ N → Em p a (itJ (emT p) j (p, a, 0, 1)).1 (itJ (emT p) j (p, a, 0, 1)).2.1 (itJ (emT p) j (p, a, 0, 1)).2.2.1 (itJ (emT p) j (p, a, 0, 1)).2.2.2 ∧ (j < N → (itJ (emT p) j (p, a, 0, 1)).2.1 ≠ 0) := by
  have h1 := ha.1; have h2 := ha.2
  have E : Em p a p a 0 1 := ⟨h1, h2, Int.le_refl _, rfl, by simp, by simp, ⟨by omega, by omega⟩, ⟨by omega, by omega⟩⟩
  obtain ⟨N, _, g⟩ := run_ex (emT p) (fun t => t.2.1) (fun t => Em p a t.1 t.2.1 t.2.2.1 t.2.2.2) (fun t hI hz => by
    have E2 := em_next hp2 hI hz
    exact ⟨E2, E2.hs0, E2.hsr⟩) a.toNat (p, a, 0, 1) (by show a = _; omega) E
  exact ⟨N, g⟩
theorem em_end {p a r x y : Int} (hp2 : 2 ≤ p) (E : Em p a r 0 x y) (h : Int.gcd p a = 1) : finv p a = x := by
  have h0 := E.hsr
  have hg := E.hg
  have hg2 : (Int.gcd p a : Int) = r := by rw [← hg]; exact gcd_self0 r (by omega)
  refine finv_spec E.ix ?_
  rw [Int.mul_comm, E.hx, show r = 1 by omega]
  exact Int.emod_eq_of_lt (by omega) (by omega)
def gcT (t : Int × Int) : Int × Int := (t.2, t.1 % t.2)
theorem gc_run {a b : Int} (ha : 0 ≤ a) (hb : 0 ≤ b) : ∃ N, (itJ gcT N (a, b)).2 = 0 ∧ (itJ gcT N (a, b)).1 = (Int.gcd a b : Int) ∧ ∀ j, j ≤ N → (0 ≤ (itJ gcT j (a, b)).1 ∧ 0 ≤ (itJ gcT j (a, b)).2) ∧ (j < N → (itJ gcT j (a, b)).2 ≠ 0) := by
  obtain ⟨N, _, g1, g2⟩ := run_ex gcT (fun t => t.2) (fun t => (0 ≤ t.1 ∧ 0 ≤ t.2) ∧ Int.gcd t.1 t.2 = Int.gcd a b) (fun t hI hz => by
    obtain ⟨⟨h1, h2⟩, h3⟩ := hI
    have m0 := Int.emod_nonneg t.1 hz
    have m1 := Int.emod_lt_of_pos t.1 (show 0 < t.2 by omega)
    refine ⟨⟨⟨h2, m0⟩, ?_⟩, m0, m1⟩
    show Int.gcd t.2 (t.1 % t.2) = _
    rw [← h3, Int.gcd_comm t.1]
    have e := Int.emod_add_mul_ediv t.1 t.2
    conv => rhs; rw [← e]
    simp) b.toNat (a, b) (by show b = _; omega) ⟨⟨ha, hb⟩, rfl⟩
  refine ⟨N, g1, ?_, fun j hj => ⟨(g2 j hj).1.1, (g2 j hj).2⟩⟩
  obtain ⟨⟨h1, _⟩, h3⟩ := (g2 N (Nat.le_refl _)).1
  rw [← h3, g1]
  exact (gcd_self0 _ h1).symm
/-- Powers: the number, what is left of the power, and what came out so far. -/
def pwT (p : Int) (t : Int × Int × Int) : Int × Int × Int := (t.1 * t.1 % p, t.2.1 / 2, if t.2.1 % 2 = 1 then t.2.2 * t.1 % p else t.2.2)
theorem pow_half (p a o : Int) (n : Nat) : o * a ^ n % p = (if n % 2 = 1 then o * a % p else o) * (a * a % p) ^ (n / 2) % p := by
  have e : a ^ n = (a * a) ^ (n / 2) * a ^ (n % 2) := by
    rw [show a * a = a ^ 2 by rw [Int.pow_succ, Int.pow_succ, Int.pow_zero, Int.one_mul], ← Int.pow_mul, ← Int.pow_add]
    congr 1; omega
  have r : ∀ q : Int, q * (a * a % p) ^ (n / 2) % p = q * (a * a) ^ (n / 2) % p := fun q => by rw [← mm_r, pm, mm_r]
  rw [r, e]
  rcases Nat.mod_two_eq_zero_or_one n with h | h
  · rw [h, if_neg (by decide), Int.pow_zero, Int.mul_one]
  · rw [h, if_pos rfl, mm_l, Int.pow_succ, Int.pow_zero, Int.one_mul]
    congr 1; grind
theorem pw_run {p a : Int} (hp2 : 2 ≤ p) (ha : In p a) (n : Nat) : ∃ N, (itJ (pwT p) N (a, (n : Int), 1)).2.1 = 0 ∧ (itJ (pwT p) N (a, (n : Int), 1)).2.2 = a ^ n % p ∧
    ∀ j, j ≤ N → (In p (itJ (pwT p) j (a, (n : Int), 1)).1 ∧ In p (itJ (pwT p) j (a, (n : Int), 1)).2.2 ∧ 0 ≤ (itJ (pwT p) j (a, (n : Int), 1)).2.1 ∧ (itJ (pwT p) j (a, (n : Int), 1)).2.1 ≤ n) ∧ (j < N → (itJ (pwT p) j (a, (n : Int), 1)).2.1 ≠ 0) := by
  obtain ⟨N, _, g1, g2⟩ := run_ex (pwT p) (fun t => t.2.1) (fun t => (In p t.1 ∧ In p t.2.2 ∧ 0 ≤ t.2.1 ∧ t.2.1 ≤ n) ∧ t.2.2 * t.1 ^ t.2.1.toNat % p = a ^ n % p) (fun t hI hz => by
    obtain ⟨⟨h1, h2, h3, h5⟩, h4⟩ := hI
    refine ⟨⟨⟨emod_in _ (by omega), ?_, ?_, ?_⟩, ?_⟩, ?_, ?_⟩
    · show In p (if _ then _ else _)
      split
      · exact emod_in _ (by omega)
      · exact h2
    · show 0 ≤ t.2.1 / 2; omega
    · show t.2.1 / 2 ≤ n; omega
    · rw [← h4]
      obtain ⟨m, hm⟩ := Int.eq_ofNat_of_zero_le h3
      show (if t.2.1 % 2 = 1 then t.2.2 * t.1 % p else t.2.2) * (t.1 * t.1 % p) ^ (t.2.1 / 2).toNat % p = _
      rw [hm, Int.toNat_natCast, show ((m : Int) / 2).toNat = m / 2 by omega, pow_half p t.1 t.2.2 m]
      congr 2
      by_cases c : m % 2 = 1
      · rw [if_pos c, if_pos (by omega)]
      · rw [if_neg c, if_neg (by omega)]
    · show 0 ≤ t.2.1 / 2; omega
    · show t.2.1 / 2 < t.2.1; omega) n (a, (n : Int), 1) rfl ⟨⟨ha, ⟨by show (0 : Int) ≤ 1; omega, by show (1 : Int) < p; omega⟩, by show (0 : Int) ≤ n; omega, Int.le_refl _⟩, by show 1 * a ^ ((n : Int)).toNat % p = _; rw [Int.one_mul, Int.toNat_natCast]⟩
  refine ⟨N, g1, ?_, fun j hj => ⟨(g2 j hj).1.1, (g2 j hj).2⟩⟩
  obtain ⟨⟨_, h2, _⟩, h4⟩ := (g2 N (Nat.le_refl _)).1
  rw [g1] at h4
  rw [← h4]
  simp [h2.emod]
end Go.Proofs.Ytnnkoghmglpnmaa.TM
