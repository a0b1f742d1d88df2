/- What is proved of functions, and plain facts, part 5. Conditions: none. -/
import Derived.Test.YtmalpmnmknpphaaSFoldSides4
set_option linter.defProp false
set_option linter.unusedSectionVars false
set_option linter.unusedSimpArgs false
set_option linter.unusedVariables false
namespace Go.Proofs.Ytmalpmnmknpphaa.TM
open Go Go.RowKit
noncomputable def finv (p a : Int) : Int := by
  classical exact if h : ∃ x, In p x ∧ a * x % p = 1 then h.choose else 0
theorem finv_spec {p a x : Int} (hx : In p x) (h : a * x % p = 1) : finv p a = x := by
  have hex : ∃ x, In p x ∧ a * x % p = 1 := ⟨x, hx, h⟩
  have hd : finv p a = hex.choose := by unfold finv; rw [dif_pos hex]
  obtain ⟨h1, h2⟩ := hex.choose_spec
  rw [hd]
  generalize hex.choose = y at h1 h2
  have e1 : y * (a * x % p) % p = y := by rw [h, Int.mul_one, h1.emod]
  have e2 : x * (a * y % p) % p = x := by rw [h2, Int.mul_one, hx.emod]
  have e3 : y * (a * x % p) % p = x * (a * y % p) % p := by
    rw [mm_r, mm_r]
    congr 1
    grind
  rw [← e1, e3, e2]
noncomputable def invR (p a : Int) : Int × Int := if Int.gcd p a = 1 then (finv p a, 0) else (0, 5)
structure Eu (p a r s x y : Int) : Prop where
  hs0 : 0 ≤ s
  hsr : s < r
  hrp : r ≤ p
  hg : Int.gcd r s = Int.gcd p a
  hx : ∃ z, x * a = r + z * p
  hy : ∃ z, y * a = s + z * p
  hsg : (0 ≤ x ∧ y ≤ 0 ∧ -y * r + x * s = p) ∨ (x ≤ 0 ∧ 0 ≤ y ∧ y * r + -x * s = p)
  hx2 : 2 * x ≤ p ∧ -(2 * x) ≤ p
theorem eu_next {p a r s x y : Int} (h : Eu p a r s x y) (hp : p < 9223372036854775808) (h0 : s ≠ 0) :
    Eu p a s (r - r / s * s) y (x - r / s * y) ∧ (∀ z, z = r / s * y → -9223372036854775808 ≤ z ∧ z < 9223372036854775808 ∧ -9223372036854775808 ≤ x - z ∧ x - z < 9223372036854775808) ∧ 0 ≤ r / s * s ∧ r / s * s ≤ r ∧ 0 ≤ r / s ∧ r / s ≤ r := by
  obtain ⟨hs0, hsr, hrp, hg, ⟨z1, hx⟩, ⟨z2, hy⟩, hsg, hx2, hx3⟩ := h
  have hq := Int.emod_add_mul_ediv r s
  have hqc : s * (r / s) = r / s * s := Int.mul_comm _ _
  have hm0 := Int.emod_nonneg r h0
  have hm1 := Int.emod_lt_of_pos r (show 0 < s by omega)
  have hq0 : 0 ≤ r / s := Int.ediv_nonneg (by omega) hs0
  have hqr : r / s ≤ r := Int.ediv_le_self _ (by omega)
  have hrem : r - r / s * s = r % s := by omega
  have hqs0 : 0 ≤ r / s * s := Int.mul_nonneg hq0 hs0
  have zs : (0 ≤ x ∧ r / s * y ≤ 0) ∨ (x ≤ 0 ∧ 0 ≤ r / s * y) := by
    rcases hsg with ⟨g1, g2, g3⟩ | ⟨g1, g2, g3⟩
    · have h1 : 0 ≤ r / s * -y := Int.mul_nonneg hq0 (by omega)
      have e : r / s * -y = -(r / s * y) := by grind
      exact .inl ⟨g1, by omega⟩
    · exact .inr ⟨g1, Int.mul_nonneg hq0 g2⟩
  -- the signs, and that nothing is beyond p
  have sg : (0 ≤ y ∧ x - r / s * y ≤ 0 ∧ -(x - r / s * y) * s + y * (r - r / s * s) = p) ∨ (y ≤ 0 ∧ 0 ≤ x - r / s * y ∧ (x - r / s * y) * s + -y * (r - r / s * s) = p) := by
    rcases hsg with ⟨g1, g2, g3⟩ | ⟨g1, g2, g3⟩
    · right
      have : 0 ≤ r / s * -y := Int.mul_nonneg hq0 (by omega)
      have e : r / s * -y = -(r / s * y) := by grind
      refine ⟨g2, by omega, ?_⟩
      rw [← g3]; grind
    · left
      have : 0 ≤ r / s * y := Int.mul_nonneg hq0 g2
      refine ⟨g2, by omega, ?_⟩
      rw [← g3]; grind
  have hy2 : 2 * y ≤ p ∧ -(2 * y) ≤ p := by
    rcases hsg with ⟨g1, g2, g3⟩ | ⟨g1, g2, g3⟩
    · have h1 : 2 * -y ≤ r * -y := Int.mul_le_mul_of_nonneg_right (by omega) (by omega)
      have h2 : 0 ≤ x * s := Int.mul_nonneg g1 hs0
      have e : -y * r = r * -y := by grind
      omega
    · have h1 : 2 * y ≤ r * y := Int.mul_le_mul_of_nonneg_right (by omega) g2
      have h2 : 0 ≤ -x * s := Int.mul_nonneg (by omega) hs0
      have e : y * r = r * y := by grind
      omega
  have bd : ∀ u, (0 ≤ u ∧ u * s ≤ p → u ≤ p) := by
    intro u ⟨h1, h2⟩
    have : u * 1 ≤ u * s := Int.mul_le_mul_of_nonneg_left (by omega) h1
    omega
  have hb : -p ≤ x - r / s * y ∧ x - r / s * y ≤ p := by
    rcases sg with ⟨g1, g2, g3⟩ | ⟨g1, g2, g3⟩
    · have h2 : 0 ≤ y * (r - r / s * s) := Int.mul_nonneg g1 (by omega)
      have := bd (-(x - r / s * y)) ⟨by omega, by omega⟩
      omega
    · have h2 : 0 ≤ -y * (r - r / s * s) := Int.mul_nonneg (by omega) (by omega)
      have := bd (x - r / s * y) ⟨by omega, by omega⟩
      omega
  refine ⟨⟨by omega, by omega, by omega, ?_, ⟨z2, hy⟩, ⟨z1 - r / s * z2, ?_⟩, sg, hy2⟩, ?_, hqs0, by omega, hq0, hqr⟩
  · rw [Int.gcd_sub_mul_right_right, Int.gcd_comm, hg]
  · have : (x - r / s * y) * a = x * a - r / s * (y * a) := by grind
    rw [this, hx, hy]; grind
  · intro z hz
    subst hz
    clear sg hsg bd
    omega
theorem gcd_self0 (r : Int) (h : 0 ≤ r) : (Int.gcd r 0 : Int) = r := by simp [Int.gcd_zero_right]; omega
def itJ {α : Type} (f : α → α) : Nat → α → α
  | 0, t => t
  | n + 1, t => f (itJ f n t)
theorem itJ_front {α : Type} (f : α → α) : ∀ (n : Nat) (t : α), itJ f (n + 1) t = itJ f n (f t)
  | 0, _ => rfl
  | n + 1, t => by rw [itJ, itJ_front f n t]; rfl
theorem run_ex {α : Type} (f : α → α) (z : α → Int) (I : α → Prop) (h : ∀ t, I t → z t ≠ 0 → I (f t) ∧ 0 ≤ z (f t) ∧ z (f t) < z t) : ∀ (n : Nat) (t : α), z t = n → I t → ∃ N, N ≤ n ∧ z (itJ f N t) = 0 ∧ ∀ j, j ≤ N → I (itJ f j t) ∧ (j < N → z (itJ f j t) ≠ 0) := by
  intro n
  induction n using Nat.strongRecOn with
  | _ n ih =>
  intro t hz hI
  by_cases c : z t = 0
  · exact ⟨0, by omega, c, fun j hj => by obtain rfl : j = 0 := by omega
                                          exact ⟨hI, fun h => by omega⟩⟩
  · obtain ⟨h1, h2, h3⟩ := h t hI c
    obtain ⟨N, g0, g1, g2⟩ := ih (z (f t)).toNat (by omega) (f t) (by omega) h1
    refine ⟨N + 1, by omega, by rw [itJ_front]; exact g1, fun j hj => ?_⟩
    cases j with
    | zero => exact ⟨hI, fun _ => c⟩
    | succ j =>
      rw [itJ_front]
      obtain ⟨k1, k2⟩ := g2 j (by omega)
      exact ⟨k1, fun h => k2 (by omega)⟩
abbrev T4 := Int × Int × Int × Int
def euT (t : T4) : T4 := (t.2.1, t.1 - t.1 / t.2.1 * t.2.1, t.2.2.2, t.2.2.1 - t.1 / t.2.1 * t.2.2.2)
theorem eu_run {p a : Int} (hp : p < 9223372036854775808) (hp2 : 2 ≤ p) (ha : In p a) : ∃ N, (itJ euT N (p, a, 0, 1)).2.1 = 0 ∧ ∀ j, j ≤ N → Eu p a (itJ euT j (p, a, 0, 1)).1 (itJ euT j (p, a, 0, 1)).2.1 (itJ euT j (p, a, 0, 1)).2.2.1 (itJ euT j (p, a, 0, 1)).2.2.2 ∧ (j < N → (itJ euT j (p, a, 0, 1)).2.1 ≠ 0) := by
  have h1 := ha.1; have h2 := ha.2
  have E : Eu p a p a 0 1 := ⟨h1, h2, Int.le_refl _, rfl, ⟨-1, by omega⟩, ⟨0, by omega⟩, .inr ⟨by omega, by omega, by omega⟩, by omega⟩
  obtain ⟨N, _, g⟩ := run_ex euT (fun t => t.2.1) (fun t => Eu p a t.1 t.2.1 t.2.2.1 t.2.2.2) (fun t hI hz => by
    obtain ⟨E2, _⟩ := eu_next hI hp hz
    exact ⟨E2, E2.hs0, E2.hsr⟩) a.toNat (p, a, 0, 1) (by show a = _; omega) E
  exact ⟨N, g⟩
theorem eu_end {p a r x y : Int} (hp2 : 2 ≤ p) (E : Eu p a r 0 x y) : (r == 1) = decide (Int.gcd p a = 1) ∧ (Int.gcd p a = 1 → In p (if x < 0 then x + p else x) ∧ a * (if x < 0 then x + p else x) % p = 1) := by
  have h0 := E.hsr
  have hg := E.hg
  have hg2 : (Int.gcd p a : Int) = r := by rw [← hg]; exact gcd_self0 r (by omega)
  obtain ⟨z, hz⟩ := E.hx
  have hx2 := E.hx2
  refine ⟨?_, fun h1 => ?_⟩
  · rw [Bool.eq_iff_iff]
    simp
    omega
  · by_cases cx : x < 0
    · rw [if_pos cx]
      refine ⟨⟨by omega, by omega⟩, ?_⟩
      have : a * (x + p) = r + (z + a) * p := by rw [Int.add_mul, ← Int.add_assoc, ← hz]; grind
      rw [this, Int.add_mul_emod_self_right, Int.emod_eq_of_lt (by omega) (by omega)]
      omega
    · rw [if_neg cx]
      refine ⟨⟨by omega, by omega⟩, ?_⟩
      rw [Int.mul_comm, hz, Int.add_mul_emod_self_right, Int.emod_eq_of_lt (by omega) (by omega)]
      omega
theorem finv_in {p a : Int} (hp2 : 2 ≤ p) (hp : p < 9223372036854775808) (ha : In p a) (h : Int.gcd p a = 1) : In p (finv p a) ∧ a * finv p a % p = 1 := by
  obtain ⟨N, g1, g2⟩ := eu_run hp hp2 ha
  obtain ⟨E, _⟩ := g2 N (Nat.le_refl _)
  rw [g1] at E
  obtain ⟨i1, i2⟩ := (eu_end hp2 E).2 h
  rw [finv_spec i1 i2]
  exact ⟨i1, i2⟩
end Go.Proofs.Ytmalpmnmknpphaa.TM
namespace Go.Proofs.Ytmalpmnmknpphaa.TM
open Go Go.RowKit
def Prm (p : Nat) : Prop := 2 ≤ p ∧ ∀ a, 0 < a → a < p → Nat.gcd p a = 1
theorem prm_of {p : Nat} (h2 : 2 ≤ p) (h : ∀ d, 2 ≤ d → d * d ≤ p → p % d ≠ 0) : Prm p := by
  refine ⟨h2, fun a h0 h1 => ?_⟩
  have d1 := Nat.gcd_dvd_left p a
  have d2 := Nat.gcd_dvd_right p a
  have gp : 0 < Nat.gcd p a := Nat.gcd_pos_of_pos_left _ (by omega)
  have ga : Nat.gcd p a ≤ a := Nat.le_of_dvd h0 d2
  generalize Nat.gcd p a = g at *
  by_cases e : g = 1
  · exact e
  exfalso
  obtain ⟨c, hc⟩ := d1
  by_cases e2 : g * g ≤ p
  · exact h g (by omega) e2 (Nat.mod_eq_zero_of_dvd ⟨c, hc⟩)
  · have c1 : c ≠ 0 := by rintro rfl; omega
    have c2 : c ≠ 1 := by rintro rfl; omega
    have c3 : c < g := by
      rcases Nat.lt_or_ge c g with h | h
      · exact h
      · exact absurd (by rw [hc]; exact Nat.mul_le_mul_left g h) e2
    refine h c (by omega) ?_ (Nat.mod_eq_zero_of_dvd ⟨g, by rw [hc, Nat.mul_comm]⟩)
    rw [hc]; exact Nat.mul_le_mul_right c (Nat.le_of_lt c3)
theorem sq_lt {d n : Nat} (h : d * d < n * n) : d < n := by
  rcases Nat.lt_or_ge d n with g | g
  · exact g
  · exact absurd (Nat.mul_le_mul g g) (by omega)
theorem least (Q : Nat → Prop) : ∀ n, Q n → ∃ m, Q m ∧ ∀ k, k < m → ¬ Q k := by
  intro n
  induction n using Nat.strongRecOn with
  | _ n ih =>
  intro h
  by_cases c : ∃ k, k < n ∧ Q k
  · obtain ⟨k, hk, hq⟩ := c
    exact ih k hk hq
  · exact ⟨n, h, fun k hk hq => c ⟨k, hk, hq⟩⟩
end Go.Proofs.Ytmalpmnmknpphaa.TM
namespace Go.Proofs.Ytmalpmnmknpphaa.TM
open Go Go.RowKit
theorem emod_sub0 {p a b : Int} : a % p = b % p ↔ (a - b) % p = 0 := (Int.emod_eq_emod_iff_emod_sub_eq_zero)
theorem em_mul {p a b c d : Int} (h1 : a % p = b % p) (h2 : c % p = d % p) : a * c % p = b * d % p := by rw [Int.mul_emod, h1, h2, ← Int.mul_emod]
theorem em_add {p a b c d : Int} (h1 : a % p = b % p) (h2 : c % p = d % p) : (a + c) % p = (b + d) % p := by rw [Int.add_emod, h1, h2, ← Int.add_emod]
theorem em_sub {p a b c d : Int} (h1 : a % p = b % p) (h2 : c % p = d % p) : (a - c) % p = (b - d) % p := by rw [Int.sub_emod, h1, h2, ← Int.sub_emod]
theorem em_z {p a b : Int} (h : a % p = 0) : a * b % p = 0 := by rw [Int.mul_emod, h, Int.zero_mul, Int.zero_emod]
theorem em_z' {p a b : Int} (h : b % p = 0) : a * b % p = 0 := by rw [Int.mul_comm]; exact em_z h
theorem bezout (m n : Nat) : ∃ x y : Int, (m : Int) * x + (n : Int) * y = (Nat.gcd m n : Int) := by
  induction m, n using Nat.gcd.induction with
  | H0 n => exact ⟨0, 1, by simp⟩
  | H1 m n hm ih =>
    obtain ⟨x, y, h⟩ := ih
    refine ⟨y - (n / m : Nat) * x, x, ?_⟩
    rw [Nat.gcd_rec, ← h]
    have e : (n : Int) = ((n % m : Nat) : Int) + (m : Int) * ((n / m : Nat) : Int) := by have := Nat.mod_add_div n m; omega
    rw [e]
    grind
theorem prm_nz {P : Nat} (hP : Prm P) {a : Int} (h : a % P ≠ 0) : ∃ b, a * b % P = 1 := by
  have h2 := hP.1
  have hp : (0 : Int) < P := by omega
  have i1 := Int.emod_nonneg a (show (P : Int) ≠ 0 by omega)
  have i2 := Int.emod_lt_of_pos a hp
  have g := hP.2 (a % P).toNat (by omega) (by omega)
  obtain ⟨x, y, hxy⟩ := bezout P (a % P).toNat
  rw [g, show ((a % P).toNat : Int) = a % P by omega] at hxy
  refine ⟨y, ?_⟩
  have e : a * y % P = (a % P) * y % P := em_mul (Int.emod_emod_of_dvd a (Int.dvd_refl _)).symm rfl
  rw [e, show (a % P) * y = 1 - P * x by rw [show ((1 : Nat) : Int) = 1 from rfl] at hxy; omega, Int.sub_mul_emod_self_left]
  exact Int.emod_eq_of_lt (by omega) (by omega)
theorem sumN_0 {p : Int} {n : Nat} {f : Nat → Int} (h : ∀ i, i < n → f i % p = 0) : sumN n f % p = 0 := by
  rw [sumN_mod (g := fun _ => 0) (fun i hi => by rw [h i hi]; rfl), sumN_zero]; rfl
theorem sumN_only {p : Int} {n k : Nat} {f : Nat → Int} (hk : k < n) (h : ∀ i, i < n → i ≠ k → f i % p = 0) : sumN n f % p = f k % p := by
  rw [← sumN_one f hk]
  refine sumN_mod fun i hi => ?_
  by_cases e : i = k
  · rw [if_pos e]
  · rw [if_neg e, h i hi e]; rfl
theorem sumN_upd {n c : Nat} (f x : Nat → Int) (d : Int) (hc : c < n) : sumN n (fun j => f j * (if j = c then x j + d else x j)) = sumN n (fun j => f j * x j) + f c * d := by
  rw [← sumN_one (fun j => f j * d) hc, ← sumN_add]
  refine sumN_congr fun j _ => ?_
  split
  · rw [Int.mul_add]
  · omega
structure Cp (p : Int) (R C r : Nat) (A : Mx) (rw cw : Nat → Nat) (c u : Mx) : Prop where
  rlt : ∀ k, k < r → rw k < R
  rinc : ∀ j k, j < k → k < r → rw j < rw k
  clt : ∀ k, k < r → cw k < C
  upiv : ∀ k, k < r → u k (cw k) % p ≠ 0
  uz : ∀ j k, j < k → k < r → u k (cw j) % p = 0
  uh : ∀ k, k < r → ∀ j, j < cw k → u k j % p = 0
  c1 : ∀ k, k < r → c (rw k) k % p = 1
  cz : ∀ k, k < r → ∀ i, i < rw k → c i k % p = 0
  made : ∀ i, i < R → ∀ j, j < C → A i j % p = sumN r (fun k => c i k * u k j) % p
def apX (C : Nat) (A : Mx) (x : Nat → Int) : Nat → Int := fun i => sumN C (fun j => A i j * x j)
theorem apX_add (C : Nat) (A : Mx) (x y : Nat → Int) (i : Nat) : apX C A (fun j => x j + y j) i = apX C A x i + apX C A y i := by
  unfold apX; rw [← sumN_add]; exact sumN_congr fun j _ => Int.mul_add ..
theorem apX_sub (C : Nat) (A : Mx) (x y : Nat → Int) (i : Nat) : apX C A (fun j => x j - y j) i = apX C A x i - apX C A y i := by
  unfold apX; rw [← sumN_sub]; exact sumN_congr fun j _ => Int.mul_sub ..
theorem apX_mod {p : Int} {C : Nat} {A : Mx} {x y : Nat → Int} (h : ∀ j, j < C → x j % p = y j % p) (i : Nat) : apX C A x i % p = apX C A y i % p :=
  sumN_mod fun j hj => em_mul rfl (h j hj)
section
variable {P R C r : Nat} {A : Mx} {rw cw : Nat → Nat} {c u : Mx}
theorem Cp.ap (H : Cp P R C r A rw cw c u) {x : Nat → Int} {i : Nat} (hi : i < R) : apX C A x i % P = sumN r (fun k => c i k * apX C u x k) % P := by
  unfold apX
  have e : sumN r (fun k => c i k * sumN C (fun j => u k j * x j)) = sumN C (fun j => sumN r (fun k => c i k * u k j) * x j) := by
    rw [sumN_congr fun k _ => (sumN_mul C (c i k) (fun j => u k j * x j)).symm, sumN_swap]
    refine sumN_congr fun j _ => ?_
    rw [← sumN_mulr]
    exact sumN_congr fun k _ => by rw [Int.mul_assoc]
  rw [e]
  exact sumN_mod fun j hj => em_mul (H.made i hi j hj) rfl
theorem Cp.usolve (hP : Prm P) (H : Cp P R C r A rw cw c u) (z x0 : Nat → Int) : ∃ x : Nat → Int, (∀ j, (∀ k, k < r → j ≠ cw k) → x j = x0 j) ∧ ∀ k, k < r → apX C u x k % P = z k % P := by
  have key : ∀ d, d ≤ r → ∃ x : Nat → Int, (∀ j, (∀ k, k < r → j ≠ cw k) → x j = x0 j) ∧ ∀ k, r - d ≤ k → k < r → apX C u x k % P = z k % P := by
    intro d
    induction d with
    | zero => exact fun _ => ⟨x0, fun _ _ => rfl, fun k h1 h2 => by omega⟩
    | succ d ih =>
      intro hd
      obtain ⟨x, h1, h2⟩ := ih (by omega)
      have hm : r - (d + 1) < r := by omega
      obtain ⟨b, hb⟩ := prm_nz hP (H.upiv _ hm)
      obtain ⟨y, hy⟩ : ∃ y, apX C u x (r - (d + 1)) = y := ⟨_, rfl⟩
      refine ⟨fun j => if j = cw (r - (d + 1)) then x j + b * (z (r - (d + 1)) - y) else x j, fun j hj => ?_, fun k h3 h4 => ?_⟩
      · simp only
        rw [if_neg (hj _ hm)]; exact h1 j hj
      · unfold apX
        rw [sumN_upd _ _ _ (H.clt _ hm)]
        by_cases e : k = r - (d + 1)
        · subst e
          show (apX C u x _ + _) % _ = _
          rw [hy, ← Int.mul_assoc]
          have : (y + u (r - (d + 1)) (cw (r - (d + 1))) * b * (z (r - (d + 1)) - y)) % P = (y + 1 * (z (r - (d + 1)) - y)) % P := em_add rfl (em_mul (by rw [hb]; exact (Int.emod_eq_of_lt (by omega) (by have := hP.1; omega)).symm) rfl)
          rw [this, Int.one_mul]; congr 1; omega
        · have h5 := h2 k (by omega) h4
          rw [← h5]
          show (apX C u x k + _) % _ = _
          have h6 := H.uz (r - (d + 1)) k (by omega) h4
          rw [Int.add_emod, em_z h6, Int.add_zero, Int.emod_emod_of_dvd _ (Int.dvd_refl _)]
  obtain ⟨x, h1, h2⟩ := key r (Nat.le_refl _)
  exact ⟨x, h1, fun k hk => h2 k (by omega) hk⟩
theorem Cp.cinj (H : Cp P R C r A rw cw c u) {z : Nat → Int} (h1 : ∀ m, m < r → sumN r (fun k => c (rw m) k * z k) % P = 0) : ∀ k, k < r → z k % P = 0 := by
  intro k
  induction k using Nat.strongRecOn with
  | _ k ih =>
  intro hk
  have h2 := h1 k hk
  rw [sumN_only hk (fun j hj hjk => ?_)] at h2
  · rw [Int.mul_emod, H.c1 k hk, Int.one_mul, Int.emod_emod_of_dvd _ (Int.dvd_refl _)] at h2
    exact h2
  · by_cases c : j < k
    · exact em_z' (ih j c hj)
    · exact em_z (H.cz j hj _ (H.rinc k j (by omega) hj))
theorem Cp.ker (H : Cp P R C r A rw cw c u) {x : Nat → Int} : (∀ i, i < R → apX C A x i % P = 0) ↔ ∀ k, k < r → apX C u x k % P = 0 := by
  constructor
  · intro h
    exact H.cinj fun m hm => by rw [← H.ap (H.rlt m hm)]; exact h _ (H.rlt m hm)
  · intro h i hi
    rw [H.ap hi]
    exact sumN_0 fun k hk => em_z' (h k hk)
end
end Go.Proofs.Ytmalpmnmknpphaa.TM
namespace Go.Proofs.Ytmalpmnmknpphaa.TM
open Go Go.RowKit
attribute [local irreducible] K W WOps Effs Xg Xo Xr Xdg Xdo Xdr Xif CallsP CallR
def twoR (p a b v : Int) : Int × Int := if HasB p [a, b] then (v, 0) else (0, 1)
theorem has2 {p a b : Int} (h : HasB p [a, b] = true) (wa : W64 a) (wb : W64 b) : Md p ∧ In p a ∧ In p b := by
  obtain ⟨h1, h2, h3⟩ := (has_iff p _).1 h
  exact ⟨⟨h2, h3⟩, ⟨wa.1, h1 a (by simp)⟩, ⟨wb.1, h1 b (by simp)⟩⟩
theorem two_mul (p a b : Int) (wa : W64 a) (wb : W64 b) : CallsP Try.prog 105 [u64 p, u64 a, u64 b, fnc 114] (.tup [u64 (twoR p a b (a * b % p)).1, i64 (twoR p a b (a * b % p)).2]) := by
  have q := has_walk p [a, b] (by rw [mx_len]; simp)
  unfold twoR
  cases h : HasB p [a, b] with
  | false =>
    rw [h] at q
    refine X_startP (n := 21) (m := 4) (rs := [.tmp 8, .tmp 9]) Try.func105 rfl rfl rfl rfl (by decide) fun base => ?_
    repeat (first | ((first | refine X_call_fn2 rfl (by simp only [tys]) ?_ | refine X_dcall_fn2 rfl (by simp only [tys]) ?_); apply Exists.intro; apply And.intro; (focus (simp -dsimp only [simx, zzC, zzB, tys, ite_self, opnL, callB, callX, readsB, stepOp, nilCmp, ofVal, opBuiltin, opLen, PV.sk, scalBin, scalUn, intBin, opLoad, natOf, opConvert, opField, cellsP, oneP, Value.oneCell', opStore, toIV, scalT, scalA, scalC, boxesA, boxesC, zipB_none, zipB_mx, isZ, opZip, zeroP, opAppendZ, opMakeMap, opLookup, mboxB, opUpdate, ↓reduceIte, Nat.reduceSub, Nat.reduceEqDiff, Nat.reduceAdd, Nat.reduceMul, Nat.reduceLT, Nat.reduceLeDiff, Int.reduceToNat, Int.reduceLE, Int.reduceLT, Int.reduceNeg, reduceCtorEq, zzL, if_true, if_false] <;> rfl)); apply Exists.intro; apply And.intro; (focus (first | exact q))) | refine X_opc rfl ?_ | refine X_dopc rfl ?_ | refine ⟨(by show drawK _ _ = true; kernel_rfl : drawX _ _ _), ?_⟩ | exact (by show drawK _ _ = true; kernel_rfl : drawX _ _ _) | simp -dsimp (maxSteps := 20000000) (disch := omega) only [simx, zzC, zzB, tys, ite_self, opnL, callB, callX, readsB, stepOp, nilCmp, ofVal, opBuiltin, opLen, PV.sk, scalBin, scalUn, intBin, opLoad, natOf, opConvert, opField, cellsP, oneP, Value.oneCell', opStore, toIV, scalT, scalA, scalC, boxesA, boxesC, zipB_none, zipB_mx, isZ, opZip, zeroP, opAppendZ, opMakeMap, opLookup, mboxB, opUpdate, ↓reduceIte, Nat.reduceSub, Nat.reduceEqDiff, Nat.reduceAdd, Nat.reduceMul, Nat.reduceLT, Nat.reduceLeDiff, Int.reduceToNat, Int.reduceLE, Int.reduceLT, Int.reduceNeg, reduceCtorEq, zzR, gos, Int.reduceAdd, Int.reduceSub, Int.reduceMul, Int.reduceEq])
  | true =>
    rw [h] at q
    obtain ⟨h1, h2, h3⟩ := has2 h wa wb
    have d := mul_walk p a b h1 h2 h3
    refine X_startP (n := 21) (m := 4) (rs := [.tmp 8, .tmp 9]) Try.func105 rfl rfl rfl rfl (by decide) fun base => ?_
    repeat (first | ((first | refine X_call_fn2 rfl (by simp only [tys]) ?_ | refine X_dcall_fn2 rfl (by simp only [tys]) ?_); apply Exists.intro; apply And.intro; (focus (simp -dsimp only [simx, zzC, zzB, tys, ite_self, opnL, callB, callX, readsB, stepOp, nilCmp, ofVal, opBuiltin, opLen, PV.sk, scalBin, scalUn, intBin, opLoad, natOf, opConvert, opField, cellsP, oneP, Value.oneCell', opStore, toIV, scalT, scalA, scalC, boxesA, boxesC, zipB_none, zipB_mx, isZ, opZip, zeroP, opAppendZ, opMakeMap, opLookup, mboxB, opUpdate, ↓reduceIte, Nat.reduceSub, Nat.reduceEqDiff, Nat.reduceAdd, Nat.reduceMul, Nat.reduceLT, Nat.reduceLeDiff, Int.reduceToNat, Int.reduceLE, Int.reduceLT, Int.reduceNeg, reduceCtorEq, zzL, if_true, if_false] <;> rfl)); apply Exists.intro; apply And.intro; (focus (first | exact q | exact d))) | (refine X_call_val2 rfl ?_; apply Exists.intro; apply And.intro; (focus (simp -dsimp only [simx, zzC, zzB, tys, ite_self, opnL, callB, callX, readsB, stepOp, nilCmp, ofVal, opBuiltin, opLen, PV.sk, scalBin, scalUn, intBin, opLoad, natOf, opConvert, opField, cellsP, oneP, Value.oneCell', opStore, toIV, scalT, scalA, scalC, boxesA, boxesC, zipB_none, zipB_mx, isZ, opZip, zeroP, opAppendZ, opMakeMap, opLookup, mboxB, opUpdate, ↓reduceIte, Nat.reduceSub, Nat.reduceEqDiff, Nat.reduceAdd, Nat.reduceMul, Nat.reduceLT, Nat.reduceLeDiff, Int.reduceToNat, Int.reduceLE, Int.reduceLT, Int.reduceNeg, reduceCtorEq, zzL, if_true, if_false] <;> rfl)); apply And.intro; (focus (first | simp only [tys] | exact such_enter _)); apply Exists.intro; apply And.intro; (focus (simp -dsimp only [simx, zzC, zzB, tys, ite_self, opnL, callB, callX, readsB, stepOp, nilCmp, ofVal, opBuiltin, opLen, PV.sk, scalBin, scalUn, intBin, opLoad, natOf, opConvert, opField, cellsP, oneP, Value.oneCell', opStore, toIV, scalT, scalA, scalC, boxesA, boxesC, zipB_none, zipB_mx, isZ, opZip, zeroP, opAppendZ, opMakeMap, opLookup, mboxB, opUpdate, ↓reduceIte, Nat.reduceSub, Nat.reduceEqDiff, Nat.reduceAdd, Nat.reduceMul, Nat.reduceLT, Nat.reduceLeDiff, Int.reduceToNat, Int.reduceLE, Int.reduceLT, Int.reduceNeg, reduceCtorEq, zzL, if_true, if_false] <;> rfl)); apply Exists.intro; apply And.intro; (focus (first | exact q | exact d))) | refine X_opc rfl ?_ | refine X_dopc rfl ?_ | refine ⟨(by show drawK _ _ = true; kernel_rfl : drawX _ _ _), ?_⟩ | exact (by show drawK _ _ = true; kernel_rfl : drawX _ _ _) | simp -dsimp (maxSteps := 20000000) (disch := omega) only [simx, zzC, zzB, tys, ite_self, opnL, callB, callX, readsB, stepOp, nilCmp, ofVal, opBuiltin, opLen, PV.sk, scalBin, scalUn, intBin, opLoad, natOf, opConvert, opField, cellsP, oneP, Value.oneCell', opStore, toIV, scalT, scalA, scalC, boxesA, boxesC, zipB_none, zipB_mx, isZ, opZip, zeroP, opAppendZ, opMakeMap, opLookup, mboxB, opUpdate, ↓reduceIte, Nat.reduceSub, Nat.reduceEqDiff, Nat.reduceAdd, Nat.reduceMul, Nat.reduceLT, Nat.reduceLeDiff, Int.reduceToNat, Int.reduceLE, Int.reduceLT, Int.reduceNeg, reduceCtorEq, zzR, gos, Int.reduceAdd, Int.reduceSub, Int.reduceMul, Int.reduceEq])
theorem Mul_walk (p a b : Int) (wa : W64 a) (wb : W64 b) : CallsP Try.prog 79 [u64 p, u64 a, u64 b] (.tup [u64 (twoR p a b (a * b % p)).1, i64 (twoR p a b (a * b % p)).2]) := by
  have q := two_mul p a b wa wb
  refine X_startP (n := 14) (m := 3) (rs := [.tmp 6, .tmp 7]) Try.func79 rfl rfl rfl rfl (by decide) fun base => ?_
  repeat (first | ((first | refine X_call_fn2 rfl (by simp only [tys]) ?_ | refine X_dcall_fn2 rfl (by simp only [tys]) ?_); apply Exists.intro; apply And.intro; (focus (simp -dsimp only [simx, zzC, zzB, tys, ite_self, opnL, callB, callX, readsB, stepOp, nilCmp, ofVal, opBuiltin, opLen, PV.sk, scalBin, scalUn, intBin, opLoad, natOf, opConvert, opField, cellsP, oneP, Value.oneCell', opStore, toIV, scalT, scalA, scalC, boxesA, boxesC, zipB_none, zipB_mx, isZ, opZip, zeroP, opAppendZ, opMakeMap, opLookup, mboxB, opUpdate, ↓reduceIte, Nat.reduceSub, Nat.reduceEqDiff, Nat.reduceAdd, Nat.reduceMul, Nat.reduceLT, Nat.reduceLeDiff, Int.reduceToNat, Int.reduceLE, Int.reduceLT, Int.reduceNeg, reduceCtorEq, zzL, if_true, if_false] <;> rfl)); apply Exists.intro; apply And.intro; (focus (first | exact q))) | refine X_opc rfl ?_ | refine X_dopc rfl ?_ | refine ⟨(by show drawK _ _ = true; kernel_rfl : drawX _ _ _), ?_⟩ | exact (by show drawK _ _ = true; kernel_rfl : drawX _ _ _) | simp -dsimp (maxSteps := 20000000) (disch := omega) only [simx, zzC, zzB, tys, ite_self, opnL, callB, callX, readsB, stepOp, nilCmp, ofVal, opBuiltin, opLen, PV.sk, scalBin, scalUn, intBin, opLoad, natOf, opConvert, opField, cellsP, oneP, Value.oneCell', opStore, toIV, scalT, scalA, scalC, boxesA, boxesC, zipB_none, zipB_mx, isZ, opZip, zeroP, opAppendZ, opMakeMap, opLookup, mboxB, opUpdate, ↓reduceIte, Nat.reduceSub, Nat.reduceEqDiff, Nat.reduceAdd, Nat.reduceMul, Nat.reduceLT, Nat.reduceLeDiff, Int.reduceToNat, Int.reduceLE, Int.reduceLT, Int.reduceNeg, reduceCtorEq, zzR, gos, Int.reduceAdd, Int.reduceSub, Int.reduceMul, Int.reduceEq])
end Go.Proofs.Ytmalpmnmknpphaa.TM
namespace Go.Proofs.Ytmalpmnmknpphaa.TM
open Go Go.RowKit
attribute [local irreducible] K W WOps Effs Xg Xo Xr Xdg Xdo Xdr Xif CallsP CallR
theorem subm_ge {p a b : Int} (ha : In p a) (hb : In p b) (h : b ≤ a) : (a - b) % p = a - b := Int.emod_eq_of_lt (by omega) (by have := ha.2; have := hb.1; omega)
theorem subm_lt {p a b : Int} (ha : In p a) (hb : In p b) (h : ¬ b ≤ a) : (a - b) % p = a + (p - b) := by
  rw [show a - b = a + (p - b) + p * (-1) by omega, Int.add_mul_emod_self_left]
  exact Int.emod_eq_of_lt (by have := ha.1; have := hb.2; omega) (by omega)
theorem sub_walk (p a b : Int) (hp : Md p) (ha : In p a) (hb : In p b) : CallsP Try.prog 106 [u64 p, u64 a, u64 b] (u64 ((a - b) % p)) := by
  have p1 := hp.1; have p2 := hp.2
  have a1 := ha.1; have a2 := ha.2; have b1 := hb.1; have b2 := hb.2
  by_cases c : b ≤ a
  · rw [subm_ge ha hb c]
    refine X_startP (n := 18) (m := 3) (rs := [.tmp 6]) Try.func106 rfl rfl rfl rfl (by decide) fun base => ?_
    repeat (first | refine X_opc rfl ?_ | refine X_dopc rfl ?_ | refine ⟨(by show drawK _ _ = true; kernel_rfl : drawX _ _ _), ?_⟩ | exact (by show drawK _ _ = true; kernel_rfl : drawX _ _ _) | simp -dsimp (maxSteps := 20000000) (disch := omega) only [simx, zzC, zzB, tys, ite_self, opnL, callB, callX, readsB, stepOp, nilCmp, ofVal, opBuiltin, opLen, PV.sk, scalBin, scalUn, intBin, opLoad, natOf, opConvert, opField, cellsP, oneP, Value.oneCell', opStore, toIV, scalT, scalA, scalC, boxesA, boxesC, zipB_none, zipB_mx, isZ, opZip, zeroP, opAppendZ, opMakeMap, opLookup, mboxB, opUpdate, ↓reduceIte, Nat.reduceSub, Nat.reduceEqDiff, Nat.reduceAdd, Nat.reduceMul, Nat.reduceLT, Nat.reduceLeDiff, Int.reduceToNat, Int.reduceLE, Int.reduceLT, Int.reduceNeg, reduceCtorEq, zzR, gos, Int.reduceAdd, Int.reduceSub, Int.reduceMul, Int.reduceEq])
  · rw [subm_lt ha hb c]
    refine X_startP (n := 18) (m := 3) (rs := [.tmp 6]) Try.func106 rfl rfl rfl rfl (by decide) fun base => ?_
    repeat (first | refine X_opc rfl ?_ | refine X_dopc rfl ?_ | refine ⟨(by show drawK _ _ = true; kernel_rfl : drawX _ _ _), ?_⟩ | exact (by show drawK _ _ = true; kernel_rfl : drawX _ _ _) | simp -dsimp (maxSteps := 20000000) (disch := omega) only [simx, zzC, zzB, tys, ite_self, opnL, callB, callX, readsB, stepOp, nilCmp, ofVal, opBuiltin, opLen, PV.sk, scalBin, scalUn, intBin, opLoad, natOf, opConvert, opField, cellsP, oneP, Value.oneCell', opStore, toIV, scalT, scalA, scalC, boxesA, boxesC, zipB_none, zipB_mx, isZ, opZip, zeroP, opAppendZ, opMakeMap, opLookup, mboxB, opUpdate, ↓reduceIte, Nat.reduceSub, Nat.reduceEqDiff, Nat.reduceAdd, Nat.reduceMul, Nat.reduceLT, Nat.reduceLeDiff, Int.reduceToNat, Int.reduceLE, Int.reduceLT, Int.reduceNeg, reduceCtorEq, zzR, gos, Int.reduceAdd, Int.reduceSub, Int.reduceMul, Int.reduceEq])
theorem two_sub (p a b : Int) (wa : W64 a) (wb : W64 b) : CallsP Try.prog 105 [u64 p, u64 a, u64 b, fnc 106] (.tup [u64 (twoR p a b ((a - b) % p)).1, i64 (twoR p a b ((a - b) % p)).2]) := by
  have h := has_walk p [a, b] (by rw [mx_len]; simp)
  unfold twoR
  cases c : HasB p [a, b] with
  | false =>
    rw [c] at h
    refine X_startP (n := 21) (m := 4) (rs := [.tmp 8, .tmp 9]) Try.func105 rfl rfl rfl rfl (by decide) fun base => ?_
    repeat (first | ((first | refine X_call_fn2 rfl (by simp only [tys]) ?_ | refine X_dcall_fn2 rfl (by simp only [tys]) ?_); apply Exists.intro; apply And.intro; (focus (simp -dsimp only [simx, zzC, zzB, tys, ite_self, opnL, callB, callX, readsB, stepOp, nilCmp, ofVal, opBuiltin, opLen, PV.sk, scalBin, scalUn, intBin, opLoad, natOf, opConvert, opField, cellsP, oneP, Value.oneCell', opStore, toIV, scalT, scalA, scalC, boxesA, boxesC, zipB_none, zipB_mx, isZ, opZip, zeroP, opAppendZ, opMakeMap, opLookup, mboxB, opUpdate, ↓reduceIte, Nat.reduceSub, Nat.reduceEqDiff, Nat.reduceAdd, Nat.reduceMul, Nat.reduceLT, Nat.reduceLeDiff, Int.reduceToNat, Int.reduceLE, Int.reduceLT, Int.reduceNeg, reduceCtorEq, zzL, if_true, if_false] <;> rfl)); apply Exists.intro; apply And.intro; (focus (first | exact h))) | (refine X_call_val2 rfl ?_; apply Exists.intro; apply And.intro; (focus (simp -dsimp only [simx, zzC, zzB, tys, ite_self, opnL, callB, callX, readsB, stepOp, nilCmp, ofVal, opBuiltin, opLen, PV.sk, scalBin, scalUn, intBin, opLoad, natOf, opConvert, opField, cellsP, oneP, Value.oneCell', opStore, toIV, scalT, scalA, scalC, boxesA, boxesC, zipB_none, zipB_mx, isZ, opZip, zeroP, opAppendZ, opMakeMap, opLookup, mboxB, opUpdate, ↓reduceIte, Nat.reduceSub, Nat.reduceEqDiff, Nat.reduceAdd, Nat.reduceMul, Nat.reduceLT, Nat.reduceLeDiff, Int.reduceToNat, Int.reduceLE, Int.reduceLT, Int.reduceNeg, reduceCtorEq, zzL, if_true, if_false] <;> rfl)); apply And.intro; (focus (first | simp only [tys] | exact such_enter _)); apply Exists.intro; apply And.intro; (focus (simp -dsimp only [simx, zzC, zzB, tys, ite_self, opnL, callB, callX, readsB, stepOp, nilCmp, ofVal, opBuiltin, opLen, PV.sk, scalBin, scalUn, intBin, opLoad, natOf, opConvert, opField, cellsP, oneP, Value.oneCell', opStore, toIV, scalT, scalA, scalC, boxesA, boxesC, zipB_none, zipB_mx, isZ, opZip, zeroP, opAppendZ, opMakeMap, opLookup, mboxB, opUpdate, ↓reduceIte, Nat.reduceSub, Nat.reduceEqDiff, Nat.reduceAdd, Nat.reduceMul, Nat.reduceLT, Nat.reduceLeDiff, Int.reduceToNat, Int.reduceLE, Int.reduceLT, Int.reduceNeg, reduceCtorEq, zzL, if_true, if_false] <;> rfl)); apply Exists.intro; apply And.intro; (focus (first | exact h))) | refine X_opc rfl ?_ | refine X_dopc rfl ?_ | refine ⟨(by show drawK _ _ = true; kernel_rfl : drawX _ _ _), ?_⟩ | exact (by show drawK _ _ = true; kernel_rfl : drawX _ _ _) | simp -dsimp (maxSteps := 20000000) (disch := omega) only [simx, zzC, zzB, tys, ite_self, opnL, callB, callX, readsB, stepOp, nilCmp, ofVal, opBuiltin, opLen, PV.sk, scalBin, scalUn, intBin, opLoad, natOf, opConvert, opField, cellsP, oneP, Value.oneCell', opStore, toIV, scalT, scalA, scalC, boxesA, boxesC, zipB_none, zipB_mx, isZ, opZip, zeroP, opAppendZ, opMakeMap, opLookup, mboxB, opUpdate, ↓reduceIte, Nat.reduceSub, Nat.reduceEqDiff, Nat.reduceAdd, Nat.reduceMul, Nat.reduceLT, Nat.reduceLeDiff, Int.reduceToNat, Int.reduceLE, Int.reduceLT, Int.reduceNeg, reduceCtorEq, zzR, gos, Int.reduceAdd, Int.reduceSub, Int.reduceMul, Int.reduceEq])
  | true =>
    rw [c] at h
    obtain ⟨hp, ha, hb⟩ := has2 c wa wb
    have d := sub_walk p a b hp ha hb
    refine X_startP (n := 21) (m := 4) (rs := [.tmp 8, .tmp 9]) Try.func105 rfl rfl rfl rfl (by decide) fun base => ?_
    repeat (first | ((first | refine X_call_fn2 rfl (by simp only [tys]) ?_ | refine X_dcall_fn2 rfl (by simp only [tys]) ?_); apply Exists.intro; apply And.intro; (focus (simp -dsimp only [simx, zzC, zzB, tys, ite_self, opnL, callB, callX, readsB, stepOp, nilCmp, ofVal, opBuiltin, opLen, PV.sk, scalBin, scalUn, intBin, opLoad, natOf, opConvert, opField, cellsP, oneP, Value.oneCell', opStore, toIV, scalT, scalA, scalC, boxesA, boxesC, zipB_none, zipB_mx, isZ, opZip, zeroP, opAppendZ, opMakeMap, opLookup, mboxB, opUpdate, ↓reduceIte, Nat.reduceSub, Nat.reduceEqDiff, Nat.reduceAdd, Nat.reduceMul, Nat.reduceLT, Nat.reduceLeDiff, Int.reduceToNat, Int.reduceLE, Int.reduceLT, Int.reduceNeg, reduceCtorEq, zzL, if_true, if_false] <;> rfl)); apply Exists.intro; apply And.intro; (focus (first | exact h | exact d))) | (refine X_call_val2 rfl ?_; apply Exists.intro; apply And.intro; (focus (simp -dsimp only [simx, zzC, zzB, tys, ite_self, opnL, callB, callX, readsB, stepOp, nilCmp, ofVal, opBuiltin, opLen, PV.sk, scalBin, scalUn, intBin, opLoad, natOf, opConvert, opField, cellsP, oneP, Value.oneCell', opStore, toIV, scalT, scalA, scalC, boxesA, boxesC, zipB_none, zipB_mx, isZ, opZip, zeroP, opAppendZ, opMakeMap, opLookup, mboxB, opUpdate, ↓reduceIte, Nat.reduceSub, Nat.reduceEqDiff, Nat.reduceAdd, Nat.reduceMul, Nat.reduceLT, Nat.reduceLeDiff, Int.reduceToNat, Int.reduceLE, Int.reduceLT, Int.reduceNeg, reduceCtorEq, zzL, if_true, if_false] <;> rfl)); apply And.intro; (focus (first | simp only [tys] | exact such_enter _)); apply Exists.intro; apply And.intro; (focus (simp -dsimp only [simx, zzC, zzB, tys, ite_self, opnL, callB, callX, readsB, stepOp, nilCmp, ofVal, opBuiltin, opLen, PV.sk, scalBin, scalUn, intBin, opLoad, natOf, opConvert, opField, cellsP, oneP, Value.oneCell', opStore, toIV, scalT, scalA, scalC, boxesA, boxesC, zipB_none, zipB_mx, isZ, opZip, zeroP, opAppendZ, opMakeMap, opLookup, mboxB, opUpdate, ↓reduceIte, Nat.reduceSub, Nat.reduceEqDiff, Nat.reduceAdd, Nat.reduceMul, Nat.reduceLT, Nat.reduceLeDiff, Int.reduceToNat, Int.reduceLE, Int.reduceLT, Int.reduceNeg, reduceCtorEq, zzL, if_true, if_false] <;> rfl)); apply Exists.intro; apply And.intro; (focus (first | exact h | exact d))) | refine X_opc rfl ?_ | refine X_dopc rfl ?_ | refine ⟨(by show drawK _ _ = true; kernel_rfl : drawX _ _ _), ?_⟩ | exact (by show drawK _ _ = true; kernel_rfl : drawX _ _ _) | simp -dsimp (maxSteps := 20000000) (disch := omega) only [simx, zzC, zzB, tys, ite_self, opnL, callB, callX, readsB, stepOp, nilCmp, ofVal, opBuiltin, opLen, PV.sk, scalBin, scalUn, intBin, opLoad, natOf, opConvert, opField, cellsP, oneP, Value.oneCell', opStore, toIV, scalT, scalA, scalC, boxesA, boxesC, zipB_none, zipB_mx, isZ, opZip, zeroP, opAppendZ, opMakeMap, opLookup, mboxB, opUpdate, ↓reduceIte, Nat.reduceSub, Nat.reduceEqDiff, Nat.reduceAdd, Nat.reduceMul, Nat.reduceLT, Nat.reduceLeDiff, Int.reduceToNat, Int.reduceLE, Int.reduceLT, Int.reduceNeg, reduceCtorEq, zzR, gos, Int.reduceAdd, Int.reduceSub, Int.reduceMul, Int.reduceEq])
theorem Sub_walk (p a b : Int) (wa : W64 a) (wb : W64 b) : CallsP Try.prog 61 [u64 p, u64 a, u64 b] (.tup [u64 (twoR p a b ((a - b) % p)).1, i64 (twoR p a b ((a - b) % p)).2]) := by
  have d := two_sub p a b wa wb
  refine X_startP (n := 14) (m := 3) (rs := [.tmp 6, .tmp 7]) Try.func61 rfl rfl rfl rfl (by decide) fun base => ?_
  repeat (first | ((first | refine X_call_fn2 rfl (by simp only [tys]) ?_ | refine X_dcall_fn2 rfl (by simp only [tys]) ?_); apply Exists.intro; apply And.intro; (focus (simp -dsimp only [simx, zzC, zzB, tys, ite_self, opnL, callB, callX, readsB, stepOp, nilCmp, ofVal, opBuiltin, opLen, PV.sk, scalBin, scalUn, intBin, opLoad, natOf, opConvert, opField, cellsP, oneP, Value.oneCell', opStore, toIV, scalT, scalA, scalC, boxesA, boxesC, zipB_none, zipB_mx, isZ, opZip, zeroP, opAppendZ, opMakeMap, opLookup, mboxB, opUpdate, ↓reduceIte, Nat.reduceSub, Nat.reduceEqDiff, Nat.reduceAdd, Nat.reduceMul, Nat.reduceLT, Nat.reduceLeDiff, Int.reduceToNat, Int.reduceLE, Int.reduceLT, Int.reduceNeg, reduceCtorEq, zzL, if_true, if_false] <;> rfl)); apply Exists.intro; apply And.intro; (focus (first | exact d))) | refine X_opc rfl ?_ | refine X_dopc rfl ?_ | refine ⟨(by show drawK _ _ = true; kernel_rfl : drawX _ _ _), ?_⟩ | exact (by show drawK _ _ = true; kernel_rfl : drawX _ _ _) | simp -dsimp (maxSteps := 20000000) (disch := omega) only [simx, zzC, zzB, tys, ite_self, opnL, callB, callX, readsB, stepOp, nilCmp, ofVal, opBuiltin, opLen, PV.sk, scalBin, scalUn, intBin, opLoad, natOf, opConvert, opField, cellsP, oneP, Value.oneCell', opStore, toIV, scalT, scalA, scalC, boxesA, boxesC, zipB_none, zipB_mx, isZ, opZip, zeroP, opAppendZ, opMakeMap, opLookup, mboxB, opUpdate, ↓reduceIte, Nat.reduceSub, Nat.reduceEqDiff, Nat.reduceAdd, Nat.reduceMul, Nat.reduceLT, Nat.reduceLeDiff, Int.reduceToNat, Int.reduceLE, Int.reduceLT, Int.reduceNeg, reduceCtorEq, zzR, gos, Int.reduceAdd, Int.reduceSub, Int.reduceMul, Int.reduceEq])
theorem inv_walk (p a : Int) (hp : Md p) (ha : In p a) : ∃ v, CallsP Try.prog 133 [u64 p, u64 a] (.tup [u64 v, bl (decide (Int.gcd p a = 1))]) ∧ (Int.gcd p a = 1 → v = finv p a) := by
  have p1 := hp.1; have p2 := hp.2
  have a1 := ha.1; have a2 := ha.2
  obtain ⟨N, g1, g2⟩ := eu_run p2 p1 ha
  obtain ⟨E, _⟩ := g2 N (Nat.le_refl _)
  rw [g1] at E
  obtain ⟨k1, k2⟩ := eu_end p1 E
  have hx2 := E.hx2
  refine ⟨if (itJ euT N (p, a, 0, 1)).2.2.1 < 0 then (itJ euT N (p, a, 0, 1)).2.2.1 + p else (itJ euT N (p, a, 0, 1)).2.2.1, ?_, fun h => (finv_spec (k2 h).1 (k2 h).2).symm⟩
  clear k2
  rw [← k1]
  refine X_startP (n := 42) (m := 2) (rs := [.tmp 4, .tmp 5]) Try.func133 rfl rfl rfl rfl (by decide) fun base => ?_
  repeat (first | refine X_opc rfl ?_ | refine X_dopc rfl ?_ | refine ⟨(by show drawK _ _ = true; kernel_rfl : drawX _ _ _), ?_⟩ | exact (by show drawK _ _ = true; kernel_rfl : drawX _ _ _) | simp -dsimp (maxSteps := 20000000) (disch := omega) only [simx, zzC, zzB, tys, ite_self, opnL, callB, callX, readsB, stepOp, nilCmp, ofVal, opBuiltin, opLen, PV.sk, scalBin, scalUn, intBin, opLoad, natOf, opConvert, opField, cellsP, oneP, Value.oneCell', opStore, toIV, scalT, scalA, scalC, boxesA, boxesC, zipB_none, zipB_mx, isZ, opZip, zeroP, opAppendZ, opMakeMap, opLookup, mboxB, opUpdate, ↓reduceIte, Nat.reduceSub, Nat.reduceEqDiff, Nat.reduceAdd, Nat.reduceMul, Nat.reduceLT, Nat.reduceLeDiff, Int.reduceToNat, Int.reduceLE, Int.reduceLT, Int.reduceNeg, reduceCtorEq, gos, Int.reduceAdd, Int.reduceSub, Int.reduceMul, Int.reduceEq])
  refine X_loopH [0, 6, 7, 8, 9] [] (0) (N) (fun j => True) (fun j => [(6, i64 (itJ euT j (p, a, 0, 1)).1), (7, i64 (itJ euT j (p, a, 0, 1)).2.1), (8, i64 (itJ euT j (p, a, 0, 1)).2.2.1), (9, i64 (itJ euT j (p, a, 0, 1)).2.2.2)]) (fun j => Heap.none) ?_ ?_ ?_ ?_ ?_ (by decide) ?_
  · exact (fgt_nil)
  · ((simp -dsimp (disch := omega) only [simx, zzB, tys, ite_self, opnL, callB, callX, readsB, stepOp, nilCmp, ofVal, opBuiltin, opLen, PV.sk, scalBin, scalUn, intBin, opLoad, natOf, opConvert, opField, cellsP, oneP, Value.oneCell', opStore, toIV, scalT, scalA, scalC, boxesA, boxesC, zipB_none, zipB_mx, isZ, opZip, zeroP, opAppendZ, opMakeMap, opLookup, mboxB, opUpdate, ↓reduceIte, Nat.reduceSub, Nat.reduceEqDiff, Nat.reduceAdd, Nat.reduceMul, Nat.reduceLT, Nat.reduceLeDiff, Int.reduceToNat, Int.reduceLE, Int.reduceLT, Int.reduceNeg, reduceCtorEq, gos, Int.reduceAdd, Int.reduceSub, Int.reduceMul, Int.reduceEq]) <;> first | rfl | simp [itJ])
  · exact drop_nil _
  · omega
  · trivial
  · intro j hj _
    by_cases cj : j < N
    · obtain ⟨E, hs⟩ := g2 j hj
      replace hs := hs cj
      obtain ⟨r, s, x, y, ht⟩ : ∃ r s x y, itJ euT j (p, a, 0, 1) = (r, s, x, y) := ⟨_, _, _, _, rfl⟩
      have nx : itJ euT (j + 1) (p, a, 0, 1) = (s, r - r / s * s, y, x - r / s * y) := by rw [itJ, ht]; rfl
      rw [ht] at E hs ⊢
      clear g1 g2 k1 hx2 ht
      simp only at E hs ⊢
      obtain ⟨E2, bd, h3, h4, h5, h6⟩ := eu_next E p2 hs
      have b2 := bd _ rfl
      have hs0 := E.hs0; have hsr := E.hsr; have hrp := E.hrp
      clear bd E2
      have w1 : IntKind.i64.wrap (r / s) = r / s := iw_of (by omega) (by omega)
      have w2 : IntKind.i64.wrap (r / s * s) = r / s * s := iw_of (by omega) (by omega)
      have w3 : IntKind.i64.wrap (r - r / s * s) = r - r / s * s := iw_of (by omega) (by omega)
      have w4 : IntKind.i64.wrap (r / s * y) = r / s * y := iw_of b2.1 b2.2.1
      have w5 : IntKind.i64.wrap (x - r / s * y) = x - r / s * y := iw_of b2.2.2.1 b2.2.2.2
      have w6 : Int.tdiv r s = r / s := tdiv_nn (by omega)
      repeat (first | refine X_opc rfl ?_ | refine X_dopc rfl ?_ | refine ⟨(by show drawK _ _ = true; kernel_rfl : drawX _ _ _), ?_⟩ | exact (by show drawK _ _ = true; kernel_rfl : drawX _ _ _) | simp -dsimp (maxSteps := 20000000) (disch := omega) only [simx, zzC, zzB, tys, ite_self, opnL, callB, callX, readsB, stepOp, nilCmp, ofVal, opBuiltin, opLen, PV.sk, scalBin, scalUn, intBin, opLoad, natOf, opConvert, opField, cellsP, oneP, Value.oneCell', opStore, toIV, scalT, scalA, scalC, boxesA, boxesC, zipB_none, zipB_mx, isZ, opZip, zeroP, opAppendZ, opMakeMap, opLookup, mboxB, opUpdate, ↓reduceIte, Nat.reduceSub, Nat.reduceEqDiff, Nat.reduceAdd, Nat.reduceMul, Nat.reduceLT, Nat.reduceLeDiff, Int.reduceToNat, Int.reduceLE, Int.reduceLT, Int.reduceNeg, reduceCtorEq, gos, Int.reduceAdd, Int.reduceSub, Int.reduceMul, Int.reduceEq, w1, w2, w3, w4, w5, w6, hs])
      refine ⟨cj, (fgt_nil), ?_, drop_nil _⟩
      rw [nx]
      repeat' first | rfl | apply And.intro
    · obtain rfl : N = j := by omega
      clear g2 k1
      have r0 := E.hsr
      have r1 := E.hrp
      clear E
      generalize itJ euT N (p, a, 0, 1) = t at g1 hx2 r0 r1 ⊢
      obtain ⟨r, s, x, y⟩ := t
      simp only at g1 hx2 r0 r1 ⊢
      subst g1
      by_cases cx : x < 0
      · rw [if_pos cx]
        repeat (first | refine X_opc rfl ?_ | refine X_dopc rfl ?_ | refine ⟨(by show drawK _ _ = true; kernel_rfl : drawX _ _ _), ?_⟩ | exact (by show drawK _ _ = true; kernel_rfl : drawX _ _ _) | simp -dsimp (maxSteps := 20000000) (disch := omega) only [simx, zzC, zzB, tys, ite_self, opnL, callB, callX, readsB, stepOp, nilCmp, ofVal, opBuiltin, opLen, PV.sk, scalBin, scalUn, intBin, opLoad, natOf, opConvert, opField, cellsP, oneP, Value.oneCell', opStore, toIV, scalT, scalA, scalC, boxesA, boxesC, zipB_none, zipB_mx, isZ, opZip, zeroP, opAppendZ, opMakeMap, opLookup, mboxB, opUpdate, ↓reduceIte, Nat.reduceSub, Nat.reduceEqDiff, Nat.reduceAdd, Nat.reduceMul, Nat.reduceLT, Nat.reduceLeDiff, Int.reduceToNat, Int.reduceLE, Int.reduceLT, Int.reduceNeg, reduceCtorEq, zzR, gos, Int.reduceAdd, Int.reduceSub, Int.reduceMul, Int.reduceEq])
      · rw [if_neg cx]
        repeat (first | refine X_opc rfl ?_ | refine X_dopc rfl ?_ | refine ⟨(by show drawK _ _ = true; kernel_rfl : drawX _ _ _), ?_⟩ | exact (by show drawK _ _ = true; kernel_rfl : drawX _ _ _) | simp -dsimp (maxSteps := 20000000) (disch := omega) only [simx, zzC, zzB, tys, ite_self, opnL, callB, callX, readsB, stepOp, nilCmp, ofVal, opBuiltin, opLen, PV.sk, scalBin, scalUn, intBin, opLoad, natOf, opConvert, opField, cellsP, oneP, Value.oneCell', opStore, toIV, scalT, scalA, scalC, boxesA, boxesC, zipB_none, zipB_mx, isZ, opZip, zeroP, opAppendZ, opMakeMap, opLookup, mboxB, opUpdate, ↓reduceIte, Nat.reduceSub, Nat.reduceEqDiff, Nat.reduceAdd, Nat.reduceMul, Nat.reduceLT, Nat.reduceLeDiff, Int.reduceToNat, Int.reduceLE, Int.reduceLT, Int.reduceNeg, reduceCtorEq, zzR, gos, Int.reduceAdd, Int.reduceSub, Int.reduceMul, Int.reduceEq])
theorem Inv_walk (p a : Int) (wa : W64 a) : ∃ r : Int × Int, r = (if HasB p [a] then invR p a else (0, 1)) ∧ CallsP Try.prog 109 [u64 p, u64 a] (.tup [u64 r.1, i64 r.2]) := by
  refine ⟨_, rfl, ?_⟩
  have h := has_walk p [a] (by rw [mx_len]; simp)
  cases c : HasB p [a] with
  | false =>
    rw [c] at h
    refine X_startP (n := 22) (m := 2) (rs := [.tmp 4, .tmp 5]) Try.func109 rfl rfl rfl rfl (by decide) fun base => ?_
    repeat (first | ((first | refine X_call_fn2 rfl (by simp only [tys]) ?_ | refine X_dcall_fn2 rfl (by simp only [tys]) ?_); apply Exists.intro; apply And.intro; (focus (simp -dsimp only [simx, zzC, zzB, tys, ite_self, opnL, callB, callX, readsB, stepOp, nilCmp, ofVal, opBuiltin, opLen, PV.sk, scalBin, scalUn, intBin, opLoad, natOf, opConvert, opField, cellsP, oneP, Value.oneCell', opStore, toIV, scalT, scalA, scalC, boxesA, boxesC, zipB_none, zipB_mx, isZ, opZip, zeroP, opAppendZ, opMakeMap, opLookup, mboxB, opUpdate, ↓reduceIte, Nat.reduceSub, Nat.reduceEqDiff, Nat.reduceAdd, Nat.reduceMul, Nat.reduceLT, Nat.reduceLeDiff, Int.reduceToNat, Int.reduceLE, Int.reduceLT, Int.reduceNeg, reduceCtorEq, zzL, if_true, if_false] <;> rfl)); apply Exists.intro; apply And.intro; (focus (first | exact h))) | refine X_opc rfl ?_ | refine X_dopc rfl ?_ | refine ⟨(by show drawK _ _ = true; kernel_rfl : drawX _ _ _), ?_⟩ | exact (by show drawK _ _ = true; kernel_rfl : drawX _ _ _) | simp -dsimp (maxSteps := 20000000) (disch := omega) only [simx, zzC, zzB, tys, ite_self, opnL, callB, callX, readsB, stepOp, nilCmp, ofVal, opBuiltin, opLen, PV.sk, scalBin, scalUn, intBin, opLoad, natOf, opConvert, opField, cellsP, oneP, Value.oneCell', opStore, toIV, scalT, scalA, scalC, boxesA, boxesC, zipB_none, zipB_mx, isZ, opZip, zeroP, opAppendZ, opMakeMap, opLookup, mboxB, opUpdate, ↓reduceIte, Nat.reduceSub, Nat.reduceEqDiff, Nat.reduceAdd, Nat.reduceMul, Nat.reduceLT, Nat.reduceLeDiff, Int.reduceToNat, Int.reduceLE, Int.reduceLT, Int.reduceNeg, reduceCtorEq, zzR, gos, Int.reduceAdd, Int.reduceSub, Int.reduceMul, Int.reduceEq])
  | true =>
    rw [c] at h
    obtain ⟨c1, c2, c3⟩ := (has_iff _ _).1 c
    have ha : In p a := ⟨wa.1, c1 a (by simp)⟩
    obtain ⟨v, d, e⟩ := inv_walk p a ⟨c2, c3⟩ ha
    rw [if_pos rfl]
    unfold invR
    by_cases g : Int.gcd p a = 1
    · rw [if_pos g, ← e g]
      rw [decide_eq_true g] at d
      refine X_startP (n := 22) (m := 2) (rs := [.tmp 4, .tmp 5]) Try.func109 rfl rfl rfl rfl (by decide) fun base => ?_
      repeat (first | ((first | refine X_call_fn2 rfl (by simp only [tys]) ?_ | refine X_dcall_fn2 rfl (by simp only [tys]) ?_); apply Exists.intro; apply And.intro; (focus (simp -dsimp only [simx, zzC, zzB, tys, ite_self, opnL, callB, callX, readsB, stepOp, nilCmp, ofVal, opBuiltin, opLen, PV.sk, scalBin, scalUn, intBin, opLoad, natOf, opConvert, opField, cellsP, oneP, Value.oneCell', opStore, toIV, scalT, scalA, scalC, boxesA, boxesC, zipB_none, zipB_mx, isZ, opZip, zeroP, opAppendZ, opMakeMap, opLookup, mboxB, opUpdate, ↓reduceIte, Nat.reduceSub, Nat.reduceEqDiff, Nat.reduceAdd, Nat.reduceMul, Nat.reduceLT, Nat.reduceLeDiff, Int.reduceToNat, Int.reduceLE, Int.reduceLT, Int.reduceNeg, reduceCtorEq, zzL, if_true, if_false] <;> rfl)); apply Exists.intro; apply And.intro; (focus (first | exact h | exact d))) | refine X_opc rfl ?_ | refine X_dopc rfl ?_ | refine ⟨(by show drawK _ _ = true; kernel_rfl : drawX _ _ _), ?_⟩ | exact (by show drawK _ _ = true; kernel_rfl : drawX _ _ _) | simp -dsimp (maxSteps := 20000000) (disch := omega) only [simx, zzC, zzB, tys, ite_self, opnL, callB, callX, readsB, stepOp, nilCmp, ofVal, opBuiltin, opLen, PV.sk, scalBin, scalUn, intBin, opLoad, natOf, opConvert, opField, cellsP, oneP, Value.oneCell', opStore, toIV, scalT, scalA, scalC, boxesA, boxesC, zipB_none, zipB_mx, isZ, opZip, zeroP, opAppendZ, opMakeMap, opLookup, mboxB, opUpdate, ↓reduceIte, Nat.reduceSub, Nat.reduceEqDiff, Nat.reduceAdd, Nat.reduceMul, Nat.reduceLT, Nat.reduceLeDiff, Int.reduceToNat, Int.reduceLE, Int.reduceLT, Int.reduceNeg, reduceCtorEq, zzR, gos, Int.reduceAdd, Int.reduceSub, Int.reduceMul, Int.reduceEq])
    · rw [if_neg g]
      rw [decide_eq_false g] at d
      refine X_startP (n := 22) (m := 2) (rs := [.tmp 4, .tmp 5]) Try.func109 rfl rfl rfl rfl (by decide) fun base => ?_
      repeat (first | ((first | refine X_call_fn2 rfl (by simp only [tys]) ?_ | refine X_dcall_fn2 rfl (by simp only [tys]) ?_); apply Exists.intro; apply And.intro; (focus (simp -dsimp only [simx, zzC, zzB, tys, ite_self, opnL, callB, callX, readsB, stepOp, nilCmp, ofVal, opBuiltin, opLen, PV.sk, scalBin, scalUn, intBin, opLoad, natOf, opConvert, opField, cellsP, oneP, Value.oneCell', opStore, toIV, scalT, scalA, scalC, boxesA, boxesC, zipB_none, zipB_mx, isZ, opZip, zeroP, opAppendZ, opMakeMap, opLookup, mboxB, opUpdate, ↓reduceIte, Nat.reduceSub, Nat.reduceEqDiff, Nat.reduceAdd, Nat.reduceMul, Nat.reduceLT, Nat.reduceLeDiff, Int.reduceToNat, Int.reduceLE, Int.reduceLT, Int.reduceNeg, reduceCtorEq, zzL, if_true, if_false] <;> rfl)); apply Exists.intro; apply And.intro; (focus (first | exact h | exact d))) | refine X_opc rfl ?_ | refine X_dopc rfl ?_ | refine ⟨(by show drawK _ _ = true; kernel_rfl : drawX _ _ _), ?_⟩ | exact (by show drawK _ _ = true; kernel_rfl : drawX _ _ _) | simp -dsimp (maxSteps := 20000000) (disch := omega) only [simx, zzC, zzB, tys, ite_self, opnL, callB, callX, readsB, stepOp, nilCmp, ofVal, opBuiltin, opLen, PV.sk, scalBin, scalUn, intBin, opLoad, natOf, opConvert, opField, cellsP, oneP, Value.oneCell', opStore, toIV, scalT, scalA, scalC, boxesA, boxesC, zipB_none, zipB_mx, isZ, opZip, zeroP, opAppendZ, opMakeMap, opLookup, mboxB, opUpdate, ↓reduceIte, Nat.reduceSub, Nat.reduceEqDiff, Nat.reduceAdd, Nat.reduceMul, Nat.reduceLT, Nat.reduceLeDiff, Int.reduceToNat, Int.reduceLE, Int.reduceLT, Int.reduceNeg, reduceCtorEq, zzR, gos, Int.reduceAdd, Int.reduceSub, Int.reduceMul, Int.reduceEq])
end Go.Proofs.Ytmalpmnmknpphaa.TM
namespace Go.Proofs.Ytmalpmnmknpphaa.TM
open Go Go.RowKit
attribute [local irreducible] K W WOps Effs Xg Xo Xr Xdg Xdo Xdr Xif CallsP CallR
def dotR (p : Int) (a b : List Int) : Int × Int := if HasB p a && (HasB p b && decide (a.length = b.length)) then (dotI a b % p, 0) else (0, 1)
set_option maxRecDepth 10000 in
theorem dot_walk (p : Int) (a b : List Int) (ha : a.length ≤ maxLen) (hb : b.length ≤ maxLen) (wa : W64s a) (wb : W64s b) : CallsP Try.prog 75 [u64 p, lu a, lu b] (.tup [u64 (dotR p a b).1, i64 (dotR p a b).2]) := by
  have r1 := has_walk p a ha
  have r2 := has_walk p b hb
  rw [mx_len] at ha hb
  unfold dotR
  cases h1 : HasB p a with
  | false =>
    rw [h1] at r1
    refine X_startP (n := 47) (m := 3) (rs := [.tmp 6, .tmp 7]) Try.func75 rfl rfl rfl rfl (by decide) fun base => ?_
    repeat (first | ((first | refine X_call_fn2 rfl (by simp only [tys]) ?_ | refine X_dcall_fn2 rfl (by simp only [tys]) ?_); apply Exists.intro; apply And.intro; (focus (simp -dsimp only [simx, zzC, zzB, tys, ite_self, opnL, callB, callX, readsB, stepOp, nilCmp, ofVal, opBuiltin, opLen, PV.sk, scalBin, scalUn, intBin, opLoad, natOf, opConvert, opField, cellsP, oneP, Value.oneCell', opStore, toIV, scalT, scalA, scalC, boxesA, boxesC, zipB_none, zipB_mx, isZ, opZip, zeroP, opAppendZ, opMakeMap, opLookup, mboxB, opUpdate, ↓reduceIte, Nat.reduceSub, Nat.reduceEqDiff, Nat.reduceAdd, Nat.reduceMul, Nat.reduceLT, Nat.reduceLeDiff, Int.reduceToNat, Int.reduceLE, Int.reduceLT, Int.reduceNeg, reduceCtorEq, zzL, if_true, if_false] <;> rfl)); apply Exists.intro; apply And.intro; (focus (first | exact r1))) | refine X_opc rfl ?_ | refine X_dopc rfl ?_ | refine ⟨(by show drawK _ _ = true; kernel_rfl : drawX _ _ _), ?_⟩ | exact (by show drawK _ _ = true; kernel_rfl : drawX _ _ _) | simp -dsimp (maxSteps := 20000000) (disch := omega) only [simx, zzC, zzB, tys, ite_self, opnL, callB, callX, readsB, stepOp, nilCmp, ofVal, opBuiltin, opLen, PV.sk, scalBin, scalUn, intBin, opLoad, natOf, opConvert, opField, cellsP, oneP, Value.oneCell', opStore, toIV, scalT, scalA, scalC, boxesA, boxesC, zipB_none, zipB_mx, isZ, opZip, zeroP, opAppendZ, opMakeMap, opLookup, mboxB, opUpdate, ↓reduceIte, Nat.reduceSub, Nat.reduceEqDiff, Nat.reduceAdd, Nat.reduceMul, Nat.reduceLT, Nat.reduceLeDiff, Int.reduceToNat, Int.reduceLE, Int.reduceLT, Int.reduceNeg, reduceCtorEq, zzR, gos, Int.reduceAdd, Int.reduceSub, Int.reduceMul, Int.reduceEq])
  | true =>
    cases h2 : HasB p b with
    | false =>
      rw [h1] at r1
      rw [h2] at r2
      refine X_startP (n := 47) (m := 3) (rs := [.tmp 6, .tmp 7]) Try.func75 rfl rfl rfl rfl (by decide) fun base => ?_
      repeat (first | ((first | refine X_call_fn2 rfl (by simp only [tys]) ?_ | refine X_dcall_fn2 rfl (by simp only [tys]) ?_); apply Exists.intro; apply And.intro; (focus (simp -dsimp only [simx, zzC, zzB, tys, ite_self, opnL, callB, callX, readsB, stepOp, nilCmp, ofVal, opBuiltin, opLen, PV.sk, scalBin, scalUn, intBin, opLoad, natOf, opConvert, opField, cellsP, oneP, Value.oneCell', opStore, toIV, scalT, scalA, scalC, boxesA, boxesC, zipB_none, zipB_mx, isZ, opZip, zeroP, opAppendZ, opMakeMap, opLookup, mboxB, opUpdate, ↓reduceIte, Nat.reduceSub, Nat.reduceEqDiff, Nat.reduceAdd, Nat.reduceMul, Nat.reduceLT, Nat.reduceLeDiff, Int.reduceToNat, Int.reduceLE, Int.reduceLT, Int.reduceNeg, reduceCtorEq, zzL, if_true, if_false] <;> rfl)); apply Exists.intro; apply And.intro; (focus (first | exact r1 | exact r2))) | refine X_opc rfl ?_ | refine X_dopc rfl ?_ | refine ⟨(by show drawK _ _ = true; kernel_rfl : drawX _ _ _), ?_⟩ | exact (by show drawK _ _ = true; kernel_rfl : drawX _ _ _) | simp -dsimp (maxSteps := 20000000) (disch := omega) only [simx, zzC, zzB, tys, ite_self, opnL, callB, callX, readsB, stepOp, nilCmp, ofVal, opBuiltin, opLen, PV.sk, scalBin, scalUn, intBin, opLoad, natOf, opConvert, opField, cellsP, oneP, Value.oneCell', opStore, toIV, scalT, scalA, scalC, boxesA, boxesC, zipB_none, zipB_mx, isZ, opZip, zeroP, opAppendZ, opMakeMap, opLookup, mboxB, opUpdate, ↓reduceIte, Nat.reduceSub, Nat.reduceEqDiff, Nat.reduceAdd, Nat.reduceMul, Nat.reduceLT, Nat.reduceLeDiff, Int.reduceToNat, Int.reduceLE, Int.reduceLT, Int.reduceNeg, reduceCtorEq, zzR, gos, Int.reduceAdd, Int.reduceSub, Int.reduceMul, Int.reduceEq])
    | true =>
      rw [h1] at r1
      rw [h2] at r2
      by_cases c0 : a.length = b.length
      · rw [has_iff] at h1 h2
        obtain ⟨a1, p1, p2⟩ := h1
        have b1 := h2.1
        clear h2
        simp only [c0, decide_true, Bool.and_self, if_true]
        have c0' : (a.length : Int) = (b.length : Int) := by omega
        have hp : Md p := ⟨p1, p2⟩
        refine X_startP (n := 47) (m := 3) (rs := [.tmp 6, .tmp 7]) Try.func75 rfl rfl rfl rfl (by decide) fun base => ?_
        repeat (first | ((first | refine X_call_fn2 rfl (by simp only [tys]) ?_ | refine X_dcall_fn2 rfl (by simp only [tys]) ?_); apply Exists.intro; apply And.intro; (focus (simp -dsimp only [simx, zzC, zzB, tys, ite_self, opnL, callB, callX, readsB, stepOp, nilCmp, ofVal, opBuiltin, opLen, PV.sk, scalBin, scalUn, intBin, opLoad, natOf, opConvert, opField, cellsP, oneP, Value.oneCell', opStore, toIV, scalT, scalA, scalC, boxesA, boxesC, zipB_none, zipB_mx, isZ, opZip, zeroP, opAppendZ, opMakeMap, opLookup, mboxB, opUpdate, ↓reduceIte, Nat.reduceSub, Nat.reduceEqDiff, Nat.reduceAdd, Nat.reduceMul, Nat.reduceLT, Nat.reduceLeDiff, Int.reduceToNat, Int.reduceLE, Int.reduceLT, Int.reduceNeg, reduceCtorEq, zzL, if_true, if_false] <;> rfl)); apply Exists.intro; apply And.intro; (focus (first | exact r1 | exact r2))) | refine X_opc rfl ?_ | refine X_dopc rfl ?_ | refine ⟨(by show drawK _ _ = true; kernel_rfl : drawX _ _ _), ?_⟩ | exact (by show drawK _ _ = true; kernel_rfl : drawX _ _ _) | simp -dsimp (maxSteps := 20000000) (disch := omega) only [simx, zzC, zzB, tys, ite_self, opnL, callB, callX, readsB, stepOp, nilCmp, ofVal, opBuiltin, opLen, PV.sk, scalBin, scalUn, intBin, opLoad, natOf, opConvert, opField, cellsP, oneP, Value.oneCell', opStore, toIV, scalT, scalA, scalC, boxesA, boxesC, zipB_none, zipB_mx, isZ, opZip, zeroP, opAppendZ, opMakeMap, opLookup, mboxB, opUpdate, ↓reduceIte, Nat.reduceSub, Nat.reduceEqDiff, Nat.reduceAdd, Nat.reduceMul, Nat.reduceLT, Nat.reduceLeDiff, Int.reduceToNat, Int.reduceLE, Int.reduceLT, Int.reduceNeg, reduceCtorEq, gos, Int.reduceAdd, Int.reduceSub, Int.reduceMul, Int.reduceEq])
        refine X_loopH [0, 2, 8, 28, 29, 30] [] (0) (a.length) (fun j => True) (fun j => [(8, u64 (dotI (a.take j) (b.take j) % p)), (30, i64 j)]) (fun j => Heap.none) ?_ ?_ ?_ ?_ ?_ (by decide) ?_
        · exact (fgt_nil)
        · ((simp -dsimp (disch := omega) only [simx, zzB, tys, ite_self, opnL, callB, callX, readsB, stepOp, nilCmp, ofVal, opBuiltin, opLen, PV.sk, scalBin, scalUn, intBin, opLoad, natOf, opConvert, opField, cellsP, oneP, Value.oneCell', opStore, toIV, scalT, scalA, scalC, boxesA, boxesC, zipB_none, zipB_mx, isZ, opZip, zeroP, opAppendZ, opMakeMap, opLookup, mboxB, opUpdate, ↓reduceIte, Nat.reduceSub, Nat.reduceEqDiff, Nat.reduceAdd, Nat.reduceMul, Nat.reduceLT, Nat.reduceLeDiff, Int.reduceToNat, Int.reduceLE, Int.reduceLT, Int.reduceNeg, reduceCtorEq, gos, Int.reduceAdd, Int.reduceSub, Int.reduceMul, Int.reduceEq]) <;> first | rfl | simp [dotI_nil])
        · exact drop_nil _
        · omega
        · trivial
        · intro j hj _
          by_cases c : j < a.length
          · have c' : j < b.length := by omega
            have g1 : a[j]? = some a[j] := List.getElem?_eq_getElem c
            have g2 : b[j]? = some b[j] := List.getElem?_eq_getElem c'
            have i1 := in_of a1 wa (List.getElem_mem c)
            have i2 := in_of b1 wb (List.getElem_mem c')
            have i3 := emod_in (p := p) (a[j] * b[j]) (by omega)
            have i4 := emod_in (p := p) (dotI (a.take j) (b.take j)) (by omega)
            have d1 := mul_walk p _ _ hp i1 i2
            have d2 := add_walk p _ _ hp i4 i3
            have e : (dotI (a.take j) (b.take j) % p + a[j] * b[j] % p) % p = dotI (a.take (j + 1)) (b.take (j + 1)) % p := by rw [dotI_take c c', am_l, am_r]
            rw [e] at d2
            clear i1 i2 i3 i4
            repeat (first | ((first | refine X_call_fn2 rfl (by simp only [tys]) ?_ | refine X_dcall_fn2 rfl (by simp only [tys]) ?_); apply Exists.intro; apply And.intro; (focus (simp -dsimp only [simx, zzC, zzB, tys, ite_self, opnL, callB, callX, readsB, stepOp, nilCmp, ofVal, opBuiltin, opLen, PV.sk, scalBin, scalUn, intBin, opLoad, natOf, opConvert, opField, cellsP, oneP, Value.oneCell', opStore, toIV, scalT, scalA, scalC, boxesA, boxesC, zipB_none, zipB_mx, isZ, opZip, zeroP, opAppendZ, opMakeMap, opLookup, mboxB, opUpdate, ↓reduceIte, Nat.reduceSub, Nat.reduceEqDiff, Nat.reduceAdd, Nat.reduceMul, Nat.reduceLT, Nat.reduceLeDiff, Int.reduceToNat, Int.reduceLE, Int.reduceLT, Int.reduceNeg, reduceCtorEq, zzL, if_true, if_false] <;> rfl)); apply Exists.intro; apply And.intro; (focus (first | exact d1 | exact d2))) | refine X_opc rfl ?_ | refine X_dopc rfl ?_ | refine ⟨(by show drawK _ _ = true; kernel_rfl : drawX _ _ _), ?_⟩ | exact (by show drawK _ _ = true; kernel_rfl : drawX _ _ _) | simp -dsimp (maxSteps := 20000000) (disch := omega) only [simx, zzC, zzB, tys, ite_self, opnL, callB, callX, readsB, stepOp, nilCmp, ofVal, opBuiltin, opLen, PV.sk, scalBin, scalUn, intBin, opLoad, natOf, opConvert, opField, cellsP, oneP, Value.oneCell', opStore, toIV, scalT, scalA, scalC, boxesA, boxesC, zipB_none, zipB_mx, isZ, opZip, zeroP, opAppendZ, opMakeMap, opLookup, mboxB, opUpdate, ↓reduceIte, Nat.reduceSub, Nat.reduceEqDiff, Nat.reduceAdd, Nat.reduceMul, Nat.reduceLT, Nat.reduceLeDiff, Int.reduceToNat, Int.reduceLE, Int.reduceLT, Int.reduceNeg, reduceCtorEq, gos, Int.reduceAdd, Int.reduceSub, Int.reduceMul, Int.reduceEq, c, c', g1, g2])
            exact ⟨c, (fgt_nil), rfl, drop_nil _⟩
          · have hj : j = a.length := by omega
            subst hj
            have e1 : a.take b.length = a := by rw [← c0]; exact List.take_length
            rw [c0]
            repeat (first | refine X_opc rfl ?_ | refine X_dopc rfl ?_ | refine ⟨(by show drawK _ _ = true; kernel_rfl : drawX _ _ _), ?_⟩ | exact (by show drawK _ _ = true; kernel_rfl : drawX _ _ _) | simp -dsimp (maxSteps := 20000000) (disch := omega) only [simx, zzC, zzB, tys, ite_self, opnL, callB, callX, readsB, stepOp, nilCmp, ofVal, opBuiltin, opLen, PV.sk, scalBin, scalUn, intBin, opLoad, natOf, opConvert, opField, cellsP, oneP, Value.oneCell', opStore, toIV, scalT, scalA, scalC, boxesA, boxesC, zipB_none, zipB_mx, isZ, opZip, zeroP, opAppendZ, opMakeMap, opLookup, mboxB, opUpdate, ↓reduceIte, Nat.reduceSub, Nat.reduceEqDiff, Nat.reduceAdd, Nat.reduceMul, Nat.reduceLT, Nat.reduceLeDiff, Int.reduceToNat, Int.reduceLE, Int.reduceLT, Int.reduceNeg, reduceCtorEq, zzR, gos, Int.reduceAdd, Int.reduceSub, Int.reduceMul, Int.reduceEq, List.take_length, e1])
      · have c0' : ¬ (a.length : Int) = (b.length : Int) := by omega
        refine X_startP (n := 47) (m := 3) (rs := [.tmp 6, .tmp 7]) Try.func75 rfl rfl rfl rfl (by decide) fun base => ?_
        repeat (first | ((first | refine X_call_fn2 rfl (by simp only [tys]) ?_ | refine X_dcall_fn2 rfl (by simp only [tys]) ?_); apply Exists.intro; apply And.intro; (focus (simp -dsimp only [simx, zzC, zzB, tys, ite_self, opnL, callB, callX, readsB, stepOp, nilCmp, ofVal, opBuiltin, opLen, PV.sk, scalBin, scalUn, intBin, opLoad, natOf, opConvert, opField, cellsP, oneP, Value.oneCell', opStore, toIV, scalT, scalA, scalC, boxesA, boxesC, zipB_none, zipB_mx, isZ, opZip, zeroP, opAppendZ, opMakeMap, opLookup, mboxB, opUpdate, ↓reduceIte, Nat.reduceSub, Nat.reduceEqDiff, Nat.reduceAdd, Nat.reduceMul, Nat.reduceLT, Nat.reduceLeDiff, Int.reduceToNat, Int.reduceLE, Int.reduceLT, Int.reduceNeg, reduceCtorEq, zzL, if_true, if_false] <;> rfl)); apply Exists.intro; apply And.intro; (focus (first | exact r1 | exact r2))) | refine X_opc rfl ?_ | refine X_dopc rfl ?_ | refine ⟨(by show drawK _ _ = true; kernel_rfl : drawX _ _ _), ?_⟩ | exact (by show drawK _ _ = true; kernel_rfl : drawX _ _ _) | simp -dsimp (maxSteps := 20000000) (disch := omega) only [simx, zzC, zzB, tys, ite_self, opnL, callB, callX, readsB, stepOp, nilCmp, ofVal, opBuiltin, opLen, PV.sk, scalBin, scalUn, intBin, opLoad, natOf, opConvert, opField, cellsP, oneP, Value.oneCell', opStore, toIV, scalT, scalA, scalC, boxesA, boxesC, zipB_none, zipB_mx, isZ, opZip, zeroP, opAppendZ, opMakeMap, opLookup, mboxB, opUpdate, ↓reduceIte, Nat.reduceSub, Nat.reduceEqDiff, Nat.reduceAdd, Nat.reduceMul, Nat.reduceLT, Nat.reduceLeDiff, Int.reduceToNat, Int.reduceLE, Int.reduceLT, Int.reduceNeg, reduceCtorEq, zzR, gos, Int.reduceAdd, Int.reduceSub, Int.reduceMul, Int.reduceEq, c0])
end Go.Proofs.Ytmalpmnmknpphaa.TM
namespace Go.Proofs.Ytmalpmnmknpphaa.TM
open Go Go.RowKit
attribute [local irreducible] K W WOps Effs Xg Xo Xr Xdg Xdo Xdr Xif CallsP CallR
theorem side_walk (n : Int) : CallsP Try.prog 65 [i64 n] (bl (SideB n)) := by
  by_cases c1 : 1 ≤ n
  · by_cases c2 : n ≤ 64
    · rw [show SideB n = true by simp [SideB, c1, c2]]
      refine X_startP (n := 9) (m := 1) (rs := [.tmp 2]) Try.func65 rfl rfl rfl rfl (by decide) fun base => ?_
      repeat (first | refine X_opc rfl ?_ | refine X_dopc rfl ?_ | refine ⟨(by show drawK _ _ = true; kernel_rfl : drawX _ _ _), ?_⟩ | exact (by show drawK _ _ = true; kernel_rfl : drawX _ _ _) | simp -dsimp (maxSteps := 20000000) (disch := omega) only [simx, zzC, zzB, tys, ite_self, opnL, callB, callX, readsB, stepOp, nilCmp, ofVal, opBuiltin, opLen, PV.sk, scalBin, scalUn, intBin, opLoad, natOf, opConvert, opField, cellsP, oneP, Value.oneCell', opStore, toIV, scalT, scalA, scalC, boxesA, boxesC, zipB_none, zipB_mx, isZ, opZip, zeroP, opAppendZ, opMakeMap, opLookup, mboxB, opUpdate, ↓reduceIte, Nat.reduceSub, Nat.reduceEqDiff, Nat.reduceAdd, Nat.reduceMul, Nat.reduceLT, Nat.reduceLeDiff, Int.reduceToNat, Int.reduceLE, Int.reduceLT, Int.reduceNeg, reduceCtorEq, zzR, gos, Int.reduceAdd, Int.reduceSub, Int.reduceMul, Int.reduceEq])
    · rw [show SideB n = false by simp [SideB, c2]]
      refine X_startP (n := 9) (m := 1) (rs := [.tmp 2]) Try.func65 rfl rfl rfl rfl (by decide) fun base => ?_
      repeat (first | refine X_opc rfl ?_ | refine X_dopc rfl ?_ | refine ⟨(by show drawK _ _ = true; kernel_rfl : drawX _ _ _), ?_⟩ | exact (by show drawK _ _ = true; kernel_rfl : drawX _ _ _) | simp -dsimp (maxSteps := 20000000) (disch := omega) only [simx, zzC, zzB, tys, ite_self, opnL, callB, callX, readsB, stepOp, nilCmp, ofVal, opBuiltin, opLen, PV.sk, scalBin, scalUn, intBin, opLoad, natOf, opConvert, opField, cellsP, oneP, Value.oneCell', opStore, toIV, scalT, scalA, scalC, boxesA, boxesC, zipB_none, zipB_mx, isZ, opZip, zeroP, opAppendZ, opMakeMap, opLookup, mboxB, opUpdate, ↓reduceIte, Nat.reduceSub, Nat.reduceEqDiff, Nat.reduceAdd, Nat.reduceMul, Nat.reduceLT, Nat.reduceLeDiff, Int.reduceToNat, Int.reduceLE, Int.reduceLT, Int.reduceNeg, reduceCtorEq, zzR, gos, Int.reduceAdd, Int.reduceSub, Int.reduceMul, Int.reduceEq])
  · rw [show SideB n = false by simp [SideB, c1]]
    refine X_startP (n := 9) (m := 1) (rs := [.tmp 2]) Try.func65 rfl rfl rfl rfl (by decide) fun base => ?_
    repeat (first | refine X_opc rfl ?_ | refine X_dopc rfl ?_ | refine ⟨(by show drawK _ _ = true; kernel_rfl : drawX _ _ _), ?_⟩ | exact (by show drawK _ _ = true; kernel_rfl : drawX _ _ _) | simp -dsimp (maxSteps := 20000000) (disch := omega) only [simx, zzC, zzB, tys, ite_self, opnL, callB, callX, readsB, stepOp, nilCmp, ofVal, opBuiltin, opLen, PV.sk, scalBin, scalUn, intBin, opLoad, natOf, opConvert, opField, cellsP, oneP, Value.oneCell', opStore, toIV, scalT, scalA, scalC, boxesA, boxesC, zipB_none, zipB_mx, isZ, opZip, zeroP, opAppendZ, opMakeMap, opLookup, mboxB, opUpdate, ↓reduceIte, Nat.reduceSub, Nat.reduceEqDiff, Nat.reduceAdd, Nat.reduceMul, Nat.reduceLT, Nat.reduceLeDiff, Int.reduceToNat, Int.reduceLE, Int.reduceLT, Int.reduceNeg, reduceCtorEq, zzR, gos, Int.reduceAdd, Int.reduceSub, Int.reduceMul, Int.reduceEq])
theorem mright_walk (p r c : Int) (l : List Int) (hl : l.length ≤ maxLen) : CallsP Try.prog 23 [u64 p, matP r c l] (bl (MatB p r c l)) := by
  have s1 := side_walk r
  have s2 := side_walk c
  have h := has_walk p l hl
  rw [mx_len] at hl
  unfold MatB
  cases h1 : SideB r with
  | false =>
    rw [h1] at s1
    refine X_startP (n := 30) (m := 2) (rs := [.tmp 4]) Try.func23 rfl rfl rfl rfl (by decide) fun base => ?_
    repeat (first | ((first | refine X_call_fn2 rfl (by simp only [tys]) ?_ | refine X_dcall_fn2 rfl (by simp only [tys]) ?_); apply Exists.intro; apply And.intro; (focus (simp -dsimp only [simx, zzC, zzB, tys, ite_self, opnL, callB, callX, readsB, stepOp, nilCmp, ofVal, opBuiltin, opLen, PV.sk, scalBin, scalUn, intBin, opLoad, natOf, opConvert, opField, cellsP, oneP, Value.oneCell', opStore, toIV, scalT, scalA, scalC, boxesA, boxesC, zipB_none, zipB_mx, isZ, opZip, zeroP, opAppendZ, opMakeMap, opLookup, mboxB, opUpdate, ↓reduceIte, Nat.reduceSub, Nat.reduceEqDiff, Nat.reduceAdd, Nat.reduceMul, Nat.reduceLT, Nat.reduceLeDiff, Int.reduceToNat, Int.reduceLE, Int.reduceLT, Int.reduceNeg, reduceCtorEq, zzL, if_true, if_false] <;> rfl)); apply Exists.intro; apply And.intro; (focus (first | exact s1))) | refine X_opc rfl ?_ | refine X_dopc rfl ?_ | refine ⟨(by show drawK _ _ = true; kernel_rfl : drawX _ _ _), ?_⟩ | exact (by show drawK _ _ = true; kernel_rfl : drawX _ _ _) | simp -dsimp (maxSteps := 20000000) (disch := omega) only [simx, zzC, zzB, tys, ite_self, opnL, callB, callX, readsB, stepOp, nilCmp, ofVal, opBuiltin, opLen, PV.sk, scalBin, scalUn, intBin, opLoad, natOf, opConvert, opField, cellsP, oneP, Value.oneCell', opStore, toIV, scalT, scalA, scalC, boxesA, boxesC, zipB_none, zipB_mx, isZ, opZip, zeroP, opAppendZ, opMakeMap, opLookup, mboxB, opUpdate, ↓reduceIte, Nat.reduceSub, Nat.reduceEqDiff, Nat.reduceAdd, Nat.reduceMul, Nat.reduceLT, Nat.reduceLeDiff, Int.reduceToNat, Int.reduceLE, Int.reduceLT, Int.reduceNeg, reduceCtorEq, zzR, gos, Int.reduceAdd, Int.reduceSub, Int.reduceMul, Int.reduceEq])
  | true =>
    rw [h1] at s1
    cases h2 : SideB c with
    | false =>
      rw [h2] at s2
      refine X_startP (n := 30) (m := 2) (rs := [.tmp 4]) Try.func23 rfl rfl rfl rfl (by decide) fun base => ?_
      repeat (first | ((first | refine X_call_fn2 rfl (by simp only [tys]) ?_ | refine X_dcall_fn2 rfl (by simp only [tys]) ?_); apply Exists.intro; apply And.intro; (focus (simp -dsimp only [simx, zzC, zzB, tys, ite_self, opnL, callB, callX, readsB, stepOp, nilCmp, ofVal, opBuiltin, opLen, PV.sk, scalBin, scalUn, intBin, opLoad, natOf, opConvert, opField, cellsP, oneP, Value.oneCell', opStore, toIV, scalT, scalA, scalC, boxesA, boxesC, zipB_none, zipB_mx, isZ, opZip, zeroP, opAppendZ, opMakeMap, opLookup, mboxB, opUpdate, ↓reduceIte, Nat.reduceSub, Nat.reduceEqDiff, Nat.reduceAdd, Nat.reduceMul, Nat.reduceLT, Nat.reduceLeDiff, Int.reduceToNat, Int.reduceLE, Int.reduceLT, Int.reduceNeg, reduceCtorEq, zzL, if_true, if_false] <;> rfl)); apply Exists.intro; apply And.intro; (focus (first | exact s1 | exact s2))) | refine X_opc rfl ?_ | refine X_dopc rfl ?_ | refine ⟨(by show drawK _ _ = true; kernel_rfl : drawX _ _ _), ?_⟩ | exact (by show drawK _ _ = true; kernel_rfl : drawX _ _ _) | simp -dsimp (maxSteps := 20000000) (disch := omega) only [simx, zzC, zzB, tys, ite_self, opnL, callB, callX, readsB, stepOp, nilCmp, ofVal, opBuiltin, opLen, PV.sk, scalBin, scalUn, intBin, opLoad, natOf, opConvert, opField, cellsP, oneP, Value.oneCell', opStore, toIV, scalT, scalA, scalC, boxesA, boxesC, zipB_none, zipB_mx, isZ, opZip, zeroP, opAppendZ, opMakeMap, opLookup, mboxB, opUpdate, ↓reduceIte, Nat.reduceSub, Nat.reduceEqDiff, Nat.reduceAdd, Nat.reduceMul, Nat.reduceLT, Nat.reduceLeDiff, Int.reduceToNat, Int.reduceLE, Int.reduceLT, Int.reduceNeg, reduceCtorEq, zzR, gos, Int.reduceAdd, Int.reduceSub, Int.reduceMul, Int.reduceEq])
    | true =>
      rw [h2] at s2
      rw [side_iff] at h1 h2
      obtain ⟨a1, a2⟩ := h1
      obtain ⟨b1, b2⟩ := h2
      have m := mul_bd (a := r) (b := c) (m := 64) (n := 64) (by omega) (by omega) a2 b2
      have e : IntKind.i64.wrap (r * c) = r * c := iw_of (by omega) (by omega)
      by_cases h3 : (l.length : Int) = r * c
      · rw [decide_eq_true h3]
        refine X_startP (n := 30) (m := 2) (rs := [.tmp 4]) Try.func23 rfl rfl rfl rfl (by decide) fun base => ?_
        repeat (first | ((first | refine X_call_fn2 rfl (by simp only [tys]) ?_ | refine X_dcall_fn2 rfl (by simp only [tys]) ?_); apply Exists.intro; apply And.intro; (focus (simp -dsimp only [simx, zzC, zzB, tys, ite_self, opnL, callB, callX, readsB, stepOp, nilCmp, ofVal, opBuiltin, opLen, PV.sk, scalBin, scalUn, intBin, opLoad, natOf, opConvert, opField, cellsP, oneP, Value.oneCell', opStore, toIV, scalT, scalA, scalC, boxesA, boxesC, zipB_none, zipB_mx, isZ, opZip, zeroP, opAppendZ, opMakeMap, opLookup, mboxB, opUpdate, ↓reduceIte, Nat.reduceSub, Nat.reduceEqDiff, Nat.reduceAdd, Nat.reduceMul, Nat.reduceLT, Nat.reduceLeDiff, Int.reduceToNat, Int.reduceLE, Int.reduceLT, Int.reduceNeg, reduceCtorEq, zzL, if_true, if_false] <;> rfl)); apply Exists.intro; apply And.intro; (focus (first | exact s1 | exact s2 | exact h))) | refine X_opc rfl ?_ | refine X_dopc rfl ?_ | refine ⟨(by show drawK _ _ = true; kernel_rfl : drawX _ _ _), ?_⟩ | exact (by show drawK _ _ = true; kernel_rfl : drawX _ _ _) | simp -dsimp (maxSteps := 20000000) (disch := omega) only [simx, zzC, zzB, tys, ite_self, opnL, callB, callX, readsB, stepOp, nilCmp, ofVal, opBuiltin, opLen, PV.sk, scalBin, scalUn, intBin, opLoad, natOf, opConvert, opField, cellsP, oneP, Value.oneCell', opStore, toIV, scalT, scalA, scalC, boxesA, boxesC, zipB_none, zipB_mx, isZ, opZip, zeroP, opAppendZ, opMakeMap, opLookup, mboxB, opUpdate, ↓reduceIte, Nat.reduceSub, Nat.reduceEqDiff, Nat.reduceAdd, Nat.reduceMul, Nat.reduceLT, Nat.reduceLeDiff, Int.reduceToNat, Int.reduceLE, Int.reduceLT, Int.reduceNeg, reduceCtorEq, zzR, gos, Int.reduceAdd, Int.reduceSub, Int.reduceMul, Int.reduceEq, e])
      · rw [decide_eq_false h3]
        refine X_startP (n := 30) (m := 2) (rs := [.tmp 4]) Try.func23 rfl rfl rfl rfl (by decide) fun base => ?_
        repeat (first | ((first | refine X_call_fn2 rfl (by simp only [tys]) ?_ | refine X_dcall_fn2 rfl (by simp only [tys]) ?_); apply Exists.intro; apply And.intro; (focus (simp -dsimp only [simx, zzC, zzB, tys, ite_self, opnL, callB, callX, readsB, stepOp, nilCmp, ofVal, opBuiltin, opLen, PV.sk, scalBin, scalUn, intBin, opLoad, natOf, opConvert, opField, cellsP, oneP, Value.oneCell', opStore, toIV, scalT, scalA, scalC, boxesA, boxesC, zipB_none, zipB_mx, isZ, opZip, zeroP, opAppendZ, opMakeMap, opLookup, mboxB, opUpdate, ↓reduceIte, Nat.reduceSub, Nat.reduceEqDiff, Nat.reduceAdd, Nat.reduceMul, Nat.reduceLT, Nat.reduceLeDiff, Int.reduceToNat, Int.reduceLE, Int.reduceLT, Int.reduceNeg, reduceCtorEq, zzL, if_true, if_false] <;> rfl)); apply Exists.intro; apply And.intro; (focus (first | exact s1 | exact s2 | exact h))) | refine X_opc rfl ?_ | refine X_dopc rfl ?_ | refine ⟨(by show drawK _ _ = true; kernel_rfl : drawX _ _ _), ?_⟩ | exact (by show drawK _ _ = true; kernel_rfl : drawX _ _ _) | simp -dsimp (maxSteps := 20000000) (disch := omega) only [simx, zzC, zzB, tys, ite_self, opnL, callB, callX, readsB, stepOp, nilCmp, ofVal, opBuiltin, opLen, PV.sk, scalBin, scalUn, intBin, opLoad, natOf, opConvert, opField, cellsP, oneP, Value.oneCell', opStore, toIV, scalT, scalA, scalC, boxesA, boxesC, zipB_none, zipB_mx, isZ, opZip, zeroP, opAppendZ, opMakeMap, opLookup, mboxB, opUpdate, ↓reduceIte, Nat.reduceSub, Nat.reduceEqDiff, Nat.reduceAdd, Nat.reduceMul, Nat.reduceLT, Nat.reduceLeDiff, Int.reduceToNat, Int.reduceLE, Int.reduceLT, Int.reduceNeg, reduceCtorEq, zzR, gos, Int.reduceAdd, Int.reduceSub, Int.reduceMul, Int.reduceEq, e])
end Go.Proofs.Ytmalpmnmknpphaa.TM
namespace Go.Proofs.Ytmalpmnmknpphaa.TM
open Go Go.RowKit
attribute [local irreducible] K W WOps Effs Xg Xo Xr Xdg Xdo Xdr Xif CallsP CallR
theorem Mul_in {p a b : Int} (hp : Md p) (ha : In p a) (hb : In p b) : CallsP Try.prog 79 [u64 p, u64 a, u64 b] (.tup [u64 (a * b % p), i64 0]) := by
  have h := Mul_walk p a b ⟨ha.1, by have := ha.2; have := hp.2; omega⟩ ⟨hb.1, by have := hb.2; have := hp.2; omega⟩
  rw [twoR, if_pos ((has_iff p _).2 ⟨fun x hx => by simp at hx; rcases hx with rfl | rfl; exact ha.2; exact hb.2, hp.1, hp.2⟩)] at h
  exact h
theorem Sub_in {p a b : Int} (hp : Md p) (ha : In p a) (hb : In p b) : CallsP Try.prog 61 [u64 p, u64 a, u64 b] (.tup [u64 ((a - b) % p), i64 0]) := by
  have h := Sub_walk p a b ⟨ha.1, by have := ha.2; have := hp.2; omega⟩ ⟨hb.1, by have := hb.2; have := hp.2; omega⟩
  rw [twoR, if_pos ((has_iff p _).2 ⟨fun x hx => by simp at hx; rcases hx with rfl | rfl; exact ha.2; exact hb.2, hp.1, hp.2⟩)] at h
  exact h
theorem in_emod {p : Int} (hp : Md p) (a : Int) : In p (a % p) := ⟨Int.emod_nonneg _ (by have := hp.1; omega), Int.emod_lt_of_pos _ (by have := hp.1; omega)⟩
def lessJ (p c : Int) (x y : List Int) (j : Nat) : List Int := tbl x.length (fun i => if i < j then (x.getD i 0 - c * y.getD i 0 % p) % p else x.getD i 0)
def lessV (p c : Int) (x y : List Int) : List Int := tbl x.length (fun i => (x.getD i 0 - c * y.getD i 0 % p) % p)
theorem lessV_len (p c : Int) (x y : List Int) : (lessV p c x y).length = x.length := tbl_len ..
theorem lessV_get (p c : Int) (x y : List Int) {i : Nat} (h : i < x.length) : (lessV p c x y).getD i 0 = (x.getD i 0 - c * y.getD i 0 % p) % p := tbl_getD _ h
theorem lessV_in {p : Int} (hp : Md p) (c : Int) (x y : List Int) : ∀ a ∈ lessV p c x y, In p a := fun a ha => by
  obtain ⟨i, hi, rfl⟩ := tbl_mem ha
  exact in_emod hp _
theorem lessJ_zero (p c : Int) (x y : List Int) : lessJ p c x y 0 = x := by
  unfold lessJ
  simp only [Nat.not_lt_zero, if_false]
  exact (tbl_of rfl).symm
theorem lessJ_all (p c : Int) (x y : List Int) : lessJ p c x y x.length = lessV p c x y := tbl_congr fun i hi => if_pos hi
theorem lessJ_next {p c : Int} {x y : List Int} {j n : Nat} (hl : x.length = n) (hj : j < n) : ((lessJ p c x y j).map iu).take j ++ [iu ((x.getD j 0 - c * y.getD j 0 % p) % p)] ++ ((lessJ p c x y j).map iu).drop (j + 1) = (lessJ p c x y (j + 1)).map iu := by
  subst hl
  rw [lessJ, tbl_put_iu (fun i => if i < j then (x.getD i 0 - c * y.getD i 0 % p) % p else x.getD i 0) ((x.getD j 0 - c * y.getD j 0 % p) % p) hj]
  congr 1
  apply tbl_congr
  intro i _
  by_cases e : i = j
  · subst e; rw [if_pos rfl, if_pos (by omega)]
  · rw [if_neg e]
    by_cases d : i < j
    · rw [if_pos d, if_pos (by omega)]
    · rw [if_neg d, if_neg (by omega)]
theorem lessJ_len (p c : Int) (x y : List Int) (j : Nat) : (lessJ p c x y j).length = x.length := tbl_len ..
theorem lessJ_at {p c : Int} {x y : List Int} {j n : Nat} (hl : x.length = n) (hj : j < n) : ((lessJ p c x y j).map iu)[j]? = some (iu (x.getD j 0)) := by
  rw [List.getElem?_map, lessJ, tbl_get? _ (by omega), if_neg (by omega)]; rfl
theorem getD_some {l : List Int} {i n : Nat} (hl : l.length = n) (h : i < n) : l[i]? = some (l.getD i 0) := by rw [List.getD_eq_getElem?_getD, List.getElem?_eq_getElem (by omega)]; rfl
theorem getD_of {p : Int} {l : List Int} (hi : ∀ a ∈ l, In p a) {i : Nat} (h : i < l.length) : In p (l.getD i 0) := by
  rw [List.getD_eq_getElem?_getD, List.getElem?_eq_getElem h]; exact hi _ (List.getElem_mem h)
set_option maxHeartbeats 1000000 in
theorem cless_walk {h : Heap} {base bT bX : Name} {a0 a1 a2 a3 a5 : PV} {p c : Int} {x y : List Int} {n : Nat} (hp : Md p) (hc : In p c) (hx : ∀ a ∈ x, In p a) (hy : ∀ a ∈ y, In p a) (hl : x.length = n) (hl2 : y.length = n) (hn : n ≤ 64)
    (hT : h ((3, 2) :: bT) = some (.var [a0, a1, a2, a3, u64 p, a5])) (hX : h ((1, 1) :: bX) = some (.row false (x.map iu))) :
    CallR Try.prog base 129 [.ref ((3, 2) :: bT) 0 6, .view ((1, 1) :: bX) 0 1 n n, u64 c, .i (.l n (y.map iu))] h (.tup []) (h.put ((1, 1) :: bX) (.row false ((lessV p c x y).map iu))) := by
  refine X_startR (n := 46) (m := 4) (rs := []) Try.func129 rfl rfl rfl rfl (by decide) ?_
  repeat (first | refine X_opc rfl ?_ | refine X_dopc rfl ?_ | refine ⟨(by show drawK _ _ = true; kernel_rfl : drawX _ _ _), ?_⟩ | exact (by show drawK _ _ = true; kernel_rfl : drawX _ _ _) | simp -dsimp (maxSteps := 20000000) (disch := omega) only [simx, zzC, zzB, tys, ite_self, opnL, callB, callX, readsB, stepOp, nilCmp, ofVal, opBuiltin, opLen, PV.sk, scalBin, scalUn, intBin, opLoad, natOf, opConvert, opField, cellsP, oneP, Value.oneCell', opStore, toIV, scalT, scalA, scalC, boxesA, boxesC, zipB_none, zipB_mx, isZ, opZip, zeroP, opAppendZ, opMakeMap, opLookup, mboxB, opUpdate, ↓reduceIte, Nat.reduceSub, Nat.reduceEqDiff, Nat.reduceAdd, Nat.reduceMul, Nat.reduceLT, Nat.reduceLeDiff, Int.reduceToNat, Int.reduceLE, Int.reduceLT, Int.reduceNeg, reduceCtorEq, gos, Int.reduceAdd, Int.reduceSub, Int.reduceMul, Int.reduceEq])
  refine X_loopH [0, 1, 2, 12, 13, 14] [] (0) (n) (fun j => True) (fun j => [(0, .ref ((3, 2) :: bT) 0 6), (1, .view ((1, 1) :: bX) 0 1 n n), (2, u64 c), (12, .i (.l n (y.map iu))), (13, i64 n), (14, i64 j)]) (fun j => h.put ((1, 1) :: bX) (.row false ((lessJ p c x y j).map iu))) ?_ ?_ ?_ ?_ ?_ (by decide) ?_
  · exact (fgt_nil)
  · ((simp -dsimp (disch := omega) only [simx, zzB, tys, ite_self, opnL, callB, callX, readsB, stepOp, nilCmp, ofVal, opBuiltin, opLen, PV.sk, scalBin, scalUn, intBin, opLoad, natOf, opConvert, opField, cellsP, oneP, Value.oneCell', opStore, toIV, scalT, scalA, scalC, boxesA, boxesC, zipB_none, zipB_mx, isZ, opZip, zeroP, opAppendZ, opMakeMap, opLookup, mboxB, opUpdate, ↓reduceIte, Nat.reduceSub, Nat.reduceEqDiff, Nat.reduceAdd, Nat.reduceMul, Nat.reduceLT, Nat.reduceLeDiff, Int.reduceToNat, Int.reduceLE, Int.reduceLT, Int.reduceNeg, reduceCtorEq, gos, Int.reduceAdd, Int.reduceSub, Int.reduceMul, Int.reduceEq]) <;> first | rfl | simp)
  · rw [drop_nil, lessJ_zero]
    funext b
    rw [Heap.put_at]
    split
    · rename_i e; rw [e, hX]
    · rfl
  · omega
  · trivial
  · intro j hj _
    by_cases cj : j < n
    · have g1 := lessJ_at (p := p) (c := c) (y := y) hl cj
      have g2 := getD_some hl2 cj
      have g3 := lessJ_len p c x y j
      have ix := getD_of hx (i := j) (by omega)
      have iy := getD_of hy (i := j) (by omega)
      have m1 := Mul_in hp hc iy
      have m2 := Sub_in hp ix (in_emod hp (c * y.getD j 0))
      have nx := lessJ_next (p := p) (c := c) (y := y) hl cj
      rw [hl] at g3
      have cj1 : j + 1 ≤ n := by omega
      clear hx hy
      repeat (first | ((first | refine X_call_fn2 rfl (by simp only [tys]) ?_ | refine X_dcall_fn2 rfl (by simp only [tys]) ?_); apply Exists.intro; apply And.intro; (focus (simp -dsimp only [simx, zzC, zzB, tys, ite_self, opnL, callB, callX, readsB, stepOp, nilCmp, ofVal, opBuiltin, opLen, PV.sk, scalBin, scalUn, intBin, opLoad, natOf, opConvert, opField, cellsP, oneP, Value.oneCell', opStore, toIV, scalT, scalA, scalC, boxesA, boxesC, zipB_none, zipB_mx, isZ, opZip, zeroP, opAppendZ, opMakeMap, opLookup, mboxB, opUpdate, ↓reduceIte, Nat.reduceSub, Nat.reduceEqDiff, Nat.reduceAdd, Nat.reduceMul, Nat.reduceLT, Nat.reduceLeDiff, Int.reduceToNat, Int.reduceLE, Int.reduceLT, Int.reduceNeg, reduceCtorEq, zzL, if_true, if_false] <;> rfl)); apply Exists.intro; apply And.intro; (focus (first | exact m1 | exact m2))) | refine X_opc rfl ?_ | refine X_dopc rfl ?_ | refine ⟨(by show drawK _ _ = true; kernel_rfl : drawX _ _ _), ?_⟩ | exact (by show drawK _ _ = true; kernel_rfl : drawX _ _ _) | simp -dsimp (maxSteps := 20000000) (disch := omega) only [simx, zzC, zzB, tys, ite_self, opnL, callB, callX, readsB, stepOp, nilCmp, ofVal, opBuiltin, opLen, PV.sk, scalBin, scalUn, intBin, opLoad, natOf, opConvert, opField, cellsP, oneP, Value.oneCell', opStore, toIV, scalT, scalA, scalC, boxesA, boxesC, zipB_none, zipB_mx, isZ, opZip, zeroP, opAppendZ, opMakeMap, opLookup, mboxB, opUpdate, ↓reduceIte, Nat.reduceSub, Nat.reduceEqDiff, Nat.reduceAdd, Nat.reduceMul, Nat.reduceLT, Nat.reduceLeDiff, Int.reduceToNat, Int.reduceLE, Int.reduceLT, Int.reduceNeg, reduceCtorEq, gos, Int.reduceAdd, Int.reduceSub, Int.reduceMul, Int.reduceEq, cj, cj1, hT, hX, g1, g2, g3, List.length_map])
      refine ⟨cj, (fgt_nil), rfl, ?_⟩
      rw [drop_nil, nx]
      funext b
      simp only [Heap.put_at]
      split <;> rfl
    · have : j = n := by omega
      subst this
      rw [← hl, lessJ_all]
      repeat (first | refine X_opc rfl ?_ | refine X_dopc rfl ?_ | refine ⟨(by show drawK _ _ = true; kernel_rfl : drawX _ _ _), ?_⟩ | exact (by show drawK _ _ = true; kernel_rfl : drawX _ _ _) | simp -dsimp (maxSteps := 20000000) (disch := omega) only [simx, zzC, zzB, tys, ite_self, opnL, callB, callX, readsB, stepOp, nilCmp, ofVal, opBuiltin, opLen, PV.sk, scalBin, scalUn, intBin, opLoad, natOf, opConvert, opField, cellsP, oneP, Value.oneCell', opStore, toIV, scalT, scalA, scalC, boxesA, boxesC, zipB_none, zipB_mx, isZ, opZip, zeroP, opAppendZ, opMakeMap, opLookup, mboxB, opUpdate, ↓reduceIte, Nat.reduceSub, Nat.reduceEqDiff, Nat.reduceAdd, Nat.reduceMul, Nat.reduceLT, Nat.reduceLeDiff, Int.reduceToNat, Int.reduceLE, Int.reduceLT, Int.reduceNeg, reduceCtorEq, zzR, gos, Int.reduceAdd, Int.reduceSub, Int.reduceMul, Int.reduceEq])
      rfl
end Go.Proofs.Ytmalpmnmknpphaa.TM
namespace Go.Proofs.Ytmalpmnmknpphaa.TM
open Go
section
variable {P : Program} {C : CallRel} {h0 : Heap} {base : Name} {Qf : Ex → List PV → Heap → Prop} {k : List It} {t : List PV} {h : Heap}
theorem Xdr_eq {r : Option Out} {out : Out} {d : Option Tmp} {p : Op} {nm : Name} {id : Nat} {ops : Array Oper} {ds : List (Option Tmp)} {i : Nat} {os : List Oper} {pf : XPf ops ds i os} {acc : List Keys} (hr : r = some out)
    (hk : K P C h0 base Qf (.xdops id ops ds i os pf ((keysU out.ups, keysT nm p ((opnL p).map (St.opnd t))) :: acc) :: k) .normal (putT t d out.val) (h.ups out.ups)) : Xdr P C h0 base Qf r d p nm (mkD id ops ds i os pf) acc k t h := by
  subst hr; exact hk
theorem X_dappend_one {d : Option Tmp} {p : Op} {nm : Name} {id : Nat} {ops : Array Oper} {ds : List (Option Tmp)} {i : Nat} {os : List Oper} {pf : XPf ops ds i os} {acc : List Keys} {s b : Name} {ty : TypeId} (e : TypeId) (zs : List Value) {n z : Nat} {cs : List IV} (xs : List IV) {fz : Bool}
    (he : elemB P ty = some e) (hz : zeroB P e = some zs) (hzl : zs.length = z) (hz0 : 0 < z) (hn : cs.length = n * z) (hs : h s = if n = 0 then none else some (.row false cs)) (hb : h b = some (.row fz xs)) (hx : xs.length = z)
    (hby : (n + 1) * P.bytesOf e ≤ 140737488355328) (hl : n + 1 ≤ maxLen)
    (hk : K P C h0 base Qf (.xdops id ops ds i os pf ((keysU [(s, Box.row false (cs ++ xs))], keysT nm p ((opnL p).map (St.opnd t))) :: acc) :: k) .normal (putT t d (rowP s z (n + 1) (cs ++ xs))) (h.put s (.row false (cs ++ xs)))) :
    Xdr P C h0 base Qf (opAppend P h s ty (rowP s z n cs) (.view b 0 z 1 z)) d p nm (mkD id ops ds i os pf) acc k t h := by
  refine Xdr_eq (append_row he hz hzl hz0 hn hs rfl (m := 1) rfl (by decide) (xs := xs) ?_ hby hl) hk
  simp only [SK.cells, hb, hx, Nat.zero_add, Nat.one_mul, Nat.le_refl, and_self, if_true, List.drop_zero]
  rw [← hx, List.take_length]
end
end Go.Proofs.Ytmalpmnmknpphaa.TM
namespace Go.Proofs.Ytmalpmnmknpphaa.TM
open Go Go.RowKit
attribute [local irreducible] K W WOps Effs Xg Xo Xr Xdg Xdo Xdr Xif CallsP CallR
theorem X_app_full {P : Program} {C : CallRel} {h h0 : Heap} {base : Name} {Qf : Ex → List PV → Heap → Prop} {k : List It} {t : List PV} {R : It} {d : Option Tmp} {s b : Name} {ty : TypeId} (e : TypeId) (zs : List Value) {n m : Nat} {cs : List IV} (xs : List IV)
    (he : elemB P ty = some e) (hz : zeroB P e = some zs) (hzl : zs.length = 1) (hb : h b = some (.row false cs)) (hl : cs.length = n) (hm : 0 < m) (hx : xs.length = m)
    (hby : (n + m) * P.bytesOf e ≤ 140737488355328) (hmx : n + m ≤ maxLen)
    (hk : K P C h0 base Qf (R :: k) .normal (putT t d (.view b 0 1 (n + m) (n + m))) (h.put b (.row false (cs ++ xs)))) :
    Xr P C h0 base Qf (opAppend P h s ty (.view b 0 1 n n) (.i (.l m xs))) d R k t h := by
  refine Xr_eq (out := ⟨.view b 0 1 (n + m) (n + m), [(b, .row false (cs ++ xs))]⟩) ?_ hk
  have h1 : ¬ m = 0 := by omega
  subst hl
  simp only [opAppend, he, hz, hzl, PV.sk, SK.cells, SK.len, hx, hb, Nat.mul_one, if_true, h1, if_false, hby, hmx, Nat.zero_lt_one, and_self, true_and, List.length_append]
theorem cloneU_own {n : Nat} {l : List Int} (hl : l.length = n) (h0 : 0 < n) (hn : n ≤ 4096) : CallsO Try.prog 127 [.i (.l n (l.map iu))] 1 n n (l.map iu) := by
  intro base
  refine ⟨(3, 0) :: base, Heap.none.put ((3, 0) :: base) (.row false (l.map iu)), ?_, by simp [Heap.put_at], by simp [hl]⟩
  have h1 : ¬ n = 0 := by omega
  refine X_startR (n := 8) (m := 1) (rs := [.tmp 2]) Try.func127 rfl rfl rfl rfl (by decide) ?_
  repeat (first | refine X_opc rfl ?_ | refine X_dopc rfl ?_ | refine ⟨(by show drawK _ _ = true; kernel_rfl : drawX _ _ _), ?_⟩ | exact (by show drawK _ _ = true; kernel_rfl : drawX _ _ _) | simp -dsimp (maxSteps := 20000000) (disch := omega) only [simx, zzC, zzB, tys, ite_self, opnL, callB, callX, readsB, stepOp, nilCmp, ofVal, opBuiltin, opLen, PV.sk, scalBin, scalUn, intBin, opLoad, natOf, opConvert, opField, cellsP, oneP, Value.oneCell', opStore, toIV, scalT, scalA, scalC, boxesA, boxesC, zipB_none, zipB_mx, isZ, opZip, zeroP, opAppendZ, opMakeMap, opLookup, mboxB, opUpdate, ↓reduceIte, Nat.reduceSub, Nat.reduceEqDiff, Nat.reduceAdd, Nat.reduceMul, Nat.reduceLT, Nat.reduceLeDiff, Int.reduceToNat, Int.reduceLE, Int.reduceLT, Int.reduceNeg, reduceCtorEq, gos, Int.reduceAdd, Int.reduceSub, Int.reduceMul, Int.reduceEq, h1, h0])
  refine X_app_full (cs := []) 22 [.int .u64 0] (l.map iu) (by simp only [tys]) (by simp only [tys]) rfl (by simp [Heap.put_at]) rfl h0 (by simp [hl]) (by simp only [tys]; omega) (by rw [mx_len]; omega) ?_
  repeat (first | refine X_opc rfl ?_ | refine X_dopc rfl ?_ | refine ⟨(by show drawK _ _ = true; kernel_rfl : drawX _ _ _), ?_⟩ | exact (by show drawK _ _ = true; kernel_rfl : drawX _ _ _) | simp -dsimp (maxSteps := 20000000) (disch := omega) only [simx, zzC, zzB, tys, ite_self, opnL, callB, callX, readsB, stepOp, nilCmp, ofVal, opBuiltin, opLen, PV.sk, scalBin, scalUn, intBin, opLoad, natOf, opConvert, opField, cellsP, oneP, Value.oneCell', opStore, toIV, scalT, scalA, scalC, boxesA, boxesC, zipB_none, zipB_mx, isZ, opZip, zeroP, opAppendZ, opMakeMap, opLookup, mboxB, opUpdate, ↓reduceIte, Nat.reduceSub, Nat.reduceEqDiff, Nat.reduceAdd, Nat.reduceMul, Nat.reduceLT, Nat.reduceLeDiff, Int.reduceToNat, Int.reduceLE, Int.reduceLT, Int.reduceNeg, reduceCtorEq, zzR, gos, Int.reduceAdd, Int.reduceSub, Int.reduceMul, Int.reduceEq])
  funext c
  simp only [Heap.put_at, List.nil_append]
  split <;> rfl
def nzA : List Int → Nat → Int
  | [], _ => -1
  | a :: l, k => if a = 0 then nzA l (k + 1) else k
theorem row1_walk (a : Int) : CallsP Try.prog 131 [u64 a] (bl (a != 0)) := by
  refine X_startP (n := 5) (m := 1) (rs := [.tmp 2]) Try.func131 rfl rfl rfl rfl (by decide) fun base => ?_
  repeat (first | refine X_opc rfl ?_ | refine X_dopc rfl ?_ | refine ⟨(by show drawK _ _ = true; kernel_rfl : drawX _ _ _), ?_⟩ | exact (by show drawK _ _ = true; kernel_rfl : drawX _ _ _) | simp -dsimp (maxSteps := 20000000) (disch := omega) only [simx, zzC, zzB, tys, ite_self, opnL, callB, callX, readsB, stepOp, nilCmp, ofVal, opBuiltin, opLen, PV.sk, scalBin, scalUn, intBin, opLoad, natOf, opConvert, opField, cellsP, oneP, Value.oneCell', opStore, toIV, scalT, scalA, scalC, boxesA, boxesC, zipB_none, zipB_mx, isZ, opZip, zeroP, opAppendZ, opMakeMap, opLookup, mboxB, opUpdate, ↓reduceIte, Nat.reduceSub, Nat.reduceEqDiff, Nat.reduceAdd, Nat.reduceMul, Nat.reduceLT, Nat.reduceLeDiff, Int.reduceToNat, Int.reduceLE, Int.reduceLT, Int.reduceNeg, reduceCtorEq, zzR, gos, Int.reduceAdd, Int.reduceSub, Int.reduceMul, Int.reduceEq])
theorem indexA_walk {l : List Int} (hl : l.length ≤ maxLen) : CallsP Try.prog 130 [lu l, fnc 131] (i64 (nzA l 0)) := by
  rw [mx_len] at hl
  refine X_startP (n := 19) (m := 2) (rs := [.tmp 4]) Try.func130 rfl rfl rfl rfl (by decide) fun base => ?_
  repeat (first | refine X_opc rfl ?_ | refine X_dopc rfl ?_ | refine ⟨(by show drawK _ _ = true; kernel_rfl : drawX _ _ _), ?_⟩ | exact (by show drawK _ _ = true; kernel_rfl : drawX _ _ _) | simp -dsimp (maxSteps := 20000000) (disch := omega) only [simx, zzC, zzB, tys, ite_self, opnL, callB, callX, readsB, stepOp, nilCmp, ofVal, opBuiltin, opLen, PV.sk, scalBin, scalUn, intBin, opLoad, natOf, opConvert, opField, cellsP, oneP, Value.oneCell', opStore, toIV, scalT, scalA, scalC, boxesA, boxesC, zipB_none, zipB_mx, isZ, opZip, zeroP, opAppendZ, opMakeMap, opLookup, mboxB, opUpdate, ↓reduceIte, Nat.reduceSub, Nat.reduceEqDiff, Nat.reduceAdd, Nat.reduceMul, Nat.reduceLT, Nat.reduceLeDiff, Int.reduceToNat, Int.reduceLE, Int.reduceLT, Int.reduceNeg, reduceCtorEq, gos, Int.reduceAdd, Int.reduceSub, Int.reduceMul, Int.reduceEq])
  refine X_loopH [0, 1, 7, 8] [] (0) (l.length) (fun j => nzA (l.drop j) j = nzA l 0) (fun j => [(8, i64 j)]) (fun j => Heap.none) ?_ ?_ ?_ ?_ ?_ (by decide) ?_
  · exact (fgt_nil)
  · ((simp -dsimp (disch := omega) only [simx, zzB, tys, ite_self, opnL, callB, callX, readsB, stepOp, nilCmp, ofVal, opBuiltin, opLen, PV.sk, scalBin, scalUn, intBin, opLoad, natOf, opConvert, opField, cellsP, oneP, Value.oneCell', opStore, toIV, scalT, scalA, scalC, boxesA, boxesC, zipB_none, zipB_mx, isZ, opZip, zeroP, opAppendZ, opMakeMap, opLookup, mboxB, opUpdate, ↓reduceIte, Nat.reduceSub, Nat.reduceEqDiff, Nat.reduceAdd, Nat.reduceMul, Nat.reduceLT, Nat.reduceLeDiff, Int.reduceToNat, Int.reduceLE, Int.reduceLT, Int.reduceNeg, reduceCtorEq, gos, Int.reduceAdd, Int.reduceSub, Int.reduceMul, Int.reduceEq]) <;> first | rfl | simp)
  · exact drop_nil _
  · omega
  · rfl
  · intro j hj hf
    by_cases c : j < l.length
    · have g1 : l[j]? = some l[j] := List.getElem?_eq_getElem c
      have d := row1_walk l[j]
      rw [List.drop_eq_getElem_cons c, nzA] at hf
      generalize l[j] = a at g1 d hf
      by_cases e : a = 0
      · rw [if_pos e] at hf
        subst e
        rw [show ((0 : Int) != 0) = false from rfl] at d
        repeat (first | ((first | refine X_call_fn2 rfl (by simp only [tys]) ?_ | refine X_dcall_fn2 rfl (by simp only [tys]) ?_); apply Exists.intro; apply And.intro; (focus (simp -dsimp only [simx, zzC, zzB, tys, ite_self, opnL, callB, callX, readsB, stepOp, nilCmp, ofVal, opBuiltin, opLen, PV.sk, scalBin, scalUn, intBin, opLoad, natOf, opConvert, opField, cellsP, oneP, Value.oneCell', opStore, toIV, scalT, scalA, scalC, boxesA, boxesC, zipB_none, zipB_mx, isZ, opZip, zeroP, opAppendZ, opMakeMap, opLookup, mboxB, opUpdate, ↓reduceIte, Nat.reduceSub, Nat.reduceEqDiff, Nat.reduceAdd, Nat.reduceMul, Nat.reduceLT, Nat.reduceLeDiff, Int.reduceToNat, Int.reduceLE, Int.reduceLT, Int.reduceNeg, reduceCtorEq, zzL, if_true, if_false] <;> rfl)); apply Exists.intro; apply And.intro; (focus (first | exact d))) | (refine X_call_val2 rfl ?_; apply Exists.intro; apply And.intro; (focus (simp -dsimp only [simx, zzC, zzB, tys, ite_self, opnL, callB, callX, readsB, stepOp, nilCmp, ofVal, opBuiltin, opLen, PV.sk, scalBin, scalUn, intBin, opLoad, natOf, opConvert, opField, cellsP, oneP, Value.oneCell', opStore, toIV, scalT, scalA, scalC, boxesA, boxesC, zipB_none, zipB_mx, isZ, opZip, zeroP, opAppendZ, opMakeMap, opLookup, mboxB, opUpdate, ↓reduceIte, Nat.reduceSub, Nat.reduceEqDiff, Nat.reduceAdd, Nat.reduceMul, Nat.reduceLT, Nat.reduceLeDiff, Int.reduceToNat, Int.reduceLE, Int.reduceLT, Int.reduceNeg, reduceCtorEq, zzL, if_true, if_false] <;> rfl)); apply And.intro; (focus (first | simp only [tys] | exact such_enter _)); apply Exists.intro; apply And.intro; (focus (simp -dsimp only [simx, zzC, zzB, tys, ite_self, opnL, callB, callX, readsB, stepOp, nilCmp, ofVal, opBuiltin, opLen, PV.sk, scalBin, scalUn, intBin, opLoad, natOf, opConvert, opField, cellsP, oneP, Value.oneCell', opStore, toIV, scalT, scalA, scalC, boxesA, boxesC, zipB_none, zipB_mx, isZ, opZip, zeroP, opAppendZ, opMakeMap, opLookup, mboxB, opUpdate, ↓reduceIte, Nat.reduceSub, Nat.reduceEqDiff, Nat.reduceAdd, Nat.reduceMul, Nat.reduceLT, Nat.reduceLeDiff, Int.reduceToNat, Int.reduceLE, Int.reduceLT, Int.reduceNeg, reduceCtorEq, zzL, if_true, if_false] <;> rfl)); apply Exists.intro; apply And.intro; (focus (first | exact d))) | refine X_opc rfl ?_ | refine X_dopc rfl ?_ | refine ⟨(by show drawK _ _ = true; kernel_rfl : drawX _ _ _), ?_⟩ | exact (by show drawK _ _ = true; kernel_rfl : drawX _ _ _) | simp -dsimp (maxSteps := 20000000) (disch := omega) only [simx, zzC, zzB, tys, ite_self, opnL, callB, callX, readsB, stepOp, nilCmp, ofVal, opBuiltin, opLen, PV.sk, scalBin, scalUn, intBin, opLoad, natOf, opConvert, opField, cellsP, oneP, Value.oneCell', opStore, toIV, scalT, scalA, scalC, boxesA, boxesC, zipB_none, zipB_mx, isZ, opZip, zeroP, opAppendZ, opMakeMap, opLookup, mboxB, opUpdate, ↓reduceIte, Nat.reduceSub, Nat.reduceEqDiff, Nat.reduceAdd, Nat.reduceMul, Nat.reduceLT, Nat.reduceLeDiff, Int.reduceToNat, Int.reduceLE, Int.reduceLT, Int.reduceNeg, reduceCtorEq, zzR, gos, Int.reduceAdd, Int.reduceSub, Int.reduceMul, Int.reduceEq, c, g1])
        exact ⟨c, (fgt_nil), hf, rfl, drop_nil _⟩
      · rw [if_neg e] at hf
        rw [← hf]
        rw [show (a != 0) = true by simp [e]] at d
        repeat (first | ((first | refine X_call_fn2 rfl (by simp only [tys]) ?_ | refine X_dcall_fn2 rfl (by simp only [tys]) ?_); apply Exists.intro; apply And.intro; (focus (simp -dsimp only [simx, zzC, zzB, tys, ite_self, opnL, callB, callX, readsB, stepOp, nilCmp, ofVal, opBuiltin, opLen, PV.sk, scalBin, scalUn, intBin, opLoad, natOf, opConvert, opField, cellsP, oneP, Value.oneCell', opStore, toIV, scalT, scalA, scalC, boxesA, boxesC, zipB_none, zipB_mx, isZ, opZip, zeroP, opAppendZ, opMakeMap, opLookup, mboxB, opUpdate, ↓reduceIte, Nat.reduceSub, Nat.reduceEqDiff, Nat.reduceAdd, Nat.reduceMul, Nat.reduceLT, Nat.reduceLeDiff, Int.reduceToNat, Int.reduceLE, Int.reduceLT, Int.reduceNeg, reduceCtorEq, zzL, if_true, if_false] <;> rfl)); apply Exists.intro; apply And.intro; (focus (first | exact d))) | (refine X_call_val2 rfl ?_; apply Exists.intro; apply And.intro; (focus (simp -dsimp only [simx, zzC, zzB, tys, ite_self, opnL, callB, callX, readsB, stepOp, nilCmp, ofVal, opBuiltin, opLen, PV.sk, scalBin, scalUn, intBin, opLoad, natOf, opConvert, opField, cellsP, oneP, Value.oneCell', opStore, toIV, scalT, scalA, scalC, boxesA, boxesC, zipB_none, zipB_mx, isZ, opZip, zeroP, opAppendZ, opMakeMap, opLookup, mboxB, opUpdate, ↓reduceIte, Nat.reduceSub, Nat.reduceEqDiff, Nat.reduceAdd, Nat.reduceMul, Nat.reduceLT, Nat.reduceLeDiff, Int.reduceToNat, Int.reduceLE, Int.reduceLT, Int.reduceNeg, reduceCtorEq, zzL, if_true, if_false] <;> rfl)); apply And.intro; (focus (first | simp only [tys] | exact such_enter _)); apply Exists.intro; apply And.intro; (focus (simp -dsimp only [simx, zzC, zzB, tys, ite_self, opnL, callB, callX, readsB, stepOp, nilCmp, ofVal, opBuiltin, opLen, PV.sk, scalBin, scalUn, intBin, opLoad, natOf, opConvert, opField, cellsP, oneP, Value.oneCell', opStore, toIV, scalT, scalA, scalC, boxesA, boxesC, zipB_none, zipB_mx, isZ, opZip, zeroP, opAppendZ, opMakeMap, opLookup, mboxB, opUpdate, ↓reduceIte, Nat.reduceSub, Nat.reduceEqDiff, Nat.reduceAdd, Nat.reduceMul, Nat.reduceLT, Nat.reduceLeDiff, Int.reduceToNat, Int.reduceLE, Int.reduceLT, Int.reduceNeg, reduceCtorEq, zzL, if_true, if_false] <;> rfl)); apply Exists.intro; apply And.intro; (focus (first | exact d))) | refine X_opc rfl ?_ | refine X_dopc rfl ?_ | refine ⟨(by show drawK _ _ = true; kernel_rfl : drawX _ _ _), ?_⟩ | exact (by show drawK _ _ = true; kernel_rfl : drawX _ _ _) | simp -dsimp (maxSteps := 20000000) (disch := omega) only [simx, zzC, zzB, tys, ite_self, opnL, callB, callX, readsB, stepOp, nilCmp, ofVal, opBuiltin, opLen, PV.sk, scalBin, scalUn, intBin, opLoad, natOf, opConvert, opField, cellsP, oneP, Value.oneCell', opStore, toIV, scalT, scalA, scalC, boxesA, boxesC, zipB_none, zipB_mx, isZ, opZip, zeroP, opAppendZ, opMakeMap, opLookup, mboxB, opUpdate, ↓reduceIte, Nat.reduceSub, Nat.reduceEqDiff, Nat.reduceAdd, Nat.reduceMul, Nat.reduceLT, Nat.reduceLeDiff, Int.reduceToNat, Int.reduceLE, Int.reduceLT, Int.reduceNeg, reduceCtorEq, zzR, gos, Int.reduceAdd, Int.reduceSub, Int.reduceMul, Int.reduceEq, c, g1])
    · have hj : j = l.length := by omega
      subst hj
      rw [List.drop_length, nzA] at hf
      rw [← hf]
      repeat (first | refine X_opc rfl ?_ | refine X_dopc rfl ?_ | refine ⟨(by show drawK _ _ = true; kernel_rfl : drawX _ _ _), ?_⟩ | exact (by show drawK _ _ = true; kernel_rfl : drawX _ _ _) | simp -dsimp (maxSteps := 20000000) (disch := omega) only [simx, zzC, zzB, tys, ite_self, opnL, callB, callX, readsB, stepOp, nilCmp, ofVal, opBuiltin, opLen, PV.sk, scalBin, scalUn, intBin, opLoad, natOf, opConvert, opField, cellsP, oneP, Value.oneCell', opStore, toIV, scalT, scalA, scalC, boxesA, boxesC, zipB_none, zipB_mx, isZ, opZip, zeroP, opAppendZ, opMakeMap, opLookup, mboxB, opUpdate, ↓reduceIte, Nat.reduceSub, Nat.reduceEqDiff, Nat.reduceAdd, Nat.reduceMul, Nat.reduceLT, Nat.reduceLeDiff, Int.reduceToNat, Int.reduceLE, Int.reduceLT, Int.reduceNeg, reduceCtorEq, zzR, gos, Int.reduceAdd, Int.reduceSub, Int.reduceMul, Int.reduceEq])
end Go.Proofs.Ytmalpmnmknpphaa.TM
namespace Go.Proofs.Ytmalpmnmknpphaa.TM
open Go Go.RowKit
def finvC (p a : Int) : Int := match (List.range p.toNat).find? (fun x : Nat => a * (x : Int) % p == 1) with
  | some x => (x : Int)
  | none => 0
theorem finv_c (p a : Int) : finv p a = finvC p a := by
  unfold finvC
  cases h : (List.range p.toNat).find? (fun x : Nat => a * (x : Int) % p == 1) with
  | some x =>
    have h1 := List.find?_some h
    have h2 := List.mem_range.1 (List.mem_of_find?_eq_some h)
    show finv p a = (x : Int)
    exact finv_spec ⟨by omega, by omega⟩ (by simpa using h1)
  | none =>
    have h1 := List.find?_eq_none.1 h
    unfold finv
    rw [dif_neg]
    · rintro ⟨x, hx, hm⟩
      have h0 := hx.1
      have h2 := hx.2
      have := h1 x.toNat (List.mem_range.2 (by omega))
      rw [show ((x.toNat : Nat) : Int) = x by have := hx.1; omega, hm] at this
      simp at this
theorem finvC_in {p a : Int} (hp2 : 2 ≤ p) (hp : p < 9223372036854775808) (ha : In p a) (h : Int.gcd p a = 1) : In p (finvC p a) ∧ a * finvC p a % p = 1 := by
  rw [← finv_c]; exact finv_in hp2 hp ha h
structure Tk where
  rows : List Int
  cols : List Int
  cs : List (List Int)
  us : List (List Int)
  vs : List Int
def elR (p : Int) (T : Tk) (row : List Int) : Nat → List Int
  | 0 => row
  | k + 1 => lessV p ((elR p T row k).getD (T.cols.getD k 0).toNat 0 * T.vs.getD k 0 % p) (elR p T row k) (T.us.getD k [])
def elX (p : Int) (T : Tk) (row : List Int) (k : Nat) : Int := (elR p T row k).getD (T.cols.getD k 0).toNat 0 * T.vs.getD k 0 % p
theorem elR_succ (p : Int) (T : Tk) (row : List Int) (k : Nat) : elR p T row (k + 1) = lessV p (elX p T row k) (elR p T row k) (T.us.getD k []) := rfl
theorem elR_len (p : Int) (T : Tk) (row : List Int) : ∀ k, (elR p T row k).length = row.length
  | 0 => rfl
  | k + 1 => by rw [elR_succ, lessV_len, elR_len p T row k]
theorem elR_in {p : Int} (hp : Md p) (T : Tk) {row : List Int} (h : ∀ a ∈ row, In p a) : ∀ k, ∀ a ∈ elR p T row k, In p a
  | 0 => h
  | k + 1 => by rw [elR_succ]; exact lessV_in hp _ _ _
theorem elX_in {p : Int} (hp : Md p) (T : Tk) (row : List Int) (k : Nat) : In p (elX p T row k) := in_emod hp _
def rstT (p : Int) (T : Tk) (row : List Int) : List Int := elR p T row T.us.length
def xsT (p : Int) (T : Tk) (row : List Int) : List Int := tbl T.us.length (elX p T row)
def tkRow (p : Int) (T : Tk) (i : Int) (row : List Int) : Tk :=
  if nzA (rstT p T row) 0 < 0 then { T with cs := T.cs ++ [xsT p T row] } else
  { rows := T.rows ++ [i], cols := T.cols ++ [nzA (rstT p T row) 0], cs := T.cs ++ [xsT p T row ++ [1]], us := T.us ++ [rstT p T row], vs := T.vs ++ [finvC p ((rstT p T row).getD (nzA (rstT p T row) 0).toNat 0)] }
def tkN (p : Int) (C : Nat) (l : List Int) : Nat → Tk
  | 0 => ⟨[], [], [], [], []⟩
  | i + 1 => tkRow p (tkN p C l i) i (rowM C l i)
structure TkI (p : Int) (C i : Nat) (T : Tk) : Prop where
  rl : T.rows.length = T.us.length
  ql : T.cols.length = T.us.length
  vl : T.vs.length = T.us.length
  cl : T.cs.length = i
  ri : T.us.length ≤ i
  rb : ∀ a ∈ T.rows, 0 ≤ a ∧ a < i
  qb : ∀ a ∈ T.cols, 0 ≤ a ∧ a < C
  ul : ∀ u ∈ T.us, u.length = C ∧ ∀ a ∈ u, In p a
  vb : ∀ a ∈ T.vs, In p a
  cb : ∀ c ∈ T.cs, c.length ≤ T.us.length ∧ ∀ a ∈ c, In p a
theorem TkI.zero (p : Int) (C : Nat) : TkI p C 0 ⟨[], [], [], [], []⟩ := ⟨rfl, rfl, rfl, rfl, Nat.le_refl _, by simp, by simp, by simp, by simp, by simp⟩
theorem nzA_spec : ∀ (l : List Int) (k : Nat), (nzA l k = -1 ∧ ∀ a ∈ l, a = 0) ∨ ∃ n : Nat, nzA l k = ((k + n : Nat) : Int) ∧ n < l.length ∧ l.getD n 0 ≠ 0 ∧ ∀ j, j < n → l.getD j 0 = 0
  | [], k => .inl ⟨rfl, by simp⟩
  | a :: l, k => by
    by_cases h : a = 0
    · rcases nzA_spec l (k + 1) with ⟨h1, h2⟩ | ⟨n, h1, h2, h3, h4⟩
      · left; rw [nzA, if_pos h]; exact ⟨h1, by intro b hb; rcases List.mem_cons.1 hb with rfl | hb; exact h; exact h2 b hb⟩
      · right
        refine ⟨n + 1, by rw [nzA, if_pos h, h1]; congr 1; omega, by simpa using h2, by simpa using h3, ?_⟩
        intro j hj
        cases j with
        | zero => simpa using h
        | succ j => simpa using h4 j (by omega)
    · right
      exact ⟨0, by rw [nzA, if_neg h]; rfl, by simp, by simpa using h, by intro j hj; omega⟩
end Go.Proofs.Ytmalpmnmknpphaa.TM
namespace Go.Proofs.Ytmalpmnmknpphaa.TM
open Go
theorem X_startE {P : Program} {base : Name} {f : FuncId} {fn : Func} {c : Code} {args : List PV} {h : Heap} {v : PV} {Φ : Heap → Prop} {n m : Nat} {rs : List ResultVar} (hf : P.funcs[f]? = some fn) (hb : fn.body = some c) (hn : fn.ntmps = n) (hrs : fn.results.toList = rs) (hm : args.length = m) (hmn : m ≤ n)
    (hw : K P (CallR P) h base (LkQ (fun e t hh => (e = .normal ∨ e = .ret) ∧ resB P rs t hh = some v ∧ Φ hh) .mk) [.lk c .mk] .normal (toL n (argsF args)) h) : ∃ h', CallR P base f args h v h' ∧ Φ h' := by
  obtain ⟨e, t', h', ⟨he, hr, hp⟩, hw'⟩ := W_point c _ _ (show W P (CallR P) h base c (toL n (argsF args)) h _ from hw)
  refine ⟨h', CallR.startF (v := v) hf hb hn hrs hm hmn ?_, hp⟩
  show W P (CallR P) h base c (toL n (argsF args)) h _
  refine W_mono (fun _ _ _ _ _ _ h => h) c _ _ (fun e2 t2 h2 hh => ?_) hw'
  obtain ⟨rfl, rfl, rfl⟩ := hh
  exact ⟨he, hr, rfl⟩
end Go.Proofs.Ytmalpmnmknpphaa.TM
namespace Go.Proofs.Ytmalpmnmknpphaa.TM
open Go Go.RowKit
attribute [local irreducible] K W WOps Effs Xg Xo Xr Xdg Xdo Xdr Xif CallsP CallR
def clmP (s : Name) (n : Nat) : PV := if n = 0 then nilP else .view s 0 1 n n
def clmB (n : Nat) (L : List PV) : Option Box := if n = 0 then none else some (.var L)
theorem clmP_zero (s : Name) : clmP s 0 = nilP := rfl
theorem clmP_succ (s : Name) (n : Nat) : clmP s (n + 1) = .view s 0 1 (n + 1) (n + 1) := rfl
theorem mem_refs_clmP {b s : Name} {n : Nat} : b ∈ refsP (clmP s n) ↔ n ≠ 0 ∧ b = s := by
  unfold clmP
  by_cases h : n = 0
  · simp [h, refsP]
  · simp [h, refsP]
theorem X_appendV {P : Program} {C : CallRel} {h h0 : Heap} {base : Name} {Qf : Ex → List PV → Heap → Prop} {k : List It} {t : List PV} {R : It} {d : Option Tmp} {s b : Name} {ty : TypeId} (e : TypeId) (zs : List Value) {n : Nat} {L : List PV} {v : PV} {s' : Name}
    (he : elemB P ty = some e) (hz : zeroB P e = some zs) (hzl : zs.length = 1) (hn : L.length = n) (hs : h s = clmB n L) (hb : h b = some (.var [v]))
    (hby : (n + 1) * P.bytesOf e ≤ 140737488355328) (hl : n + 1 ≤ maxLen) (hss : n = 0 → s' = s)
    (hk : K P C h0 base Qf (R :: k) .normal (putT t d (clmP s (n + 1))) (h.put s (.var (L ++ [v])))) :
    Xr P C h0 base Qf (opAppendV P h s' ty (clmP s n) (.view b 0 1 1 1)) d R k t h := by
  refine Xr_eq (out := ⟨clmP s (n + 1), [(s, .var (L ++ [v]))]⟩) ?_ hk
  unfold opAppendV
  rw [he]
  simp only [hz, hzl, hb]
  rw [if_pos (by simp)]
  unfold clmP clmB at *
  by_cases h0 : n = 0
  · subst h0
    rw [if_pos rfl] at hs
    have := List.eq_nil_of_length_eq_zero hn
    subst this
    have := hss rfl
    subst this
    simp only [if_true, nilP]
    rw [if_pos (by rw [mx_len]; simpa using hby)]
    simp [newBox, hs]
  · rw [if_neg h0] at hs ⊢
    simp only [hs]
    rw [if_pos (by simp [hn]; exact ⟨hby, hl⟩)]
    simp [hn]
theorem X_dappend_own {P : Program} {C : CallRel} {h0 : Heap} {base : Name} {Qf : Ex → List PV → Heap → Prop} {k : List It} {t : List PV} {h : Heap} {d : Option Tmp} {p : Op} {nm : Name} {id : Nat} {ops : Array Oper} {ds : List (Option Tmp)} {i : Nat} {os : List Oper} {pf : XPf ops ds i os} {acc : List Keys} {s b bx : Name} {ty : TypeId} (e : TypeId) (zs : List Value) {n z top : Nat} {cs : List IV} (xs : List IV) {fz : Bool}
    (he : elemB P ty = some e) (hz : zeroB P e = some zs) (hzl : zs.length = z) (hz0 : 0 < z) (hb : h b = some (.row false cs)) (ht : top = cs.length) (hn : cs.length = n * z) (hx : h bx = some (.row fz xs)) (hxl : xs.length = z)
    (hby : (n + 1) * P.bytesOf e ≤ 140737488355328) (hl : n + 1 ≤ maxLen)
    (hk : K P C h0 base Qf (.xdops id ops ds i os pf ((keysU [(b, Box.row false (cs ++ xs))], keysT nm p ((opnL p).map (St.opnd t))) :: acc) :: k) .normal (putT t d (.view b 0 z (n + 1) (cs ++ xs).length)) (h.put b (.row false (cs ++ xs)))) :
    Xdr P C h0 base Qf (opAppend P h s ty (.view b 0 z n top) (.view bx 0 z 1 z)) d p nm (mkD id ops ds i os pf) acc k t h := by
  subst ht
  subst hzl
  refine Xdr_eq (out := ⟨.view b 0 zs.length (n + 1) (cs ++ xs).length, [(b, .row false (cs ++ xs))]⟩) ?_ hk
  unfold opAppend
  rw [he]
  simp only [hz]
  simp only [show (PV.view b 0 zs.length n cs.length).sk = some (SK.own b 0 zs.length n cs.length) from rfl, show (PV.view bx 0 zs.length 1 zs.length).sk = some (SK.own bx 0 zs.length 1 zs.length) from rfl, SK.cells, SK.len, hx, hxl, Nat.zero_add, Nat.one_mul, Nat.le_refl, and_self, if_true, List.drop_zero]
  rw [← hxl, List.take_length, if_pos ⟨hxl ▸ hz0, hby, hl⟩, if_neg (by omega), hb]
  simp only [hxl, hn, and_self, if_true, true_and]
abbrev lv (C : Nat) (u : List Int) : IV := .l C (u.map iu)
def cupH (h : Heap) (base bT : Name) (P C i : Nat) (L : List PV) (T T' : Tk) (r : Nat) : Heap :=
  rowH (rowH (rowH (rowH (rowH ((h.put ((3, 2) :: bT) (.var [rowP ((16, 11) :: base) 1 r (T'.rows.map ii), rowP ((16, 19) :: base) 1 r (T'.cols.map ii), clmP ((10, 8) :: base) (i + 1), rowP ((16, 27) :: base) 1 r (T'.us.map (lv C)), u64 P, rowP ((16, 34) :: base) 1 r (T'.vs.map iu)])).put ((10, 8) :: base) (.var (L ++ [rowP ((900, i) :: base) 1 (T'.cs.getD i []).length ((T'.cs.getD i []).map iu)])))
    ((900, i) :: base) (T'.cs.getD i []).length ((T'.cs.getD i []).map iu)) ((16, 11) :: base) r (T'.rows.map ii)) ((16, 19) :: base) r (T'.cols.map ii)) ((16, 27) :: base) r (T'.us.map (lv C))) ((16, 34) :: base) r (T'.vs.map iu)
theorem in_w64 {p a : Int} (hp : Md p) (h : In p a) : W64 a := ⟨h.1, by have := h.2; have := hp.2; omega⟩
theorem prm_gcd {P : Nat} (hP : Prm P) {a : Int} (h : In P a) (h0 : a ≠ 0) : Int.gcd P a = 1 := by
  have := hP.2 a.toNat (by have := h.1; omega) (by have := h.1; have := h.2; omega)
  rw [Int.gcd_eq_natAbs_gcd_natAbs]
  rw [show (P : Int).natAbs = P from rfl, show a.natAbs = a.toNat by have := h.1; omega]
  exact this
theorem Inv_in {P : Nat} (hP : Prm P) (hp : Md P) {a : Int} (h : In P a) (h0 : a ≠ 0) : CallsP Try.prog 109 [u64 P, u64 a] (.tup [u64 (finvC P a), i64 0]) := by
  obtain ⟨r, hr, hc⟩ := Inv_walk P a (in_w64 hp h)
  rw [if_pos ((has_iff _ _).2 ⟨fun x hx => by simp at hx; subst hx; exact h.2, hp.1, hp.2⟩), invR, if_pos (prm_gcd hP h h0)] at hr
  subst hr
  rw [← finv_c]
  exact hc
theorem tk_end {p : Int} {C i : Nat} {T : Tk} (I : TkI p C i T) (row : List Int) (x : Int) (hi : x = (i : Int)) :
    (nzA (rstT p T row) 0 < 0 → (tkRow p T x row).cs.getD i [] = xsT p T row) ∧ (¬ nzA (rstT p T row) 0 < 0 → (tkRow p T x row).cs.getD i [] = xsT p T row ++ [1]) := by
  unfold tkRow
  constructor
  · intro h
    rw [if_pos h]
    simp [List.getD_eq_getElem?_getD, List.getElem?_append_right, I.cl]
  · intro h
    rw [if_neg h]
    simp [List.getD_eq_getElem?_getD, List.getElem?_append_right, I.cl]
theorem nv_col {h : Heap} {s : Name} {i : Nat} {L : List PV} {bs : List Name} (hCol : h s = clmB i L) (hL : L.length = i) (nv : ∀ b ∈ bs, noVar b h) : ∀ b ∈ bs, b ∉ refsL L := fun b hb => by
  unfold clmB at hCol
  split at hCol
  · rename_i h0
    have : L = [] := List.eq_nil_of_length_eq_zero (by omega)
    subst this; simp [refsL]
  · exact nv b hb _ _ hCol
theorem tk_no {p : Int} {T : Tk} {row : List Int} {x : Int} (h : nzA (rstT p T row) 0 < 0) : (tkRow p T x row).rows = T.rows ∧ (tkRow p T x row).cols = T.cols ∧ (tkRow p T x row).us = T.us ∧ (tkRow p T x row).vs = T.vs := by
  unfold tkRow; rw [if_pos h]; exact ⟨rfl, rfl, rfl, rfl⟩
theorem tk_yes {p : Int} {T : Tk} {row : List Int} {x : Int} (h : ¬ nzA (rstT p T row) 0 < 0) : (tkRow p T x row).rows = T.rows ++ [x] ∧ (tkRow p T x row).cols = T.cols ++ [nzA (rstT p T row) 0] ∧ (tkRow p T x row).us = T.us ++ [rstT p T row] ∧ (tkRow p T x row).vs = T.vs ++ [finvC p ((rstT p T row).getD (nzA (rstT p T row) 0).toNat 0)] := by
  unfold tkRow; rw [if_neg h]; exact ⟨rfl, rfl, rfl, rfl⟩
set_option maxHeartbeats 4000000 in
theorem rowA0_walk {h : Heap} {base bT : Name} {P C i : Nat} {T : Tk} {row : List Int} {L : List PV} (hP : Prm P) (hp : Md P) (I : TkI P C i T) (hrow : ∀ a ∈ row, In P a) (hl : row.length = C) (h0 : 0 < C) (hC : C ≤ 64) (hi : i < 64) (hL : L.length = i) (hr : T.us.length = 0)
    (hT : h ((3, 2) :: bT) = some (.var [rowP ((16, 11) :: base) 1 0 (T.rows.map ii), rowP ((16, 19) :: base) 1 0 (T.cols.map ii), clmP ((10, 8) :: base) i, rowP ((16, 27) :: base) 1 0 (T.us.map (lv C)), u64 P, rowP ((16, 34) :: base) 1 0 (T.vs.map iu)]))
    (hR : h ((16, 11) :: base) = if 0 = 0 then none else some (.row false (T.rows.map ii))) (hQ : h ((16, 19) :: base) = if 0 = 0 then none else some (.row false (T.cols.map ii))) (hU : h ((16, 27) :: base) = if 0 = 0 then none else some (.row false (T.us.map (lv C)))) (hV : h ((16, 34) :: base) = if 0 = 0 then none else some (.row false (T.vs.map iu)))
    (hCol : h ((10, 8) :: base) = clmB i L) (hNi : h ((900, i) :: base) = none)
    (j1 : h ((1, 1) :: base) = none) (j2 : h ((8, 2) :: base) = none) (j3 : h ((10, 7) :: base) = none) (j4 : h ((15, 7) :: base) = none) (j5 : h ((16, 10) :: base) = none) (j6 : h ((16, 18) :: base) = none) (j7 : h ((16, 26) :: base) = none) (j8 : h ((16, 33) :: base) = none)
    (nv : ∀ b ∈ [(1, 1) :: base, (8, 2) :: base, (10, 7) :: base, (15, 7) :: base, (16, 10) :: base, (16, 18) :: base, (16, 26) :: base, (16, 33) :: base], noVar b h) :
    ∃ h', CallR Try.prog base 98 [.ref ((3, 2) :: bT) 0 6, i64 i, .i (.l C (row.map iu))] h (bl true) h' ∧ (h'.drop [(1, 1) :: base, (8, 2) :: base, (10, 7) :: base, (15, 7) :: base, (16, 10) :: base, (16, 18) :: base, (16, 26) :: base, (16, 33) :: base] = cupH h base bT P C i L T (tkRow P T i row) (tkRow P T i row).us.length ∧ ∀ b ∈ [(1, 1) :: base, (8, 2) :: base, (10, 7) :: base, (15, 7) :: base, (16, 10) :: base, (16, 18) :: base, (16, 26) :: base, (16, 33) :: base], noVar b h') := by
  have nvL := nv_col hCol hL nv
  have dc := (cloneU_own hl h0 (by omega)).toA
  have rl : (rstT P T row) = row := by unfold rstT; rw [hr]; rfl
  have x0 : xsT P T row = [] := by unfold xsT; rw [hr]; rfl
  have hix := indexA_walk (l := row) (by rw [mx_len]; omega)
  rw [lu, hl] at hix
  have hrows : T.rows = [] := List.eq_nil_of_length_eq_zero (by rw [I.rl, hr])
  have hcols : T.cols = [] := List.eq_nil_of_length_eq_zero (by rw [I.ql, hr])
  have hvs : T.vs = [] := List.eq_nil_of_length_eq_zero (by rw [I.vl, hr])
  have hus : T.us = [] := List.eq_nil_of_length_eq_zero hr
  obtain ⟨te1, te2⟩ := tk_end I row (i : Int) rfl
  rw [rl, x0] at te1 te2
  rw [if_pos rfl] at hR hQ hU hV
  rcases nzA_spec row 0 with ⟨z1, z2⟩ | ⟨n, z1, z2, z3, z4⟩
  · rw [z1] at hix
    have te := te1 (by rw [z1]; decide)
    obtain ⟨t1, t2, t3, t4⟩ := tk_no (p := P) (T := T) (row := row) (x := i) (by rw [rl, z1]; decide)
    unfold cupH
    rw [te, t1, t2, t3, t4, hr]
    refine X_startE (n := 151) (m := 3) (rs := [.tmp 6]) Try.func98 rfl rfl rfl rfl (by decide) ?_
    repeat (first | refine X_opc rfl ?_ | refine X_dopc rfl ?_ | refine ⟨(by show drawK _ _ = true; kernel_rfl : drawX _ _ _), ?_⟩ | exact (by show drawK _ _ = true; kernel_rfl : drawX _ _ _) | simp -dsimp (maxSteps := 20000000) (disch := omega) only [simx, zzC, zzB, tys, ite_self, opnL, callB, callX, readsB, stepOp, nilCmp, ofVal, opBuiltin, opLen, PV.sk, scalBin, scalUn, intBin, opLoad, natOf, opConvert, opField, cellsP, oneP, Value.oneCell', opStore, toIV, scalT, scalA, scalC, boxesA, boxesC, zipB_none, zipB_mx, isZ, opZip, zeroP, opAppendZ, opMakeMap, opLookup, mboxB, opUpdate, ↓reduceIte, Nat.reduceSub, Nat.reduceEqDiff, Nat.reduceAdd, Nat.reduceMul, Nat.reduceLT, Nat.reduceLeDiff, Int.reduceToNat, Int.reduceLE, Int.reduceLT, Int.reduceNeg, reduceCtorEq, gos, Int.reduceAdd, Int.reduceSub, Int.reduceMul, Int.reduceEq])
    ((first | refine X_call_ad (dc) rfl (by simp only [tys]) (by (simp -dsimp only [simx, zzC, zzB, tys, ite_self, opnL, callB, callX, readsB, stepOp, nilCmp, ofVal, opBuiltin, opLen, PV.sk, scalBin, scalUn, intBin, opLoad, natOf, opConvert, opField, cellsP, oneP, Value.oneCell', opStore, toIV, scalT, scalA, scalC, boxesA, boxesC, zipB_none, zipB_mx, isZ, opZip, zeroP, opAppendZ, opMakeMap, opLookup, mboxB, opUpdate, ↓reduceIte, Nat.reduceSub, Nat.reduceEqDiff, Nat.reduceAdd, Nat.reduceMul, Nat.reduceLT, Nat.reduceLeDiff, Int.reduceToNat, Int.reduceLE, Int.reduceLT, Int.reduceNeg, reduceCtorEq, zzL, if_true, if_false] <;> rfl)) (by simp [Heap.put_at, Heap.none_at, rowH_app, j1]) ?_ | refine X_dcall_ad (dc) rfl (by simp only [tys]) (by (simp -dsimp only [simx, zzC, zzB, tys, ite_self, opnL, callB, callX, readsB, stepOp, nilCmp, ofVal, opBuiltin, opLen, PV.sk, scalBin, scalUn, intBin, opLoad, natOf, opConvert, opField, cellsP, oneP, Value.oneCell', opStore, toIV, scalT, scalA, scalC, boxesA, boxesC, zipB_none, zipB_mx, isZ, opZip, zeroP, opAppendZ, opMakeMap, opLookup, mboxB, opUpdate, ↓reduceIte, Nat.reduceSub, Nat.reduceEqDiff, Nat.reduceAdd, Nat.reduceMul, Nat.reduceLT, Nat.reduceLeDiff, Int.reduceToNat, Int.reduceLE, Int.reduceLT, Int.reduceNeg, reduceCtorEq, zzL, if_true, if_false] <;> rfl)) (by simp [Heap.put_at, Heap.none_at, rowH_app, j1]) ?_))
    repeat (first | refine X_opc rfl ?_ | refine X_dopc rfl ?_ | refine ⟨(by show drawK _ _ = true; kernel_rfl : drawX _ _ _), ?_⟩ | exact (by show drawK _ _ = true; kernel_rfl : drawX _ _ _) | simp -dsimp (maxSteps := 20000000) (disch := omega) only [simx, zzC, zzB, tys, ite_self, opnL, callB, callX, readsB, stepOp, nilCmp, ofVal, opBuiltin, opLen, PV.sk, scalBin, scalUn, intBin, opLoad, natOf, opConvert, opField, cellsP, oneP, Value.oneCell', opStore, toIV, scalT, scalA, scalC, boxesA, boxesC, zipB_none, zipB_mx, isZ, opZip, zeroP, opAppendZ, opMakeMap, opLookup, mboxB, opUpdate, ↓reduceIte, Nat.reduceSub, Nat.reduceEqDiff, Nat.reduceAdd, Nat.reduceMul, Nat.reduceLT, Nat.reduceLeDiff, Int.reduceToNat, Int.reduceLE, Int.reduceLT, Int.reduceNeg, reduceCtorEq, gos, Int.reduceAdd, Int.reduceSub, Int.reduceMul, Int.reduceEq, hT, rowP_zero])
    refine X_loopH [0, 1, 7, 8, 22, 23, 24] [(8, 2) :: base] (0) (0) (fun j => True) (fun j => [(8, nilP), (24, i64 j)]) (fun j => h.put ((1, 1) :: base) (.row false (row.map iu))) ?_ ?_ ?_ ?_ ?_ (by decide) ?_
    · exact fgt_cons j2 (by simp -dsimp only [simx, zzC, zzB, tys, ite_self, opnL, notIn_cons, notIn_nil] <;> simp [refsP]) (noVar_row (nv _ (by simp))) fgt_nil
    · repeat (first | refine X_opc rfl ?_ | refine X_dopc rfl ?_ | refine ⟨(by show drawK _ _ = true; kernel_rfl : drawX _ _ _), ?_⟩ | exact (by show drawK _ _ = true; kernel_rfl : drawX _ _ _) | simp -dsimp (maxSteps := 20000000) (disch := omega) only [simx, zzC, zzB, tys, ite_self, opnL, callB, callX, readsB, stepOp, nilCmp, ofVal, opBuiltin, opLen, PV.sk, scalBin, scalUn, intBin, opLoad, natOf, opConvert, opField, cellsP, oneP, Value.oneCell', opStore, toIV, scalT, scalA, scalC, boxesA, boxesC, zipB_none, zipB_mx, isZ, opZip, zeroP, opAppendZ, opMakeMap, opLookup, mboxB, opUpdate, ↓reduceIte, Nat.reduceSub, Nat.reduceEqDiff, Nat.reduceAdd, Nat.reduceMul, Nat.reduceLT, Nat.reduceLeDiff, Int.reduceToNat, Int.reduceLE, Int.reduceLT, Int.reduceNeg, reduceCtorEq, gos, Int.reduceAdd, Int.reduceSub, Int.reduceMul, Int.reduceEq])
      rfl
    · funext c
      rw [Heap.drop_at]
      split
      · rename_i e
        rw [List.mem_singleton.1 e]
        simp [Heap.put_at, j2]
      · rfl
    · omega
    · trivial
    · intro j hj _
      have : j = 0 := by omega
      subst this
      repeat (first | refine ⟨(by show drawK _ _ = true; kernel_rfl : drawX _ _ _), ?_⟩ | exact (by show drawK _ _ = true; kernel_rfl : drawX _ _ _) | simp -dsimp (maxSteps := 20000000) (disch := omega) only [simx, zzC, zzB, tys, ite_self, opnL, callB, callX, readsB, stepOp, nilCmp, ofVal, opBuiltin, opLen, PV.sk, scalBin, scalUn, intBin, opLoad, natOf, opConvert, opField, cellsP, oneP, Value.oneCell', opStore, toIV, scalT, scalA, scalC, boxesA, boxesC, zipB_none, zipB_mx, isZ, opZip, zeroP, opAppendZ, opMakeMap, opLookup, mboxB, opUpdate, ↓reduceIte, Nat.reduceSub, Nat.reduceEqDiff, Nat.reduceAdd, Nat.reduceMul, Nat.reduceLT, Nat.reduceLeDiff, Int.reduceToNat, Int.reduceLE, Int.reduceLT, Int.reduceNeg, reduceCtorEq, gos, Int.reduceAdd, Int.reduceSub, Int.reduceMul, Int.reduceEq, hT])
      refine X_opa ((10, 7) :: base) rfl ?_
      repeat (first | refine ⟨(by show drawK _ _ = true; kernel_rfl : drawX _ _ _), ?_⟩ | exact (by show drawK _ _ = true; kernel_rfl : drawX _ _ _) | simp -dsimp (maxSteps := 20000000) (disch := omega) only [simx, zzC, zzB, tys, ite_self, opnL, callB, callX, readsB, stepOp, nilCmp, ofVal, opBuiltin, opLen, PV.sk, scalBin, scalUn, intBin, opLoad, natOf, opConvert, opField, cellsP, oneP, Value.oneCell', opStore, toIV, scalT, scalA, scalC, boxesA, boxesC, zipB_none, zipB_mx, isZ, opZip, zeroP, opAppendZ, opMakeMap, opLookup, mboxB, opUpdate, ↓reduceIte, Nat.reduceSub, Nat.reduceEqDiff, Nat.reduceAdd, Nat.reduceMul, Nat.reduceLT, Nat.reduceLeDiff, Int.reduceToNat, Int.reduceLE, Int.reduceLT, Int.reduceNeg, reduceCtorEq, gos, Int.reduceAdd, Int.reduceSub, Int.reduceMul, Int.reduceEq, stepAlt, opBuildSliceV, j3])
      refine X_opa ((10, 8) :: base) rfl ?_
      repeat (first | refine ⟨(by show drawK _ _ = true; kernel_rfl : drawX _ _ _), ?_⟩ | exact (by show drawK _ _ = true; kernel_rfl : drawX _ _ _) | simp -dsimp (maxSteps := 20000000) (disch := omega) only [simx, zzC, zzB, tys, ite_self, opnL, callB, callX, readsB, stepOp, nilCmp, ofVal, opBuiltin, opLen, PV.sk, scalBin, scalUn, intBin, opLoad, natOf, opConvert, opField, cellsP, oneP, Value.oneCell', opStore, toIV, scalT, scalA, scalC, boxesA, boxesC, zipB_none, zipB_mx, isZ, opZip, zeroP, opAppendZ, opMakeMap, opLookup, mboxB, opUpdate, ↓reduceIte, Nat.reduceSub, Nat.reduceEqDiff, Nat.reduceAdd, Nat.reduceMul, Nat.reduceLT, Nat.reduceLeDiff, Int.reduceToNat, Int.reduceLE, Int.reduceLT, Int.reduceNeg, reduceCtorEq, gos, Int.reduceAdd, Int.reduceSub, Int.reduceMul, Int.reduceEq, stepAlt])
      refine X_appendV 23 [.slice none 0 0] (by simp only [tys]) (by simp only [tys]) rfl hL (by simp [Heap.put_at]; exact hCol) (by simp [Heap.put_at]; rfl) (by simp only [tys]; omega) (by rw [mx_len]; omega) (fun _ => rfl) ?_
      have hp1 := clmP_succ ((10, 8) :: base) i
      have z0 : (-1 : Int) < 0 := by decide
      have nt : (row.map iu).take C = row.map iu := List.take_of_length_le (by simp [hl])
      repeat (first | ((first | refine X_call_fn2 rfl (by simp only [tys]) ?_ | refine X_dcall_fn2 rfl (by simp only [tys]) ?_); apply Exists.intro; apply And.intro; (focus (simp -dsimp only [simx, zzC, zzB, tys, ite_self, opnL, callB, callX, readsB, stepOp, nilCmp, ofVal, opBuiltin, opLen, PV.sk, scalBin, scalUn, intBin, opLoad, natOf, opConvert, opField, cellsP, oneP, Value.oneCell', opStore, toIV, scalT, scalA, scalC, boxesA, boxesC, zipB_none, zipB_mx, isZ, opZip, zeroP, opAppendZ, opMakeMap, opLookup, mboxB, opUpdate, ↓reduceIte, Nat.reduceSub, Nat.reduceEqDiff, Nat.reduceAdd, Nat.reduceMul, Nat.reduceLT, Nat.reduceLeDiff, Int.reduceToNat, Int.reduceLE, Int.reduceLT, Int.reduceNeg, reduceCtorEq, zzL, if_true, if_false, List.length_map, hl, nt] <;> rfl)); apply Exists.intro; apply And.intro; (focus (first | exact hix))) | refine X_opc rfl ?_ | refine X_dopc rfl ?_ | refine ⟨(by show drawK _ _ = true; kernel_rfl : drawX _ _ _), ?_⟩ | exact (by show drawK _ _ = true; kernel_rfl : drawX _ _ _) | simp -dsimp (maxSteps := 20000000) (disch := omega) only [simx, zzC, zzB, tys, ite_self, opnL, callB, callX, readsB, stepOp, nilCmp, ofVal, opBuiltin, opLen, PV.sk, scalBin, scalUn, intBin, opLoad, natOf, opConvert, opField, cellsP, oneP, Value.oneCell', opStore, toIV, scalT, scalA, scalC, boxesA, boxesC, zipB_none, zipB_mx, isZ, opZip, zeroP, opAppendZ, opMakeMap, opLookup, mboxB, opUpdate, ↓reduceIte, Nat.reduceSub, Nat.reduceEqDiff, Nat.reduceAdd, Nat.reduceMul, Nat.reduceLT, Nat.reduceLeDiff, Int.reduceToNat, Int.reduceLE, Int.reduceLT, Int.reduceNeg, reduceCtorEq, zzR, gos, Int.reduceAdd, Int.reduceSub, Int.reduceMul, Int.reduceEq, hT, hp1, z0, List.length_map, hl, nt])
      refine ⟨?_, fun b hb => ?_⟩
      · funext c
        simp (maxSteps := 20000000) only [Heap.drop_at, rowH_app, Heap.put_at, Heap.none_at, List.mem_cons, List.not_mem_nil, or_false]
        by_cases e0 : c = (3, 2) :: bT
        · subst e0; simp [j1, j2, j3, j4, j5, j6, j7, j8, rowP_zero]
        by_cases e1 : c = (10, 8) :: base
        · subst e1; simp [j1, j2, j3, j4, j5, j6, j7, j8, rowP_zero]
        by_cases e2 : c = (1, 1) :: base
        · subst e2; simp [j1, j2, j3, j4, j5, j6, j7, j8, rowP_zero]
        by_cases e3 : c = (8, 2) :: base
        · subst e3; simp [j1, j2, j3, j4, j5, j6, j7, j8, rowP_zero]
        by_cases e4 : c = (10, 7) :: base
        · subst e4; simp [j1, j2, j3, j4, j5, j6, j7, j8, rowP_zero]
        by_cases e5 : c = (15, 7) :: base
        · subst e5; simp [j1, j2, j3, j4, j5, j6, j7, j8, rowP_zero]
        by_cases e6 : c = (16, 10) :: base
        · subst e6; simp [j1, j2, j3, j4, j5, j6, j7, j8, rowP_zero]
        by_cases e7 : c = (16, 18) :: base
        · subst e7; simp [j1, j2, j3, j4, j5, j6, j7, j8, rowP_zero]
        by_cases e8 : c = (16, 26) :: base
        · subst e8; simp [j1, j2, j3, j4, j5, j6, j7, j8, rowP_zero]
        by_cases e9 : c = (16, 33) :: base
        · subst e9; simp [j1, j2, j3, j4, j5, j6, j7, j8, rowP_zero]
        simp [e0, e1, e2, e3, e4, e5, e6, e7, e8, e9, j1, j2, j3, j4, j5, j6, j7, j8, rowP_zero]
      · have n0 := nv b hb
        have n1 := nvL b hb
        clear nv nvL
        simp only [List.mem_cons, List.not_mem_nil, or_false] at hb
        rcases hb with rfl | rfl | rfl | rfl | rfl | rfl | rfl | rfl
        all_goals (repeat (first | exact n0 | refine noVar_row ?_ | refine noVar_var ?_ (by simp [refsL, refsP, refsL_append, mem_refs_rowP, mem_refs_clmP, n1])))
  · have zn : (0 + n : Nat) = n := by omega
    rw [z1, zn] at hix
    have te := te2 (by rw [z1]; omega)
    obtain ⟨t1, t2, t3, t4⟩ := tk_yes (p := P) (T := T) (row := row) (x := i) (by rw [rl, z1]; omega)
    generalize hHH : cupH h base bT P C i L T (tkRow P T i row) (tkRow P T i row).us.length = HH
    unfold cupH at hHH
    rw [te, t1, t2, t3, t4, rl, z1, zn, show (T.us ++ [row]).length = 0 + 1 by simp [hr], Int.toNat_natCast] at hHH
    have ln : (row.map iu)[n]? = some (iu (row.getD n 0)) := by rw [List.getElem?_map, getD_some hl (by omega)]; rfl
    have ii1 := Inv_in hP hp (getD_of hrow (i := n) z2) z3
    generalize row.getD n 0 = a at ln ii1 hHH
    have z0 : ¬ (n : Int) < 0 := by omega
    have nC : n < C := by omega
    have nt : (row.map iu).take C = row.map iu := List.take_of_length_le (by simp [hl])
    have hp1 := clmP_succ ((10, 8) :: base) i
    have ilt : i < i + 1 := Nat.lt_succ_self i
    have ile : i + 1 ≤ i + 1 := Nat.le_refl _
    have lt : ∀ x : PV, (L ++ [x]).take i = L := fun x => List.take_left' hL
    have ld : ∀ x : PV, (L ++ [x]).drop (i + 1) = [] := fun x => List.drop_eq_nil_of_le (by simp [hL])
    refine X_startE (n := 151) (m := 3) (rs := [.tmp 6]) Try.func98 rfl rfl rfl rfl (by decide) ?_
    repeat (first | refine X_opc rfl ?_ | refine X_dopc rfl ?_ | refine ⟨(by show drawK _ _ = true; kernel_rfl : drawX _ _ _), ?_⟩ | exact (by show drawK _ _ = true; kernel_rfl : drawX _ _ _) | simp -dsimp (maxSteps := 20000000) (disch := omega) only [simx, zzC, zzB, tys, ite_self, opnL, callB, callX, readsB, stepOp, nilCmp, ofVal, opBuiltin, opLen, PV.sk, scalBin, scalUn, intBin, opLoad, natOf, opConvert, opField, cellsP, oneP, Value.oneCell', opStore, toIV, scalT, scalA, scalC, boxesA, boxesC, zipB_none, zipB_mx, isZ, opZip, zeroP, opAppendZ, opMakeMap, opLookup, mboxB, opUpdate, ↓reduceIte, Nat.reduceSub, Nat.reduceEqDiff, Nat.reduceAdd, Nat.reduceMul, Nat.reduceLT, Nat.reduceLeDiff, Int.reduceToNat, Int.reduceLE, Int.reduceLT, Int.reduceNeg, reduceCtorEq, gos, Int.reduceAdd, Int.reduceSub, Int.reduceMul, Int.reduceEq])
    ((first | refine X_call_ad (dc) rfl (by simp only [tys]) (by (simp -dsimp only [simx, zzC, zzB, tys, ite_self, opnL, callB, callX, readsB, stepOp, nilCmp, ofVal, opBuiltin, opLen, PV.sk, scalBin, scalUn, intBin, opLoad, natOf, opConvert, opField, cellsP, oneP, Value.oneCell', opStore, toIV, scalT, scalA, scalC, boxesA, boxesC, zipB_none, zipB_mx, isZ, opZip, zeroP, opAppendZ, opMakeMap, opLookup, mboxB, opUpdate, ↓reduceIte, Nat.reduceSub, Nat.reduceEqDiff, Nat.reduceAdd, Nat.reduceMul, Nat.reduceLT, Nat.reduceLeDiff, Int.reduceToNat, Int.reduceLE, Int.reduceLT, Int.reduceNeg, reduceCtorEq, zzL, if_true, if_false] <;> rfl)) (by simp [Heap.put_at, Heap.none_at, rowH_app, j1]) ?_ | refine X_dcall_ad (dc) rfl (by simp only [tys]) (by (simp -dsimp only [simx, zzC, zzB, tys, ite_self, opnL, callB, callX, readsB, stepOp, nilCmp, ofVal, opBuiltin, opLen, PV.sk, scalBin, scalUn, intBin, opLoad, natOf, opConvert, opField, cellsP, oneP, Value.oneCell', opStore, toIV, scalT, scalA, scalC, boxesA, boxesC, zipB_none, zipB_mx, isZ, opZip, zeroP, opAppendZ, opMakeMap, opLookup, mboxB, opUpdate, ↓reduceIte, Nat.reduceSub, Nat.reduceEqDiff, Nat.reduceAdd, Nat.reduceMul, Nat.reduceLT, Nat.reduceLeDiff, Int.reduceToNat, Int.reduceLE, Int.reduceLT, Int.reduceNeg, reduceCtorEq, zzL, if_true, if_false] <;> rfl)) (by simp [Heap.put_at, Heap.none_at, rowH_app, j1]) ?_))
    repeat (first | refine X_opc rfl ?_ | refine X_dopc rfl ?_ | refine ⟨(by show drawK _ _ = true; kernel_rfl : drawX _ _ _), ?_⟩ | exact (by show drawK _ _ = true; kernel_rfl : drawX _ _ _) | simp -dsimp (maxSteps := 20000000) (disch := omega) only [simx, zzC, zzB, tys, ite_self, opnL, callB, callX, readsB, stepOp, nilCmp, ofVal, opBuiltin, opLen, PV.sk, scalBin, scalUn, intBin, opLoad, natOf, opConvert, opField, cellsP, oneP, Value.oneCell', opStore, toIV, scalT, scalA, scalC, boxesA, boxesC, zipB_none, zipB_mx, isZ, opZip, zeroP, opAppendZ, opMakeMap, opLookup, mboxB, opUpdate, ↓reduceIte, Nat.reduceSub, Nat.reduceEqDiff, Nat.reduceAdd, Nat.reduceMul, Nat.reduceLT, Nat.reduceLeDiff, Int.reduceToNat, Int.reduceLE, Int.reduceLT, Int.reduceNeg, reduceCtorEq, gos, Int.reduceAdd, Int.reduceSub, Int.reduceMul, Int.reduceEq, hT, rowP_zero])
    refine X_loopH [0, 1, 7, 8, 22, 23, 24] [(8, 2) :: base] (0) (0) (fun j => True) (fun j => [(8, nilP), (24, i64 j)]) (fun j => h.put ((1, 1) :: base) (.row false (row.map iu))) ?_ ?_ ?_ ?_ ?_ (by decide) ?_
    · exact fgt_cons j2 (by simp -dsimp only [simx, zzC, zzB, tys, ite_self, opnL, notIn_cons, notIn_nil] <;> simp [refsP]) (noVar_row (nv _ (by simp))) fgt_nil
    · repeat (first | refine X_opc rfl ?_ | refine X_dopc rfl ?_ | refine ⟨(by show drawK _ _ = true; kernel_rfl : drawX _ _ _), ?_⟩ | exact (by show drawK _ _ = true; kernel_rfl : drawX _ _ _) | simp -dsimp (maxSteps := 20000000) (disch := omega) only [simx, zzC, zzB, tys, ite_self, opnL, callB, callX, readsB, stepOp, nilCmp, ofVal, opBuiltin, opLen, PV.sk, scalBin, scalUn, intBin, opLoad, natOf, opConvert, opField, cellsP, oneP, Value.oneCell', opStore, toIV, scalT, scalA, scalC, boxesA, boxesC, zipB_none, zipB_mx, isZ, opZip, zeroP, opAppendZ, opMakeMap, opLookup, mboxB, opUpdate, ↓reduceIte, Nat.reduceSub, Nat.reduceEqDiff, Nat.reduceAdd, Nat.reduceMul, Nat.reduceLT, Nat.reduceLeDiff, Int.reduceToNat, Int.reduceLE, Int.reduceLT, Int.reduceNeg, reduceCtorEq, gos, Int.reduceAdd, Int.reduceSub, Int.reduceMul, Int.reduceEq])
      rfl
    · funext c
      rw [Heap.drop_at]
      split
      · rename_i e
        rw [List.mem_singleton.1 e]
        simp [Heap.put_at, j2]
      · rfl
    · omega
    · trivial
    · intro j hj _
      have : j = 0 := by omega
      subst this
      repeat (first | refine ⟨(by show drawK _ _ = true; kernel_rfl : drawX _ _ _), ?_⟩ | exact (by show drawK _ _ = true; kernel_rfl : drawX _ _ _) | simp -dsimp (maxSteps := 20000000) (disch := omega) only [simx, zzC, zzB, tys, ite_self, opnL, callB, callX, readsB, stepOp, nilCmp, ofVal, opBuiltin, opLen, PV.sk, scalBin, scalUn, intBin, opLoad, natOf, opConvert, opField, cellsP, oneP, Value.oneCell', opStore, toIV, scalT, scalA, scalC, boxesA, boxesC, zipB_none, zipB_mx, isZ, opZip, zeroP, opAppendZ, opMakeMap, opLookup, mboxB, opUpdate, ↓reduceIte, Nat.reduceSub, Nat.reduceEqDiff, Nat.reduceAdd, Nat.reduceMul, Nat.reduceLT, Nat.reduceLeDiff, Int.reduceToNat, Int.reduceLE, Int.reduceLT, Int.reduceNeg, reduceCtorEq, gos, Int.reduceAdd, Int.reduceSub, Int.reduceMul, Int.reduceEq, hT])
      refine X_opa ((10, 7) :: base) rfl ?_
      repeat (first | refine ⟨(by show drawK _ _ = true; kernel_rfl : drawX _ _ _), ?_⟩ | exact (by show drawK _ _ = true; kernel_rfl : drawX _ _ _) | simp -dsimp (maxSteps := 20000000) (disch := omega) only [simx, zzC, zzB, tys, ite_self, opnL, callB, callX, readsB, stepOp, nilCmp, ofVal, opBuiltin, opLen, PV.sk, scalBin, scalUn, intBin, opLoad, natOf, opConvert, opField, cellsP, oneP, Value.oneCell', opStore, toIV, scalT, scalA, scalC, boxesA, boxesC, zipB_none, zipB_mx, isZ, opZip, zeroP, opAppendZ, opMakeMap, opLookup, mboxB, opUpdate, ↓reduceIte, Nat.reduceSub, Nat.reduceEqDiff, Nat.reduceAdd, Nat.reduceMul, Nat.reduceLT, Nat.reduceLeDiff, Int.reduceToNat, Int.reduceLE, Int.reduceLT, Int.reduceNeg, reduceCtorEq, gos, Int.reduceAdd, Int.reduceSub, Int.reduceMul, Int.reduceEq, stepAlt, opBuildSliceV, j3])
      refine X_opa ((10, 8) :: base) rfl ?_
      repeat (first | refine ⟨(by show drawK _ _ = true; kernel_rfl : drawX _ _ _), ?_⟩ | exact (by show drawK _ _ = true; kernel_rfl : drawX _ _ _) | simp -dsimp (maxSteps := 20000000) (disch := omega) only [simx, zzC, zzB, tys, ite_self, opnL, callB, callX, readsB, stepOp, nilCmp, ofVal, opBuiltin, opLen, PV.sk, scalBin, scalUn, intBin, opLoad, natOf, opConvert, opField, cellsP, oneP, Value.oneCell', opStore, toIV, scalT, scalA, scalC, boxesA, boxesC, zipB_none, zipB_mx, isZ, opZip, zeroP, opAppendZ, opMakeMap, opLookup, mboxB, opUpdate, ↓reduceIte, Nat.reduceSub, Nat.reduceEqDiff, Nat.reduceAdd, Nat.reduceMul, Nat.reduceLT, Nat.reduceLeDiff, Int.reduceToNat, Int.reduceLE, Int.reduceLT, Int.reduceNeg, reduceCtorEq, gos, Int.reduceAdd, Int.reduceSub, Int.reduceMul, Int.reduceEq, stepAlt])
      refine X_appendV 23 [.slice none 0 0] (by simp only [tys]) (by simp only [tys]) rfl hL (by simp [Heap.put_at]; exact hCol) (by simp [Heap.put_at]; rfl) (by simp only [tys]; omega) (by rw [mx_len]; omega) (fun _ => rfl) ?_
      repeat (first | ((first | refine X_call_fn2 rfl (by simp only [tys]) ?_ | refine X_dcall_fn2 rfl (by simp only [tys]) ?_); apply Exists.intro; apply And.intro; (focus (simp -dsimp only [simx, zzC, zzB, tys, ite_self, opnL, callB, callX, readsB, stepOp, nilCmp, ofVal, opBuiltin, opLen, PV.sk, scalBin, scalUn, intBin, opLoad, natOf, opConvert, opField, cellsP, oneP, Value.oneCell', opStore, toIV, scalT, scalA, scalC, boxesA, boxesC, zipB_none, zipB_mx, isZ, opZip, zeroP, opAppendZ, opMakeMap, opLookup, mboxB, opUpdate, ↓reduceIte, Nat.reduceSub, Nat.reduceEqDiff, Nat.reduceAdd, Nat.reduceMul, Nat.reduceLT, Nat.reduceLeDiff, Int.reduceToNat, Int.reduceLE, Int.reduceLT, Int.reduceNeg, reduceCtorEq, zzL, if_true, if_false, List.length_map, hl, nt] <;> rfl)); apply Exists.intro; apply And.intro; (focus (first | exact hix | exact ii1))) | refine ⟨(by show drawK _ _ = true; kernel_rfl : drawX _ _ _), ?_⟩ | exact (by show drawK _ _ = true; kernel_rfl : drawX _ _ _) | simp -dsimp (maxSteps := 20000000) (disch := omega) only [simx, zzC, zzB, tys, ite_self, opnL, callB, callX, readsB, stepOp, nilCmp, ofVal, opBuiltin, opLen, PV.sk, scalBin, scalUn, intBin, opLoad, natOf, opConvert, opField, cellsP, oneP, Value.oneCell', opStore, toIV, scalT, scalA, scalC, boxesA, boxesC, zipB_none, zipB_mx, isZ, opZip, zeroP, opAppendZ, opMakeMap, opLookup, mboxB, opUpdate, ↓reduceIte, Nat.reduceSub, Nat.reduceEqDiff, Nat.reduceAdd, Nat.reduceMul, Nat.reduceLT, Nat.reduceLeDiff, Int.reduceToNat, Int.reduceLE, Int.reduceLT, Int.reduceNeg, reduceCtorEq, gos, Int.reduceAdd, Int.reduceSub, Int.reduceMul, Int.reduceEq, hT, hp1, z0, List.length_map, hl, nt, ln, nC])
      refine X_dopc rfl ?_
      repeat (first | refine ⟨(by show drawK _ _ = true; kernel_rfl : drawX _ _ _), ?_⟩ | exact (by show drawK _ _ = true; kernel_rfl : drawX _ _ _) | simp -dsimp (maxSteps := 20000000) (disch := omega) only [simx, zzC, zzB, tys, ite_self, opnL, callB, callX, readsB, stepOp, nilCmp, ofVal, opBuiltin, opLen, PV.sk, scalBin, scalUn, intBin, opLoad, natOf, opConvert, opField, cellsP, oneP, Value.oneCell', opStore, toIV, scalT, scalA, scalC, boxesA, boxesC, zipB_none, zipB_mx, isZ, opZip, zeroP, opAppendZ, opMakeMap, opLookup, mboxB, opUpdate, ↓reduceIte, Nat.reduceSub, Nat.reduceEqDiff, Nat.reduceAdd, Nat.reduceMul, Nat.reduceLT, Nat.reduceLeDiff, Int.reduceToNat, Int.reduceLE, Int.reduceLT, Int.reduceNeg, reduceCtorEq, gos, Int.reduceAdd, Int.reduceSub, Int.reduceMul, Int.reduceEq, j4])
      refine X_dopn ((900, i) :: base) rfl ?_
      repeat (first | refine ⟨(by show drawK _ _ = true; kernel_rfl : drawX _ _ _), ?_⟩ | exact (by show drawK _ _ = true; kernel_rfl : drawX _ _ _) | simp -dsimp (maxSteps := 20000000) (disch := omega) only [simx, zzC, zzB, tys, ite_self, opnL, callB, callX, readsB, stepOp, nilCmp, ofVal, opBuiltin, opLen, PV.sk, scalBin, scalUn, intBin, opLoad, natOf, opConvert, opField, cellsP, oneP, Value.oneCell', opStore, toIV, scalT, scalA, scalC, boxesA, boxesC, zipB_none, zipB_mx, isZ, opZip, zeroP, opAppendZ, opMakeMap, opLookup, mboxB, opUpdate, ↓reduceIte, Nat.reduceSub, Nat.reduceEqDiff, Nat.reduceAdd, Nat.reduceMul, Nat.reduceLT, Nat.reduceLeDiff, Int.reduceToNat, Int.reduceLE, Int.reduceLT, Int.reduceNeg, reduceCtorEq, gos, Int.reduceAdd, Int.reduceSub, Int.reduceMul, Int.reduceEq])
      refine X_dappend_one (s := (900, i) :: base) (n := 0) (z := 1) (cs := []) 22 [.int .u64 0] [iu 1] (by simp only [tys]) (by simp only [tys]) rfl (by decide) rfl (by simp [Heap.put_at]; exact hNi) (by simp [Heap.put_at]; rfl) rfl (by simp only [tys]; omega) (by rw [mx_len]; omega) ?_
      repeat (first | refine ⟨(by show drawK _ _ = true; kernel_rfl : drawX _ _ _), ?_⟩ | exact (by show drawK _ _ = true; kernel_rfl : drawX _ _ _) | simp -dsimp (maxSteps := 20000000) (disch := omega) only [simx, zzC, zzB, tys, ite_self, opnL, callB, callX, readsB, stepOp, nilCmp, ofVal, opBuiltin, opLen, PV.sk, scalBin, scalUn, intBin, opLoad, natOf, opConvert, opField, cellsP, oneP, Value.oneCell', opStore, toIV, scalT, scalA, scalC, boxesA, boxesC, zipB_none, zipB_mx, isZ, opZip, zeroP, opAppendZ, opMakeMap, opLookup, mboxB, opUpdate, ↓reduceIte, Nat.reduceSub, Nat.reduceEqDiff, Nat.reduceAdd, Nat.reduceMul, Nat.reduceLT, Nat.reduceLeDiff, Int.reduceToNat, Int.reduceLE, Int.reduceLT, Int.reduceNeg, reduceCtorEq, gos, Int.reduceAdd, Int.reduceSub, Int.reduceMul, Int.reduceEq, List.length_append, hL, lt, ld, rowP_succ, Nat.zero_add, ilt, ile])
      refine X_dopc rfl ?_
      repeat (first | refine ⟨(by show drawK _ _ = true; kernel_rfl : drawX _ _ _), ?_⟩ | exact (by show drawK _ _ = true; kernel_rfl : drawX _ _ _) | simp -dsimp (maxSteps := 20000000) (disch := omega) only [simx, zzC, zzB, tys, ite_self, opnL, callB, callX, readsB, stepOp, nilCmp, ofVal, opBuiltin, opLen, PV.sk, scalBin, scalUn, intBin, opLoad, natOf, opConvert, opField, cellsP, oneP, Value.oneCell', opStore, toIV, scalT, scalA, scalC, boxesA, boxesC, zipB_none, zipB_mx, isZ, opZip, zeroP, opAppendZ, opMakeMap, opLookup, mboxB, opUpdate, ↓reduceIte, Nat.reduceSub, Nat.reduceEqDiff, Nat.reduceAdd, Nat.reduceMul, Nat.reduceLT, Nat.reduceLeDiff, Int.reduceToNat, Int.reduceLE, Int.reduceLT, Int.reduceNeg, reduceCtorEq, gos, Int.reduceAdd, Int.reduceSub, Int.reduceMul, Int.reduceEq, j5, List.length_map, hl, nt])
      refine X_dopc rfl ?_
      repeat (first | refine ⟨(by show drawK _ _ = true; kernel_rfl : drawX _ _ _), ?_⟩ | exact (by show drawK _ _ = true; kernel_rfl : drawX _ _ _) | simp -dsimp (maxSteps := 20000000) (disch := omega) only [simx, zzC, zzB, tys, ite_self, opnL, callB, callX, readsB, stepOp, nilCmp, ofVal, opBuiltin, opLen, PV.sk, scalBin, scalUn, intBin, opLoad, natOf, opConvert, opField, cellsP, oneP, Value.oneCell', opStore, toIV, scalT, scalA, scalC, boxesA, boxesC, zipB_none, zipB_mx, isZ, opZip, zeroP, opAppendZ, opMakeMap, opLookup, mboxB, opUpdate, ↓reduceIte, Nat.reduceSub, Nat.reduceEqDiff, Nat.reduceAdd, Nat.reduceMul, Nat.reduceLT, Nat.reduceLeDiff, Int.reduceToNat, Int.reduceLE, Int.reduceLT, Int.reduceNeg, reduceCtorEq, gos, Int.reduceAdd, Int.reduceSub, Int.reduceMul, Int.reduceEq])
      refine X_dappend_one (s := (16, 11) :: base) (n := 0) (z := 1) 3 [.int .i64 0] [ii i] (by simp only [tys]) (by simp only [tys]) rfl (by decide) (by rw [hrows]; rfl) (by simp [Heap.put_at]; exact hR) (by simp [Heap.put_at]; rfl) rfl (by simp only [tys]; omega) (by rw [mx_len]; omega) ?_
      rw [rowP_succ]
      repeat (first | refine ⟨(by show drawK _ _ = true; kernel_rfl : drawX _ _ _), ?_⟩ | exact (by show drawK _ _ = true; kernel_rfl : drawX _ _ _) | simp -dsimp (maxSteps := 20000000) (disch := omega) only [simx, zzC, zzB, tys, ite_self, opnL, callB, callX, readsB, stepOp, nilCmp, ofVal, opBuiltin, opLen, PV.sk, scalBin, scalUn, intBin, opLoad, natOf, opConvert, opField, cellsP, oneP, Value.oneCell', opStore, toIV, scalT, scalA, scalC, boxesA, boxesC, zipB_none, zipB_mx, isZ, opZip, zeroP, opAppendZ, opMakeMap, opLookup, mboxB, opUpdate, ↓reduceIte, Nat.reduceSub, Nat.reduceEqDiff, Nat.reduceAdd, Nat.reduceMul, Nat.reduceLT, Nat.reduceLeDiff, Int.reduceToNat, Int.reduceLE, Int.reduceLT, Int.reduceNeg, reduceCtorEq, gos, Int.reduceAdd, Int.reduceSub, Int.reduceMul, Int.reduceEq, hT])
      refine X_dopc rfl ?_
      repeat (first | refine ⟨(by show drawK _ _ = true; kernel_rfl : drawX _ _ _), ?_⟩ | exact (by show drawK _ _ = true; kernel_rfl : drawX _ _ _) | simp -dsimp (maxSteps := 20000000) (disch := omega) only [simx, zzC, zzB, tys, ite_self, opnL, callB, callX, readsB, stepOp, nilCmp, ofVal, opBuiltin, opLen, PV.sk, scalBin, scalUn, intBin, opLoad, natOf, opConvert, opField, cellsP, oneP, Value.oneCell', opStore, toIV, scalT, scalA, scalC, boxesA, boxesC, zipB_none, zipB_mx, isZ, opZip, zeroP, opAppendZ, opMakeMap, opLookup, mboxB, opUpdate, ↓reduceIte, Nat.reduceSub, Nat.reduceEqDiff, Nat.reduceAdd, Nat.reduceMul, Nat.reduceLT, Nat.reduceLeDiff, Int.reduceToNat, Int.reduceLE, Int.reduceLT, Int.reduceNeg, reduceCtorEq, gos, Int.reduceAdd, Int.reduceSub, Int.reduceMul, Int.reduceEq, j6, List.length_map, hl, nt])
      refine X_dopc rfl ?_
      repeat (first | refine ⟨(by show drawK _ _ = true; kernel_rfl : drawX _ _ _), ?_⟩ | exact (by show drawK _ _ = true; kernel_rfl : drawX _ _ _) | simp -dsimp (maxSteps := 20000000) (disch := omega) only [simx, zzC, zzB, tys, ite_self, opnL, callB, callX, readsB, stepOp, nilCmp, ofVal, opBuiltin, opLen, PV.sk, scalBin, scalUn, intBin, opLoad, natOf, opConvert, opField, cellsP, oneP, Value.oneCell', opStore, toIV, scalT, scalA, scalC, boxesA, boxesC, zipB_none, zipB_mx, isZ, opZip, zeroP, opAppendZ, opMakeMap, opLookup, mboxB, opUpdate, ↓reduceIte, Nat.reduceSub, Nat.reduceEqDiff, Nat.reduceAdd, Nat.reduceMul, Nat.reduceLT, Nat.reduceLeDiff, Int.reduceToNat, Int.reduceLE, Int.reduceLT, Int.reduceNeg, reduceCtorEq, gos, Int.reduceAdd, Int.reduceSub, Int.reduceMul, Int.reduceEq])
      refine X_dappend_one (s := (16, 19) :: base) (n := 0) (z := 1) 3 [.int .i64 0] [ii n] (by simp only [tys]) (by simp only [tys]) rfl (by decide) (by rw [hcols]; rfl) (by simp [Heap.put_at]; exact hQ) (by simp [Heap.put_at]; rfl) rfl (by simp only [tys]; omega) (by rw [mx_len]; omega) ?_
      rw [rowP_succ]
      repeat (first | refine ⟨(by show drawK _ _ = true; kernel_rfl : drawX _ _ _), ?_⟩ | exact (by show drawK _ _ = true; kernel_rfl : drawX _ _ _) | simp -dsimp (maxSteps := 20000000) (disch := omega) only [simx, zzC, zzB, tys, ite_self, opnL, callB, callX, readsB, stepOp, nilCmp, ofVal, opBuiltin, opLen, PV.sk, scalBin, scalUn, intBin, opLoad, natOf, opConvert, opField, cellsP, oneP, Value.oneCell', opStore, toIV, scalT, scalA, scalC, boxesA, boxesC, zipB_none, zipB_mx, isZ, opZip, zeroP, opAppendZ, opMakeMap, opLookup, mboxB, opUpdate, ↓reduceIte, Nat.reduceSub, Nat.reduceEqDiff, Nat.reduceAdd, Nat.reduceMul, Nat.reduceLT, Nat.reduceLeDiff, Int.reduceToNat, Int.reduceLE, Int.reduceLT, Int.reduceNeg, reduceCtorEq, gos, Int.reduceAdd, Int.reduceSub, Int.reduceMul, Int.reduceEq, hT])
      refine X_dopc rfl ?_
      repeat (first | refine ⟨(by show drawK _ _ = true; kernel_rfl : drawX _ _ _), ?_⟩ | exact (by show drawK _ _ = true; kernel_rfl : drawX _ _ _) | simp -dsimp (maxSteps := 20000000) (disch := omega) only [simx, zzC, zzB, tys, ite_self, opnL, callB, callX, readsB, stepOp, nilCmp, ofVal, opBuiltin, opLen, PV.sk, scalBin, scalUn, intBin, opLoad, natOf, opConvert, opField, cellsP, oneP, Value.oneCell', opStore, toIV, scalT, scalA, scalC, boxesA, boxesC, zipB_none, zipB_mx, isZ, opZip, zeroP, opAppendZ, opMakeMap, opLookup, mboxB, opUpdate, ↓reduceIte, Nat.reduceSub, Nat.reduceEqDiff, Nat.reduceAdd, Nat.reduceMul, Nat.reduceLT, Nat.reduceLeDiff, Int.reduceToNat, Int.reduceLE, Int.reduceLT, Int.reduceNeg, reduceCtorEq, gos, Int.reduceAdd, Int.reduceSub, Int.reduceMul, Int.reduceEq, j7, List.length_map, hl, nt])
      refine X_dopc rfl ?_
      repeat (first | refine ⟨(by show drawK _ _ = true; kernel_rfl : drawX _ _ _), ?_⟩ | exact (by show drawK _ _ = true; kernel_rfl : drawX _ _ _) | simp -dsimp (maxSteps := 20000000) (disch := omega) only [simx, zzC, zzB, tys, ite_self, opnL, callB, callX, readsB, stepOp, nilCmp, ofVal, opBuiltin, opLen, PV.sk, scalBin, scalUn, intBin, opLoad, natOf, opConvert, opField, cellsP, oneP, Value.oneCell', opStore, toIV, scalT, scalA, scalC, boxesA, boxesC, zipB_none, zipB_mx, isZ, opZip, zeroP, opAppendZ, opMakeMap, opLookup, mboxB, opUpdate, ↓reduceIte, Nat.reduceSub, Nat.reduceEqDiff, Nat.reduceAdd, Nat.reduceMul, Nat.reduceLT, Nat.reduceLeDiff, Int.reduceToNat, Int.reduceLE, Int.reduceLT, Int.reduceNeg, reduceCtorEq, gos, Int.reduceAdd, Int.reduceSub, Int.reduceMul, Int.reduceEq])
      refine X_dappend_one (s := (16, 27) :: base) (n := 0) (z := 1) 23 [.slice none 0 0] [lv C row] (by simp only [tys]) (by simp only [tys]) rfl (by decide) (by rw [hus]; rfl) (by simp [Heap.put_at]; exact hU) (by simp [Heap.put_at]; rfl) rfl (by simp only [tys]; omega) (by rw [mx_len]; omega) ?_
      rw [rowP_succ]
      repeat (first | refine ⟨(by show drawK _ _ = true; kernel_rfl : drawX _ _ _), ?_⟩ | exact (by show drawK _ _ = true; kernel_rfl : drawX _ _ _) | simp -dsimp (maxSteps := 20000000) (disch := omega) only [simx, zzC, zzB, tys, ite_self, opnL, callB, callX, readsB, stepOp, nilCmp, ofVal, opBuiltin, opLen, PV.sk, scalBin, scalUn, intBin, opLoad, natOf, opConvert, opField, cellsP, oneP, Value.oneCell', opStore, toIV, scalT, scalA, scalC, boxesA, boxesC, zipB_none, zipB_mx, isZ, opZip, zeroP, opAppendZ, opMakeMap, opLookup, mboxB, opUpdate, ↓reduceIte, Nat.reduceSub, Nat.reduceEqDiff, Nat.reduceAdd, Nat.reduceMul, Nat.reduceLT, Nat.reduceLeDiff, Int.reduceToNat, Int.reduceLE, Int.reduceLT, Int.reduceNeg, reduceCtorEq, gos, Int.reduceAdd, Int.reduceSub, Int.reduceMul, Int.reduceEq, hT])
      refine X_dopc rfl ?_
      repeat (first | refine ⟨(by show drawK _ _ = true; kernel_rfl : drawX _ _ _), ?_⟩ | exact (by show drawK _ _ = true; kernel_rfl : drawX _ _ _) | simp -dsimp (maxSteps := 20000000) (disch := omega) only [simx, zzC, zzB, tys, ite_self, opnL, callB, callX, readsB, stepOp, nilCmp, ofVal, opBuiltin, opLen, PV.sk, scalBin, scalUn, intBin, opLoad, natOf, opConvert, opField, cellsP, oneP, Value.oneCell', opStore, toIV, scalT, scalA, scalC, boxesA, boxesC, zipB_none, zipB_mx, isZ, opZip, zeroP, opAppendZ, opMakeMap, opLookup, mboxB, opUpdate, ↓reduceIte, Nat.reduceSub, Nat.reduceEqDiff, Nat.reduceAdd, Nat.reduceMul, Nat.reduceLT, Nat.reduceLeDiff, Int.reduceToNat, Int.reduceLE, Int.reduceLT, Int.reduceNeg, reduceCtorEq, gos, Int.reduceAdd, Int.reduceSub, Int.reduceMul, Int.reduceEq, j8, List.length_map, hl, nt])
      refine X_dopc rfl ?_
      repeat (first | refine ⟨(by show drawK _ _ = true; kernel_rfl : drawX _ _ _), ?_⟩ | exact (by show drawK _ _ = true; kernel_rfl : drawX _ _ _) | simp -dsimp (maxSteps := 20000000) (disch := omega) only [simx, zzC, zzB, tys, ite_self, opnL, callB, callX, readsB, stepOp, nilCmp, ofVal, opBuiltin, opLen, PV.sk, scalBin, scalUn, intBin, opLoad, natOf, opConvert, opField, cellsP, oneP, Value.oneCell', opStore, toIV, scalT, scalA, scalC, boxesA, boxesC, zipB_none, zipB_mx, isZ, opZip, zeroP, opAppendZ, opMakeMap, opLookup, mboxB, opUpdate, ↓reduceIte, Nat.reduceSub, Nat.reduceEqDiff, Nat.reduceAdd, Nat.reduceMul, Nat.reduceLT, Nat.reduceLeDiff, Int.reduceToNat, Int.reduceLE, Int.reduceLT, Int.reduceNeg, reduceCtorEq, gos, Int.reduceAdd, Int.reduceSub, Int.reduceMul, Int.reduceEq])
      refine X_dappend_one (s := (16, 34) :: base) (n := 0) (z := 1) 22 [.int .u64 0] [iu (finvC P a)] (by simp only [tys]) (by simp only [tys]) rfl (by decide) (by rw [hvs]; rfl) (by simp [Heap.put_at]; exact hV) (by simp [Heap.put_at]; rfl) rfl (by simp only [tys]; omega) (by rw [mx_len]; omega) ?_
      rw [rowP_succ]
      repeat (first | refine ⟨(by show drawK _ _ = true; kernel_rfl : drawX _ _ _), ?_⟩ | exact (by show drawK _ _ = true; kernel_rfl : drawX _ _ _) | simp -dsimp (maxSteps := 20000000) (disch := omega) only [simx, zzC, zzB, tys, ite_self, opnL, callB, callX, readsB, stepOp, nilCmp, ofVal, opBuiltin, opLen, PV.sk, scalBin, scalUn, intBin, opLoad, natOf, opConvert, opField, cellsP, oneP, Value.oneCell', opStore, toIV, scalT, scalA, scalC, boxesA, boxesC, zipB_none, zipB_mx, isZ, opZip, zeroP, opAppendZ, opMakeMap, opLookup, mboxB, opUpdate, ↓reduceIte, Nat.reduceSub, Nat.reduceEqDiff, Nat.reduceAdd, Nat.reduceMul, Nat.reduceLT, Nat.reduceLeDiff, Int.reduceToNat, Int.reduceLE, Int.reduceLT, Int.reduceNeg, reduceCtorEq, gos, Int.reduceAdd, Int.reduceSub, Int.reduceMul, Int.reduceEq, hT])
      repeat (first | refine X_opc rfl ?_ | refine X_dopc rfl ?_ | refine ⟨(by show drawK _ _ = true; kernel_rfl : drawX _ _ _), ?_⟩ | exact (by show drawK _ _ = true; kernel_rfl : drawX _ _ _) | simp -dsimp (maxSteps := 20000000) (disch := omega) only [simx, zzC, zzB, tys, ite_self, opnL, callB, callX, readsB, stepOp, nilCmp, ofVal, opBuiltin, opLen, PV.sk, scalBin, scalUn, intBin, opLoad, natOf, opConvert, opField, cellsP, oneP, Value.oneCell', opStore, toIV, scalT, scalA, scalC, boxesA, boxesC, zipB_none, zipB_mx, isZ, opZip, zeroP, opAppendZ, opMakeMap, opLookup, mboxB, opUpdate, ↓reduceIte, Nat.reduceSub, Nat.reduceEqDiff, Nat.reduceAdd, Nat.reduceMul, Nat.reduceLT, Nat.reduceLeDiff, Int.reduceToNat, Int.reduceLE, Int.reduceLT, Int.reduceNeg, reduceCtorEq, zzR, gos, Int.reduceAdd, Int.reduceSub, Int.reduceMul, Int.reduceEq])
      rw [← hHH]
      refine ⟨?_, fun b hb => ?_⟩
      · funext c
        simp (maxSteps := 20000000) only [Heap.drop_at, rowH_app, Heap.put_at, Heap.none_at, List.mem_cons, List.not_mem_nil, or_false]
        by_cases e0 : c = (3, 2) :: bT
        · subst e0; simp [j1, j2, j3, j4, j5, j6, j7, j8, rowP_zero, rowP_succ, hR, hQ, hU, hV, hNi, clmP_succ]
        by_cases e1 : c = (10, 8) :: base
        · subst e1; simp [j1, j2, j3, j4, j5, j6, j7, j8, rowP_zero, rowP_succ, hR, hQ, hU, hV, hNi, clmP_succ]
        by_cases e2 : c = (1, 1) :: base
        · subst e2; simp [j1, j2, j3, j4, j5, j6, j7, j8, rowP_zero, rowP_succ, hR, hQ, hU, hV, hNi, clmP_succ]
        by_cases e3 : c = (8, 2) :: base
        · subst e3; simp [j1, j2, j3, j4, j5, j6, j7, j8, rowP_zero, rowP_succ, hR, hQ, hU, hV, hNi, clmP_succ]
        by_cases e4 : c = (10, 7) :: base
        · subst e4; simp [j1, j2, j3, j4, j5, j6, j7, j8, rowP_zero, rowP_succ, hR, hQ, hU, hV, hNi, clmP_succ]
        by_cases e5 : c = (15, 7) :: base
        · subst e5; simp [j1, j2, j3, j4, j5, j6, j7, j8, rowP_zero, rowP_succ, hR, hQ, hU, hV, hNi, clmP_succ]
        by_cases e6 : c = (16, 10) :: base
        · subst e6; simp [j1, j2, j3, j4, j5, j6, j7, j8, rowP_zero, rowP_succ, hR, hQ, hU, hV, hNi, clmP_succ]
        by_cases e7 : c = (16, 18) :: base
        · subst e7; simp [j1, j2, j3, j4, j5, j6, j7, j8, rowP_zero, rowP_succ, hR, hQ, hU, hV, hNi, clmP_succ]
        by_cases e8 : c = (16, 26) :: base
        · subst e8; simp [j1, j2, j3, j4, j5, j6, j7, j8, rowP_zero, rowP_succ, hR, hQ, hU, hV, hNi, clmP_succ]
        by_cases e9 : c = (16, 33) :: base
        · subst e9; simp [j1, j2, j3, j4, j5, j6, j7, j8, rowP_zero, rowP_succ, hR, hQ, hU, hV, hNi, clmP_succ]
        by_cases e10 : c = (16, 11) :: base
        · subst e10; simp [j1, j2, j3, j4, j5, j6, j7, j8, rowP_zero, rowP_succ, hR, hQ, hU, hV, hNi, clmP_succ]
        by_cases e11 : c = (16, 19) :: base
        · subst e11; simp [j1, j2, j3, j4, j5, j6, j7, j8, rowP_zero, rowP_succ, hR, hQ, hU, hV, hNi, clmP_succ]
        by_cases e12 : c = (16, 27) :: base
        · subst e12; simp [j1, j2, j3, j4, j5, j6, j7, j8, rowP_zero, rowP_succ, hR, hQ, hU, hV, hNi, clmP_succ]
        by_cases e13 : c = (16, 34) :: base
        · subst e13; simp [j1, j2, j3, j4, j5, j6, j7, j8, rowP_zero, rowP_succ, hR, hQ, hU, hV, hNi, clmP_succ]
        by_cases e14 : c = (900, i) :: base
        · subst e14; simp [j1, j2, j3, j4, j5, j6, j7, j8, rowP_zero, rowP_succ, hR, hQ, hU, hV, hNi, clmP_succ]
        simp [e0, e1, e2, e3, e4, e5, e6, e7, e8, e9, e10, e11, e12, e13, e14, j1, j2, j3, j4, j5, j6, j7, j8, rowP_zero, rowP_succ, hR, hQ, hU, hV, hNi, clmP_succ]
      · have n0 := nv b hb
        have n1 := nvL b hb
        clear nv nvL
        simp only [List.mem_cons, List.not_mem_nil, or_false] at hb
        rcases hb with rfl | rfl | rfl | rfl | rfl | rfl | rfl | rfl
        all_goals (repeat (first | exact n0 | refine noVar_row ?_ | refine noVar_var ?_ (by simp [refsL, refsP, refsL_append, mem_refs_rowP, mem_refs_clmP, n1])))
end Go.Proofs.Ytmalpmnmknpphaa.TM
