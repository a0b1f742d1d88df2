/- Primes: what trial division shows, and two great primes. Conditions: none; lemmas. -/
import Derived.Test.YtnnkoghmglpnmaaWInvP
namespace Go.Proofs.Ytnnkoghmglpnmaa.TM
open Go Go.RowKit
set_option linter.unusedVariables false
set_option linter.defProp false
set_option linter.unusedSimpArgs false

/-- A prime: what is between 0 and it shares no divisor with it. -/
def Prm (p : Nat) : Prop := 2 ≤ p ∧ ∀ a, 0 < a → a < p → Nat.gcd p a = 1
theorem prm_of {p : Nat} (h2 : 2 ≤ p) (h : ∀ d, 2 ≤ d → d * d ≤ p → p % d ≠ 0) : Prm p := by
  refine ⟨h2, fun a h0 h1 => ?_⟩
  have d1 := Nat.gcd_dvd_left p a
  have d2 := Nat.gcd_dvd_right p a
  have gp : 0 < Nat.gcd p a := Nat.gcd_pos_of_pos_left _ (by omega)
  have ga : Nat.gcd p a ≤ a := Nat.le_of_dvd h0 d2
  generalize Nat.gcd p a = g at *
  by_cases e : g = 1
  · exact e
  exfalso
  obtain ⟨c, hc⟩ := d1
  by_cases e2 : g * g ≤ p
  · exact h g (by omega) e2 (Nat.mod_eq_zero_of_dvd ⟨c, hc⟩)
  · have c1 : c ≠ 0 := by rintro rfl; omega
    have c2 : c ≠ 1 := by rintro rfl; omega
    have c3 : c < g := by
      rcases Nat.lt_or_ge c g with h | h
      · exact h
      · exact absurd (by rw [hc]; exact Nat.mul_le_mul_left g h) e2
    refine h c (by omega) ?_ (Nat.mod_eq_zero_of_dvd ⟨g, by rw [hc, Nat.mul_comm]⟩)
    rw [hc]; exact Nat.mul_le_mul_right c (Nat.le_of_lt c3)
/-- Nothing from lo on, so many (a power of 2), divides. -/
def noDiv (p : Nat) : Nat → Nat → Bool
  | 0, lo => p % lo != 0
  | k + 1, lo => noDiv p k lo && noDiv p k (lo + 2 ^ k)
theorem noDiv_all (p : Nat) : ∀ (k lo : Nat), noDiv p k lo = true → ∀ d, lo ≤ d → d < lo + 2 ^ k → p % d ≠ 0
  | 0, lo, h, d, h1, h2 => by
    obtain rfl : d = lo := by omega
    simpa [noDiv] using h
  | k + 1, lo, h, d, h1, h2 => by
    rw [noDiv, Bool.and_eq_true] at h
    by_cases c : d < lo + 2 ^ k
    · exact noDiv_all p k lo h.1 d h1 c
    · exact noDiv_all p k _ h.2 d (by omega) (by rw [Nat.pow_succ] at h2; omega)
theorem sq_lt {d n : Nat} (h : d * d < n * n) : d < n := by
  rcases Nat.lt_or_ge d n with g | g
  · exact g
  · exact absurd (Nat.mul_le_mul g g) (by omega)
theorem prm31 : Prm 2147483647 := by
  refine prm_of (by decide) fun d h2 hd => ?_
  have hk : noDiv 2147483647 16 2 = true := by decide +kernel
  exact noDiv_all _ 16 2 hk d h2 (by have : d < 46341 := sq_lt (Nat.lt_of_le_of_lt hd (by decide)); omega)
/-! ### a root whose powers are all numbers -/
theorem least (Q : Nat → Prop) : ∀ n, Q n → ∃ m, Q m ∧ ∀ k, k < m → ¬ Q k := by
  intro n
  induction n using Nat.strongRecOn with
  | _ n ih =>
  intro h
  by_cases c : ∃ k, k < n ∧ Q k
  · obtain ⟨k, hk, hq⟩ := c
    exact ih k hk hq
  · exact ⟨n, h, fun k hk hq => c ⟨k, hk, hq⟩⟩
theorem pigeon : ∀ (g n : Nat) (f : Nat → Nat), (∀ i, i < n → f i < g) → (∀ i j, i < j → j < n → f i ≠ f j) → n ≤ g
  | 0, n, f, h, _ => by
    rcases Nat.eq_zero_or_pos n with h0 | h0
    · omega
    · exact absurd (h 0 h0) (by omega)
  | g + 1, n, f, h, hd => by
    by_cases c : ∃ i, i < n ∧ f i = g
    · obtain ⟨i, hi, he⟩ := c
      have := pigeon g (n - 1) (fun j => if j < i then f j else f (j + 1)) (fun j hj => by
        by_cases e : j < i
        · simp only [if_pos e]
          have h1 := h j (by omega)
          have h2 := hd j i e hi
          omega
        · simp only [if_neg e]
          have h1 := h (j + 1) (by omega)
          have h2 := hd i (j + 1) (by omega) (by omega)
          omega) (fun j k hjk hk => by
        by_cases e : j < i
        · by_cases e2 : k < i
          · simp only [if_pos e, if_pos e2]; exact hd j k hjk (by omega)
          · simp only [if_pos e, if_neg e2]; exact hd j (k + 1) (by omega) (by omega)
        · simp only [if_neg e, if_neg (show ¬ k < i by omega)]; exact hd (j + 1) (k + 1) (by omega) (by omega))
      omega
    · have := pigeon g n f (fun i hi => by
        have h1 := h i hi
        have h2 : f i ≠ g := fun e => c ⟨i, hi, e⟩
        omega) hd
      omega
theorem mod_pow (a n : Nat) : ∀ k, (a % n) ^ k % n = a ^ k % n
  | 0 => rfl
  | k + 1 => by rw [Nat.pow_succ, Nat.pow_succ, Nat.mul_mod, mod_pow a n k, Nat.mod_mod, ← Nat.mul_mod]
theorem lucas {n a : Nat} (hn : 3 ≤ n) (L : List Nat) (h1 : a ^ (n - 1) % n = 1) (hL : ∀ q ∈ L, ∃ c, (a ^ ((n - 1) / q) % n + (n - 1)) * c % n = 1) (hm : ∀ m, m ∣ n - 1 → m ≠ 1 → ∃ q ∈ L, q ∣ m) : Prm n := by
  refine ⟨by omega, fun x x0 x1 => ?_⟩
  have d1 := Nat.gcd_dvd_left n x
  have d2 := Nat.gcd_dvd_right n x
  have gp : 0 < Nat.gcd n x := Nat.gcd_pos_of_pos_left _ (by omega)
  have gx : Nat.gcd n x ≤ x := Nat.le_of_dvd x0 d2
  generalize Nat.gcd n x = g at *
  by_cases e : g = 1
  · exact e
  exfalso
  have g2 : 2 ≤ g := by omega
  have one : 1 % g = 1 := Nat.mod_eq_of_lt (by omega)
  have tog : ∀ {y : Nat}, y % n = 1 → y % g = 1 := by
    intro y hy
    rw [← Nat.mod_mod_of_dvd y d1, hy, one]
  have a1 := tog h1
  obtain ⟨d, ⟨dp, hd⟩, dl⟩ := least (fun k => 0 < k ∧ a ^ k % g = 1) (n - 1) ⟨by omega, a1⟩
  have mul1 : ∀ {u v : Nat}, u % g = 1 → u * v % g = v % g := fun {u v} hu => by rw [Nat.mul_mod, hu, Nat.one_mul, Nat.mod_mod]
  have powd : ∀ k, a ^ (d * k) % g = 1 := by
    intro k
    rw [Nat.pow_mul, ← mod_pow, hd, Nat.one_pow, one]
  have dd : d ∣ n - 1 := by
    have e1 := Nat.div_add_mod (n - 1) d
    have : a ^ ((n - 1) % d) % g = 1 := by
      have h := a1
      rw [← e1, Nat.pow_add, mul1 (powd _)] at h
      exact h
    by_cases z : (n - 1) % d = 0
    · exact Nat.dvd_of_mod_eq_zero z
    · exact absurd ⟨by omega, this⟩ (dl _ (Nat.mod_lt _ dp))
  obtain ⟨m, hmd⟩ := dd
  have m1 : m = 1 := by
    by_cases m1 : m = 1
    · exact m1
    exfalso
    obtain ⟨q, hq, ⟨s, hs⟩⟩ := hm m ⟨d, by rw [hmd, Nat.mul_comm]⟩ m1
    have q0 : 0 < q := by
      rcases Nat.eq_zero_or_pos q with h | h
      · subst h; rw [hs, Nat.zero_mul, Nat.mul_zero] at hmd; omega
      · exact h
    obtain ⟨c, hc⟩ := hL q hq
    have e2 : (n - 1) / q = d * s := by
      rw [hmd, hs, show d * (q * s) = d * s * q by rw [Nat.mul_comm q s, Nat.mul_assoc], Nat.mul_div_cancel _ q0]
    rw [e2] at hc
    have h3 := tog hc
    obtain ⟨u, hu⟩ := d1
    have h4 : (a ^ (d * s) % n + (n - 1)) % g = 0 := by
      have h5 : a ^ (d * s) % n % g = 1 := by rw [Nat.mod_mod_of_dvd _ ⟨u, hu⟩]; exact powd s
      rw [Nat.add_mod, h5]
      have h6 : (n - 1) % g = g - 1 := by
        have u0 : 0 < u := by
          rcases Nat.eq_zero_or_pos u with h | h
          · subst h; omega
          · exact h
        obtain ⟨w, rfl⟩ : ∃ w, u = w + 1 := ⟨u - 1, by omega⟩
        rw [show n - 1 = g - 1 + g * w by rw [hu, Nat.mul_succ]; omega, Nat.add_mul_mod_self_left]
        exact Nat.mod_eq_of_lt (by omega)
      rw [h6, show 1 + (g - 1) = g by omega, Nat.mod_self]
    rw [Nat.mul_mod, h4, Nat.zero_mul, Nat.zero_mod] at h3
    omega
  have dn : d = n - 1 := by rw [hmd, m1, Nat.mul_one]
  have inj : ∀ i j, i < j → j < n - 1 → a ^ i % g ≠ a ^ j % g := by
    intro i j hij hj he
    have h7 : a ^ (j - i) % g = 1 := by
      have k1 : a ^ (n - 1 - i) * a ^ i % g = 1 := by rw [← Nat.pow_add, show n - 1 - i + i = n - 1 by omega]; exact a1
      have k2 : a ^ (n - 1 - i) * a ^ j % g = a ^ (j - i) % g := by
        rw [show j = i + (j - i) by omega, Nat.pow_add, ← Nat.mul_assoc, mul1 k1, show i + (j - i) - i = j - i by omega]
      rw [← k2, Nat.mul_mod, ← he, ← Nat.mul_mod, k1]
    exact dl (j - i) (by omega) ⟨by omega, h7⟩
  have nz : ∀ i, i < n - 1 → a ^ i % g ≠ 0 := by
    intro i hi h0
    have k1 : a ^ (n - 1 - i) * a ^ i % g = 1 := by rw [← Nat.pow_add, show n - 1 - i + i = n - 1 by omega]; exact a1
    rw [Nat.mul_mod, h0, Nat.mul_zero, Nat.zero_mod] at k1
    omega
  have := pigeon (g - 1) (n - 1) (fun i => a ^ i % g - 1) (fun i hi => by have := nz i hi; have := Nat.mod_lt (a ^ i) gp; omega) (fun i j hij hj he => by
    have h8 := inj i j hij hj
    have h9 := nz i (by omega)
    have h10 := nz j hj
    omega)
  omega
def pm2 (n : Nat) : Nat → Nat → Nat → Nat
  | 0, _, _ => 1 % n
  | k + 1, a, e => if e % 2 = 1 then a * pm2 n k (a * a % n) (e / 2) % n else pm2 n k (a * a % n) (e / 2)
theorem pm2_eq (n : Nat) : ∀ (k a e : Nat), e < 2 ^ k → pm2 n k a e = a ^ e % n
  | 0, a, e, h => by obtain rfl : e = 0 := by omega
                     rfl
  | k + 1, a, e, h => by
    have h2 : e / 2 < 2 ^ k := by rw [Nat.pow_succ] at h; omega
    have e1 : a ^ e = (a * a) ^ (e / 2) * a ^ (e % 2) := by
      rw [show a * a = a ^ 2 by rw [Nat.pow_succ, Nat.pow_succ, Nat.pow_zero, Nat.one_mul], ← Nat.pow_mul, ← Nat.pow_add]
      congr 1; omega
    rw [pm2, pm2_eq n k _ _ h2, mod_pow]
    rcases Nat.mod_two_eq_zero_or_one e with c | c
    · rw [if_neg (by omega), e1, c, Nat.pow_zero, Nat.mul_one]
    · rw [if_pos c, e1, c, Nat.pow_one, Nat.mul_comm, Nat.mod_mul_mod]
theorem prime_div {q : Nat} (h : (List.range (q + 1)).all (fun d => d == 1 || d == q || q % d != 0) = true) (hq : 2 ≤ q) {m : Nat} (hm : ¬ q ∣ m) : Nat.gcd m q = 1 := by
  have d1 := Nat.gcd_dvd_left m q
  have d2 := Nat.gcd_dvd_right m q
  have := List.all_eq_true.1 h (Nat.gcd m q) (List.mem_range.2 (by have := Nat.le_of_dvd (by omega) d2; omega))
  simp only [Bool.or_eq_true, beq_iff_eq, bne_iff_ne] at this
  rcases this with (h1 | h1) | h1
  · exact h1
  · exact absurd (h1 ▸ d1) hm
  · exact absurd (Nat.mod_eq_zero_of_dvd d2) h1
theorem lucas' {n a k : Nat} (hn : 3 ≤ n) (hk : n ≤ 2 ^ k) (L : List (Nat × Nat)) (h1 : pm2 n k a (n - 1) = 1) (hL : L.all (fun w => (pm2 n k a ((n - 1) / w.1) + (n - 1)) * w.2 % n == 1) = true) (hm : ∀ m, m ∣ n - 1 → m ≠ 1 → ∃ q ∈ L.map (·.1), q ∣ m) : Prm n := by
  refine lucas (a := a) hn (L.map (·.1)) (by rw [← pm2_eq n k _ _ (by omega)]; exact h1) (fun q hq => ?_) hm
  obtain ⟨w, hw, rfl⟩ := List.mem_map.1 hq
  refine ⟨w.2, ?_⟩
  rw [← pm2_eq n k _ _ (by have := Nat.div_le_self (n - 1) w.1; omega)]
  have := List.all_eq_true.1 hL w hw
  simpa using this
def wit61 : List (Nat × Nat) := [(2, 1152921504606846975), (3, 212086872990781878), (5, 1436392118636136522), (7, 62135951423208583), (11, 2117382201747708966), (13, 1243296897272292213), (31, 42235654463646013), (41, 730874616585150915), (61, 329365932848850065), (151, 68233547637592170), (331, 1960352316127796739), (1321, 2165998172066445805)]
def fac61 : List Nat := wit61.map (·.1)
theorem prm61 : Prm 2305843009213693951 := by
  refine lucas' (a := 37) (k := 62) (by decide) (by decide) wit61 (by decide +kernel) (by decide +kernel) ?_
  · intro m hm h1
    show ∃ q ∈ fac61, q ∣ m
    by_cases c : ∃ q ∈ fac61, q ∣ m
    · exact c
    exfalso
    have cop : ∀ q ∈ fac61, Nat.gcd m q = 1 := by
      intro q hq
      have hn : ¬ q ∣ m := fun h => c ⟨q, hq, h⟩
      have hall : fac61.all (fun q => (List.range (q + 1)).all (fun d => d == 1 || d == q || q % d != 0) && decide (2 ≤ q)) = true := by decide +kernel
      have := List.all_eq_true.1 hall q hq
      rw [Bool.and_eq_true, decide_eq_true_eq] at this
      exact prime_div this.1 this.2 hn
    have e : (2305843009213693951 - 1 : Nat) = 2 * (3 * (3 * (5 * (5 * (7 * (11 * (13 * (31 * (41 * (61 * (151 * (331 * 1321)))))))))))) := by decide
    have cm : ∀ {u v : Nat}, Nat.gcd m u = 1 → Nat.gcd m v = 1 → Nat.gcd m (u * v) = 1 := fun {u v} h1 h2 => Nat.Coprime.mul_right h1 h2
    have : Nat.gcd m (2305843009213693951 - 1) = 1 := by
      rw [e]
      have k := fun q hq => cop q hq
      exact cm (k 2 (by decide)) (cm (k 3 (by decide)) (cm (k 3 (by decide)) (cm (k 5 (by decide)) (cm (k 5 (by decide)) (cm (k 7 (by decide)) (cm (k 11 (by decide)) (cm (k 13 (by decide)) (cm (k 31 (by decide)) (cm (k 41 (by decide)) (cm (k 61 (by decide)) (cm (k 151 (by decide)) (cm (k 331 (by decide)) (k 1321 (by decide))))))))))))))
    rw [Nat.gcd_eq_left hm] at this
    exact h1 this
end Go.Proofs.Ytnnkoghmglpnmaa.TM
