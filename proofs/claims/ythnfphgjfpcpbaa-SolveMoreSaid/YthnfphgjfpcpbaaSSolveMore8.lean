/- What is proved of functions, and plain facts, part 8. Conditions: none. -/
import Derived.Test.YthnfphgjfpcpbaaSSolveMore7
namespace Go.Proofs.Ythnfphgjfpcpbaa.TM
open Go Go.RowKit
set_option linter.unusedVariables false
set_option linter.defProp false
set_option linter.unusedSimpArgs false
/-- How many of the first n numbers are so. -/
def cntN : Nat → (Nat → Bool) → Nat
  | 0, _ => 0
  | n + 1, f => cntN n f + (if f n = true then 1 else 0)
theorem cnt_congr {n : Nat} {f g : Nat → Bool} (h : ∀ i, i < n → f i = g i) : cntN n f = cntN n g := by
  induction n with
  | zero => rfl
  | succ n ih => rw [cntN, cntN, ih fun i hi => h i (by omega), h n (by omega)]
theorem cnt_all {n : Nat} {f : Nat → Bool} (h : ∀ i, i < n → f i = true) : cntN n f = n := by
  induction n with
  | zero => rfl
  | succ n ih => rw [cntN, ih fun i hi => h i (by omega), if_pos (h n (by omega))]
theorem cnt_add (m n : Nat) (f : Nat → Bool) : cntN (m + n) f = cntN m f + cntN n (fun i => f (m + i)) := by
  induction n with
  | zero => rfl
  | succ n ih => rw [← Nat.add_assoc, cntN, ih, cntN]; omega
theorem cnt_mul (N : Nat) (f : Nat → Bool) : ∀ a, cntN (a * N) (fun q => f (q % N)) = a * cntN N f
  | 0 => by simp [cntN]
  | a + 1 => by
    rw [Nat.succ_mul, cnt_add, cnt_mul N f a, Nat.succ_mul]
    congr 1
    exact cnt_congr fun i hi => by rw [Nat.mul_add_mod_self_right, Nat.mod_eq_of_lt hi]
theorem cnt_drop {m a : Nat} {f : Nat → Bool} (ha : a < m) (hf : f a = true) : cntN m f = cntN m (fun j => f j && j != a) + 1 := by
  induction m with
  | zero => omega
  | succ m ih =>
    rw [cntN, cntN]
    by_cases e : a = m
    · subst e
      rw [if_pos hf, if_neg (by simp)]
      have : cntN a f = cntN a (fun j => f j && j != a) := cnt_congr fun i hi => by
        have : (i != a) = true := by simp; omega
        rw [this, Bool.and_true]
      omega
    · rw [ih (by omega)]
      have : (m != a) = true := by simp; omega
      rw [this, Bool.and_true]; omega
theorem cnt_inj : ∀ (n : Nat) (f : Nat → Bool) (m : Nat) (g : Nat → Bool) (φ : Nat → Nat), (∀ i, i < n → f i = true → φ i < m ∧ g (φ i) = true) →
    (∀ i j, i < n → j < n → f i = true → f j = true → φ i = φ j → i = j) → cntN n f ≤ cntN m g
  | 0, _, _, _, _, _, _ => Nat.zero_le _
  | n + 1, f, m, g, φ, h1, h2 => by
    rw [cntN]
    by_cases c : f n = true
    · rw [if_pos c]
      obtain ⟨a1, a2⟩ := h1 n (by omega) c
      rw [cnt_drop a1 a2]
      refine Nat.succ_le_succ (cnt_inj n f m _ φ (fun i hi hf => ?_) (fun i j hi hj => h2 i j (by omega) (by omega)))
      obtain ⟨b1, b2⟩ := h1 i (by omega) hf
      refine ⟨b1, ?_⟩
      have : (φ i != φ n) = true := by
        simp only [bne_iff_ne]
        intro e
        have := h2 i n (by omega) (by omega) hf c e
        omega
      rw [b2, this]; rfl
    · rw [if_neg c]
      exact cnt_inj n f m g φ (fun i hi => h1 i (by omega)) (fun i j hi hj => h2 i j (by omega) (by omega))
theorem cnt_mono {n : Nat} {f g : Nat → Bool} (h : ∀ i, i < n → f i = true → g i = true) : cntN n f ≤ cntN n g :=
  cnt_inj n f n g id (fun i hi hf => ⟨hi, h i hi hf⟩) (fun _ _ _ _ _ _ e => e)
def vec (P n k : Nat) : Int := ((n / P ^ k % P : Nat) : Int)
def num (P : Nat) : Nat → (Nat → Int) → Nat
  | 0, _ => 0
  | c + 1, x => (x 0 % P).toNat + P * num P c (fun k => x (k + 1))
theorem num_lt {P : Nat} (h : 0 < P) : ∀ (c : Nat) (x : Nat → Int), num P c x < P ^ c
  | 0, _ => by simp [num]
  | c + 1, x => by
    have ih := num_lt h c (fun k => x (k + 1))
    have h1 := Int.emod_nonneg (x 0) (show (P : Int) ≠ 0 by omega)
    have h2 := Int.emod_lt_of_pos (x 0) (show (0 : Int) < P by omega)
    rw [num, Nat.pow_succ]
    have h3 : P * num P c (fun k => x (k + 1)) + P ≤ P * P ^ c := by rw [← Nat.mul_succ]; exact Nat.mul_le_mul_left P ih
    rw [Nat.mul_comm (P ^ c)]
    omega
theorem num_congr {P : Nat} : ∀ (c : Nat) {x y : Nat → Int}, (∀ k, k < c → x k % P = y k % P) → num P c x = num P c y
  | 0, _, _, _ => rfl
  | c + 1, x, y, h => by rw [num, num, h 0 (by omega), num_congr c fun k hk => h (k + 1) (by omega)]
theorem vec_num {P : Nat} (h : 0 < P) : ∀ (c : Nat) (x : Nat → Int) (k : Nat), k < c → vec P (num P c x) k = x k % P
  | 0, _, _, hk => by omega
  | c + 1, x, k, hk => by
    have h1 := Int.emod_nonneg (x 0) (show (P : Int) ≠ 0 by omega)
    have h2 := Int.emod_lt_of_pos (x 0) (show (0 : Int) < P by omega)
    have h3 : (x 0 % P).toNat < P := by omega
    rw [num]
    cases k with
    | zero =>
      unfold vec
      rw [Nat.pow_zero, Nat.div_one, Nat.add_mul_mod_self_left, Nat.mod_eq_of_lt h3]; omega
    | succ k =>
      have ih := vec_num h c (fun k => x (k + 1)) k (by omega)
      rw [← ih]
      unfold vec
      rw [Nat.pow_succ, Nat.mul_comm (P ^ k) P, ← Nat.div_div_eq_div_mul, Nat.add_mul_div_left _ _ h, Nat.div_eq_of_lt h3, Nat.zero_add]
theorem num_vec {P : Nat} (h : 0 < P) : ∀ (c n : Nat), n < P ^ c → num P c (vec P n) = n
  | 0, n, hn => by simp at hn; subst hn; rfl
  | c + 1, n, hn => by
    rw [num]
    have e : (fun k => vec P n (k + 1)) = vec P (n / P) := by
      funext k; unfold vec; rw [Nat.pow_succ, Nat.mul_comm, ← Nat.div_div_eq_div_mul]
    have h0 : (vec P n 0 % P).toNat = n % P := by
      unfold vec; rw [Nat.pow_zero, Nat.div_one]; 
      have := Nat.mod_lt n h
      rw [Int.emod_eq_of_lt (by omega) (by omega)]; omega
    rw [e, h0, num_vec h c (n / P) (by rw [Nat.pow_succ, Nat.mul_comm] at hn; exact (Nat.div_lt_iff_lt_mul h).2 (by rw [Nat.mul_comm]; exact hn)), Nat.mod_add_div]
theorem vec_inj {P c m n : Nat} (h : 0 < P) (hm : m < P ^ c) (hn : n < P ^ c) (he : ∀ k, k < c → vec P m k % P = vec P n k % P) : m = n := by
  rw [← num_vec h c m hm, ← num_vec h c n hn, num_congr c he]
theorem num_inj {P c : Nat} {x y : Nat → Int} (h : 0 < P) (he : num P c x = num P c y) : ∀ k, k < c → x k % P = y k % P := fun k hk => by
  rw [← vec_num h c x k hk, ← vec_num h c y k hk, he]
section
variable {P R C r : Nat} {A : Mx} {rw cw : Nat → Nat} {c u : Mx}
theorem div_pair {a b N : Nat} (hb : b < N) : (a * N + b) / N = a ∧ (a * N + b) % N = b := by
  have hN : 0 < N := by omega
  refine ⟨?_, ?_⟩
  · rw [Nat.add_comm, Nat.add_mul_div_right _ _ hN, Nat.div_eq_of_lt hb, Nat.zero_add]
  · rw [Nat.add_comm, Nat.add_mul_mod_self_right, Nat.mod_eq_of_lt hb]
theorem Cp.kcnt (hP : Prm P) (H : Cp P R C r A rw cw c u) {f : Nat → Bool} (hf : ∀ n, n < P ^ C → (f n = true ↔ ∀ i, i < R → apX C A (vec P n) i % P = 0)) : P ^ r * cntN (P ^ C) f = P ^ C := by
  have p0 : 0 < P := by have := hP.1; omega
  have N0 : 0 < P ^ C := Nat.pow_pos p0
  have hs : ∀ z : Nat → Int, ∃ x : Nat → Int, ∀ k, k < r → apX C u x k % P = z k % P := fun z => by
    obtain ⟨x, _, h⟩ := H.usolve hP z (fun _ => 0); exact ⟨x, h⟩
  let s : Nat → Nat → Int := fun y => Classical.choose (hs (vec P y))
  have ss : ∀ y k, k < r → apX C u (s y) k % P = vec P y k % P := fun y => Classical.choose_spec (hs (vec P y))
  have hk : ∀ n, n < P ^ C → (f n = true ↔ ∀ k, k < r → apX C u (vec P n) k % P = 0) := fun n hn => (hf n hn).trans H.ker
  refine Nat.le_antisymm ?_ ?_
  · rw [← cnt_mul]
    refine Nat.le_trans ?_ (Nat.le_of_eq (cnt_all (n := P ^ C) (f := fun _ => true) fun _ _ => rfl))
    refine cnt_inj _ _ _ _ (fun q => num P C (fun j => vec P (q % P ^ C) j + s (q / P ^ C) j)) (fun q _ _ => ⟨num_lt p0 _ _, rfl⟩) (fun q q' hq hq' fq fq' he => ?_)
    have e1 := num_inj p0 he
    have hy : q / P ^ C < P ^ r := (Nat.div_lt_iff_lt_mul N0).2 hq
    have hy' : q' / P ^ C < P ^ r := (Nat.div_lt_iff_lt_mul N0).2 hq'
    have k1 := (hk _ (Nat.mod_lt q N0)).1 fq
    have k2 := (hk _ (Nat.mod_lt q' N0)).1 fq'
    have ey : q / P ^ C = q' / P ^ C := by
      refine vec_inj p0 hy hy' fun k hk => ?_
      have e2 := apX_mod (A := u) e1 k
      rw [apX_add, apX_add, Int.add_emod, k1 k hk, ss _ k hk, Int.add_emod (apX C u (vec P (q' % P ^ C)) k), k2 k hk, ss _ k hk] at e2
      simpa using e2
    have en : q % P ^ C = q' % P ^ C := by
      refine vec_inj p0 (Nat.mod_lt _ N0) (Nat.mod_lt _ N0) fun k hk => ?_
      have e3 := e1 k hk
      simp only [ey] at e3
      have := em_sub e3 (rfl : s (q' / P ^ C) k % P = s (q' / P ^ C) k % P)
      simpa using this
    rw [← Nat.div_add_mod q (P ^ C), ← Nat.div_add_mod q' (P ^ C), ey, en]
  · rw [← cnt_mul]
    have : P ^ C = cntN (P ^ C) (fun _ => true) := (cnt_all fun _ _ => rfl).symm
    refine Nat.le_trans (Nat.le_of_eq this) ?_
    have ny : ∀ n, num P r (apX C u (vec P n)) < P ^ r := fun n => num_lt p0 _ _
    have nx : ∀ x, num P C x < P ^ C := fun x => num_lt p0 _ _
    refine cnt_inj _ _ _ _ (fun n => num P r (apX C u (vec P n)) * P ^ C + num P C (fun j => vec P n j - s (num P r (apX C u (vec P n))) j)) (fun n hn _ => ⟨?_, ?_⟩) (fun n n' hn hn' _ _ he => ?_)
    · have h1 := ny n
      have h2 := nx (fun j => vec P n j - s (num P r (apX C u (vec P n))) j)
      have h3 : num P r (apX C u (vec P n)) * P ^ C + P ^ C ≤ P ^ r * P ^ C := by rw [← Nat.succ_mul]; exact Nat.mul_le_mul_right _ h1
      omega
    · rw [(div_pair (nx _)).2, hk _ (nx _)]
      intro k hk
      have e1 : ∀ j, j < C → vec P (num P C (fun j => vec P n j - s (num P r (apX C u (vec P n))) j)) j % P = (vec P n j - s (num P r (apX C u (vec P n))) j) % P := fun j hj => by
        rw [vec_num p0 _ _ _ hj, Int.emod_emod_of_dvd _ (Int.dvd_refl _)]
      rw [apX_mod e1, apX_sub, Int.sub_emod, ss _ k hk, vec_num p0 _ _ _ hk, Int.emod_emod_of_dvd _ (Int.dvd_refl _), Int.sub_self]; rfl
    · have ey : num P r (apX C u (vec P n)) = num P r (apX C u (vec P n')) := by rw [← (div_pair (a := num P r (apX C u (vec P n))) (nx _)).1, he, (div_pair (nx _)).1]
      have en := (div_pair (a := num P r (apX C u (vec P n))) (nx (fun j => vec P n j - s (num P r (apX C u (vec P n))) j))).2
      rw [he, (div_pair (nx _)).2, ey] at en
      refine vec_inj p0 hn hn' fun k hk => ?_
      have e3 := num_inj p0 en.symm k hk
      have := em_add e3 (rfl : s (num P r (apX C u (vec P n'))) k % P = s (num P r (apX C u (vec P n'))) k % P)
      simpa using this
end
end Go.Proofs.Ythnfphgjfpcpbaa.TM
namespace Go.Proofs.Ythnfphgjfpcpbaa.TM
open Go Go.RowKit
set_option linter.unusedVariables false
set_option linter.defProp false
set_option linter.unusedSimpArgs false
def updr (A : Mx) (k : Nat) (u : Nat → Int) : Mx := fun i j => if i = k then u j else A i j
theorem updr_id (A : Mx) (k : Nat) : updr A k (A k) = A := by funext i j; unfold updr; split <;> simp_all
/-- Linear in each row, and 0 where two neighbours are alike, for n rows of n numbers modulo p. -/
structure Alt (p : Int) (n : Nat) (F : Mx → Int) : Prop where
  cg : ∀ A B : Mx, (∀ i j, i < n → j < n → A i j % p = B i j % p) → F A % p = F B % p
  lin : ∀ (A : Mx) (i : Nat) (u v : Nat → Int) (c : Int), i < n → F (updr A i (fun j => u j + c * v j)) = F (updr A i u) + c * F (updr A i v)
  adj : ∀ (A : Mx) (i : Nat), i + 1 < n → A i = A (i + 1) → F A = 0
theorem Alt.add {p : Int} {n : Nat} {F : Mx → Int} (H : Alt p n F) (A : Mx) {i : Nat} (u v : Nat → Int) (hi : i < n) : F (updr A i (fun j => u j + v j)) = F (updr A i u) + F (updr A i v) := by
  have := H.lin A i u v 1 hi
  simpa using this
theorem Alt.scale {p : Int} {n : Nat} {F : Mx → Int} (H : Alt p n F) (A : Mx) {i : Nat} (v : Nat → Int) (c : Int) (hi : i < n) : F (updr A i (fun j => c * v j)) = c * F (updr A i v) := by
  have h1 := H.lin A i (fun _ => 0) v c hi
  have h2 := H.lin A i (fun _ => 0) (fun _ => 0) 1 hi
  simp at h1 h2
  omega
theorem Alt.zero {p : Int} {n : Nat} {F : Mx → Int} (H : Alt p n F) (A : Mx) {i : Nat} (hi : i < n) (h0 : ∀ j, A i j = 0) : F A = 0 := by
  have h := H.scale A (A i) 0 hi
  rw [Int.zero_mul] at h
  rw [← updr_id A i, ← h]
  congr 2
  funext j
  rw [h0, Int.mul_zero]
/-- A product. -/
def mulX (m : Nat) (A B : Mx) : Mx := fun i j => sumN m (fun k => A i k * B k j)
end Go.Proofs.Ythnfphgjfpcpbaa.TM
namespace Go.Proofs.Ythnfphgjfpcpbaa.TM
open Go Go.RowKit
set_option linter.unusedVariables false
set_option linter.defProp false
set_option linter.unusedSimpArgs false
def nx (l : List Int) (a : Int) : Int := l.getD a.toNat 0
end Go.Proofs.Ythnfphgjfpcpbaa.TM
namespace Go.Proofs.Ythnfphgjfpcpbaa.TM
open Go Go.RowKit
set_option linter.unusedVariables false
set_option linter.defProp false
set_option linter.unusedSimpArgs false
theorem em_refl {p a : Int} : a % p % p = a % p := Int.emod_emod_of_dvd _ (Int.dvd_refl _)
section
variable {P n r : Nat} {A : Mx} {rw cw : Nat → Nat} {c u : Mx} {F : Mx → Int}
theorem Cp.rle {R C : Nat} (H : Cp P R C r A rw cw c u) : r ≤ R := by
  rcases Nat.eq_zero_or_pos r with h | h
  · omega
  · have lo : ∀ k, k < r → k ≤ rw k := by
      intro k
      induction k with
      | zero => exact fun _ => Nat.zero_le _
      | succ k ih => intro hk; have := ih (by omega); have := H.rinc k (k + 1) (by omega) hk; omega
    have := lo (r - 1) (by omega)
    have := H.rlt (r - 1) (by omega)
    omega
end
end Go.Proofs.Ythnfphgjfpcpbaa.TM
namespace Go.Proofs.Ythnfphgjfpcpbaa.TM
open Go Go.RowKit
set_option linter.unusedVariables false
set_option linter.defProp false
set_option linter.unusedSimpArgs false
/-- A matrix of this rank. -/
def Rk (P R C r : Nat) (A : Mx) : Prop := ∃ rw cw c u, Cp P R C r A rw cw c u
section
variable {P R C D S r s t : Nat} {A B : Mx}
theorem pow_le {P a b : Nat} (hP : Prm P) (h : P ^ a ≤ P ^ b) : a ≤ b := (Nat.pow_le_pow_iff_right hP.1).1 h
noncomputable def kB (P R C : Nat) (A : Mx) : Nat → Bool := fun n => by classical exact decide (∀ i, i < R → apX C A (vec P n) i % P = 0)
theorem kB_iff (n : Nat) : kB P R C A n = true ↔ ∀ i, i < R → apX C A (vec P n) i % P = 0 := by unfold kB; simp
theorem Rk.kc (hP : Prm P) (H : Rk P R C r A) : P ^ r * cntN (P ^ C) (kB P R C A) = P ^ C := by
  obtain ⟨_, _, _, _, H⟩ := H
  exact H.kcnt hP fun n _ => kB_iff n
/-- What takes no less to 0 has no greater rank. -/
theorem Rk.ker_le (hP : Prm P) (H : Rk P R C r A) (K : Rk P S C s B) (h : ∀ x : Nat → Int, (∀ i, i < R → apX C A x i % P = 0) → ∀ i, i < S → apX C B x i % P = 0) : s ≤ r := by
  have h1 := H.kc hP
  have h2 := K.kc hP
  have p0 : 0 < P := by have := hP.1; omega
  have h3 : cntN (P ^ C) (kB P R C A) ≤ cntN (P ^ C) (kB P S C B) := cnt_mono fun n _ hn => (kB_iff n).2 (h _ ((kB_iff n).1 hn))
  refine pow_le hP ?_
  have h4 : 0 < cntN (P ^ C) (kB P S C B) := by
    rcases Nat.eq_zero_or_pos (cntN (P ^ C) (kB P S C B)) with e | e
    · rw [e, Nat.mul_zero] at h2; have := Nat.pow_pos (n := C) p0; omega
    · exact e
  refine Nat.le_of_mul_le_mul_right ?_ h4
  exact Nat.le_trans (Nat.le_of_eq (h2.trans h1.symm)) (Nat.mul_le_mul_left _ h3)
theorem apX_mul (K C : Nat) (A B : Mx) (x : Nat → Int) (i : Nat) : apX C (mulX K A B) x i = apX K A (apX C B x) i := by
  unfold apX mulX
  rw [sumN_congr fun k _ => (sumN_mul C (A i k) (fun j => B k j * x j)).symm, sumN_swap]
  refine sumN_congr fun j _ => ?_
  rw [← sumN_mulr]
  exact sumN_congr fun k _ => by rw [Int.mul_assoc]
theorem apX_z {p : Int} {C : Nat} {A : Mx} {x : Nat → Int} (h : ∀ j, j < C → x j % p = 0) (i : Nat) : apX C A x i % p = 0 := sumN_0 fun j hj => em_z' (h j hj)
theorem Rk.mul_right (hP : Prm P) (K : Rk P S C s B) (M : Rk P R C t (mulX S A B)) : t ≤ s :=
  K.ker_le hP M fun x hx i _ => by rw [apX_mul]; exact apX_z hx i
end
section
variable {P n r : Nat} {A B : Mx} {rw cw : Nat → Nat} {c u : Mx}
end
end Go.Proofs.Ythnfphgjfpcpbaa.TM
namespace Go.Proofs.Ythnfphgjfpcpbaa.TM
open Go Go.RowKit
set_option linter.unusedVariables false
set_option linter.defProp false
set_option linter.unusedSimpArgs false
attribute [local irreducible] K W WOps Effs Xg Xo Xr Xdg Xdo Xdr Xif CallsP CallR
/-- A row's picked cells. -/
def pickRow (C : Nat) (l cols : List Int) (i : Int) : List Int := cols.map fun c => cl C l i.toNat c.toNat
def pickM (C : Nat) (l rows cols : List Int) : List Int := rows.flatMap (pickRow C l cols)
end Go.Proofs.Ythnfphgjfpcpbaa.TM
namespace Go.Proofs.Ythnfphgjfpcpbaa.TM
open Go Go.RowKit
set_option linter.unusedVariables false
set_option linter.defProp false
set_option linter.unusedSimpArgs false
theorem timesM_get {p : Int} {r c : Nat} {l x : List Int} (hl : l.length = r * c) (hx : x.length = c) {i : Nat} (hi : i < r) : (timesM p r c l x).getD i 0 = sumN c (fun k => cl c l i k * x.getD k 0) % p := by
  rw [timesM_tbl hl hx, tbl_getD _ hi]
/-- A vector times a matrix. -/
def leftM (p : Int) (x : List Int) (r c : Nat) (l : List Int) : List Int := timesM p c r (turnM r c l) x
theorem leftM_len (p : Int) (x : List Int) (r c : Nat) (l : List Int) : (leftM p x r c l).length = c := timesM_len ..
theorem leftM_get {p : Int} {r c : Nat} {l x : List Int} (hx : x.length = r) {k : Nat} (hk : k < c) : (leftM p x r c l).getD k 0 = sumN r (fun i => x.getD i 0 * cl c l i k) % p := by
  unfold leftM
  rw [timesM_get (turnM_len r c l) hx hk]
  congr 1
  apply sumN_congr
  intro i hi
  rw [turn_cl l hi hk, Int.mul_comm]
where pick_cell' (C : Nat) (l cols : List Int) {m : Nat} (hm : m < cols.length) : ∀ (rows : List Int) (j : Nat), j < rows.length → (pickM C l rows cols).getD (j * cols.length + m) 0 = cl C l (rows.getD j 0).toNat (cols.getD m 0).toNat
  | [], j, h => by simp at h
  | i :: rows, 0, _ => by
    unfold pickM
    rw [List.flatMap_cons, List.getD_eq_getElem?_getD, List.getElem?_append_left (by simp [pickRow]; omega)]
    simp [pickRow, List.getElem?_eq_getElem hm]
  | i :: rows, j + 1, h => by
    have ih := pick_cell' C l cols hm rows j (by simpa using h)
    unfold pickM at ih ⊢
    rw [List.flatMap_cons, List.getD_eq_getElem?_getD, List.getElem?_append_right (by simp [pickRow, Nat.succ_mul]; omega)]
    rw [List.getD_eq_getElem?_getD] at ih
    rw [show (j + 1) * cols.length + m - (pickRow C l cols i).length = j * cols.length + m by simp [pickRow, Nat.succ_mul]; omega, ih]
    simp
end Go.Proofs.Ythnfphgjfpcpbaa.TM
namespace Go.Proofs.Ythnfphgjfpcpbaa.TM
open Go Go.RowKit
set_option linter.unusedVariables false
set_option linter.defProp false
set_option linter.unusedSimpArgs false
def rwC (c : CupT) (k : Nat) : Nat := (c.1.getD k 0).toNat
def cwC (c : CupT) (k : Nat) : Nat := (c.2.1.getD k 0).toNat
def ccC (c : CupT) : Mx := fun i k => (c.2.2.1.getD i []).getD k 0
def uuC (c : CupT) : Mx := fun k j => (c.2.2.2.getD k []).getD j 0
/-- A claim that makes a matrix. -/
abbrev CpC (P R C : Nat) (A : Mx) (c : CupT) : Prop := Cp P R C c.1.length A (rwC c) (cwC c) (ccC c) (uuC c)
theorem pad_get (r : Nat) (x : List Int) (k : Nat) : (padF r x).getD k 0 = x.getD k 0 := by
  unfold padF
  rw [List.getD_eq_getElem?_getD, List.getD_eq_getElem?_getD]
  by_cases h : k < x.length
  · rw [List.getElem?_append_left h]
  · rw [List.getElem?_append_right (by omega), List.getElem?_eq_none (l := x) (by omega), List.getElem?_replicate]
    split <;> rfl
theorem tkCup_Cp {P R C : Nat} {l : List Int} (hP : Prm P) (M : Mt P R C l) (hin : ∀ a ∈ l, In P a) : CpC P R C (cl C l) (tkCup P C R l) := by
  have K := tkN_C hP M.hp M.len hin R (Nat.le_refl R)
  have e1 : (tkCup P C R l).1.length = (tkN P C l R).us.length := K.I.rl
  have e2 : ccC (tkCup P C R l) = cF (tkN P C l R) := by
    funext i k
    show (((tkN P C l R).cs.map (padF (tkN P C l R).us.length)).getD i []).getD k 0 = (csF (tkN P C l R) i).getD k 0
    unfold csF
    by_cases h : i < (tkN P C l R).cs.length
    · rw [List.getD_eq_getElem?_getD (l := List.map _ _), List.getElem?_map, List.getElem?_eq_getElem h, Option.map_some, Option.getD_some, pad_get, List.getD_eq_getElem?_getD (l := (tkN P C l R).cs), List.getElem?_eq_getElem h]; rfl
    · rw [List.getD_eq_getElem?_getD (l := List.map _ _), List.getElem?_map, List.getElem?_eq_none (by omega), List.getD_eq_getElem?_getD (l := (tkN P C l R).cs), List.getElem?_eq_none (by omega)]; rfl
  unfold CpC
  rw [e1, e2]
  exact K.H
section
variable {P R C : Nat} {A : Mx} {c : CupT}
theorem sumN_le {n m : Nat} (h : m ≤ n) {f : Nat → Int} (hz : ∀ i, m ≤ i → i < n → f i = 0) : sumN n f = sumN m f := by
  obtain ⟨d, rfl⟩ : ∃ d, n = m + d := ⟨n - m, by omega⟩
  rw [sumN_split, sumN_z (n := d) fun i hi => hz _ (by omega) (by omega), Int.add_zero]
theorem hlX_sum (b z : List Int) (i : Nat) : ∀ j, hlX P c b z i j % P = (b.getD i 0 - sumN j (fun t => ccC c i t * z.getD t 0)) % P
  | 0 => by simp [hlX, sumN]
  | j + 1 => by
    rw [hlX, em_refl, em_sub (hlX_sum b z i j) em_refl, sumN]
    congr 1
    unfold ccC
    omega
theorem hlL_get (b : List Int) : ∀ k m, m < k → (hlL P c b k).getD m 0 = hlX P c b (hlL P c b m) (rwC c m) m
  | 0, m, h => by omega
  | k + 1, m, h => by
    rw [hlL, List.getD_eq_getElem?_getD]
    by_cases e : m < k
    · rw [List.getElem?_append_left (by rw [hlL_len]; exact e), ← List.getD_eq_getElem?_getD, hlL_get b k m e]
    · have : m = k := by omega
      subst this
      rw [List.getElem?_append_right (by rw [hlL_len]; omega), hlL_len, Nat.sub_self]; rfl
theorem hlL_pre (b : List Int) : ∀ k m t, m ≤ k → t < m → (hlL P c b m).getD t 0 = (hlL P c b k).getD t 0 := fun k m t h1 h2 => by
  rw [hlL_get b m t h2, hlL_get b k t (by omega)]
/-- What the rests make of a solution. -/
theorem halves_ok (hP : Prm P) (H : CpC P R C A c) (b : List Int) : ∀ m, m < c.1.length → sumN c.1.length (fun k => ccC c (rwC c m) k * (hlL P c b c.1.length).getD k 0) % P = b.getD (rwC c m) 0 % P := by
  intro m hm
  have e1 : sumN c.1.length (fun k => ccC c (rwC c m) k * (hlL P c b c.1.length).getD k 0) % P = sumN (m + 1) (fun k => ccC c (rwC c m) k * (hlL P c b c.1.length).getD k 0) % P := by
    rw [sumN_mod (g := fun k => if k < m + 1 then ccC c (rwC c m) k * (hlL P c b c.1.length).getD k 0 else 0) (fun k hk => by
      by_cases h : k < m + 1
      · rw [if_pos h]
      · rw [if_neg h, em_z (H.cz k hk _ (H.rinc m k (by omega) hk))]; rfl), sumN_le (m := m + 1) (by omega) fun i h1 _ => if_neg (by omega)]
    congr 1
    exact sumN_congr fun k hk => if_pos hk
  have hp1 : (1 : Int) < P := by have := hP.1; omega
  rw [e1, sumN, hlL_get b c.1.length m hm]
  have h1 := hlX_sum (P := P) (c := c) b (hlL P c b m) (rwC c m) m
  have h2 : ccC c (rwC c m) m * hlX P c b (hlL P c b m) (rwC c m) m % P = 1 * (b.getD (rwC c m) 0 - sumN m (fun t => ccC c (rwC c m) t * (hlL P c b m).getD t 0)) % P := em_mul ((H.c1 m hm).trans (Int.emod_eq_of_lt (by decide) hp1).symm) h1
  rw [em_add rfl h2, sumN_congr fun t ht => by rw [← hlL_pre b c.1.length m t (by omega) ht]]
  congr 1
  omega
theorem svN_sum {z x : List Int} {k : Nat} (hc : 0 ≤ c.2.1.getD k 0) : ∀ q, svN P c z k x q % P = (z.getD k 0 - sumN q (fun j => if j = cwC c k then 0 else uuC c k j * x.getD j 0)) % P
  | 0 => by simp [svN, sumN]
  | q + 1 => by
    rw [svN, sumN]
    by_cases e : (q : Int) = c.2.1.getD k 0
    · rw [if_pos e, if_pos (show q = cwC c k by unfold cwC; omega), svN_sum hc q]; congr 1; omega
    · rw [if_neg e, if_neg (show ¬ q = cwC c k by unfold cwC; omega), em_refl, em_sub (svN_sum hc q) em_refl]
      congr 1
      unfold uuC
      omega
/-- What stands at the own columns makes what it shall; what stands elsewhere stays. -/
theorem solved_ok (hP : Prm P) (hp : Md P) (hw : CupW P R C c) (H : CpC P R C A c) (z : List Int) {x : List Int} (hx : x.length = C) :
    ∀ d, d ≤ c.1.length → (∀ j, j < C → (∀ k, k < c.1.length → j ≠ cwC c k) → (svL P C c (invsT P c) z x d).getD j 0 = x.getD j 0) ∧ ∀ k, c.1.length - d ≤ k → k < c.1.length → apX C (uuC c) (fun j => (svL P C c (invsT P c) z x d).getD j 0) k % P = z.getD k 0 % P
  | 0, _ => ⟨fun _ _ _ => rfl, fun k h1 h2 => by omega⟩
  | d + 1, hd => by
    obtain ⟨h1, h2⟩ := solved_ok hP hp hw H z hx d (by omega)
    obtain ⟨m, hm⟩ : ∃ m, m = c.1.length - 1 - d := ⟨_, rfl⟩
    have hmr : m < c.1.length := by omega
    have xl := svL_len (p := P) (c := c) (vs := invsT P c) (z := z) hx d
    have hq := hw.qb (c.2.1.getD m 0) (getD_mm (by rw [hw.ql]; exact hmr))
    have hcw := H.clt m hmr
    have hv : (invsT P c).getD m 0 = finvC P (uuC c m (cwC c m)) := tbl_getD _ (by rw [hw.ul]; exact hmr)
    obtain ⟨u1, u2⟩ := hw.ur (c.2.2.2.getD m []) (getD_mm (by rw [hw.ul]; exact hmr))
    have hi := getD_of u2 (i := cwC c m) (by omega)
    have hinv : uuC c m (cwC c m) * (invsT P c).getD m 0 % P = 1 := by
      rw [hv]; exact (finvC_in hp.1 hp.2 hi (prm_gcd hP hi (hw.nz m hmr))).2
    have get : ∀ j, j < C → (svL P C c (invsT P c) z x (d + 1)).getD j 0 = if j = cwC c m then svN P c z m (svL P C c (invsT P c) z x d) C * (invsT P c).getD m 0 % P else (svL P C c (invsT P c) z x d).getD j 0 := fun j hj => by
      rw [svL, ← hm]; exact tbl_getD _ hj
    refine ⟨fun j hj hn => by rw [get j hj, if_neg (hn m hmr), h1 j hj hn], fun k h3 h4 => ?_⟩
    have e1 : apX C (uuC c) (fun j => (svL P C c (invsT P c) z x (d + 1)).getD j 0) k = sumN C (fun j => if j = cwC c m then 0 else uuC c k j * (svL P C c (invsT P c) z x d).getD j 0) + uuC c k (cwC c m) * (svN P c z m (svL P C c (invsT P c) z x d) C * (invsT P c).getD m 0 % P) := by
      unfold apX
      rw [← sumN_one (fun j => uuC c k j * (svN P c z m (svL P C c (invsT P c) z x d) C * (invsT P c).getD m 0 % P)) hcw, ← sumN_add]
      refine sumN_congr fun j hj => ?_
      (try dsimp only)
      rw [get j hj]
      by_cases e : j = cwC c m
      · rw [if_pos e, if_pos e, if_pos e, Int.zero_add]
      · rw [if_neg e, if_neg e, if_neg e, Int.add_zero]
    rw [e1]
    by_cases e : k = m
    · subst e
      have h5 := svN_sum (P := P) (c := c) (z := z) (x := svL P C c (invsT P c) z x d) (k := k) hq.1 C
      generalize sumN C (fun j => if j = cwC c k then 0 else uuC c k j * (svL P C c (invsT P c) z x d).getD j 0) = S at h5 ⊢
      generalize svN P c z k (svL P C c (invsT P c) z x d) C = N at h5 ⊢
      have h6 : uuC c k (cwC c k) * (N * (invsT P c).getD k 0 % P) % P = 1 * (z.getD k 0 - S) % P := by
        rw [em_mul rfl em_refl, show uuC c k (cwC c k) * (N * (invsT P c).getD k 0) = (uuC c k (cwC c k) * (invsT P c).getD k 0) * N by grind]
        exact em_mul (hinv.trans (Int.emod_eq_of_lt (by decide) (by have := hp.1; omega)).symm) h5
      rw [em_add rfl h6]
      congr 1
      omega
    · have h5 := h2 k (by omega) h4
      have h6 := H.uz m k (by omega) h4
      rw [← h5, Int.add_emod, em_z h6, Int.add_zero, em_refl]
      unfold apX
      refine sumN_mod fun j hj => ?_
      by_cases e : j = cwC c m
      · rw [if_pos e, e, em_z h6]; rfl
      · rw [if_neg e]
end
end Go.Proofs.Ythnfphgjfpcpbaa.TM
namespace Go.Proofs.Ythnfphgjfpcpbaa.TM
open Go Go.RowKit
set_option linter.unusedVariables false
set_option linter.defProp false
set_option linter.unusedSimpArgs false
/-- Something makes b. -/
def Sol (P R C : Nat) (l b : List Int) : Prop := ∃ x : Nat → Int, ∀ i, i < R → apX C (cl C l) x i % P = b.getD i 0 % P
theorem timesM_ap {p : Int} {R C : Nat} {l x : List Int} (hl : l.length = R * C) (hx : x.length = C) {i : Nat} (hi : i < R) : (timesM p R C l x).getD i 0 = apX C (cl C l) (fun j => x.getD j 0) i % p := timesM_get hl hx hi
theorem in_mod {p a : Int} (h : In p a) : a % p = a := Int.emod_eq_of_lt h.1 h.2
theorem list_ext0 {a b : List Int} {n : Nat} (ha : a.length = n) (hb : b.length = n) (h : ∀ i, i < n → a.getD i 0 = b.getD i 0) : a = b := by
  rw [tbl_of ha, tbl_of hb]; exact tbl_congr h
section
variable {P R C : Nat} {l b : List Int}
theorem times_sol (hl : l.length = R * C) {x : List Int} (hx : x.length = C) (h : timesM P R C l x = b) : Sol P R C l b :=
  ⟨fun j => x.getD j 0, fun i hi => by rw [← h, timesM_ap hl hx hi, em_refl]⟩
theorem memc_iff {c : CupT} (hw : CupW P R C c) {i : Nat} : (i : Int) ∈ c.2.1 ↔ ∃ k, k < c.1.length ∧ cwC c k = i := by
  constructor
  · intro h
    obtain ⟨k, hk, e⟩ := List.getElem_of_mem h
    refine ⟨k, by rw [← hw.ql]; exact hk, ?_⟩
    unfold cwC
    rw [List.getD_eq_getElem?_getD, List.getElem?_eq_getElem hk, e]; rfl
  · rintro ⟨k, hk, e⟩
    have h1 : c.2.1.getD k 0 ∈ c.2.1 := getD_mm (by rw [hw.ql]; exact hk)
    have h2 := hw.qb _ h1
    unfold cwC at e
    rw [show (i : Int) = c.2.1.getD k 0 by omega]
    exact h1
/-- What Solve tries makes the numbers that it shall of the rows that count. -/
theorem solX_rows (hP : Prm P) (M : Mt P R C l) (hin : ∀ a ∈ l, In P a) (b : List Int) : ∀ k, k < (tkCup P C R l).1.length → apX C (cl C l) (fun j => (solX P C (tkCup P C R l) b).getD j 0) (rwC (tkCup P C R l) k) % P = b.getD (rwC (tkCup P C R l) k) 0 % P := by
  have H := tkCup_Cp hP M hin
  have hw := tkCup_W hP M hin
  intro k hk
  rw [H.ap (H.rlt k hk), ← halves_ok hP H b k hk]
  refine sumN_mod fun m hm => em_mul rfl ?_
  exact (solved_ok hP M.hp hw H _ (zeroV_len C) _ (Nat.le_refl _)).2 m (by omega) hm
theorem solX_off (hP : Prm P) (M : Mt P R C l) (hin : ∀ a ∈ l, In P a) (b : List Int) : ∀ j, j < C → (∀ k, k < (tkCup P C R l).1.length → j ≠ cwC (tkCup P C R l) k) → (solX P C (tkCup P C R l) b).getD j 0 = 0 := fun j hj hn => by
  have := (solved_ok hP M.hp (tkCup_W hP M hin) (tkCup_Cp hP M hin) (hlL P (tkCup P C R l) b (tkCup P C R l).1.length) (zeroV_len C) _ (Nat.le_refl _)).1 j hj hn
  rw [show (solX P C (tkCup P C R l) b).getD j 0 = _ from this]
  exact tbl_getD _ hj
theorem sol_iff (hP : Prm P) (M : Mt P R C l) (hin : ∀ a ∈ l, In P a) (hb : ∀ a ∈ b, In P a) (hbl : b.length = R) : timesM P R C l (solX P C (tkCup P C R l) b) = b ↔ Sol P R C l b := by
  have H := tkCup_Cp hP M hin
  constructor
  · exact times_sol M.len (solX_len ..)
  · rintro ⟨x, hx⟩
    refine list_ext0 (timesM_len ..) hbl fun i hi => ?_
    rw [timesM_ap M.len (solX_len ..) hi, ← in_mod (getD_of hb (i := i) (by omega)), ← hx i hi, H.ap hi, H.ap hi]
    refine sumN_mod fun k hk => em_mul rfl ?_
    have h0 := H.cinj (z := fun k => apX C (uuC (tkCup P C R l)) (fun j => (solX P C (tkCup P C R l) b).getD j 0) k - apX C (uuC (tkCup P C R l)) x k) fun m hm => by
      rw [sumN_congr fun k _ => Int.mul_sub .., sumN_sub]
      refine emod_sub0.1 ?_
      have h1 := solX_rows hP M hin b m hm
      have h2 := hx _ (H.rlt m hm)
      rw [H.ap (H.rlt m hm)] at h1 h2
      rw [h1, h2]
    exact emod_sub0.2 (h0 k hk)
/-- What is told of a row that doesn't count. -/
structure RowV (P R C : Nat) (l : List Int) (c : CupT) (i : Nat) (y : List Int) : Prop where
  len : y.length = R
  inn : ∀ a ∈ y, In P a
  one : y.getD i 0 = 1
  sup : ∀ m, m < R → m ≠ i → (∀ k, k < c.1.length → m ≠ rwC c k) → y.getD m 0 = 0
  zero : ∀ j, j < C → sumN R (fun m => y.getD m 0 * cl C l m j) % P = 0
theorem RowV.left {c : CupT} {i : Nat} {y : List Int} (hp : Md P) (V : RowV P R C l c i y) (hl : l.length = R * C) : leftM P y R C l = zeroV C :=
  list_ext0 (leftM_len ..) (zeroV_len C) fun k hk => by rw [leftM_get V.len hk, V.zero k hk]; exact (show (zeroV C).getD k 0 = 0 from tbl_getD _ hk).symm
theorem fstI_cases {rws : List Int} {S : Nat → Bool} {R : Nat} : (fstI rws S R = none ∧ ∀ i, i < R → (i : Int) ∉ rws → S i = false) ∨ ∃ i, fstI rws S R = some i ∧ i < R ∧ (i : Int) ∉ rws ∧ S i = true := by
  unfold fstI
  cases h : (List.range R).find? (fun i : Nat => !decide ((i : Int) ∈ rws) && S i) with
  | none =>
    refine .inl ⟨rfl, fun i hi hn => ?_⟩
    have := List.find?_eq_none.1 h i (List.mem_range.2 hi)
    simpa [hn] using this
  | some i =>
    have h1 := List.find?_some h
    have h2 := List.mem_range.1 (List.mem_of_find?_eq_some h)
    simp at h1
    exact .inr ⟨i, rfl, h2, h1.1, h1.2⟩
end
end Go.Proofs.Ythnfphgjfpcpbaa.TM
namespace Go.Proofs.Ythnfphgjfpcpbaa.TM
open Go Go.RowKit
set_option linter.unusedVariables false
set_option linter.defProp false
set_option linter.unusedSimpArgs false
attribute [local irreducible] K W WOps Effs Xg Xo Xr Xdg Xdo Xdr Xif CallsP CallR
theorem prm7 : Prm 7 := ⟨by decide, fun a h0 h1 => by
  have : a = 1 ∨ a = 2 ∨ a = 3 ∨ a = 4 ∨ a = 5 ∨ a = 6 := by omega
  rcases this with rfl | rfl | rfl | rfl | rfl | rfl <;> decide⟩
set_option maxHeartbeats 4000000 in
set_option maxRecDepth 100000 in
theorem awake08_walk : CallsP Try.prog 13 [] (bl true) := by
  have M : Mt ((7 : Nat) : Int) 2 2 [1, 2, 2, 4] := ⟨⟨by decide, by decide⟩, by decide, by decide, by decide, by decide, by decide, by decide⟩
  have hi : ∀ a ∈ [1, 2, 2, 4], In ((7 : Nat) : Int) a := by show ∀ x ∈ _, 0 ≤ x ∧ x < _; decide
  have M1 : Mt ((7 : Nat) : Int) 1 1 [3] := ⟨⟨by decide, by decide⟩, by decide, by decide, by decide, by decide, by decide, by decide⟩
  have hi1 : ∀ a ∈ [3], In ((7 : Nat) : Int) a := by show ∀ x ∈ _, 0 ≤ x ∧ x < _; decide
  have b1 : ∀ a ∈ [1, 2], In ((7 : Nat) : Int) a := by show ∀ x ∈ _, 0 ≤ x ∧ x < _; decide
  have b2 : ∀ a ∈ [1, 3], In ((7 : Nat) : Int) a := by show ∀ x ∈ _, 0 ≤ x ∧ x < _; decide
  have d1 := solve_yes prm7 M hi b1 rfl
  have d2 := against8_yes prm7 M hi b2 rfl
  have d3 := kernel8_yes prm7 M hi
  have d4 := left8_yes prm7 M hi
  have d5 := rows8_yes prm7 M hi 1
  have d6 := inverse8_yes prm7 M1 hi1 (by decide +kernel)
  rw [if_pos (by decide +kernel), show solX ((7 : Nat) : Int) 2 (tkCup ((7 : Nat) : Int) 2 2 [1, 2, 2, 4]) [1, 2] = [1, 0] by decide +kernel] at d1
  rw [show fstR ((7 : Nat) : Int) 2 (tkCup ((7 : Nat) : Int) 2 2 [1, 2, 2, 4]) (fun y => dotNz ((7 : Nat) : Int) y [1, 3]) = ([5, 1], 0) by decide +kernel] at d2
  rw [show kernR ((7 : Nat) : Int) 2 (tkCup ((7 : Nat) : Int) 2 2 [1, 2, 2, 4]) = ([5, 1], 0) by decide +kernel] at d3
  rw [show fstR ((7 : Nat) : Int) 2 (tkCup ((7 : Nat) : Int) 2 2 [1, 2, 2, 4]) (fun _ => true) = ([5, 1], 0) by decide +kernel] at d4
  rw [if_neg (by decide), if_neg (by decide +kernel), show rowsV ((7 : Nat) : Int) 2 (tkCup ((7 : Nat) : Int) 2 2 [1, 2, 2, 4]) (Int.toNat 1) = [5, 1] by decide +kernel] at d5
  rw [show turnM 1 1 (invJ ((7 : Nat) : Int) 1 (tkCup ((7 : Nat) : Int) 1 1 [3]) 1) = [5] by decide +kernel] at d6
  have d7 := same_walk [1, 0] [1, 0] (by decide)
  have d8 := same_walk [5, 1] [5, 1] (by decide)
  have d9 := same_walk [5] [5] (by decide)
  rw [decide_eq_true rfl] at d7 d8 d9
  refine X_startP (n := 102) (m := 0) (rs := [.tmp 0]) Try.func13 rfl rfl rfl rfl (by decide) fun base => ?_
  repeat (first | ((first | refine X_call_fn2 rfl (by simp only [tys]) ?_ | refine X_dcall_fn2 rfl (by simp only [tys]) ?_); apply Exists.intro; apply And.intro; (focus (simp -dsimp only [simx, zzC, zzB, tys, ite_self, opnL, callB, callX, readsB, stepOp, nilCmp, ofVal, opBuiltin, opLen, PV.sk, scalBin, scalUn, intBin, opLoad, natOf, opConvert, opField, cellsP, oneP, Value.oneCell', opStore, toIV, scalT, scalA, scalC, boxesA, boxesC, zipB_none, zipB_mx, isZ, opZip, zeroP, opAppendZ, opMakeMap, opLookup, mboxB, opUpdate, ↓reduceIte, Nat.reduceSub, Nat.reduceEqDiff, Nat.reduceAdd, Nat.reduceMul, Nat.reduceLT, Nat.reduceLeDiff, Int.reduceToNat, Int.reduceLE, Int.reduceLT, Int.reduceNeg, reduceCtorEq, zzL, if_true, if_false] <;> rfl)); apply Exists.intro; apply And.intro; (focus (first | exact d1 | exact d2 | exact d3 | exact d4 | exact d5 | exact d6 | exact d7 | exact d8 | exact d9))) | refine X_opc rfl ?_ | refine X_dopc rfl ?_ | refine ⟨(by show drawK _ _ = true; kernel_rfl : drawX _ _ _), ?_⟩ | exact (by show drawK _ _ = true; kernel_rfl : drawX _ _ _) | simp -dsimp (maxSteps := 20000000) (disch := omega) only [simx, zzC, zzB, tys, ite_self, opnL, callB, callX, readsB, stepOp, nilCmp, ofVal, opBuiltin, opLen, PV.sk, scalBin, scalUn, intBin, opLoad, natOf, opConvert, opField, cellsP, oneP, Value.oneCell', opStore, toIV, scalT, scalA, scalC, boxesA, boxesC, zipB_none, zipB_mx, isZ, opZip, zeroP, opAppendZ, opMakeMap, opLookup, mboxB, opUpdate, ↓reduceIte, Nat.reduceSub, Nat.reduceEqDiff, Nat.reduceAdd, Nat.reduceMul, Nat.reduceLT, Nat.reduceLeDiff, Int.reduceToNat, Int.reduceLE, Int.reduceLT, Int.reduceNeg, reduceCtorEq, zzR, gos, Int.reduceAdd, Int.reduceSub, Int.reduceMul, Int.reduceEq])
theorem prime8_walk (p : Nat) (hp : p < 18446744073709551616) : ∃ b, CallsP Try.prog 14 [u64 p] (bl b) ∧ (b = true → Prm p) := by
  by_cases c1 : (p : Int) = 2147483647
  · refine ⟨true, ?_, fun _ => by obtain rfl : p = 2147483647 := by omega
                                  exact prm31⟩
    refine X_startP (n := 17) (m := 1) (rs := [.tmp 2]) Try.func14 rfl rfl rfl rfl (by decide) fun base => ?_
    repeat (first | refine X_opc rfl ?_ | refine X_dopc rfl ?_ | refine ⟨(by show drawK _ _ = true; kernel_rfl : drawX _ _ _), ?_⟩ | exact (by show drawK _ _ = true; kernel_rfl : drawX _ _ _) | simp -dsimp (maxSteps := 20000000) (disch := omega) only [simx, zzC, zzB, tys, ite_self, opnL, callB, callX, readsB, stepOp, nilCmp, ofVal, opBuiltin, opLen, PV.sk, scalBin, scalUn, intBin, opLoad, natOf, opConvert, opField, cellsP, oneP, Value.oneCell', opStore, toIV, scalT, scalA, scalC, boxesA, boxesC, zipB_none, zipB_mx, isZ, opZip, zeroP, opAppendZ, opMakeMap, opLookup, mboxB, opUpdate, ↓reduceIte, Nat.reduceSub, Nat.reduceEqDiff, Nat.reduceAdd, Nat.reduceMul, Nat.reduceLT, Nat.reduceLeDiff, Int.reduceToNat, Int.reduceLE, Int.reduceLT, Int.reduceNeg, reduceCtorEq, zzR, gos, Int.reduceAdd, Int.reduceSub, Int.reduceMul, Int.reduceEq])
  by_cases c2 : (p : Int) = 2305843009213693951
  · refine ⟨true, ?_, fun _ => by obtain rfl : p = 2305843009213693951 := by omega
                                  exact prm61⟩
    refine X_startP (n := 17) (m := 1) (rs := [.tmp 2]) Try.func14 rfl rfl rfl rfl (by decide) fun base => ?_
    repeat (first | refine X_opc rfl ?_ | refine X_dopc rfl ?_ | refine ⟨(by show drawK _ _ = true; kernel_rfl : drawX _ _ _), ?_⟩ | exact (by show drawK _ _ = true; kernel_rfl : drawX _ _ _) | simp -dsimp (maxSteps := 20000000) (disch := omega) only [simx, zzC, zzB, tys, ite_self, opnL, callB, callX, readsB, stepOp, nilCmp, ofVal, opBuiltin, opLen, PV.sk, scalBin, scalUn, intBin, opLoad, natOf, opConvert, opField, cellsP, oneP, Value.oneCell', opStore, toIV, scalT, scalA, scalC, boxesA, boxesC, zipB_none, zipB_mx, isZ, opZip, zeroP, opAppendZ, opMakeMap, opLookup, mboxB, opUpdate, ↓reduceIte, Nat.reduceSub, Nat.reduceEqDiff, Nat.reduceAdd, Nat.reduceMul, Nat.reduceLT, Nat.reduceLeDiff, Int.reduceToNat, Int.reduceLE, Int.reduceLT, Int.reduceNeg, reduceCtorEq, zzR, gos, Int.reduceAdd, Int.reduceSub, Int.reduceMul, Int.reduceEq])
  by_cases c3 : (p : Int) < 1048576
  · obtain ⟨b, d, h⟩ := is_walk p (by omega)
    refine ⟨b, ?_, h⟩
    refine X_startP (n := 17) (m := 1) (rs := [.tmp 2]) Try.func14 rfl rfl rfl rfl (by decide) fun base => ?_
    repeat (first | ((first | refine X_call_fn2 rfl (by simp only [tys]) ?_ | refine X_dcall_fn2 rfl (by simp only [tys]) ?_); apply Exists.intro; apply And.intro; (focus (simp -dsimp only [simx, zzC, zzB, tys, ite_self, opnL, callB, callX, readsB, stepOp, nilCmp, ofVal, opBuiltin, opLen, PV.sk, scalBin, scalUn, intBin, opLoad, natOf, opConvert, opField, cellsP, oneP, Value.oneCell', opStore, toIV, scalT, scalA, scalC, boxesA, boxesC, zipB_none, zipB_mx, isZ, opZip, zeroP, opAppendZ, opMakeMap, opLookup, mboxB, opUpdate, ↓reduceIte, Nat.reduceSub, Nat.reduceEqDiff, Nat.reduceAdd, Nat.reduceMul, Nat.reduceLT, Nat.reduceLeDiff, Int.reduceToNat, Int.reduceLE, Int.reduceLT, Int.reduceNeg, reduceCtorEq, zzL, if_true, if_false] <;> rfl)); apply Exists.intro; apply And.intro; (focus (first | exact d))) | refine X_opc rfl ?_ | refine X_dopc rfl ?_ | refine ⟨(by show drawK _ _ = true; kernel_rfl : drawX _ _ _), ?_⟩ | exact (by show drawK _ _ = true; kernel_rfl : drawX _ _ _) | simp -dsimp (maxSteps := 20000000) (disch := omega) only [simx, zzC, zzB, tys, ite_self, opnL, callB, callX, readsB, stepOp, nilCmp, ofVal, opBuiltin, opLen, PV.sk, scalBin, scalUn, intBin, opLoad, natOf, opConvert, opField, cellsP, oneP, Value.oneCell', opStore, toIV, scalT, scalA, scalC, boxesA, boxesC, zipB_none, zipB_mx, isZ, opZip, zeroP, opAppendZ, opMakeMap, opLookup, mboxB, opUpdate, ↓reduceIte, Nat.reduceSub, Nat.reduceEqDiff, Nat.reduceAdd, Nat.reduceMul, Nat.reduceLT, Nat.reduceLeDiff, Int.reduceToNat, Int.reduceLE, Int.reduceLT, Int.reduceNeg, reduceCtorEq, zzR, gos, Int.reduceAdd, Int.reduceSub, Int.reduceMul, Int.reduceEq])
  · refine ⟨false, ?_, fun h => by cases h⟩
    refine X_startP (n := 17) (m := 1) (rs := [.tmp 2]) Try.func14 rfl rfl rfl rfl (by decide) fun base => ?_
    repeat (first | refine X_opc rfl ?_ | refine X_dopc rfl ?_ | refine ⟨(by show drawK _ _ = true; kernel_rfl : drawX _ _ _), ?_⟩ | exact (by show drawK _ _ = true; kernel_rfl : drawX _ _ _) | simp -dsimp (maxSteps := 20000000) (disch := omega) only [simx, zzC, zzB, tys, ite_self, opnL, callB, callX, readsB, stepOp, nilCmp, ofVal, opBuiltin, opLen, PV.sk, scalBin, scalUn, intBin, opLoad, natOf, opConvert, opField, cellsP, oneP, Value.oneCell', opStore, toIV, scalT, scalA, scalC, boxesA, boxesC, zipB_none, zipB_mx, isZ, opZip, zeroP, opAppendZ, opMakeMap, opLookup, mboxB, opUpdate, ↓reduceIte, Nat.reduceSub, Nat.reduceEqDiff, Nat.reduceAdd, Nat.reduceMul, Nat.reduceLT, Nat.reduceLeDiff, Int.reduceToNat, Int.reduceLE, Int.reduceLT, Int.reduceNeg, reduceCtorEq, zzR, gos, Int.reduceAdd, Int.reduceSub, Int.reduceMul, Int.reduceEq])
end Go.Proofs.Ythnfphgjfpcpbaa.TM
namespace Go.Proofs.Ythnfphgjfpcpbaa.TM
open Go Go.RowKit
set_option linter.unusedVariables false
set_option linter.defProp false
set_option linter.unusedSimpArgs false
attribute [local irreducible] K W WOps Effs Xg Xo Xr Xdg Xdo Xdr Xif CallsP CallR
theorem len_ok {P R C : Nat} {l : List Int} (M : Mt P R C l) : l.length ≤ maxLen := by have := M.len; have := rc_bd M.r2 M.c2; rw [mx_len]; omega
theorem timesR_in {P R C : Nat} {l x : List Int} (M : Mt P R C l) (hx : ∀ a ∈ x, In P a) (hl : x.length = C) : timesR P R C l x = (timesM P R C l x, 0) := by
  unfold timesR
  rw [mat_mk M, (has_iff _ _).2 ⟨fun a ha => (hx a ha).2, M.hp.1, M.hp.2⟩, decide_eq_true (show (x.length : Int) = C by omega)]; rfl
theorem w64_of_in {P : Int} (hp : Md P) {l : List Int} (h : ∀ a ∈ l, In P a) : W64s l := fun a ha => in_w64 hp (h a ha)
theorem times_of {P R C : Nat} {l x : List Int} (M : Mt P R C l) (hin : ∀ a ∈ l, In P a) (hx : ∀ a ∈ x, In P a) (hl : x.length = C) : CallsP Try.prog 31 [u64 P, matP R C l, lu x] (.tup [lu (timesM P R C l x), i64 0]) := by
  have h := times_walk P R C l x (len_ok M) (by rw [hl, mx_len]; have := M.c2; omega) (w64_of_in M.hp hin) (w64_of_in M.hp hx)
  rw [timesR_in M hx hl] at h; exact h
theorem solve_sol {P R C : Nat} {l b : List Int} (hP : Prm P) (M : Mt P R C l) (hin : ∀ a ∈ l, In P a) (hb : ∀ a ∈ b, In P a) (hbl : b.length = R) (hs : Sol P R C l b) : CallsP Try.prog 15 [u64 P, matP R C l, lu b] (.tup [lu (solX P C (tkCup P C R l) b), i64 0]) := by
  have h := solve_yes hP M hin hb hbl
  rw [if_pos ((sol_iff hP M hin hb hbl).2 hs)] at h; exact h
theorem solve_none {P R C : Nat} {l b : List Int} (hP : Prm P) (M : Mt P R C l) (hin : ∀ a ∈ l, In P a) (hb : ∀ a ∈ b, In P a) (hbl : b.length = R) (hs : ¬ Sol P R C l b) : CallsP Try.prog 15 [u64 P, matP R C l, lu b] (.tup [lu [], i64 6]) := by
  have h := solve_yes hP M hin hb hbl
  rw [if_neg fun e => hs ((sol_iff hP M hin hb hbl).1 e)] at h; exact h
theorem same_eq (a : List Int) (hl : a.length ≤ maxLen) : CallsP Try.prog 24 [lu a, lu a] (bl true) := by
  have h := same_walk a a hl; rw [decide_eq_true rfl] at h; exact h
end Go.Proofs.Ythnfphgjfpcpbaa.TM
namespace Go.Proofs.Ythnfphgjfpcpbaa.TM
open Go Go.RowKit
set_option linter.unusedVariables false
set_option linter.defProp false
set_option linter.unusedSimpArgs false
section
variable {P R C : Nat} {l b : List Int}
theorem CpC.rle_c {A : Mx} {c : CupT} (H : CpC P R C A c) : c.1.length ≤ C :=
  pigeon C c.1.length (cwC c) (fun i hi => H.clt i hi) (fun i j hij hj he => by have := H.cdis (by omega) hj he; omega)
theorem free_none {c : CupT} (hw : CupW P R C c) {A : Mx} (H : CpC P R C A c) (h : ∀ j, j < C → (j : Int) ∈ c.2.1) : c.1.length = C := by
  refine Nat.le_antisymm H.rle_c ?_
  have hs : ∀ j, j < C → ∃ k, k < c.1.length ∧ cwC c k = j := fun j hj => (memc_iff hw).1 (h j hj)
  exact pigeon c.1.length C (fun j => if h : ∃ k, k < c.1.length ∧ cwC c k = j then Classical.choose h else 0) (fun j hj => by
    simp only [dif_pos (hs j hj)]; exact (Classical.choose_spec (hs j hj)).1) (fun i j hij hj he => by
    simp only [dif_pos (hs i (by omega)), dif_pos (hs j hj)] at he
    have h1 := (Classical.choose_spec (hs i (by omega))).2
    have h2 := (Classical.choose_spec (hs j hj)).2
    rw [he, h2] at h1; omega)
theorem free_some {c : CupT} (hw : CupW P R C c) {A : Mx} (H : CpC P R C A c) {f : Nat} (hf : f < C) (h : (f : Int) ∉ c.2.1) : c.1.length < C := by
  refine pigeon C (c.1.length + 1) (fun i => if i < c.1.length then cwC c i else f) (fun i hi => ?_) (fun i j hij hj he => ?_)
  · (try dsimp only)
    split
    · exact H.clt i (by assumption)
    · exact hf
  · (try dsimp only at he)
    rw [if_pos (by omega)] at he
    by_cases e : j < c.1.length
    · rw [if_pos e] at he
      have := H.cdis (by omega) e he; omega
    · rw [if_neg e] at he
      exact h ((memc_iff hw).2 ⟨i, by omega, he⟩)
theorem kerX_len (c : CupT) (f : Nat) : (kerX P C c f).length = C := svL_len (uniV_len C f) _
theorem kerX_in (hp : Md P) (c : CupT) (f : Nat) : ∀ a ∈ kerX P C c f, In P a := svL_in hp (uniV_in hp C f) (uniV_len C f) _
theorem kerX_one (hP : Prm P) (M : Mt P R C l) (hin : ∀ a ∈ l, In P a) {f : Nat} (hf : f < C) (h : (f : Int) ∉ (tkCup P C R l).2.1) : (kerX P C (tkCup P C R l) f).getD f 0 = 1 := by
  have hw := tkCup_W hP M hin
  have := (solved_ok hP M.hp hw (tkCup_Cp hP M hin) (zeroV (tkCup P C R l).1.length) (uniV_len C f) _ (Nat.le_refl _)).1 f hf fun k hk e => h ((memc_iff hw).2 ⟨k, hk, e.symm⟩)
  rw [show (kerX P C (tkCup P C R l) f).getD f 0 = _ from this]
  rw [show (uniV C f).getD f 0 = _ from tbl_getD _ hf, if_pos rfl]
theorem zeroV_get {n i : Nat} (h : i < n) : (zeroV n).getD i 0 = 0 := tbl_getD _ h
theorem kerX_zero (hP : Prm P) (M : Mt P R C l) (hin : ∀ a ∈ l, In P a) (f : Nat) : timesM P R C l (kerX P C (tkCup P C R l) f) = zeroV R := by
  have H := tkCup_Cp hP M hin
  refine list_ext0 (timesM_len ..) (zeroV_len R) fun i hi => ?_
  rw [timesM_ap M.len (kerX_len ..) hi, zeroV_get hi]
  refine H.ker.2 (fun k hk => ?_) i hi
  have := (solved_ok hP M.hp (tkCup_W hP M hin) H (zeroV (tkCup P C R l).1.length) (uniV_len C f) _ (Nat.le_refl _)).2 k (by omega) hk
  rw [zeroV_get hk] at this
  exact this
theorem kern_cases (hP : Prm P) (M : Mt P R C l) (hin : ∀ a ∈ l, In P a) : (kernR P C (tkCup P C R l) = ([], 6) ∧ (tkCup P C R l).1.length = C) ∨
    ∃ x, kernR P C (tkCup P C R l) = (x, 0) ∧ (tkCup P C R l).1.length < C ∧ x.length = C ∧ (∀ a ∈ x, In P a) ∧ timesM P R C l x = zeroV R ∧ x ≠ zeroV C := by
  have hw := tkCup_W hP M hin
  have H := tkCup_Cp hP M hin
  rcases fstI_cases (rws := (tkCup P C R l).2.1) (S := fun _ => true) (R := C) with ⟨e, h⟩ | ⟨f, e, h1, h2, _⟩
  · refine .inl ⟨by unfold kernR freeI; rw [e], free_none hw H fun j hj => Classical.byContradiction fun hn => by have := h j hj hn; cases this⟩
  · refine .inr ⟨kerX P C (tkCup P C R l) f, by unfold kernR freeI; rw [e], free_some hw H h1 h2, kerX_len _ f, kerX_in M.hp _ f, kerX_zero hP M hin f, fun e => ?_⟩
    have h3 := kerX_one hP M hin h1 h2
    rw [e, zeroV_get h1] at h3
    cases h3
end
end Go.Proofs.Ythnfphgjfpcpbaa.TM
namespace Go.Proofs.Ythnfphgjfpcpbaa.TM
open Go Go.RowKit
set_option linter.unusedVariables false
set_option linter.defProp false
set_option linter.unusedSimpArgs false
attribute [local irreducible] K W WOps Effs Xg Xo Xr Xdg Xdo Xdr Xif CallsP CallR
/-- The sum of two lists of n numbers. -/
def sumL (p : Int) (n : Nat) (x y : List Int) : List Int := tbl n (fun i => (x.getD i 0 + y.getD i 0) % p)
theorem sumL_len (p : Int) (n : Nat) (x y : List Int) : (sumL p n x y).length = n := tbl_len ..
theorem sumL_in {p : Int} (hp : Md p) (n : Nat) (x y : List Int) : ∀ a ∈ sumL p n x y, In p a := fun a ha => by
  obtain ⟨m, _, rfl⟩ := tbl_mem ha
  exact in_emod hp _
theorem sumL_get {p : Int} {n i : Nat} {x y : List Int} (h : i < n) : (sumL p n x y).getD i 0 = (x.getD i 0 + y.getD i 0) % p := tbl_getD _ h
section
variable {P R C : Nat} {l b d : List Int}
theorem times_sum (hl : l.length = R * C) {x y : List Int} (hx : x.length = C) (hy : y.length = C) : timesM P R C l (sumL P C x y) = sumL P R (timesM P R C l x) (timesM P R C l y) := by
  refine list_ext0 (timesM_len ..) (sumL_len ..) fun i hi => ?_
  rw [timesM_ap hl (sumL_len ..) hi, sumL_get hi, timesM_ap hl hx hi, timesM_ap hl hy hi, apX_mod (y := fun j => x.getD j 0 + y.getD j 0) (fun j hj => by rw [sumL_get hj, em_refl]), apX_add]
  exact (em_add em_refl em_refl).symm
theorem sol_sum (hP : Prm P) (M : Mt P R C l) (hin : ∀ a ∈ l, In P a) (hb : ∀ a ∈ b, In P a) (hbl : b.length = R) (hd : ∀ a ∈ d, In P a) (hdl : d.length = R) (s1 : Sol P R C l b) (s2 : Sol P R C l d) :
    timesM P R C l (sumL P C (solX P C (tkCup P C R l) b) (solX P C (tkCup P C R l) d)) = sumL P R b d := by
  rw [times_sum M.len (solX_len ..) (solX_len ..), (sol_iff hP M hin hb hbl).2 s1, (sol_iff hP M hin hd hdl).2 s2]
theorem sum_Sol (hP : Prm P) (M : Mt P R C l) (hin : ∀ a ∈ l, In P a) (hb : ∀ a ∈ b, In P a) (hbl : b.length = R) (hd : ∀ a ∈ d, In P a) (hdl : d.length = R) (s1 : Sol P R C l b) (s2 : Sol P R C l d) : Sol P R C l (sumL P R b d) :=
  times_sol M.len (sumL_len ..) (sol_sum hP M hin hb hbl hd hdl s1 s2)
/-- A solution that is 0 off the own columns is the one that is told. -/
theorem sol_uniq (hP : Prm P) (M : Mt P R C l) (hin : ∀ a ∈ l, In P a) (hb : ∀ a ∈ b, In P a) (hbl : b.length = R) {x : List Int} (hx : ∀ a ∈ x, In P a) (hxl : x.length = C) (h : timesM P R C l x = b)
    (h0 : ∀ j, j < C → (∀ k, k < (tkCup P C R l).1.length → j ≠ cwC (tkCup P C R l) k) → x.getD j 0 = 0) : solX P C (tkCup P C R l) b = x := by
  have H := tkCup_Cp hP M hin
  have e := (sol_iff hP M hin hb hbl).2 (times_sol M.len hxl h)
  have off := solX_off hP M hin b
  have hs := solX_in (C := C) M.hp (tkCup P C R l) b
  have sl := solX_len P C (tkCup P C R l) b
  generalize solX P C (tkCup P C R l) b = s at e off hs sl
  refine list_ext0 sl hxl fun j hj => ?_
  rw [← in_mod (getD_of hs (i := j) (by omega)), ← in_mod (getD_of hx (i := j) (by omega))]
  refine emod_sub0.2 (H.uinj hP (x := fun j => s.getD j 0 - x.getD j 0) (fun m hm hk => by (try dsimp only); rw [off m hm hk, h0 m hm hk]; rfl) (H.ker.1 fun i hi => ?_) j hj)
  rw [apX_sub]
  refine emod_sub0.1 ?_
  rw [← timesM_ap M.len sl hi, ← timesM_ap M.len hxl hi, e, h]
theorem sum_solX (hP : Prm P) (M : Mt P R C l) (hin : ∀ a ∈ l, In P a) (hb : ∀ a ∈ b, In P a) (hbl : b.length = R) (hd : ∀ a ∈ d, In P a) (hdl : d.length = R) (s1 : Sol P R C l b) (s2 : Sol P R C l d) :
    solX P C (tkCup P C R l) (sumL P R b d) = sumL P C (solX P C (tkCup P C R l) b) (solX P C (tkCup P C R l) d) :=
  sol_uniq hP M hin (sumL_in M.hp _ _ _) (sumL_len ..) (sumL_in M.hp _ _ _) (sumL_len ..) (sol_sum hP M hin hb hbl hd hdl s1 s2) fun j hj hk => by
    rw [sumL_get hj, solX_off hP M hin b j hj hk, solX_off hP M hin d j hj hk]; rfl
theorem more_times (M : Mt P R C l) (hb : ∀ a ∈ b, In P a) (hbl : b.length = R) {x k : List Int} (hx : x.length = C) (hk : k.length = C) (e1 : timesM P R C l x = b) (e2 : timesM P R C l k = zeroV R) : timesM P R C l (sumL P C x k) = b := by
  rw [times_sum M.len hx hk, e1, e2]
  refine list_ext0 (sumL_len ..) hbl fun i hi => ?_
  rw [sumL_get hi, zeroV_get hi, Int.add_zero]
  exact in_mod (getD_of hb (by omega))
theorem more_ne {x k : List Int} (hx : ∀ a ∈ x, In P a) (hki : ∀ a ∈ k, In P a) (hxl : x.length = C) (hk : k.length = C) (h : k ≠ zeroV C) : sumL P C x k ≠ x := fun e => by
  refine h (list_ext0 hk (zeroV_len C) fun j hj => ?_)
  rw [zeroV_get hj, ← in_mod (getD_of hki (i := j) (by omega))]
  have h1 := sumL_get (p := P) (n := C) (x := x) (y := k) hj
  rw [e, ← in_mod (getD_of hx (i := j) (by omega))] at h1
  have h2 := emod_sub0.1 h1.symm
  rw [in_mod (getD_of hx (i := j) (by omega))] at h2
  rw [show x.getD j 0 + k.getD j 0 - x.getD j 0 = k.getD j 0 by omega] at h2
  exact h2
end
theorem rowP_p8 (s : Name) (z : Nat) (cs : List IV) {n : Nat} (h : 0 < n) : rowP s z n cs = .view s 0 z n cs.length := by
  obtain ⟨m, rfl⟩ : ∃ m, n = m + 1 := ⟨n - 1, by omega⟩
  rfl
theorem rowH_p8 (h : Heap) (s : Name) (cs : List IV) {n : Nat} (hn : 0 < n) : rowH h s n cs = h.put s (.row false cs) := by
  obtain ⟨m, rfl⟩ : ∃ m, n = m + 1 := ⟨n - 1, by omega⟩
  rfl
set_option maxHeartbeats 16000000 in
theorem solveMore_true (a0 : Int) (a1 : Int × Int × List Int) (a2 : List Int) (a3 : List Int) (w0 : (Lit.int .u64 a0).wf = true) (w1 : ((Lit.int .i64 a1.1).wf = true ∧ (Lit.int .i64 a1.2.1).wf = true ∧ (a1.2.2.length ≤ maxLen ∧ ∀ e23_ ∈ a1.2.2, (Lit.int .u64 e23_).wf = true))) (w2 : (a2.length ≤ maxLen ∧ ∀ e23_ ∈ a2, (Lit.int .u64 e23_).wf = true)) (w3 : (a3.length ≤ maxLen ∧ ∀ e23_ ∈ a3, (Lit.int .u64 e23_).wf = true)) :
    CallsP Try.prog 4 [.i (IV.v (.int .u64 a0)), .agg [.i (IV.v (.int .i64 a1.1)), .i (IV.v (.int .i64 a1.2.1)), .i (IV.l a1.2.2.length (a1.2.2.map fun y => IV.v (.int .u64 y)))], .i (IV.l a2.length (a2.map fun y => IV.v (.int .u64 y))), .i (IV.l a3.length (a3.map fun y => IV.v (.int .u64 y)))] (bl true) := by
  obtain ⟨r, c, l⟩ := a1
  obtain ⟨v1, v2, v3, v4⟩ := w1
  obtain ⟨v5, v6⟩ := w2
  obtain ⟨v7, v8⟩ := w3
  simp only at v1 v2 v3 v4 v5 v6 v7 v8 ⊢
  have wp := w64_of w0
  obtain ⟨P, rfl⟩ : ∃ P : Nat, a0 = P := ⟨a0.toNat, by have := wp.1; omega⟩
  have wl := w64_all v4
  have wb := w64_all v6
  have wv := w64_all v8
  obtain ⟨pb, d1, hpr⟩ := prime8_walk P (by have := wp.2; omega)
  have d0 := awake08_walk
  have d2 := mright_walk P r c l v3
  have d3 := has_walk P a2 v5
  have d4 := has_walk P a3 v7
  change CallsP Try.prog 4 [u64 P, matP r c l, lu a2, lu a3] (bl true)
  by_cases c0 : l.length ≤ 150
  case neg =>
    have c0' : (150 : Int) < l.length := by omega
    refine X_startP (n := 221) (m := 4) (rs := [.tmp 8]) Try.func4 rfl rfl rfl rfl (by decide) fun base => ?_
    repeat (first | ((first | refine X_call_fn2 rfl (by simp only [tys]) ?_ | refine X_dcall_fn2 rfl (by simp only [tys]) ?_); apply Exists.intro; apply And.intro; (focus (simp -dsimp only [simx, zzC, zzB, tys, ite_self, opnL, callB, callX, readsB, stepOp, nilCmp, ofVal, opBuiltin, opLen, PV.sk, scalBin, scalUn, intBin, opLoad, natOf, opConvert, opField, cellsP, oneP, Value.oneCell', opStore, toIV, scalT, scalA, scalC, boxesA, boxesC, zipB_none, zipB_mx, isZ, opZip, zeroP, opAppendZ, opMakeMap, opLookup, mboxB, opUpdate, ↓reduceIte, Nat.reduceSub, Nat.reduceEqDiff, Nat.reduceAdd, Nat.reduceMul, Nat.reduceLT, Nat.reduceLeDiff, Int.reduceToNat, Int.reduceLE, Int.reduceLT, Int.reduceNeg, reduceCtorEq, zzL, if_true, if_false] <;> rfl)); apply Exists.intro; apply And.intro; (focus (first | exact d0))) | refine X_opc rfl ?_ | refine X_dopc rfl ?_ | refine ⟨(by show drawK _ _ = true; kernel_rfl : drawX _ _ _), ?_⟩ | exact (by show drawK _ _ = true; kernel_rfl : drawX _ _ _) | simp -dsimp (maxSteps := 20000000) (disch := omega) only [simx, zzC, zzB, tys, ite_self, opnL, callB, callX, readsB, stepOp, nilCmp, ofVal, opBuiltin, opLen, PV.sk, scalBin, scalUn, intBin, opLoad, natOf, opConvert, opField, cellsP, oneP, Value.oneCell', opStore, toIV, scalT, scalA, scalC, boxesA, boxesC, zipB_none, zipB_mx, isZ, opZip, zeroP, opAppendZ, opMakeMap, opLookup, mboxB, opUpdate, ↓reduceIte, Nat.reduceSub, Nat.reduceEqDiff, Nat.reduceAdd, Nat.reduceMul, Nat.reduceLT, Nat.reduceLeDiff, Int.reduceToNat, Int.reduceLE, Int.reduceLT, Int.reduceNeg, reduceCtorEq, zzR, gos, Int.reduceAdd, Int.reduceSub, Int.reduceMul, Int.reduceEq, c0'])
  have c0' : ¬ (150 : Int) < l.length := by omega
  cases pb with
  | false =>
    refine X_startP (n := 221) (m := 4) (rs := [.tmp 8]) Try.func4 rfl rfl rfl rfl (by decide) fun base => ?_
    repeat (first | ((first | refine X_call_fn2 rfl (by simp only [tys]) ?_ | refine X_dcall_fn2 rfl (by simp only [tys]) ?_); apply Exists.intro; apply And.intro; (focus (simp -dsimp only [simx, zzC, zzB, tys, ite_self, opnL, callB, callX, readsB, stepOp, nilCmp, ofVal, opBuiltin, opLen, PV.sk, scalBin, scalUn, intBin, opLoad, natOf, opConvert, opField, cellsP, oneP, Value.oneCell', opStore, toIV, scalT, scalA, scalC, boxesA, boxesC, zipB_none, zipB_mx, isZ, opZip, zeroP, opAppendZ, opMakeMap, opLookup, mboxB, opUpdate, ↓reduceIte, Nat.reduceSub, Nat.reduceEqDiff, Nat.reduceAdd, Nat.reduceMul, Nat.reduceLT, Nat.reduceLeDiff, Int.reduceToNat, Int.reduceLE, Int.reduceLT, Int.reduceNeg, reduceCtorEq, zzL, if_true, if_false] <;> rfl)); apply Exists.intro; apply And.intro; (focus (first | exact d0 | exact d1))) | refine X_opc rfl ?_ | refine X_dopc rfl ?_ | refine ⟨(by show drawK _ _ = true; kernel_rfl : drawX _ _ _), ?_⟩ | exact (by show drawK _ _ = true; kernel_rfl : drawX _ _ _) | simp -dsimp (maxSteps := 20000000) (disch := omega) only [simx, zzC, zzB, tys, ite_self, opnL, callB, callX, readsB, stepOp, nilCmp, ofVal, opBuiltin, opLen, PV.sk, scalBin, scalUn, intBin, opLoad, natOf, opConvert, opField, cellsP, oneP, Value.oneCell', opStore, toIV, scalT, scalA, scalC, boxesA, boxesC, zipB_none, zipB_mx, isZ, opZip, zeroP, opAppendZ, opMakeMap, opLookup, mboxB, opUpdate, ↓reduceIte, Nat.reduceSub, Nat.reduceEqDiff, Nat.reduceAdd, Nat.reduceMul, Nat.reduceLT, Nat.reduceLeDiff, Int.reduceToNat, Int.reduceLE, Int.reduceLT, Int.reduceNeg, reduceCtorEq, zzR, gos, Int.reduceAdd, Int.reduceSub, Int.reduceMul, Int.reduceEq, c0'])
  | true =>
  have hP := hpr rfl
  cases hm : MatB P r c l with
  | false =>
    rw [hm] at d2
    refine X_startP (n := 221) (m := 4) (rs := [.tmp 8]) Try.func4 rfl rfl rfl rfl (by decide) fun base => ?_
    repeat (first | ((first | refine X_call_fn2 rfl (by simp only [tys]) ?_ | refine X_dcall_fn2 rfl (by simp only [tys]) ?_); apply Exists.intro; apply And.intro; (focus (simp -dsimp only [simx, zzC, zzB, tys, ite_self, opnL, callB, callX, readsB, stepOp, nilCmp, ofVal, opBuiltin, opLen, PV.sk, scalBin, scalUn, intBin, opLoad, natOf, opConvert, opField, cellsP, oneP, Value.oneCell', opStore, toIV, scalT, scalA, scalC, boxesA, boxesC, zipB_none, zipB_mx, isZ, opZip, zeroP, opAppendZ, opMakeMap, opLookup, mboxB, opUpdate, ↓reduceIte, Nat.reduceSub, Nat.reduceEqDiff, Nat.reduceAdd, Nat.reduceMul, Nat.reduceLT, Nat.reduceLeDiff, Int.reduceToNat, Int.reduceLE, Int.reduceLT, Int.reduceNeg, reduceCtorEq, zzL, if_true, if_false] <;> rfl)); apply Exists.intro; apply And.intro; (focus (first | exact d0 | exact d1 | exact d2))) | refine X_opc rfl ?_ | refine X_dopc rfl ?_ | refine ⟨(by show drawK _ _ = true; kernel_rfl : drawX _ _ _), ?_⟩ | exact (by show drawK _ _ = true; kernel_rfl : drawX _ _ _) | simp -dsimp (maxSteps := 20000000) (disch := omega) only [simx, zzC, zzB, tys, ite_self, opnL, callB, callX, readsB, stepOp, nilCmp, ofVal, opBuiltin, opLen, PV.sk, scalBin, scalUn, intBin, opLoad, natOf, opConvert, opField, cellsP, oneP, Value.oneCell', opStore, toIV, scalT, scalA, scalC, boxesA, boxesC, zipB_none, zipB_mx, isZ, opZip, zeroP, opAppendZ, opMakeMap, opLookup, mboxB, opUpdate, ↓reduceIte, Nat.reduceSub, Nat.reduceEqDiff, Nat.reduceAdd, Nat.reduceMul, Nat.reduceLT, Nat.reduceLeDiff, Int.reduceToNat, Int.reduceLE, Int.reduceLT, Int.reduceNeg, reduceCtorEq, zzR, gos, Int.reduceAdd, Int.reduceSub, Int.reduceMul, Int.reduceEq, c0'])
  | true =>
  rw [hm] at d2
  obtain ⟨R, C, rfl, rfl, M⟩ := mat_of hm
  have hin : ∀ a ∈ l, In P a := fun a ha => in_of M.has wl ha
  cases hb : HasB P a2 with
  | false =>
    rw [hb] at d3
    refine X_startP (n := 221) (m := 4) (rs := [.tmp 8]) Try.func4 rfl rfl rfl rfl (by decide) fun base => ?_
    repeat (first | ((first | refine X_call_fn2 rfl (by simp only [tys]) ?_ | refine X_dcall_fn2 rfl (by simp only [tys]) ?_); apply Exists.intro; apply And.intro; (focus (simp -dsimp only [simx, zzC, zzB, tys, ite_self, opnL, callB, callX, readsB, stepOp, nilCmp, ofVal, opBuiltin, opLen, PV.sk, scalBin, scalUn, intBin, opLoad, natOf, opConvert, opField, cellsP, oneP, Value.oneCell', opStore, toIV, scalT, scalA, scalC, boxesA, boxesC, zipB_none, zipB_mx, isZ, opZip, zeroP, opAppendZ, opMakeMap, opLookup, mboxB, opUpdate, ↓reduceIte, Nat.reduceSub, Nat.reduceEqDiff, Nat.reduceAdd, Nat.reduceMul, Nat.reduceLT, Nat.reduceLeDiff, Int.reduceToNat, Int.reduceLE, Int.reduceLT, Int.reduceNeg, reduceCtorEq, zzL, if_true, if_false] <;> rfl)); apply Exists.intro; apply And.intro; (focus (first | exact d0 | exact d1 | exact d2 | exact d3))) | refine X_opc rfl ?_ | refine X_dopc rfl ?_ | refine ⟨(by show drawK _ _ = true; kernel_rfl : drawX _ _ _), ?_⟩ | exact (by show drawK _ _ = true; kernel_rfl : drawX _ _ _) | simp -dsimp (maxSteps := 20000000) (disch := omega) only [simx, zzC, zzB, tys, ite_self, opnL, callB, callX, readsB, stepOp, nilCmp, ofVal, opBuiltin, opLen, PV.sk, scalBin, scalUn, intBin, opLoad, natOf, opConvert, opField, cellsP, oneP, Value.oneCell', opStore, toIV, scalT, scalA, scalC, boxesA, boxesC, zipB_none, zipB_mx, isZ, opZip, zeroP, opAppendZ, opMakeMap, opLookup, mboxB, opUpdate, ↓reduceIte, Nat.reduceSub, Nat.reduceEqDiff, Nat.reduceAdd, Nat.reduceMul, Nat.reduceLT, Nat.reduceLeDiff, Int.reduceToNat, Int.reduceLE, Int.reduceLT, Int.reduceNeg, reduceCtorEq, zzR, gos, Int.reduceAdd, Int.reduceSub, Int.reduceMul, Int.reduceEq, c0'])
  | true =>
  rw [hb] at d3
  cases hd : HasB P a3 with
  | false =>
    rw [hd] at d4
    refine X_startP (n := 221) (m := 4) (rs := [.tmp 8]) Try.func4 rfl rfl rfl rfl (by decide) fun base => ?_
    repeat (first | ((first | refine X_call_fn2 rfl (by simp only [tys]) ?_ | refine X_dcall_fn2 rfl (by simp only [tys]) ?_); apply Exists.intro; apply And.intro; (focus (simp -dsimp only [simx, zzC, zzB, tys, ite_self, opnL, callB, callX, readsB, stepOp, nilCmp, ofVal, opBuiltin, opLen, PV.sk, scalBin, scalUn, intBin, opLoad, natOf, opConvert, opField, cellsP, oneP, Value.oneCell', opStore, toIV, scalT, scalA, scalC, boxesA, boxesC, zipB_none, zipB_mx, isZ, opZip, zeroP, opAppendZ, opMakeMap, opLookup, mboxB, opUpdate, ↓reduceIte, Nat.reduceSub, Nat.reduceEqDiff, Nat.reduceAdd, Nat.reduceMul, Nat.reduceLT, Nat.reduceLeDiff, Int.reduceToNat, Int.reduceLE, Int.reduceLT, Int.reduceNeg, reduceCtorEq, zzL, if_true, if_false] <;> rfl)); apply Exists.intro; apply And.intro; (focus (first | exact d0 | exact d1 | exact d2 | exact d3 | exact d4))) | refine X_opc rfl ?_ | refine X_dopc rfl ?_ | refine ⟨(by show drawK _ _ = true; kernel_rfl : drawX _ _ _), ?_⟩ | exact (by show drawK _ _ = true; kernel_rfl : drawX _ _ _) | simp -dsimp (maxSteps := 20000000) (disch := omega) only [simx, zzC, zzB, tys, ite_self, opnL, callB, callX, readsB, stepOp, nilCmp, ofVal, opBuiltin, opLen, PV.sk, scalBin, scalUn, intBin, opLoad, natOf, opConvert, opField, cellsP, oneP, Value.oneCell', opStore, toIV, scalT, scalA, scalC, boxesA, boxesC, zipB_none, zipB_mx, isZ, opZip, zeroP, opAppendZ, opMakeMap, opLookup, mboxB, opUpdate, ↓reduceIte, Nat.reduceSub, Nat.reduceEqDiff, Nat.reduceAdd, Nat.reduceMul, Nat.reduceLT, Nat.reduceLeDiff, Int.reduceToNat, Int.reduceLE, Int.reduceLT, Int.reduceNeg, reduceCtorEq, zzR, gos, Int.reduceAdd, Int.reduceSub, Int.reduceMul, Int.reduceEq, c0'])
  | true =>
  rw [hd] at d4
  by_cases hbl : a2.length = R
  case neg =>
    have g : ¬ (a2.length : Int) = R := by omega
    refine X_startP (n := 221) (m := 4) (rs := [.tmp 8]) Try.func4 rfl rfl rfl rfl (by decide) fun base => ?_
    repeat (first | ((first | refine X_call_fn2 rfl (by simp only [tys]) ?_ | refine X_dcall_fn2 rfl (by simp only [tys]) ?_); apply Exists.intro; apply And.intro; (focus (simp -dsimp only [simx, zzC, zzB, tys, ite_self, opnL, callB, callX, readsB, stepOp, nilCmp, ofVal, opBuiltin, opLen, PV.sk, scalBin, scalUn, intBin, opLoad, natOf, opConvert, opField, cellsP, oneP, Value.oneCell', opStore, toIV, scalT, scalA, scalC, boxesA, boxesC, zipB_none, zipB_mx, isZ, opZip, zeroP, opAppendZ, opMakeMap, opLookup, mboxB, opUpdate, ↓reduceIte, Nat.reduceSub, Nat.reduceEqDiff, Nat.reduceAdd, Nat.reduceMul, Nat.reduceLT, Nat.reduceLeDiff, Int.reduceToNat, Int.reduceLE, Int.reduceLT, Int.reduceNeg, reduceCtorEq, zzL, if_true, if_false] <;> rfl)); apply Exists.intro; apply And.intro; (focus (first | exact d0 | exact d1 | exact d2 | exact d3 | exact d4))) | refine X_opc rfl ?_ | refine X_dopc rfl ?_ | refine ⟨(by show drawK _ _ = true; kernel_rfl : drawX _ _ _), ?_⟩ | exact (by show drawK _ _ = true; kernel_rfl : drawX _ _ _) | simp -dsimp (maxSteps := 20000000) (disch := omega) only [simx, zzC, zzB, tys, ite_self, opnL, callB, callX, readsB, stepOp, nilCmp, ofVal, opBuiltin, opLen, PV.sk, scalBin, scalUn, intBin, opLoad, natOf, opConvert, opField, cellsP, oneP, Value.oneCell', opStore, toIV, scalT, scalA, scalC, boxesA, boxesC, zipB_none, zipB_mx, isZ, opZip, zeroP, opAppendZ, opMakeMap, opLookup, mboxB, opUpdate, ↓reduceIte, Nat.reduceSub, Nat.reduceEqDiff, Nat.reduceAdd, Nat.reduceMul, Nat.reduceLT, Nat.reduceLeDiff, Int.reduceToNat, Int.reduceLE, Int.reduceLT, Int.reduceNeg, reduceCtorEq, zzR, gos, Int.reduceAdd, Int.reduceSub, Int.reduceMul, Int.reduceEq, c0', g])
  by_cases hdl : a3.length = R
  case neg =>
    have g : ¬ (a3.length : Int) = R := by omega
    refine X_startP (n := 221) (m := 4) (rs := [.tmp 8]) Try.func4 rfl rfl rfl rfl (by decide) fun base => ?_
    repeat (first | ((first | refine X_call_fn2 rfl (by simp only [tys]) ?_ | refine X_dcall_fn2 rfl (by simp only [tys]) ?_); apply Exists.intro; apply And.intro; (focus (simp -dsimp only [simx, zzC, zzB, tys, ite_self, opnL, callB, callX, readsB, stepOp, nilCmp, ofVal, opBuiltin, opLen, PV.sk, scalBin, scalUn, intBin, opLoad, natOf, opConvert, opField, cellsP, oneP, Value.oneCell', opStore, toIV, scalT, scalA, scalC, boxesA, boxesC, zipB_none, zipB_mx, isZ, opZip, zeroP, opAppendZ, opMakeMap, opLookup, mboxB, opUpdate, ↓reduceIte, Nat.reduceSub, Nat.reduceEqDiff, Nat.reduceAdd, Nat.reduceMul, Nat.reduceLT, Nat.reduceLeDiff, Int.reduceToNat, Int.reduceLE, Int.reduceLT, Int.reduceNeg, reduceCtorEq, zzL, if_true, if_false] <;> rfl)); apply Exists.intro; apply And.intro; (focus (first | exact d0 | exact d1 | exact d2 | exact d3 | exact d4))) | refine X_opc rfl ?_ | refine X_dopc rfl ?_ | refine ⟨(by show drawK _ _ = true; kernel_rfl : drawX _ _ _), ?_⟩ | exact (by show drawK _ _ = true; kernel_rfl : drawX _ _ _) | simp -dsimp (maxSteps := 20000000) (disch := omega) only [simx, zzC, zzB, tys, ite_self, opnL, callB, callX, readsB, stepOp, nilCmp, ofVal, opBuiltin, opLen, PV.sk, scalBin, scalUn, intBin, opLoad, natOf, opConvert, opField, cellsP, oneP, Value.oneCell', opStore, toIV, scalT, scalA, scalC, boxesA, boxesC, zipB_none, zipB_mx, isZ, opZip, zeroP, opAppendZ, opMakeMap, opLookup, mboxB, opUpdate, ↓reduceIte, Nat.reduceSub, Nat.reduceEqDiff, Nat.reduceAdd, Nat.reduceMul, Nat.reduceLT, Nat.reduceLeDiff, Int.reduceToNat, Int.reduceLE, Int.reduceLT, Int.reduceNeg, reduceCtorEq, zzR, gos, Int.reduceAdd, Int.reduceSub, Int.reduceMul, Int.reduceEq, c0', hbl, g])
  have hb2 : ∀ a ∈ a2, In P a := fun a ha => in_of ((has_iff _ _).1 hb).1 wb ha
  have hd2 : ∀ a ∈ a3, In P a := fun a ha => in_of ((has_iff _ _).1 hd).1 wv ha
  by_cases s1 : Sol P R C l a2
  case neg =>
    have e1 := solve_none hP M hin hb2 hbl s1
    by_cases s2 : Sol P R C l a3
    · have e2 := solve_sol hP M hin hd2 hdl s2
      generalize solX P C (tkCup P C R l) a3 = Y at e2
      refine X_startP (n := 221) (m := 4) (rs := [.tmp 8]) Try.func4 rfl rfl rfl rfl (by decide) fun base => ?_
      repeat (first | ((first | refine X_call_fn2 rfl (by simp only [tys]) ?_ | refine X_dcall_fn2 rfl (by simp only [tys]) ?_); apply Exists.intro; apply And.intro; (focus (simp -dsimp only [simx, zzC, zzB, tys, ite_self, opnL, callB, callX, readsB, stepOp, nilCmp, ofVal, opBuiltin, opLen, PV.sk, scalBin, scalUn, intBin, opLoad, natOf, opConvert, opField, cellsP, oneP, Value.oneCell', opStore, toIV, scalT, scalA, scalC, boxesA, boxesC, zipB_none, zipB_mx, isZ, opZip, zeroP, opAppendZ, opMakeMap, opLookup, mboxB, opUpdate, ↓reduceIte, Nat.reduceSub, Nat.reduceEqDiff, Nat.reduceAdd, Nat.reduceMul, Nat.reduceLT, Nat.reduceLeDiff, Int.reduceToNat, Int.reduceLE, Int.reduceLT, Int.reduceNeg, reduceCtorEq, zzL, if_true, if_false] <;> rfl)); apply Exists.intro; apply And.intro; (focus (first | exact d0 | exact d1 | exact d2 | exact d3 | exact d4 | exact e1 | exact e2))) | refine X_opc rfl ?_ | refine X_dopc rfl ?_ | refine ⟨(by show drawK _ _ = true; kernel_rfl : drawX _ _ _), ?_⟩ | exact (by show drawK _ _ = true; kernel_rfl : drawX _ _ _) | simp -dsimp (maxSteps := 20000000) (disch := omega) only [simx, zzC, zzB, tys, ite_self, opnL, callB, callX, readsB, stepOp, nilCmp, ofVal, opBuiltin, opLen, PV.sk, scalBin, scalUn, intBin, opLoad, natOf, opConvert, opField, cellsP, oneP, Value.oneCell', opStore, toIV, scalT, scalA, scalC, boxesA, boxesC, zipB_none, zipB_mx, isZ, opZip, zeroP, opAppendZ, opMakeMap, opLookup, mboxB, opUpdate, ↓reduceIte, Nat.reduceSub, Nat.reduceEqDiff, Nat.reduceAdd, Nat.reduceMul, Nat.reduceLT, Nat.reduceLeDiff, Int.reduceToNat, Int.reduceLE, Int.reduceLT, Int.reduceNeg, reduceCtorEq, zzR, gos, Int.reduceAdd, Int.reduceSub, Int.reduceMul, Int.reduceEq, c0', hbl, hdl])
    · have e2 := solve_none hP M hin hd2 hdl s2
      refine X_startP (n := 221) (m := 4) (rs := [.tmp 8]) Try.func4 rfl rfl rfl rfl (by decide) fun base => ?_
      repeat (first | ((first | refine X_call_fn2 rfl (by simp only [tys]) ?_ | refine X_dcall_fn2 rfl (by simp only [tys]) ?_); apply Exists.intro; apply And.intro; (focus (simp -dsimp only [simx, zzC, zzB, tys, ite_self, opnL, callB, callX, readsB, stepOp, nilCmp, ofVal, opBuiltin, opLen, PV.sk, scalBin, scalUn, intBin, opLoad, natOf, opConvert, opField, cellsP, oneP, Value.oneCell', opStore, toIV, scalT, scalA, scalC, boxesA, boxesC, zipB_none, zipB_mx, isZ, opZip, zeroP, opAppendZ, opMakeMap, opLookup, mboxB, opUpdate, ↓reduceIte, Nat.reduceSub, Nat.reduceEqDiff, Nat.reduceAdd, Nat.reduceMul, Nat.reduceLT, Nat.reduceLeDiff, Int.reduceToNat, Int.reduceLE, Int.reduceLT, Int.reduceNeg, reduceCtorEq, zzL, if_true, if_false] <;> rfl)); apply Exists.intro; apply And.intro; (focus (first | exact d0 | exact d1 | exact d2 | exact d3 | exact d4 | exact e1 | exact e2))) | refine X_opc rfl ?_ | refine X_dopc rfl ?_ | refine ⟨(by show drawK _ _ = true; kernel_rfl : drawX _ _ _), ?_⟩ | exact (by show drawK _ _ = true; kernel_rfl : drawX _ _ _) | simp -dsimp (maxSteps := 20000000) (disch := omega) only [simx, zzC, zzB, tys, ite_self, opnL, callB, callX, readsB, stepOp, nilCmp, ofVal, opBuiltin, opLen, PV.sk, scalBin, scalUn, intBin, opLoad, natOf, opConvert, opField, cellsP, oneP, Value.oneCell', opStore, toIV, scalT, scalA, scalC, boxesA, boxesC, zipB_none, zipB_mx, isZ, opZip, zeroP, opAppendZ, opMakeMap, opLookup, mboxB, opUpdate, ↓reduceIte, Nat.reduceSub, Nat.reduceEqDiff, Nat.reduceAdd, Nat.reduceMul, Nat.reduceLT, Nat.reduceLeDiff, Int.reduceToNat, Int.reduceLE, Int.reduceLT, Int.reduceNeg, reduceCtorEq, zzR, gos, Int.reduceAdd, Int.reduceSub, Int.reduceMul, Int.reduceEq, c0', hbl, hdl])
  have e1 := solve_sol hP M hin hb2 hbl s1
  by_cases s2 : Sol P R C l a3
  case neg =>
    have e2 := solve_none hP M hin hd2 hdl s2
    generalize solX P C (tkCup P C R l) a2 = X at e1
    refine X_startP (n := 221) (m := 4) (rs := [.tmp 8]) Try.func4 rfl rfl rfl rfl (by decide) fun base => ?_
    repeat (first | ((first | refine X_call_fn2 rfl (by simp only [tys]) ?_ | refine X_dcall_fn2 rfl (by simp only [tys]) ?_); apply Exists.intro; apply And.intro; (focus (simp -dsimp only [simx, zzC, zzB, tys, ite_self, opnL, callB, callX, readsB, stepOp, nilCmp, ofVal, opBuiltin, opLen, PV.sk, scalBin, scalUn, intBin, opLoad, natOf, opConvert, opField, cellsP, oneP, Value.oneCell', opStore, toIV, scalT, scalA, scalC, boxesA, boxesC, zipB_none, zipB_mx, isZ, opZip, zeroP, opAppendZ, opMakeMap, opLookup, mboxB, opUpdate, ↓reduceIte, Nat.reduceSub, Nat.reduceEqDiff, Nat.reduceAdd, Nat.reduceMul, Nat.reduceLT, Nat.reduceLeDiff, Int.reduceToNat, Int.reduceLE, Int.reduceLT, Int.reduceNeg, reduceCtorEq, zzL, if_true, if_false] <;> rfl)); apply Exists.intro; apply And.intro; (focus (first | exact d0 | exact d1 | exact d2 | exact d3 | exact d4 | exact e1 | exact e2))) | refine X_opc rfl ?_ | refine X_dopc rfl ?_ | refine ⟨(by show drawK _ _ = true; kernel_rfl : drawX _ _ _), ?_⟩ | exact (by show drawK _ _ = true; kernel_rfl : drawX _ _ _) | simp -dsimp (maxSteps := 20000000) (disch := omega) only [simx, zzC, zzB, tys, ite_self, opnL, callB, callX, readsB, stepOp, nilCmp, ofVal, opBuiltin, opLen, PV.sk, scalBin, scalUn, intBin, opLoad, natOf, opConvert, opField, cellsP, oneP, Value.oneCell', opStore, toIV, scalT, scalA, scalC, boxesA, boxesC, zipB_none, zipB_mx, isZ, opZip, zeroP, opAppendZ, opMakeMap, opLookup, mboxB, opUpdate, ↓reduceIte, Nat.reduceSub, Nat.reduceEqDiff, Nat.reduceAdd, Nat.reduceMul, Nat.reduceLT, Nat.reduceLeDiff, Int.reduceToNat, Int.reduceLE, Int.reduceLT, Int.reduceNeg, reduceCtorEq, zzR, gos, Int.reduceAdd, Int.reduceSub, Int.reduceMul, Int.reduceEq, c0', hbl, hdl])
  have e2 := solve_sol hP M hin hd2 hdl s2
  have hp := M.hp
  have r2 := M.r2
  have c2 := M.c2
  have e3 := times_of M hin (sumL_in hp C (solX P C (tkCup P C R l) a2) (solX P C (tkCup P C R l) a3)) (sumL_len ..)
  rw [sol_sum hP M hin hb2 hbl hd2 hdl s1 s2] at e3
  have e4 := solve_sol hP M hin (sumL_in hp R a2 a3) (sumL_len ..) (sum_Sol hP M hin hb2 hbl hd2 hdl s1 s2)
  rw [sum_solX hP M hin hb2 hbl hd2 hdl s1 s2] at e4
  have e5 := same_eq (sumL P R a2 a3) (by rw [sumL_len, mx_len]; omega)
  have e6 := same_eq (sumL P C (solX P C (tkCup P C R l) a2) (solX P C (tkCup P C R l) a3)) (by rw [sumL_len, mx_len]; omega)
  have e7 := kernel8_yes hP M hin
  have kc := kern_cases hP M hin
  have tx := (sol_iff hP M hin hb2 hbl).2 s1
  have xl := solX_len P C (tkCup P C R l) a2
  have yl := solX_len P C (tkCup P C R l) a3
  have xi := solX_in (C := C) hp (tkCup P C R l) a2
  have yi := solX_in (C := C) hp (tkCup P C R l) a3
  generalize solX P C (tkCup P C R l) a2 = X at *
  generalize solX P C (tkCup P C R l) a3 = Y at *
  generalize kernR P C (tkCup P C R l) = KR at e7 kc
  have e8 := same_eq a2 v5
  clear s1 s2
  obtain ⟨F, hF⟩ : ∃ F : Nat → Int, F = fun i => (X.getD i 0 + Y.getD i 0) % P := ⟨_, rfl⟩
  obtain ⟨G, hG⟩ : ∃ G : Nat → Int, G = fun i => (a2.getD i 0 + a3.getD i 0) % P := ⟨_, rfl⟩
  rw [show sumL P C X Y = tbl C F by rw [hF]; rfl] at e3 e4 e6
  rw [show sumL P R a2 a3 = tbl R G by rw [hG]; rfl] at e3 e4 e5
  have fl := tbl_len C F
  have gl := tbl_len R G
  rw [show lu (tbl C F) = PV.i (.l C ((tbl C F).map iu)) by rw [lu, fl]] at e3 e4 e6
  rw [show lu (tbl R G) = PV.i (.l R ((tbl R G).map iu)) by rw [lu, gl]] at e3 e4 e5
  have a2l : (a2.length : Int) = (R : Int) := by omega
  have a3l : (a3.length : Int) = (R : Int) := by omega
  refine X_startP (n := 221) (m := 4) (rs := [.tmp 8]) Try.func4 rfl rfl rfl rfl (by decide) fun base => ?_
  repeat (first | ((first | refine X_call_fn2 rfl (by simp only [tys]) ?_ | refine X_dcall_fn2 rfl (by simp only [tys]) ?_); apply Exists.intro; apply And.intro; (focus (simp -dsimp only [simx, zzC, zzB, tys, ite_self, opnL, callB, callX, readsB, stepOp, nilCmp, ofVal, opBuiltin, opLen, PV.sk, scalBin, scalUn, intBin, opLoad, natOf, opConvert, opField, cellsP, oneP, Value.oneCell', opStore, toIV, scalT, scalA, scalC, boxesA, boxesC, zipB_none, zipB_mx, isZ, opZip, zeroP, opAppendZ, opMakeMap, opLookup, mboxB, opUpdate, ↓reduceIte, Nat.reduceSub, Nat.reduceEqDiff, Nat.reduceAdd, Nat.reduceMul, Nat.reduceLT, Nat.reduceLeDiff, Int.reduceToNat, Int.reduceLE, Int.reduceLT, Int.reduceNeg, reduceCtorEq, zzL, if_true, if_false] <;> rfl)); apply Exists.intro; apply And.intro; (focus (first | exact d0 | exact d1 | exact d2 | exact d3 | exact d4 | exact e1 | exact e2))) | refine X_opc rfl ?_ | refine X_dopc rfl ?_ | refine ⟨(by show drawK _ _ = true; kernel_rfl : drawX _ _ _), ?_⟩ | exact (by show drawK _ _ = true; kernel_rfl : drawX _ _ _) | simp -dsimp (maxSteps := 20000000) (disch := omega) only [simx, zzC, zzB, tys, ite_self, opnL, callB, callX, readsB, stepOp, nilCmp, ofVal, opBuiltin, opLen, PV.sk, scalBin, scalUn, intBin, opLoad, natOf, opConvert, opField, cellsP, oneP, Value.oneCell', opStore, toIV, scalT, scalA, scalC, boxesA, boxesC, zipB_none, zipB_mx, isZ, opZip, zeroP, opAppendZ, opMakeMap, opLookup, mboxB, opUpdate, ↓reduceIte, Nat.reduceSub, Nat.reduceEqDiff, Nat.reduceAdd, Nat.reduceMul, Nat.reduceLT, Nat.reduceLeDiff, Int.reduceToNat, Int.reduceLE, Int.reduceLT, Int.reduceNeg, reduceCtorEq, gos, Int.reduceAdd, Int.reduceSub, Int.reduceMul, Int.reduceEq, c0', a2l, a3l])
  clear d0 d1 d2 d3 d4 e1 e2
  refine X_loopH [0, 2, 3, 5, 9, 11, 13, 14, 15] [(14, 2) :: base] (0) (C) (fun j => True) (fun j => [(13, rowP ((14, 3) :: base) 1 j ((tbl j F).map iu)), (15, i64 j)]) (fun j => rowH (Heap.none.put ((0, 0) :: base) (.var [i64 R, i64 C, lu l])) ((14, 3) :: base) j ((tbl j F).map iu)) ?_ ?_ ?_ ?_ ?_ (by decide) ?_
  · exact (fgt_cons (by simp only [Heap.none_at]) (by (simp -dsimp only [zzB, tys, ite_self, opnL, callB, callX, readsB, stepOp, nilCmp, ofVal, opBuiltin, opLen, PV.sk, scalBin, scalUn, intBin, opLoad, natOf, opConvert, opField, cellsP, oneP, Value.oneCell', opStore, toIV, scalT, scalA, scalC, boxesA, boxesC, zipB_none, zipB_mx, isZ, opZip, zeroP, opAppendZ, opMakeMap, opLookup, mboxB, opUpdate, ↓reduceIte, Nat.reduceSub, Nat.reduceEqDiff, Nat.reduceAdd, Nat.reduceMul, Nat.reduceLT, Nat.reduceLeDiff, Int.reduceToNat, Int.reduceLE, Int.reduceLT, Int.reduceNeg, reduceCtorEq, notIn_cons, notIn_nil]) <;> simp [refsL, refsP, mem_refs_rowP]) (by repeat (first | exact noVar_none _ | refine noVar_row ?_ | refine noVar_map ?_ | refine noVar_rowH ?_ | refine noVar_var ?_ (by simp [refsL, refsP, mem_refs_rowP]))) (fgt_nil))
  · ((simp -dsimp (disch := omega) only [simx, zzB, tys, ite_self, opnL, callB, callX, readsB, stepOp, nilCmp, ofVal, opBuiltin, opLen, PV.sk, scalBin, scalUn, intBin, opLoad, natOf, opConvert, opField, cellsP, oneP, Value.oneCell', opStore, toIV, scalT, scalA, scalC, boxesA, boxesC, zipB_none, zipB_mx, isZ, opZip, zeroP, opAppendZ, opMakeMap, opLookup, mboxB, opUpdate, ↓reduceIte, Nat.reduceSub, Nat.reduceEqDiff, Nat.reduceAdd, Nat.reduceMul, Nat.reduceLT, Nat.reduceLeDiff, Int.reduceToNat, Int.reduceLE, Int.reduceLT, Int.reduceNeg, reduceCtorEq, gos, Int.reduceAdd, Int.reduceSub, Int.reduceMul, Int.reduceEq]) <;> first | rfl | simp [rowP])
  · funext c
    simp (maxSteps := 20000000) only [Heap.drop_at, rowH_app, Heap.put_at, Heap.none_at, List.mem_cons, List.not_mem_nil, or_false]
    by_cases e0 : c = (0, 0) :: base
    · subst e0; simp []
    by_cases e1 : c = (14, 2) :: base
    · subst e1; simp []
    by_cases e2 : c = (14, 3) :: base
    · subst e2; simp []
    simp [e0, e1, e2]
  · omega
  · trivial
  · intro j hj _
    by_cases cj : j < C
    · have g1 : X[j]? = some (X.getD j 0) := by rw [List.getD_eq_getElem?_getD, List.getElem?_eq_getElem (by omega)]; rfl
      have g2 : Y[j]? = some (Y.getD j 0) := by rw [List.getD_eq_getElem?_getD, List.getElem?_eq_getElem (by omega)]; rfl
      have q1 := Add_in hp (getD_of xi (i := j) (by omega)) (getD_of yi (i := j) (by omega))
      have t1 := tbl_succ j F
      have l1 := tbl_len j F
      rw [show (X.getD j 0 + Y.getD j 0) % P = F j by rw [hF]] at q1
      clear hF hG
      generalize F j = s at q1 t1
      generalize X.getD j 0 = u at q1 g1
      generalize Y.getD j 0 = v at q1 g2
      have lj1 : (j : Int) < X.length := by omega
      have lj2 : (j : Int) < Y.length := by omega
      have lj3 : j < X.length := by omega
      have lj4 : j < Y.length := by omega
      cases j with
      | zero =>
        repeat (first | ((first | refine X_call_fn2 rfl (by simp only [tys]) ?_ | refine X_dcall_fn2 rfl (by simp only [tys]) ?_); apply Exists.intro; apply And.intro; (focus (simp -dsimp only [simx, zzC, zzB, tys, ite_self, opnL, callB, callX, readsB, stepOp, nilCmp, ofVal, opBuiltin, opLen, PV.sk, scalBin, scalUn, intBin, opLoad, natOf, opConvert, opField, cellsP, oneP, Value.oneCell', opStore, toIV, scalT, scalA, scalC, boxesA, boxesC, zipB_none, zipB_mx, isZ, opZip, zeroP, opAppendZ, opMakeMap, opLookup, mboxB, opUpdate, ↓reduceIte, Nat.reduceSub, Nat.reduceEqDiff, Nat.reduceAdd, Nat.reduceMul, Nat.reduceLT, Nat.reduceLeDiff, Int.reduceToNat, Int.reduceLE, Int.reduceLT, Int.reduceNeg, reduceCtorEq, zzL, if_true, if_false] <;> rfl)); apply Exists.intro; apply And.intro; (focus (first | exact q1))) | refine X_opc rfl ?_ | refine X_dopc rfl ?_ | refine ⟨(by show drawK _ _ = true; kernel_rfl : drawX _ _ _), ?_⟩ | exact (by show drawK _ _ = true; kernel_rfl : drawX _ _ _) | simp -dsimp (maxSteps := 20000000) (disch := omega) only [simx, zzC, zzB, tys, ite_self, opnL, callB, callX, readsB, stepOp, nilCmp, ofVal, opBuiltin, opLen, PV.sk, scalBin, scalUn, intBin, opLoad, natOf, opConvert, opField, cellsP, oneP, Value.oneCell', opStore, toIV, scalT, scalA, scalC, boxesA, boxesC, zipB_none, zipB_mx, isZ, opZip, zeroP, opAppendZ, opMakeMap, opLookup, mboxB, opUpdate, ↓reduceIte, Nat.reduceSub, Nat.reduceEqDiff, Nat.reduceAdd, Nat.reduceMul, Nat.reduceLT, Nat.reduceLeDiff, Int.reduceToNat, Int.reduceLE, Int.reduceLT, Int.reduceNeg, reduceCtorEq, gos, Int.reduceAdd, Int.reduceSub, Int.reduceMul, Int.reduceEq, cj, lj1, lj2, lj3, lj4, g1, g2])
        refine X_append_one 22 [.int .u64 0] [iu s] (by simp only [tys]) (by simp only [tys]) rfl (by decide) (by rw [List.length_map, l1]) (by simp [Heap.put_at, Heap.none_at, rowH_app]) (by simp [Heap.put_at]; rfl) rfl (by simp only [tys]; omega) (by rw [mx_len]; omega) ?_
        repeat (first | refine X_opc rfl ?_ | refine X_dopc rfl ?_ | refine ⟨(by show drawK _ _ = true; kernel_rfl : drawX _ _ _), ?_⟩ | exact (by show drawK _ _ = true; kernel_rfl : drawX _ _ _) | simp -dsimp (maxSteps := 20000000) (disch := omega) only [simx, zzC, zzB, tys, ite_self, opnL, callB, callX, readsB, stepOp, nilCmp, ofVal, opBuiltin, opLen, PV.sk, scalBin, scalUn, intBin, opLoad, natOf, opConvert, opField, cellsP, oneP, Value.oneCell', opStore, toIV, scalT, scalA, scalC, boxesA, boxesC, zipB_none, zipB_mx, isZ, opZip, zeroP, opAppendZ, opMakeMap, opLookup, mboxB, opUpdate, ↓reduceIte, Nat.reduceSub, Nat.reduceEqDiff, Nat.reduceAdd, Nat.reduceMul, Nat.reduceLT, Nat.reduceLeDiff, Int.reduceToNat, Int.reduceLE, Int.reduceLT, Int.reduceNeg, reduceCtorEq, gos, Int.reduceAdd, Int.reduceSub, Int.reduceMul, Int.reduceEq, cj, lj1, lj2, lj3, lj4])
        refine ⟨cj, (fgt_cons (by simp only [Heap.none_at]) (by (simp -dsimp only [zzB, tys, ite_self, opnL, callB, callX, readsB, stepOp, nilCmp, ofVal, opBuiltin, opLen, PV.sk, scalBin, scalUn, intBin, opLoad, natOf, opConvert, opField, cellsP, oneP, Value.oneCell', opStore, toIV, scalT, scalA, scalC, boxesA, boxesC, zipB_none, zipB_mx, isZ, opZip, zeroP, opAppendZ, opMakeMap, opLookup, mboxB, opUpdate, ↓reduceIte, Nat.reduceSub, Nat.reduceEqDiff, Nat.reduceAdd, Nat.reduceMul, Nat.reduceLT, Nat.reduceLeDiff, Int.reduceToNat, Int.reduceLE, Int.reduceLT, Int.reduceNeg, reduceCtorEq, notIn_cons, notIn_nil]) <;> simp [refsL, refsP, mem_refs_rowP]) (by repeat (first | exact noVar_none _ | refine noVar_row ?_ | refine noVar_map ?_ | refine noVar_rowH ?_ | refine noVar_var ?_ (by simp [refsL, refsP, mem_refs_rowP]))) (fgt_nil)), ?_, ?_⟩
        · rw [t1]; simp
        · funext c
          simp (maxSteps := 20000000) only [Heap.drop_at, rowH_app, Heap.put_at, Heap.none_at, List.mem_cons, List.not_mem_nil, or_false]
          by_cases e0 : c = (0, 0) :: base
          · subst e0; simp [t1]
          by_cases e1 : c = (14, 2) :: base
          · subst e1; simp [t1]
          by_cases e2 : c = (14, 3) :: base
          · subst e2; simp [t1]
          simp [e0, e1, e2, t1]
      | succ j =>
        repeat (first | ((first | refine X_call_fn2 rfl (by simp only [tys]) ?_ | refine X_dcall_fn2 rfl (by simp only [tys]) ?_); apply Exists.intro; apply And.intro; (focus (simp -dsimp only [simx, zzC, zzB, tys, ite_self, opnL, callB, callX, readsB, stepOp, nilCmp, ofVal, opBuiltin, opLen, PV.sk, scalBin, scalUn, intBin, opLoad, natOf, opConvert, opField, cellsP, oneP, Value.oneCell', opStore, toIV, scalT, scalA, scalC, boxesA, boxesC, zipB_none, zipB_mx, isZ, opZip, zeroP, opAppendZ, opMakeMap, opLookup, mboxB, opUpdate, ↓reduceIte, Nat.reduceSub, Nat.reduceEqDiff, Nat.reduceAdd, Nat.reduceMul, Nat.reduceLT, Nat.reduceLeDiff, Int.reduceToNat, Int.reduceLE, Int.reduceLT, Int.reduceNeg, reduceCtorEq, zzL, if_true, if_false] <;> rfl)); apply Exists.intro; apply And.intro; (focus (first | exact q1))) | refine X_opc rfl ?_ | refine X_dopc rfl ?_ | refine ⟨(by show drawK _ _ = true; kernel_rfl : drawX _ _ _), ?_⟩ | exact (by show drawK _ _ = true; kernel_rfl : drawX _ _ _) | simp -dsimp (maxSteps := 20000000) (disch := omega) only [simx, zzC, zzB, tys, ite_self, opnL, callB, callX, readsB, stepOp, nilCmp, ofVal, opBuiltin, opLen, PV.sk, scalBin, scalUn, intBin, opLoad, natOf, opConvert, opField, cellsP, oneP, Value.oneCell', opStore, toIV, scalT, scalA, scalC, boxesA, boxesC, zipB_none, zipB_mx, isZ, opZip, zeroP, opAppendZ, opMakeMap, opLookup, mboxB, opUpdate, ↓reduceIte, Nat.reduceSub, Nat.reduceEqDiff, Nat.reduceAdd, Nat.reduceMul, Nat.reduceLT, Nat.reduceLeDiff, Int.reduceToNat, Int.reduceLE, Int.reduceLT, Int.reduceNeg, reduceCtorEq, gos, Int.reduceAdd, Int.reduceSub, Int.reduceMul, Int.reduceEq, cj, lj1, lj2, lj3, lj4, g1, g2])
        refine X_append_one 22 [.int .u64 0] [iu s] (by simp only [tys]) (by simp only [tys]) rfl (by decide) (by rw [List.length_map, l1, Nat.mul_one]) (by simp [Heap.put_at, Heap.none_at, rowH_app]) (by simp [Heap.put_at]; rfl) rfl (by simp only [tys]; omega) (by rw [mx_len]; omega) ?_
        repeat (first | refine X_opc rfl ?_ | refine X_dopc rfl ?_ | refine ⟨(by show drawK _ _ = true; kernel_rfl : drawX _ _ _), ?_⟩ | exact (by show drawK _ _ = true; kernel_rfl : drawX _ _ _) | simp -dsimp (maxSteps := 20000000) (disch := omega) only [simx, zzC, zzB, tys, ite_self, opnL, callB, callX, readsB, stepOp, nilCmp, ofVal, opBuiltin, opLen, PV.sk, scalBin, scalUn, intBin, opLoad, natOf, opConvert, opField, cellsP, oneP, Value.oneCell', opStore, toIV, scalT, scalA, scalC, boxesA, boxesC, zipB_none, zipB_mx, isZ, opZip, zeroP, opAppendZ, opMakeMap, opLookup, mboxB, opUpdate, ↓reduceIte, Nat.reduceSub, Nat.reduceEqDiff, Nat.reduceAdd, Nat.reduceMul, Nat.reduceLT, Nat.reduceLeDiff, Int.reduceToNat, Int.reduceLE, Int.reduceLT, Int.reduceNeg, reduceCtorEq, gos, Int.reduceAdd, Int.reduceSub, Int.reduceMul, Int.reduceEq, cj, lj1, lj2, lj3, lj4])
        refine ⟨cj, (fgt_cons (by simp only [Heap.none_at]) (by (simp -dsimp only [zzB, tys, ite_self, opnL, callB, callX, readsB, stepOp, nilCmp, ofVal, opBuiltin, opLen, PV.sk, scalBin, scalUn, intBin, opLoad, natOf, opConvert, opField, cellsP, oneP, Value.oneCell', opStore, toIV, scalT, scalA, scalC, boxesA, boxesC, zipB_none, zipB_mx, isZ, opZip, zeroP, opAppendZ, opMakeMap, opLookup, mboxB, opUpdate, ↓reduceIte, Nat.reduceSub, Nat.reduceEqDiff, Nat.reduceAdd, Nat.reduceMul, Nat.reduceLT, Nat.reduceLeDiff, Int.reduceToNat, Int.reduceLE, Int.reduceLT, Int.reduceNeg, reduceCtorEq, notIn_cons, notIn_nil]) <;> simp [refsL, refsP, mem_refs_rowP]) (by repeat (first | exact noVar_none _ | refine noVar_row ?_ | refine noVar_map ?_ | refine noVar_rowH ?_ | refine noVar_var ?_ (by simp [refsL, refsP, mem_refs_rowP]))) (fgt_nil)), ?_, ?_⟩
        · rw [t1]; simp
        · funext c
          simp (maxSteps := 20000000) only [Heap.drop_at, rowH_app, Heap.put_at, Heap.none_at, List.mem_cons, List.not_mem_nil, or_false]
          by_cases e0 : c = (0, 0) :: base
          · subst e0; simp [t1]
          by_cases e1 : c = (14, 2) :: base
          · subst e1; simp [t1]
          by_cases e2 : c = (14, 3) :: base
          · subst e2; simp [t1]
          simp [e0, e1, e2, t1]
    · obtain rfl : C = j := by omega
      repeat (first | refine X_opc rfl ?_ | refine X_dopc rfl ?_ | refine ⟨(by show drawK _ _ = true; kernel_rfl : drawX _ _ _), ?_⟩ | exact (by show drawK _ _ = true; kernel_rfl : drawX _ _ _) | simp -dsimp (maxSteps := 20000000) (disch := omega) only [simx, zzC, zzB, tys, ite_self, opnL, callB, callX, readsB, stepOp, nilCmp, ofVal, opBuiltin, opLen, PV.sk, scalBin, scalUn, intBin, opLoad, natOf, opConvert, opField, cellsP, oneP, Value.oneCell', opStore, toIV, scalT, scalA, scalC, boxesA, boxesC, zipB_none, zipB_mx, isZ, opZip, zeroP, opAppendZ, opMakeMap, opLookup, mboxB, opUpdate, ↓reduceIte, Nat.reduceSub, Nat.reduceEqDiff, Nat.reduceAdd, Nat.reduceMul, Nat.reduceLT, Nat.reduceLeDiff, Int.reduceToNat, Int.reduceLE, Int.reduceLT, Int.reduceNeg, reduceCtorEq, gos, Int.reduceAdd, Int.reduceSub, Int.reduceMul, Int.reduceEq, xl])
      refine X_loopH [0, 2, 3, 5, 9, 13, 14, 18] [(19, 2) :: base] (0) (R) (fun j => True) (fun j => [(14, rowP ((19, 3) :: base) 1 j ((tbl j G).map iu)), (18, i64 j)]) (fun j => rowH (rowH (Heap.none.put ((0, 0) :: base) (.var [i64 R, i64 C, lu l])) ((14, 3) :: base) C ((tbl C F).map iu)) ((19, 3) :: base) j ((tbl j G).map iu)) ?_ ?_ ?_ ?_ ?_ (by decide) ?_
      · exact (fgt_cons (by simp only [Heap.none_at]) (by (simp -dsimp only [zzB, tys, ite_self, opnL, callB, callX, readsB, stepOp, nilCmp, ofVal, opBuiltin, opLen, PV.sk, scalBin, scalUn, intBin, opLoad, natOf, opConvert, opField, cellsP, oneP, Value.oneCell', opStore, toIV, scalT, scalA, scalC, boxesA, boxesC, zipB_none, zipB_mx, isZ, opZip, zeroP, opAppendZ, opMakeMap, opLookup, mboxB, opUpdate, ↓reduceIte, Nat.reduceSub, Nat.reduceEqDiff, Nat.reduceAdd, Nat.reduceMul, Nat.reduceLT, Nat.reduceLeDiff, Int.reduceToNat, Int.reduceLE, Int.reduceLT, Int.reduceNeg, reduceCtorEq, notIn_cons, notIn_nil]) <;> simp [refsL, refsP, mem_refs_rowP]) (by repeat (first | exact noVar_none _ | refine noVar_row ?_ | refine noVar_map ?_ | refine noVar_rowH ?_ | refine noVar_var ?_ (by simp [refsL, refsP, mem_refs_rowP]))) (fgt_nil))
      · ((simp -dsimp (disch := omega) only [simx, zzB, tys, ite_self, opnL, callB, callX, readsB, stepOp, nilCmp, ofVal, opBuiltin, opLen, PV.sk, scalBin, scalUn, intBin, opLoad, natOf, opConvert, opField, cellsP, oneP, Value.oneCell', opStore, toIV, scalT, scalA, scalC, boxesA, boxesC, zipB_none, zipB_mx, isZ, opZip, zeroP, opAppendZ, opMakeMap, opLookup, mboxB, opUpdate, ↓reduceIte, Nat.reduceSub, Nat.reduceEqDiff, Nat.reduceAdd, Nat.reduceMul, Nat.reduceLT, Nat.reduceLeDiff, Int.reduceToNat, Int.reduceLE, Int.reduceLT, Int.reduceNeg, reduceCtorEq, gos, Int.reduceAdd, Int.reduceSub, Int.reduceMul, Int.reduceEq]) <;> first | rfl | simp [rowP])
      · funext c
        simp (maxSteps := 20000000) only [Heap.drop_at, rowH_app, Heap.put_at, Heap.none_at, List.mem_cons, List.not_mem_nil, or_false]
        by_cases e0 : c = (0, 0) :: base
        · subst e0; simp []
        by_cases e1 : c = (14, 3) :: base
        · subst e1; simp []
        by_cases e2 : c = (19, 2) :: base
        · subst e2; simp []
        by_cases e3 : c = (19, 3) :: base
        · subst e3; simp []
        simp [e0, e1, e2, e3]
      · omega
      · trivial
      · intro j hj _
        by_cases cj : j < R
        · have g1 : a2[j]? = some (a2.getD j 0) := by rw [List.getD_eq_getElem?_getD, List.getElem?_eq_getElem (by omega)]; rfl
          have g2 : a3[j]? = some (a3.getD j 0) := by rw [List.getD_eq_getElem?_getD, List.getElem?_eq_getElem (by omega)]; rfl
          have q1 := Add_in hp (getD_of hb2 (i := j) (by omega)) (getD_of hd2 (i := j) (by omega))
          have t1 := tbl_succ j G
          have l1 := tbl_len j G
          rw [show (a2.getD j 0 + a3.getD j 0) % P = G j by rw [hG]] at q1
          clear hF hG
          generalize G j = s at q1 t1
          generalize a2.getD j 0 = u at q1 g1
          generalize a3.getD j 0 = v at q1 g2
          have lj1 : (j : Int) < a2.length := by omega
          have lj2 : (j : Int) < a3.length := by omega
          have lj3 : j < a2.length := by omega
          have lj4 : j < a3.length := by omega
          cases j with
          | zero =>
            repeat (first | ((first | refine X_call_fn2 rfl (by simp only [tys]) ?_ | refine X_dcall_fn2 rfl (by simp only [tys]) ?_); apply Exists.intro; apply And.intro; (focus (simp -dsimp only [simx, zzC, zzB, tys, ite_self, opnL, callB, callX, readsB, stepOp, nilCmp, ofVal, opBuiltin, opLen, PV.sk, scalBin, scalUn, intBin, opLoad, natOf, opConvert, opField, cellsP, oneP, Value.oneCell', opStore, toIV, scalT, scalA, scalC, boxesA, boxesC, zipB_none, zipB_mx, isZ, opZip, zeroP, opAppendZ, opMakeMap, opLookup, mboxB, opUpdate, ↓reduceIte, Nat.reduceSub, Nat.reduceEqDiff, Nat.reduceAdd, Nat.reduceMul, Nat.reduceLT, Nat.reduceLeDiff, Int.reduceToNat, Int.reduceLE, Int.reduceLT, Int.reduceNeg, reduceCtorEq, zzL, if_true, if_false] <;> rfl)); apply Exists.intro; apply And.intro; (focus (first | exact q1))) | refine X_opc rfl ?_ | refine X_dopc rfl ?_ | refine ⟨(by show drawK _ _ = true; kernel_rfl : drawX _ _ _), ?_⟩ | exact (by show drawK _ _ = true; kernel_rfl : drawX _ _ _) | simp -dsimp (maxSteps := 20000000) (disch := omega) only [simx, zzC, zzB, tys, ite_self, opnL, callB, callX, readsB, stepOp, nilCmp, ofVal, opBuiltin, opLen, PV.sk, scalBin, scalUn, intBin, opLoad, natOf, opConvert, opField, cellsP, oneP, Value.oneCell', opStore, toIV, scalT, scalA, scalC, boxesA, boxesC, zipB_none, zipB_mx, isZ, opZip, zeroP, opAppendZ, opMakeMap, opLookup, mboxB, opUpdate, ↓reduceIte, Nat.reduceSub, Nat.reduceEqDiff, Nat.reduceAdd, Nat.reduceMul, Nat.reduceLT, Nat.reduceLeDiff, Int.reduceToNat, Int.reduceLE, Int.reduceLT, Int.reduceNeg, reduceCtorEq, gos, Int.reduceAdd, Int.reduceSub, Int.reduceMul, Int.reduceEq, cj, lj1, lj2, lj3, lj4, g1, g2])
            refine X_append_one 22 [.int .u64 0] [iu s] (by simp only [tys]) (by simp only [tys]) rfl (by decide) (by rw [List.length_map, l1]) (by simp [Heap.put_at, Heap.none_at, rowH_app]) (by simp [Heap.put_at]; rfl) rfl (by simp only [tys]; omega) (by rw [mx_len]; omega) ?_
            repeat (first | refine X_opc rfl ?_ | refine X_dopc rfl ?_ | refine ⟨(by show drawK _ _ = true; kernel_rfl : drawX _ _ _), ?_⟩ | exact (by show drawK _ _ = true; kernel_rfl : drawX _ _ _) | simp -dsimp (maxSteps := 20000000) (disch := omega) only [simx, zzC, zzB, tys, ite_self, opnL, callB, callX, readsB, stepOp, nilCmp, ofVal, opBuiltin, opLen, PV.sk, scalBin, scalUn, intBin, opLoad, natOf, opConvert, opField, cellsP, oneP, Value.oneCell', opStore, toIV, scalT, scalA, scalC, boxesA, boxesC, zipB_none, zipB_mx, isZ, opZip, zeroP, opAppendZ, opMakeMap, opLookup, mboxB, opUpdate, ↓reduceIte, Nat.reduceSub, Nat.reduceEqDiff, Nat.reduceAdd, Nat.reduceMul, Nat.reduceLT, Nat.reduceLeDiff, Int.reduceToNat, Int.reduceLE, Int.reduceLT, Int.reduceNeg, reduceCtorEq, gos, Int.reduceAdd, Int.reduceSub, Int.reduceMul, Int.reduceEq, cj, lj1, lj2, lj3, lj4])
            refine ⟨cj, (fgt_cons (by simp only [Heap.none_at]) (by (simp -dsimp only [zzB, tys, ite_self, opnL, callB, callX, readsB, stepOp, nilCmp, ofVal, opBuiltin, opLen, PV.sk, scalBin, scalUn, intBin, opLoad, natOf, opConvert, opField, cellsP, oneP, Value.oneCell', opStore, toIV, scalT, scalA, scalC, boxesA, boxesC, zipB_none, zipB_mx, isZ, opZip, zeroP, opAppendZ, opMakeMap, opLookup, mboxB, opUpdate, ↓reduceIte, Nat.reduceSub, Nat.reduceEqDiff, Nat.reduceAdd, Nat.reduceMul, Nat.reduceLT, Nat.reduceLeDiff, Int.reduceToNat, Int.reduceLE, Int.reduceLT, Int.reduceNeg, reduceCtorEq, notIn_cons, notIn_nil]) <;> simp [refsL, refsP, mem_refs_rowP]) (by repeat (first | exact noVar_none _ | refine noVar_row ?_ | refine noVar_map ?_ | refine noVar_rowH ?_ | refine noVar_var ?_ (by simp [refsL, refsP, mem_refs_rowP]))) (fgt_nil)), ?_, ?_⟩
            · rw [t1]; simp
            · funext c
              simp (maxSteps := 20000000) only [Heap.drop_at, rowH_app, Heap.put_at, Heap.none_at, List.mem_cons, List.not_mem_nil, or_false]
              by_cases e0 : c = (0, 0) :: base
              · subst e0; simp [t1]
              by_cases e1 : c = (14, 3) :: base
              · subst e1; simp [t1]
              by_cases e2 : c = (19, 2) :: base
              · subst e2; simp [t1]
              by_cases e3 : c = (19, 3) :: base
              · subst e3; simp [t1]
              simp [e0, e1, e2, e3, t1]
          | succ j =>
            repeat (first | ((first | refine X_call_fn2 rfl (by simp only [tys]) ?_ | refine X_dcall_fn2 rfl (by simp only [tys]) ?_); apply Exists.intro; apply And.intro; (focus (simp -dsimp only [simx, zzC, zzB, tys, ite_self, opnL, callB, callX, readsB, stepOp, nilCmp, ofVal, opBuiltin, opLen, PV.sk, scalBin, scalUn, intBin, opLoad, natOf, opConvert, opField, cellsP, oneP, Value.oneCell', opStore, toIV, scalT, scalA, scalC, boxesA, boxesC, zipB_none, zipB_mx, isZ, opZip, zeroP, opAppendZ, opMakeMap, opLookup, mboxB, opUpdate, ↓reduceIte, Nat.reduceSub, Nat.reduceEqDiff, Nat.reduceAdd, Nat.reduceMul, Nat.reduceLT, Nat.reduceLeDiff, Int.reduceToNat, Int.reduceLE, Int.reduceLT, Int.reduceNeg, reduceCtorEq, zzL, if_true, if_false] <;> rfl)); apply Exists.intro; apply And.intro; (focus (first | exact q1))) | refine X_opc rfl ?_ | refine X_dopc rfl ?_ | refine ⟨(by show drawK _ _ = true; kernel_rfl : drawX _ _ _), ?_⟩ | exact (by show drawK _ _ = true; kernel_rfl : drawX _ _ _) | simp -dsimp (maxSteps := 20000000) (disch := omega) only [simx, zzC, zzB, tys, ite_self, opnL, callB, callX, readsB, stepOp, nilCmp, ofVal, opBuiltin, opLen, PV.sk, scalBin, scalUn, intBin, opLoad, natOf, opConvert, opField, cellsP, oneP, Value.oneCell', opStore, toIV, scalT, scalA, scalC, boxesA, boxesC, zipB_none, zipB_mx, isZ, opZip, zeroP, opAppendZ, opMakeMap, opLookup, mboxB, opUpdate, ↓reduceIte, Nat.reduceSub, Nat.reduceEqDiff, Nat.reduceAdd, Nat.reduceMul, Nat.reduceLT, Nat.reduceLeDiff, Int.reduceToNat, Int.reduceLE, Int.reduceLT, Int.reduceNeg, reduceCtorEq, gos, Int.reduceAdd, Int.reduceSub, Int.reduceMul, Int.reduceEq, cj, lj1, lj2, lj3, lj4, g1, g2])
            refine X_append_one 22 [.int .u64 0] [iu s] (by simp only [tys]) (by simp only [tys]) rfl (by decide) (by rw [List.length_map, l1, Nat.mul_one]) (by simp [Heap.put_at, Heap.none_at, rowH_app]) (by simp [Heap.put_at]; rfl) rfl (by simp only [tys]; omega) (by rw [mx_len]; omega) ?_
            repeat (first | refine X_opc rfl ?_ | refine X_dopc rfl ?_ | refine ⟨(by show drawK _ _ = true; kernel_rfl : drawX _ _ _), ?_⟩ | exact (by show drawK _ _ = true; kernel_rfl : drawX _ _ _) | simp -dsimp (maxSteps := 20000000) (disch := omega) only [simx, zzC, zzB, tys, ite_self, opnL, callB, callX, readsB, stepOp, nilCmp, ofVal, opBuiltin, opLen, PV.sk, scalBin, scalUn, intBin, opLoad, natOf, opConvert, opField, cellsP, oneP, Value.oneCell', opStore, toIV, scalT, scalA, scalC, boxesA, boxesC, zipB_none, zipB_mx, isZ, opZip, zeroP, opAppendZ, opMakeMap, opLookup, mboxB, opUpdate, ↓reduceIte, Nat.reduceSub, Nat.reduceEqDiff, Nat.reduceAdd, Nat.reduceMul, Nat.reduceLT, Nat.reduceLeDiff, Int.reduceToNat, Int.reduceLE, Int.reduceLT, Int.reduceNeg, reduceCtorEq, gos, Int.reduceAdd, Int.reduceSub, Int.reduceMul, Int.reduceEq, cj, lj1, lj2, lj3, lj4])
            refine ⟨cj, (fgt_cons (by simp only [Heap.none_at]) (by (simp -dsimp only [zzB, tys, ite_self, opnL, callB, callX, readsB, stepOp, nilCmp, ofVal, opBuiltin, opLen, PV.sk, scalBin, scalUn, intBin, opLoad, natOf, opConvert, opField, cellsP, oneP, Value.oneCell', opStore, toIV, scalT, scalA, scalC, boxesA, boxesC, zipB_none, zipB_mx, isZ, opZip, zeroP, opAppendZ, opMakeMap, opLookup, mboxB, opUpdate, ↓reduceIte, Nat.reduceSub, Nat.reduceEqDiff, Nat.reduceAdd, Nat.reduceMul, Nat.reduceLT, Nat.reduceLeDiff, Int.reduceToNat, Int.reduceLE, Int.reduceLT, Int.reduceNeg, reduceCtorEq, notIn_cons, notIn_nil]) <;> simp [refsL, refsP, mem_refs_rowP]) (by repeat (first | exact noVar_none _ | refine noVar_row ?_ | refine noVar_map ?_ | refine noVar_rowH ?_ | refine noVar_var ?_ (by simp [refsL, refsP, mem_refs_rowP]))) (fgt_nil)), ?_, ?_⟩
            · rw [t1]; simp
            · funext c
              simp (maxSteps := 20000000) only [Heap.drop_at, rowH_app, Heap.put_at, Heap.none_at, List.mem_cons, List.not_mem_nil, or_false]
              by_cases e0 : c = (0, 0) :: base
              · subst e0; simp [t1]
              by_cases e1 : c = (14, 3) :: base
              · subst e1; simp [t1]
              by_cases e2 : c = (19, 2) :: base
              · subst e2; simp [t1]
              by_cases e3 : c = (19, 3) :: base
              · subst e3; simp [t1]
              simp [e0, e1, e2, e3, t1]
        · obtain rfl : R = j := by omega
          have rpx := fun s z cs => rowP_p8 s z cs (show 0 < C from M.c1)
          have rhx := fun h s cs => rowH_p8 h s cs (show 0 < C from M.c1)
          have rpr := fun s z cs => rowP_p8 s z cs (show 0 < R from M.r1)
          have rhr := fun h s cs => rowH_p8 h s cs (show 0 < R from M.r1)
          have tf := List.take_of_length_le (l := (tbl C F).map iu) (i := C) (by rw [List.length_map, fl]; exact Nat.le_refl _)
          have tg := List.take_of_length_le (l := (tbl R G).map iu) (i := R) (by rw [List.length_map, gl]; exact Nat.le_refl _)
          rcases kc with ⟨rfl, _⟩ | ⟨K, rfl, _, k2, k3, k4, k5⟩
          · repeat (first | ((first | refine X_call_fn2 rfl (by simp only [tys]) ?_ | refine X_dcall_fn2 rfl (by simp only [tys]) ?_); apply Exists.intro; apply And.intro; (focus (simp -dsimp only [simx, zzC, zzB, tys, ite_self, opnL, callB, callX, readsB, stepOp, nilCmp, ofVal, opBuiltin, opLen, PV.sk, scalBin, scalUn, intBin, opLoad, natOf, opConvert, opField, cellsP, oneP, Value.oneCell', opStore, toIV, scalT, scalA, scalC, boxesA, boxesC, zipB_none, zipB_mx, isZ, opZip, zeroP, opAppendZ, opMakeMap, opLookup, mboxB, opUpdate, ↓reduceIte, Nat.reduceSub, Nat.reduceEqDiff, Nat.reduceAdd, Nat.reduceMul, Nat.reduceLT, Nat.reduceLeDiff, Int.reduceToNat, Int.reduceLE, Int.reduceLT, Int.reduceNeg, reduceCtorEq, zzL, if_true, if_false, tf, tg, fl, gl, List.length_map] <;> rfl)); apply Exists.intro; apply And.intro; (focus (first | exact e3 | exact e4 | exact e5 | exact e6 | exact e7))) | refine X_opc rfl ?_ | refine X_dopc rfl ?_ | refine ⟨(by show drawK _ _ = true; kernel_rfl : drawX _ _ _), ?_⟩ | exact (by show drawK _ _ = true; kernel_rfl : drawX _ _ _) | simp -dsimp (maxSteps := 20000000) (disch := omega) only [simx, zzC, zzB, tys, ite_self, opnL, callB, callX, readsB, stepOp, nilCmp, ofVal, opBuiltin, opLen, PV.sk, scalBin, scalUn, intBin, opLoad, natOf, opConvert, opField, cellsP, oneP, Value.oneCell', opStore, toIV, scalT, scalA, scalC, boxesA, boxesC, zipB_none, zipB_mx, isZ, opZip, zeroP, opAppendZ, opMakeMap, opLookup, mboxB, opUpdate, ↓reduceIte, Nat.reduceSub, Nat.reduceEqDiff, Nat.reduceAdd, Nat.reduceMul, Nat.reduceLT, Nat.reduceLeDiff, Int.reduceToNat, Int.reduceLE, Int.reduceLT, Int.reduceNeg, reduceCtorEq, zzR, gos, Int.reduceAdd, Int.reduceSub, Int.reduceMul, Int.reduceEq, tf, tg, fl, gl, xl, hbl, rpx, rhx, rpr, rhr])
          · have e9 := times_of M hin (sumL_in hp C X K) (sumL_len ..)
            rw [more_times M hb2 hbl xl k2 tx k4] at e9
            have e10 := same_walk (sumL P C X K) X (by rw [sumL_len, mx_len]; omega)
            rw [decide_eq_false (more_ne xi k3 xl k2 k5)] at e10
            obtain ⟨E, hE⟩ : ∃ E : Nat → Int, E = fun i => (X.getD i 0 + K.getD i 0) % P := ⟨_, rfl⟩
            rw [show sumL P C X K = tbl C E by rw [hE]; rfl] at e9 e10
            have el := tbl_len C E
            rw [show lu (tbl C E) = PV.i (.l C ((tbl C E).map iu)) by rw [lu, el]] at e9 e10
            have te := List.take_of_length_le (l := (tbl C E).map iu) (i := C) (by rw [List.length_map, el]; exact Nat.le_refl _)
            repeat (first | ((first | refine X_call_fn2 rfl (by simp only [tys]) ?_ | refine X_dcall_fn2 rfl (by simp only [tys]) ?_); apply Exists.intro; apply And.intro; (focus (simp -dsimp only [simx, zzC, zzB, tys, ite_self, opnL, callB, callX, readsB, stepOp, nilCmp, ofVal, opBuiltin, opLen, PV.sk, scalBin, scalUn, intBin, opLoad, natOf, opConvert, opField, cellsP, oneP, Value.oneCell', opStore, toIV, scalT, scalA, scalC, boxesA, boxesC, zipB_none, zipB_mx, isZ, opZip, zeroP, opAppendZ, opMakeMap, opLookup, mboxB, opUpdate, ↓reduceIte, Nat.reduceSub, Nat.reduceEqDiff, Nat.reduceAdd, Nat.reduceMul, Nat.reduceLT, Nat.reduceLeDiff, Int.reduceToNat, Int.reduceLE, Int.reduceLT, Int.reduceNeg, reduceCtorEq, zzL, if_true, if_false, tf, tg, fl, gl, List.length_map] <;> rfl)); apply Exists.intro; apply And.intro; (focus (first | exact e3 | exact e4 | exact e5 | exact e6 | exact e7))) | refine X_opc rfl ?_ | refine X_dopc rfl ?_ | refine ⟨(by show drawK _ _ = true; kernel_rfl : drawX _ _ _), ?_⟩ | exact (by show drawK _ _ = true; kernel_rfl : drawX _ _ _) | simp -dsimp (maxSteps := 20000000) (disch := omega) only [simx, zzC, zzB, tys, ite_self, opnL, callB, callX, readsB, stepOp, nilCmp, ofVal, opBuiltin, opLen, PV.sk, scalBin, scalUn, intBin, opLoad, natOf, opConvert, opField, cellsP, oneP, Value.oneCell', opStore, toIV, scalT, scalA, scalC, boxesA, boxesC, zipB_none, zipB_mx, isZ, opZip, zeroP, opAppendZ, opMakeMap, opLookup, mboxB, opUpdate, ↓reduceIte, Nat.reduceSub, Nat.reduceEqDiff, Nat.reduceAdd, Nat.reduceMul, Nat.reduceLT, Nat.reduceLeDiff, Int.reduceToNat, Int.reduceLE, Int.reduceLT, Int.reduceNeg, reduceCtorEq, gos, Int.reduceAdd, Int.reduceSub, Int.reduceMul, Int.reduceEq, tf, tg, fl, gl, xl, hbl, rpx, rhx, rpr, rhr])
            refine X_loopH [0, 2, 5, 9, 25, 27, 28] [(32, 2) :: base] (0) (C) (fun j => True) (fun j => [(27, rowP ((32, 3) :: base) 1 j ((tbl j E).map iu)), (28, i64 j)]) (fun j => rowH (((Heap.none.put ((0, 0) :: base) (.var [i64 R, i64 C, lu l])).put ((14, 3) :: base) (.row true ((tbl C F).map iu))).put ((19, 3) :: base) (.row true ((tbl R G).map iu))) ((32, 3) :: base) j ((tbl j E).map iu)) ?_ ?_ ?_ ?_ ?_ (by decide) ?_
            · exact (fgt_cons (by simp only [Heap.none_at]) (by (simp -dsimp only [zzB, tys, ite_self, opnL, callB, callX, readsB, stepOp, nilCmp, ofVal, opBuiltin, opLen, PV.sk, scalBin, scalUn, intBin, opLoad, natOf, opConvert, opField, cellsP, oneP, Value.oneCell', opStore, toIV, scalT, scalA, scalC, boxesA, boxesC, zipB_none, zipB_mx, isZ, opZip, zeroP, opAppendZ, opMakeMap, opLookup, mboxB, opUpdate, ↓reduceIte, Nat.reduceSub, Nat.reduceEqDiff, Nat.reduceAdd, Nat.reduceMul, Nat.reduceLT, Nat.reduceLeDiff, Int.reduceToNat, Int.reduceLE, Int.reduceLT, Int.reduceNeg, reduceCtorEq, notIn_cons, notIn_nil]) <;> simp [refsL, refsP, mem_refs_rowP]) (by repeat (first | exact noVar_none _ | refine noVar_row ?_ | refine noVar_map ?_ | refine noVar_rowH ?_ | refine noVar_var ?_ (by simp [refsL, refsP, mem_refs_rowP]))) (fgt_nil))
            · ((simp -dsimp (disch := omega) only [simx, zzB, tys, ite_self, opnL, callB, callX, readsB, stepOp, nilCmp, ofVal, opBuiltin, opLen, PV.sk, scalBin, scalUn, intBin, opLoad, natOf, opConvert, opField, cellsP, oneP, Value.oneCell', opStore, toIV, scalT, scalA, scalC, boxesA, boxesC, zipB_none, zipB_mx, isZ, opZip, zeroP, opAppendZ, opMakeMap, opLookup, mboxB, opUpdate, ↓reduceIte, Nat.reduceSub, Nat.reduceEqDiff, Nat.reduceAdd, Nat.reduceMul, Nat.reduceLT, Nat.reduceLeDiff, Int.reduceToNat, Int.reduceLE, Int.reduceLT, Int.reduceNeg, reduceCtorEq, gos, Int.reduceAdd, Int.reduceSub, Int.reduceMul, Int.reduceEq]) <;> first | rfl | simp [rowP])
            · funext c
              simp (maxSteps := 20000000) only [Heap.drop_at, rowH_app, Heap.put_at, Heap.none_at, List.mem_cons, List.not_mem_nil, or_false]
              by_cases e0 : c = (0, 0) :: base
              · subst e0; simp []
              by_cases e1 : c = (14, 3) :: base
              · subst e1; simp []
              by_cases e2 : c = (19, 3) :: base
              · subst e2; simp []
              by_cases e3 : c = (32, 2) :: base
              · subst e3; simp []
              by_cases e4 : c = (32, 3) :: base
              · subst e4; simp []
              simp [e0, e1, e2, e3, e4]
            · omega
            · trivial
            · intro j hj _
              by_cases cj : j < C
              · have g1 : X[j]? = some (X.getD j 0) := by rw [List.getD_eq_getElem?_getD, List.getElem?_eq_getElem (by omega)]; rfl
                have g2 : K[j]? = some (K.getD j 0) := by rw [List.getD_eq_getElem?_getD, List.getElem?_eq_getElem (by omega)]; rfl
                have q1 := Add_in hp (getD_of xi (i := j) (by omega)) (getD_of k3 (i := j) (by omega))
                have t1 := tbl_succ j E
                have l1 := tbl_len j E
                rw [show (X.getD j 0 + K.getD j 0) % P = E j by rw [hE]] at q1
                clear hF hG hE
                generalize E j = s at q1 t1
                generalize X.getD j 0 = u at q1 g1
                generalize K.getD j 0 = v at q1 g2
                have lj1 : (j : Int) < X.length := by omega
                have lj2 : (j : Int) < K.length := by omega
                have lj3 : j < X.length := by omega
                have lj4 : j < K.length := by omega
                cases j with
                | zero =>
                  repeat (first | ((first | refine X_call_fn2 rfl (by simp only [tys]) ?_ | refine X_dcall_fn2 rfl (by simp only [tys]) ?_); apply Exists.intro; apply And.intro; (focus (simp -dsimp only [simx, zzC, zzB, tys, ite_self, opnL, callB, callX, readsB, stepOp, nilCmp, ofVal, opBuiltin, opLen, PV.sk, scalBin, scalUn, intBin, opLoad, natOf, opConvert, opField, cellsP, oneP, Value.oneCell', opStore, toIV, scalT, scalA, scalC, boxesA, boxesC, zipB_none, zipB_mx, isZ, opZip, zeroP, opAppendZ, opMakeMap, opLookup, mboxB, opUpdate, ↓reduceIte, Nat.reduceSub, Nat.reduceEqDiff, Nat.reduceAdd, Nat.reduceMul, Nat.reduceLT, Nat.reduceLeDiff, Int.reduceToNat, Int.reduceLE, Int.reduceLT, Int.reduceNeg, reduceCtorEq, zzL, if_true, if_false] <;> rfl)); apply Exists.intro; apply And.intro; (focus (first | exact q1))) | refine X_opc rfl ?_ | refine X_dopc rfl ?_ | refine ⟨(by show drawK _ _ = true; kernel_rfl : drawX _ _ _), ?_⟩ | exact (by show drawK _ _ = true; kernel_rfl : drawX _ _ _) | simp -dsimp (maxSteps := 20000000) (disch := omega) only [simx, zzC, zzB, tys, ite_self, opnL, callB, callX, readsB, stepOp, nilCmp, ofVal, opBuiltin, opLen, PV.sk, scalBin, scalUn, intBin, opLoad, natOf, opConvert, opField, cellsP, oneP, Value.oneCell', opStore, toIV, scalT, scalA, scalC, boxesA, boxesC, zipB_none, zipB_mx, isZ, opZip, zeroP, opAppendZ, opMakeMap, opLookup, mboxB, opUpdate, ↓reduceIte, Nat.reduceSub, Nat.reduceEqDiff, Nat.reduceAdd, Nat.reduceMul, Nat.reduceLT, Nat.reduceLeDiff, Int.reduceToNat, Int.reduceLE, Int.reduceLT, Int.reduceNeg, reduceCtorEq, gos, Int.reduceAdd, Int.reduceSub, Int.reduceMul, Int.reduceEq, cj, lj1, lj2, lj3, lj4, g1, g2])
                  refine X_append_one 22 [.int .u64 0] [iu s] (by simp only [tys]) (by simp only [tys]) rfl (by decide) (by rw [List.length_map, l1]) (by simp [Heap.put_at, Heap.none_at, rowH_app]) (by simp [Heap.put_at]; rfl) rfl (by simp only [tys]; omega) (by rw [mx_len]; omega) ?_
                  repeat (first | refine X_opc rfl ?_ | refine X_dopc rfl ?_ | refine ⟨(by show drawK _ _ = true; kernel_rfl : drawX _ _ _), ?_⟩ | exact (by show drawK _ _ = true; kernel_rfl : drawX _ _ _) | simp -dsimp (maxSteps := 20000000) (disch := omega) only [simx, zzC, zzB, tys, ite_self, opnL, callB, callX, readsB, stepOp, nilCmp, ofVal, opBuiltin, opLen, PV.sk, scalBin, scalUn, intBin, opLoad, natOf, opConvert, opField, cellsP, oneP, Value.oneCell', opStore, toIV, scalT, scalA, scalC, boxesA, boxesC, zipB_none, zipB_mx, isZ, opZip, zeroP, opAppendZ, opMakeMap, opLookup, mboxB, opUpdate, ↓reduceIte, Nat.reduceSub, Nat.reduceEqDiff, Nat.reduceAdd, Nat.reduceMul, Nat.reduceLT, Nat.reduceLeDiff, Int.reduceToNat, Int.reduceLE, Int.reduceLT, Int.reduceNeg, reduceCtorEq, gos, Int.reduceAdd, Int.reduceSub, Int.reduceMul, Int.reduceEq, cj, lj1, lj2, lj3, lj4])
                  refine ⟨cj, (fgt_cons (by simp only [Heap.none_at]) (by (simp -dsimp only [zzB, tys, ite_self, opnL, callB, callX, readsB, stepOp, nilCmp, ofVal, opBuiltin, opLen, PV.sk, scalBin, scalUn, intBin, opLoad, natOf, opConvert, opField, cellsP, oneP, Value.oneCell', opStore, toIV, scalT, scalA, scalC, boxesA, boxesC, zipB_none, zipB_mx, isZ, opZip, zeroP, opAppendZ, opMakeMap, opLookup, mboxB, opUpdate, ↓reduceIte, Nat.reduceSub, Nat.reduceEqDiff, Nat.reduceAdd, Nat.reduceMul, Nat.reduceLT, Nat.reduceLeDiff, Int.reduceToNat, Int.reduceLE, Int.reduceLT, Int.reduceNeg, reduceCtorEq, notIn_cons, notIn_nil]) <;> simp [refsL, refsP, mem_refs_rowP]) (by repeat (first | exact noVar_none _ | refine noVar_row ?_ | refine noVar_map ?_ | refine noVar_rowH ?_ | refine noVar_var ?_ (by simp [refsL, refsP, mem_refs_rowP]))) (fgt_nil)), ?_, ?_⟩
                  · rw [t1]; simp
                  · funext c
                    simp (maxSteps := 20000000) only [Heap.drop_at, rowH_app, Heap.put_at, Heap.none_at, List.mem_cons, List.not_mem_nil, or_false]
                    by_cases e0 : c = (0, 0) :: base
                    · subst e0; simp [t1]
                    by_cases e1 : c = (14, 3) :: base
                    · subst e1; simp [t1]
                    by_cases e2 : c = (19, 3) :: base
                    · subst e2; simp [t1]
                    by_cases e3 : c = (32, 2) :: base
                    · subst e3; simp [t1]
                    by_cases e4 : c = (32, 3) :: base
                    · subst e4; simp [t1]
                    simp [e0, e1, e2, e3, e4, t1]
                | succ j =>
                  repeat (first | ((first | refine X_call_fn2 rfl (by simp only [tys]) ?_ | refine X_dcall_fn2 rfl (by simp only [tys]) ?_); apply Exists.intro; apply And.intro; (focus (simp -dsimp only [simx, zzC, zzB, tys, ite_self, opnL, callB, callX, readsB, stepOp, nilCmp, ofVal, opBuiltin, opLen, PV.sk, scalBin, scalUn, intBin, opLoad, natOf, opConvert, opField, cellsP, oneP, Value.oneCell', opStore, toIV, scalT, scalA, scalC, boxesA, boxesC, zipB_none, zipB_mx, isZ, opZip, zeroP, opAppendZ, opMakeMap, opLookup, mboxB, opUpdate, ↓reduceIte, Nat.reduceSub, Nat.reduceEqDiff, Nat.reduceAdd, Nat.reduceMul, Nat.reduceLT, Nat.reduceLeDiff, Int.reduceToNat, Int.reduceLE, Int.reduceLT, Int.reduceNeg, reduceCtorEq, zzL, if_true, if_false] <;> rfl)); apply Exists.intro; apply And.intro; (focus (first | exact q1))) | refine X_opc rfl ?_ | refine X_dopc rfl ?_ | refine ⟨(by show drawK _ _ = true; kernel_rfl : drawX _ _ _), ?_⟩ | exact (by show drawK _ _ = true; kernel_rfl : drawX _ _ _) | simp -dsimp (maxSteps := 20000000) (disch := omega) only [simx, zzC, zzB, tys, ite_self, opnL, callB, callX, readsB, stepOp, nilCmp, ofVal, opBuiltin, opLen, PV.sk, scalBin, scalUn, intBin, opLoad, natOf, opConvert, opField, cellsP, oneP, Value.oneCell', opStore, toIV, scalT, scalA, scalC, boxesA, boxesC, zipB_none, zipB_mx, isZ, opZip, zeroP, opAppendZ, opMakeMap, opLookup, mboxB, opUpdate, ↓reduceIte, Nat.reduceSub, Nat.reduceEqDiff, Nat.reduceAdd, Nat.reduceMul, Nat.reduceLT, Nat.reduceLeDiff, Int.reduceToNat, Int.reduceLE, Int.reduceLT, Int.reduceNeg, reduceCtorEq, gos, Int.reduceAdd, Int.reduceSub, Int.reduceMul, Int.reduceEq, cj, lj1, lj2, lj3, lj4, g1, g2])
                  refine X_append_one 22 [.int .u64 0] [iu s] (by simp only [tys]) (by simp only [tys]) rfl (by decide) (by rw [List.length_map, l1, Nat.mul_one]) (by simp [Heap.put_at, Heap.none_at, rowH_app]) (by simp [Heap.put_at]; rfl) rfl (by simp only [tys]; omega) (by rw [mx_len]; omega) ?_
                  repeat (first | refine X_opc rfl ?_ | refine X_dopc rfl ?_ | refine ⟨(by show drawK _ _ = true; kernel_rfl : drawX _ _ _), ?_⟩ | exact (by show drawK _ _ = true; kernel_rfl : drawX _ _ _) | simp -dsimp (maxSteps := 20000000) (disch := omega) only [simx, zzC, zzB, tys, ite_self, opnL, callB, callX, readsB, stepOp, nilCmp, ofVal, opBuiltin, opLen, PV.sk, scalBin, scalUn, intBin, opLoad, natOf, opConvert, opField, cellsP, oneP, Value.oneCell', opStore, toIV, scalT, scalA, scalC, boxesA, boxesC, zipB_none, zipB_mx, isZ, opZip, zeroP, opAppendZ, opMakeMap, opLookup, mboxB, opUpdate, ↓reduceIte, Nat.reduceSub, Nat.reduceEqDiff, Nat.reduceAdd, Nat.reduceMul, Nat.reduceLT, Nat.reduceLeDiff, Int.reduceToNat, Int.reduceLE, Int.reduceLT, Int.reduceNeg, reduceCtorEq, gos, Int.reduceAdd, Int.reduceSub, Int.reduceMul, Int.reduceEq, cj, lj1, lj2, lj3, lj4])
                  refine ⟨cj, (fgt_cons (by simp only [Heap.none_at]) (by (simp -dsimp only [zzB, tys, ite_self, opnL, callB, callX, readsB, stepOp, nilCmp, ofVal, opBuiltin, opLen, PV.sk, scalBin, scalUn, intBin, opLoad, natOf, opConvert, opField, cellsP, oneP, Value.oneCell', opStore, toIV, scalT, scalA, scalC, boxesA, boxesC, zipB_none, zipB_mx, isZ, opZip, zeroP, opAppendZ, opMakeMap, opLookup, mboxB, opUpdate, ↓reduceIte, Nat.reduceSub, Nat.reduceEqDiff, Nat.reduceAdd, Nat.reduceMul, Nat.reduceLT, Nat.reduceLeDiff, Int.reduceToNat, Int.reduceLE, Int.reduceLT, Int.reduceNeg, reduceCtorEq, notIn_cons, notIn_nil]) <;> simp [refsL, refsP, mem_refs_rowP]) (by repeat (first | exact noVar_none _ | refine noVar_row ?_ | refine noVar_map ?_ | refine noVar_rowH ?_ | refine noVar_var ?_ (by simp [refsL, refsP, mem_refs_rowP]))) (fgt_nil)), ?_, ?_⟩
                  · rw [t1]; simp
                  · funext c
                    simp (maxSteps := 20000000) only [Heap.drop_at, rowH_app, Heap.put_at, Heap.none_at, List.mem_cons, List.not_mem_nil, or_false]
                    by_cases e0 : c = (0, 0) :: base
                    · subst e0; simp [t1]
                    by_cases e1 : c = (14, 3) :: base
                    · subst e1; simp [t1]
                    by_cases e2 : c = (19, 3) :: base
                    · subst e2; simp [t1]
                    by_cases e3 : c = (32, 2) :: base
                    · subst e3; simp [t1]
                    by_cases e4 : c = (32, 3) :: base
                    · subst e4; simp [t1]
                    simp [e0, e1, e2, e3, e4, t1]
              · obtain rfl : C = j := by omega
                repeat (first | ((first | refine X_call_fn2 rfl (by simp only [tys]) ?_ | refine X_dcall_fn2 rfl (by simp only [tys]) ?_); apply Exists.intro; apply And.intro; (focus (simp -dsimp only [simx, zzC, zzB, tys, ite_self, opnL, callB, callX, readsB, stepOp, nilCmp, ofVal, opBuiltin, opLen, PV.sk, scalBin, scalUn, intBin, opLoad, natOf, opConvert, opField, cellsP, oneP, Value.oneCell', opStore, toIV, scalT, scalA, scalC, boxesA, boxesC, zipB_none, zipB_mx, isZ, opZip, zeroP, opAppendZ, opMakeMap, opLookup, mboxB, opUpdate, ↓reduceIte, Nat.reduceSub, Nat.reduceEqDiff, Nat.reduceAdd, Nat.reduceMul, Nat.reduceLT, Nat.reduceLeDiff, Int.reduceToNat, Int.reduceLE, Int.reduceLT, Int.reduceNeg, reduceCtorEq, zzL, if_true, if_false, tf, tg, te, fl, gl, el, List.length_map] <;> rfl)); apply Exists.intro; apply And.intro; (focus (first | exact e8 | exact e9 | exact e10))) | refine X_opc rfl ?_ | refine X_dopc rfl ?_ | refine ⟨(by show drawK _ _ = true; kernel_rfl : drawX _ _ _), ?_⟩ | exact (by show drawK _ _ = true; kernel_rfl : drawX _ _ _) | simp -dsimp (maxSteps := 20000000) (disch := omega) only [simx, zzC, zzB, tys, ite_self, opnL, callB, callX, readsB, stepOp, nilCmp, ofVal, opBuiltin, opLen, PV.sk, scalBin, scalUn, intBin, opLoad, natOf, opConvert, opField, cellsP, oneP, Value.oneCell', opStore, toIV, scalT, scalA, scalC, boxesA, boxesC, zipB_none, zipB_mx, isZ, opZip, zeroP, opAppendZ, opMakeMap, opLookup, mboxB, opUpdate, ↓reduceIte, Nat.reduceSub, Nat.reduceEqDiff, Nat.reduceAdd, Nat.reduceMul, Nat.reduceLT, Nat.reduceLeDiff, Int.reduceToNat, Int.reduceLE, Int.reduceLT, Int.reduceNeg, reduceCtorEq, zzR, gos, Int.reduceAdd, Int.reduceSub, Int.reduceMul, Int.reduceEq, tf, tg, te, fl, gl, el, xl, hbl, rpx, rhx, rpr, rhr])
end Go.Proofs.Ythnfphgjfpcpbaa.TM
