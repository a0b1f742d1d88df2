/- Pure facts of layer 1: what the operations modulo p come to. -/
import Derived.Test.YtdfhkdddlfmceaaX1
import Derived.Test.YtdfhkdddlfmceaaX4
import Derived.Test.YtdfhkdddlfmceaaX7
import Derived.Test.YtdfhkdddlfmceaaX9
import Derived.Test.YtdfhkdddlfmceaaX10
import Derived.Test.YtdfhkdddlfmceaaX13
import Derived.Test.YtdfhkdddlfmceaaX17
import Derived.Test.YtdfhkdddlfmceaaX21
import Derived.Test.YtdfhkdddlfmceaaPfB
namespace Go.Proofs.Ytdfhkdddlfmceaa.PfC
open Go.RowKit Go.Proofs.YtdfhkdddlfmceaaW.PrintWords Go.Proofs.YtdfhkdddlfmceaaW.PrintLast Go.Proofs.YtdfhkdddlfmceaaW.PrintMore Go.Proofs.Ytdfhkdddlfmceaa.X Go.Proofs.Ytdfhkdddlfmceaa.PfA Go.Proofs.Ytdfhkdddlfmceaa.PfB
set_option linter.unusedVariables false
set_option linter.unusedSimpArgs false

/-- A word of 64 bits. -/
def W64 (a : Int) : Prop := 0 ≤ a ∧ a < 18446744073709551616
/-- May p be a modulus? -/
def RightB (p : Int) : Bool := decide (2 ≤ p) && decide (p < 9223372036854775808)
def HasB (p : Int) (l : List Int) : Bool := l.all (fun a => decide (a < p)) && RightB p
theorem wf_iff {k : IntKind} {a : Int} : (Lit.int k a).wf = true ↔ k.min ≤ a ∧ a ≤ k.max := by simp [Lit.wf]
theorem w64_of {a : Int} (h : (Lit.int .u64 a).wf = true) : W64 a := by
  have := wf_iff.1 h
  have e1 : IntKind.u64.min = 0 := rfl
  have e2 : IntKind.u64.max = 18446744073709551615 := rfl
  exact ⟨by omega, by omega⟩
theorem w64_all {l : List Int} (h : ∀ a ∈ l, (Lit.int .u64 a).wf = true) : ∀ a ∈ l, W64 a := fun a ha => w64_of (h a ha)
theorem w64_wf {a : Int} (h : W64 a) : (Lit.int .u64 a).wf = true := by
  have e1 : IntKind.u64.min = 0 := rfl
  have e2 : IntKind.u64.max = 18446744073709551615 := rfl
  obtain ⟨h1, h2⟩ := h
  exact wf_iff.2 ⟨by omega, by omega⟩
theorem i64_of {a : Int} (h : (Lit.int .i64 a).wf = true) : -9223372036854775808 ≤ a ∧ a < 9223372036854775808 := by
  have := wf_iff.1 h
  have e1 : IntKind.i64.min = -9223372036854775808 := rfl
  have e2 : IntKind.i64.max = 9223372036854775807 := rfl
  omega
theorem u32_of {a : Int} (h : (Lit.int .u32 a).wf = true) : 0 ≤ a ∧ a < 4294967296 := by
  have := wf_iff.1 h
  have e1 : IntKind.u32.min = 0 := rfl
  have e2 : IntKind.u32.max = 4294967295 := rfl
  omega
theorem u8_of {a : Int} (h : (Lit.int .u8 a).wf = true) : 0 ≤ a ∧ a < 256 := by
  have := wf_iff.1 h
  have e1 : IntKind.u8.min = 0 := rfl
  have e2 : IntKind.u8.max = 255 := rfl
  omega
theorem hasB_nil (p : Int) : HasB p [] = RightB p := by simp [HasB]
theorem hasB_cons (p a : Int) (l : List Int) : HasB p (a :: l) = (decide (a < p) && HasB p l) := by simp [HasB, Bool.and_assoc]

theorem right_iff (p : Int) : RightB p = true ↔ 2 ≤ p ∧ p < 9223372036854775808 := by simp [RightB]
theorem has_iff (p : Int) (l : List Int) : HasB p l = true ↔ (∀ a ∈ l, a < p) ∧ 2 ≤ p ∧ p < 9223372036854775808 := by simp [HasB, RightB]
theorem right_f (p : Int) : field_Right.f p = some (RightB p) := by
  unfold field_Right.f RightB
  by_cases h : 2 ≤ p <;> simp [h]
theorem rright_f (p : Int) : affidavitref01_Right.f p = some (RightB p) := by
  unfold affidavitref01_Right.f RightB
  by_cases h : 2 ≤ p
  · rw [if_pos (by omega)]
    simp only [h, decide_true, Bool.true_and]
    congr 1
    exact decide_eq_decide.2 (by omega)
  · rw [if_neg (by omega)]
    simp [h]

theorem wadd {i n : Int} (h0 : 0 ≤ i) (h : i < n) (hn : n ≤ 9223372036854775807) : wrap64 (i + 1) = i + 1 := iw_of (by omega) (by omega)
theorem mx_len : maxLen = 9223372036854775807 := rfl
theorem rd_at (l : List Int) (i : Nat) (h : i < l.length) : rd l (i : Int) = l[i] := by
  unfold rd
  rw [Int.toNat_natCast, List.getD_eq_getElem?_getD, List.getElem?_eq_getElem h]
  rfl
theorem drop_at (l : List Int) (i : Nat) (h : i < l.length) : l.drop i = l[i] :: l.drop (i + 1) := List.drop_eq_getElem_cons h

theorem ev_has (p : Int) (l : List Int) (hl : l.length ≤ maxLen) : Ev (fun k => field_Has.f k p l) (HasB p l) := by
  have key : ∀ (d i : Nat), l.length - i = d → i ≤ l.length → Ev (fun k => field_Has.l0 k p l (l.length : Int) (i : Int)) (HasB p (l.drop i)) := by
    intro d
    induction d with
    | zero =>
      intro i hd hi
      refine Ev.step (f := fun _ => some (RightB p)) (fun k => ?_) ?_
      · rw [field_Has.l0, if_neg (by omega), right_f]; rfl
      · rw [List.drop_of_length_le (by omega)]
        rw [hasB_nil]; exact Ev.now _
    | succ d ih =>
      intro i hd hi
      have hlt : i < l.length := by omega
      by_cases c : l[i] ≥ p
      · refine Ev.step (f := fun _ => some false) (fun k => ?_) ?_
        · rw [field_Has.l0, if_pos (by omega), if_pos (by omega), if_pos (by omega), rd_at l i hlt, if_pos c]
        · rw [drop_at l i hlt]
          rw [hasB_cons, show decide (l[i] < p) = false by simp; omega]
          exact Ev.now false
      · refine Ev.step (f := fun k => field_Has.l0 k p l (l.length : Int) ((i + 1 : Nat) : Int)) (fun k => ?_) ?_
        · rw [field_Has.l0, if_pos (by omega), if_pos (by omega), if_pos (by omega), rd_at l i hlt, if_neg c, wadd (n := l.length) (by omega) (by omega) (by have := mx_len; omega)]
          rfl
        · have := ih (i + 1) (by omega) (by omega)
          rw [drop_at l i hlt]
          rw [hasB_cons, show decide (l[i] < p) = true by simp; omega]
          exact this
  exact key l.length 0 (by omega) (by omega)

theorem ev_rhas (p : Int) (l : List Int) (hl : l.length ≤ maxLen) : Ev (fun k => affidavitref01_Has.f k p l) (HasB p l) := by
  have key : ∀ (d i : Nat), l.length - i = d → i ≤ l.length → Ev (fun k => affidavitref01_Has.l0 k p l (i : Int)) (HasB p (l.drop i)) := by
    intro d
    induction d with
    | zero =>
      intro i hd hi
      refine Ev.step (f := fun _ => some (RightB p)) (fun k => ?_) ?_
      · rw [affidavitref01_Has.l0, if_neg (by omega), rright_f]; rfl
      · rw [List.drop_of_length_le (by omega)]
        rw [hasB_nil]; exact Ev.now _
    | succ d ih =>
      intro i hd hi
      have hlt : i < l.length := by omega
      by_cases c : l[i] ≥ p
      · refine Ev.step (f := fun _ => some false) (fun k => ?_) ?_
        · rw [affidavitref01_Has.l0, if_pos (by omega), if_pos (by omega), rd_at l i hlt, if_pos c]
        · rw [drop_at l i hlt]
          rw [hasB_cons, show decide (l[i] < p) = false by simp; omega]
          exact Ev.now false
      · refine Ev.step (f := fun k => affidavitref01_Has.l0 k p l ((i + 1 : Nat) : Int)) (fun k => ?_) ?_
        · rw [affidavitref01_Has.l0, if_pos (by omega), if_pos (by omega), rd_at l i hlt, if_neg c, wadd (n := l.length) (by omega) (by omega) (by have := mx_len; omega)]
          rfl
        · have := ih (i + 1) (by omega) (by omega)
          rw [drop_at l i hlt]
          rw [hasB_cons, show decide (l[i] < p) = true by simp; omega]
          exact this
  exact key l.length 0 (by omega) (by omega)

theorem ev_same (a b : List Int) (ha : a.length ≤ maxLen) : Ev (fun k => affidavitref01_Same.f k a b) (decide (a = b)) := by
  by_cases hlen : a.length = b.length
  · have key : ∀ (d i : Nat), a.length - i = d → i ≤ a.length → Ev (fun k => affidavitref01_Same.l0 k a b (i : Int)) (decide (a.drop i = b.drop i)) := by
      intro d
      induction d with
      | zero =>
        intro i hd hi
        refine Ev.step (f := fun _ => some true) (fun k => ?_) ?_
        · rw [affidavitref01_Same.l0, if_neg (by omega)]
        · rw [List.drop_of_length_le (l := a) (by omega), List.drop_of_length_le (l := b) (by omega)]
          simpa using Ev.now true
      | succ d ih =>
        intro i hd hi
        have hlt : i < a.length := by omega
        have hlt2 : i < b.length := by omega
        by_cases c : a[i] = b[i]
        · refine Ev.step (f := fun k => affidavitref01_Same.l0 k a b ((i + 1 : Nat) : Int)) (fun k => ?_) ?_
          · rw [affidavitref01_Same.l0, if_pos (by omega), if_pos (by omega), if_pos (by omega), rd_at a i hlt, rd_at b i hlt2, if_pos c, wadd (n := a.length) (by omega) (by omega) (by have := mx_len; omega)]
            rfl
          · have := ih (i + 1) (by omega) (by omega)
            rw [drop_at a i hlt, drop_at b i hlt2, show decide (a[i] :: a.drop (i + 1) = b[i] :: b.drop (i + 1)) = decide (a.drop (i + 1) = b.drop (i + 1)) from decide_eq_decide.2 ⟨fun h => (List.cons.inj h).2, fun h => by rw [c, h]⟩]
            exact this
        · refine Ev.step (f := fun _ => some false) (fun k => ?_) ?_
          · rw [affidavitref01_Same.l0, if_pos (by omega), if_pos (by omega), if_pos (by omega), rd_at a i hlt, rd_at b i hlt2, if_neg c]
          · rw [drop_at a i hlt, drop_at b i hlt2, decide_eq_false (fun h => c (List.cons.inj h).1)]
            exact Ev.now false
    refine Ev.congr (f := fun k => affidavitref01_Same.l0 k a b 0) (fun k => ?_) ?_
    · unfold affidavitref01_Same.f
      rw [if_pos (by omega)]
    · simpa using key a.length 0 (by omega) (by omega)
  · refine Ev.congr (f := fun _ => some false) (fun k => ?_) ?_
    · unfold affidavitref01_Same.f
      rw [if_neg (by omega)]
    · have : a ≠ b := fun h => hlen (by rw [h])
      simpa [this] using Ev.now false

theorem mm_l (p a b : Int) : a % p * b % p = a * b % p := by rw [Int.mul_emod, Int.emod_emod_of_dvd _ (Int.dvd_refl p), ← Int.mul_emod]
theorem mm_r (p a b : Int) : a * (b % p) % p = a * b % p := by rw [Int.mul_emod, Int.emod_emod_of_dvd _ (Int.dvd_refl p), ← Int.mul_emod]
theorem am_l (p a b : Int) : (a % p + b) % p = (a + b) % p := by rw [Int.add_emod, Int.emod_emod_of_dvd _ (Int.dvd_refl p), ← Int.add_emod]
theorem am_r (p a b : Int) : (a + b % p) % p = (a + b) % p := by rw [Int.add_emod, Int.emod_emod_of_dvd _ (Int.dvd_refl p), ← Int.add_emod]
theorem sm_l (p a b : Int) : (a % p - b) % p = (a - b) % p := by rw [Int.sub_emod, Int.emod_emod_of_dvd _ (Int.dvd_refl p), ← Int.sub_emod]
theorem sm_r (p a b : Int) : (a - b % p) % p = (a - b) % p := by rw [Int.sub_emod, Int.emod_emod_of_dvd _ (Int.dvd_refl p), ← Int.sub_emod]
theorem pm (p a : Int) (n : Nat) : (a % p) ^ n % p = a ^ n % p := by
  induction n with
  | zero => simp
  | succ n ih => rw [Int.pow_succ, Int.pow_succ, Int.mul_emod, ih, Int.emod_emod_of_dvd _ (Int.dvd_refl p), ← Int.mul_emod]

/-! ### sums, differences, products -/
theorem ev_mul (p a b : Int) (h1 : 0 < p) (h2 : p < 18446744073709551616) (ha : W64 a) (hb : W64 b) : Ev (fun k => field_mul.f k p a b) (a * b % p) := by
  have h0 : 0 ≤ a * b := Int.mul_nonneg ha.1 hb.1
  have hd := Int.emod_add_mul_ediv (a * b) 18446744073709551616
  have r := rem64 (a * b / 18446744073709551616) (a * b % 18446744073709551616) p (by omega) h1 h2 (by omega) (by omega)
  rw [show a * b / 18446744073709551616 * 18446744073709551616 + a * b % 18446744073709551616 = a * b by omega] at r
  refine Ev.congr (f := fun k => (bits_Rem64.f k (a * b / 18446744073709551616) (a * b % 18446744073709551616) p).bind fun t => some t) (fun k => ?_) (Ev.bind r (Ev.now _))
  unfold field_mul.f
  rw [mul64 a b ha.1 ha.2 hb.1 hb.2]
  rfl

/-- Numbers of a modulus. -/
def In (p a : Int) : Prop := 0 ≤ a ∧ a < p
theorem In.w64 {p a : Int} (hp : p ≤ 9223372036854775808) (h : In p a) : W64 a := by unfold In W64 at *; omega
theorem emod_in {p : Int} (a : Int) (h : 0 < p) : In p (a % p) := ⟨Int.emod_nonneg _ (by omega), Int.emod_lt_of_pos _ h⟩
theorem In.emod {p a : Int} (h : In p a) : a % p = a := Int.emod_eq_of_lt h.1 h.2

theorem add_f (p a b : Int) (hp : p < 9223372036854775808) (ha : In p a) (hb : In p b) : field_add.f p a b = some ((a + b) % p) := by
  unfold field_add.f
  have h1 := ha.1; have h2 := ha.2; have h3 := hb.1; have h4 := hb.2
  rw [uw_of (n := a + b) (by omega) (by omega)]
  by_cases c : a + b < p
  · rw [if_pos c, Int.emod_eq_of_lt (by omega) c]
  · rw [if_neg c, uw_of (by omega) (by omega)]
    congr 1
    have : a + b = (a + b - p) + p * 1 := by omega
    rw [this, Int.add_mul_emod_self_left, Int.emod_eq_of_lt (by omega) (by omega)]
    omega
theorem sub_f (p a b : Int) (hp : p < 9223372036854775808) (ha : In p a) (hb : In p b) : field_sub.f p a b = some ((a - b) % p) := by
  unfold field_sub.f
  have h1 := ha.1; have h2 := ha.2; have h3 := hb.1; have h4 := hb.2
  by_cases c : a ≥ b
  · rw [if_pos c, uw_of (n := a - b) (by omega) (by omega), Int.emod_eq_of_lt (by omega) (by omega)]
  · rw [if_neg c, uw_of (n := p - b) (by omega) (by omega), uw_of (by omega) (by omega)]
    congr 1
    have : a - b = (a + (p - b)) + p * (-1) := by omega
    rw [this, Int.add_mul_emod_self_left, Int.emod_eq_of_lt (by omega) (by omega)]

/-- Two numbers, and what is made of them. -/
def twoR (p a b r : Int) : Int × Int := if HasB p [a, b] then (r, 0) else (0, 1)
theorem two_in {p a b : Int} (ha : W64 a) (hb : W64 b) (h : HasB p [a, b] = true) : In p a ∧ In p b ∧ 2 ≤ p ∧ p < 9223372036854775808 := by
  obtain ⟨h1, h2, h3⟩ := (has_iff _ _).1 h
  exact ⟨⟨ha.1, h1 a (by simp)⟩, ⟨hb.1, h1 b (by simp)⟩, h2, h3⟩
theorem ev_Mul (p a b : Int) (ha : W64 a) (hb : W64 b) : Ev (fun k => field_Mul.f k p a b) (twoR p a b (a * b % p)) := by
  have h := ev_has p [a, b] (by rw [mx_len]; simp)
  have : Ev (fun k => field_two_mul.f k p a b) (twoR p a b (a * b % p)) := by
    refine Ev.bind h ?_
    unfold twoR
    cases hc : HasB p [a, b] with
    | false => simpa using Ev.now ((0 : Int), (1 : Int))
    | true =>
      obtain ⟨ia, ib, p1, p2⟩ := two_in ha hb hc
      simpa using Ev.bind (ev_mul p a b (by omega) (by omega) ha hb) (Ev.now (a * b % p, (0 : Int)))
  exact Ev.bind this (Ev.now _)
theorem ev_Add (p a b : Int) (ha : W64 a) (hb : W64 b) : Ev (fun k => field_Add.f k p a b) (twoR p a b ((a + b) % p)) := by
  have h := ev_has p [a, b] (by rw [mx_len]; simp)
  have : Ev (fun k => field_two_add.f k p a b) (twoR p a b ((a + b) % p)) := by
    refine Ev.bind h ?_
    unfold twoR
    cases hc : HasB p [a, b] with
    | false => simpa using Ev.now ((0 : Int), (1 : Int))
    | true =>
      obtain ⟨ia, ib, p1, p2⟩ := two_in ha hb hc
      rw [add_f p a b p2 ia ib]
      simpa using Ev.now ((a + b) % p, (0 : Int))
  exact Ev.bind this (Ev.now _)
theorem ev_Sub (p a b : Int) (ha : W64 a) (hb : W64 b) : Ev (fun k => field_Sub.f k p a b) (twoR p a b ((a - b) % p)) := by
  have h := ev_has p [a, b] (by rw [mx_len]; simp)
  have : Ev (fun k => field_two_sub.f k p a b) (twoR p a b ((a - b) % p)) := by
    refine Ev.bind h ?_
    unfold twoR
    cases hc : HasB p [a, b] with
    | false => simpa using Ev.now ((0 : Int), (1 : Int))
    | true =>
      obtain ⟨ia, ib, p1, p2⟩ := two_in ha hb hc
      rw [sub_f p a b p2 ia ib]
      simpa using Ev.now ((a - b) % p, (0 : Int))
  exact Ev.bind this (Ev.now _)
theorem twoR_in {p a b r : Int} (h1 : 2 ≤ p) (h2 : p < 9223372036854775808) (ha : In p a) (hb : In p b) : twoR p a b r = (r, 0) := by
  unfold twoR
  rw [if_pos ((has_iff _ _).2 ⟨by intro x hx; simp at hx; rcases hx with rfl | rfl; exact ha.2; exact hb.2, h1, h2⟩)]
/-- The same, of numbers of the modulus. -/
theorem ev_Mul' {p a b : Int} (h1 : 2 ≤ p) (h2 : p < 9223372036854775808) (ha : In p a) (hb : In p b) : Ev (fun k => field_Mul.f k p a b) (a * b % p, 0) := by
  have := ev_Mul p a b (ha.w64 (by omega)) (hb.w64 (by omega))
  rwa [twoR_in h1 h2 ha hb] at this
theorem ev_Add' {p a b : Int} (h1 : 2 ≤ p) (h2 : p < 9223372036854775808) (ha : In p a) (hb : In p b) : Ev (fun k => field_Add.f k p a b) ((a + b) % p, 0) := by
  have := ev_Add p a b (ha.w64 (by omega)) (hb.w64 (by omega))
  rwa [twoR_in h1 h2 ha hb] at this
theorem ev_Sub' {p a b : Int} (h1 : 2 ≤ p) (h2 : p < 9223372036854775808) (ha : In p a) (hb : In p b) : Ev (fun k => field_Sub.f k p a b) ((a - b) % p, 0) := by
  have := ev_Sub p a b (ha.w64 (by omega)) (hb.w64 (by omega))
  rwa [twoR_in h1 h2 ha hb] at this

/-! ### powers -/
theorem pow_l0 (p : Int) (h1 : 2 ≤ p) (h2 : p < 9223372036854775808) : ∀ (n : Nat) (a o : Int), n < 18446744073709551616 → In p a → In p o →
    Ev (fun k => field_Pow.l0 k p a (n : Int) o) (o * a ^ n % p, 0) := by
  intro n
  induction n using Nat.strongRecOn with
  | _ n ih =>
  intro a o hn ha ho
  by_cases c : n = 0
  · subst c
    refine Ev.step (f := fun _ => some (o, 0)) (fun k => ?_) ?_
    · rw [field_Pow.l0, if_neg (by simp)]
    · rw [Int.pow_zero, Int.mul_one, ho.emod]; exact Ev.now _
  · have hw := ha.w64 (p := p) (by omega)
    have hwo := ho.w64 (p := p) (by omega)
    have sq := ev_mul p a a (by omega) (by omega) hw hw
    have e2 : (n : Int) / 2 = ((n / 2 : Nat) : Int) := by omega
    have hsq : (a * a % p) ^ (n / 2) % p = (a * a) ^ (n / 2) % p := pm _ _ _
    by_cases c2 : n % 2 = 1
    · have om := ev_mul p o a (by omega) (by omega) hwo hw
      have hr := ih (n / 2) (by omega) (a * a % p) (o * a % p) (by omega) (emod_in _ (by omega)) (emod_in _ (by omega))
      refine Ev.step (f := fun k => (field_mul.f k p o a).bind fun t => (field_mul.f k p a a).bind fun u => field_Pow.l0 k p u ((n / 2 : Nat) : Int) t) (fun k => ?_) ?_
      · rw [field_Pow.l0, if_pos (by omega), and1 (by omega) (by omega), if_pos (by omega), e2]
      · have e3 : o * a % p * (a * a % p) ^ (n / 2) % p = o * a ^ n % p := by
          rw [Int.mul_emod, Int.emod_emod_of_dvd _ (Int.dvd_refl p), hsq, ← Int.mul_emod]
          congr 1
          have : n = 1 + 2 * (n / 2) := by omega
          conv => rhs; rw [this, Int.pow_add, Int.pow_mul, Int.pow_one]
          rw [Int.mul_assoc, show a * a = a ^ 2 by grind]
        rw [e3] at hr
        exact Ev.bind om (Ev.bind sq hr)
    · have hr := ih (n / 2) (by omega) (a * a % p) o (by omega) (emod_in _ (by omega)) ho
      refine Ev.step (f := fun k => (field_mul.f k p a a).bind fun u => field_Pow.l0 k p u ((n / 2 : Nat) : Int) o) (fun k => ?_) ?_
      · rw [field_Pow.l0, if_pos (by omega), and1 (by omega) (by omega), if_neg (by omega), e2]
      · have e3 : o * (a * a % p) ^ (n / 2) % p = o * a ^ n % p := by
          rw [Int.mul_emod, hsq, ← Int.mul_emod]
          congr 1
          have : n = 2 * (n / 2) := by omega
          conv => rhs; rw [this, Int.pow_mul]
          rw [show a * a = a ^ 2 by grind]
        rw [e3] at hr
        exact Ev.bind sq hr
def powR (p a : Int) (n : Nat) : Int × Int := if HasB p [a] then (a ^ n % p, 0) else (0, 1)
theorem has1 {p a : Int} (ha : W64 a) (h : HasB p [a] = true) : In p a ∧ 2 ≤ p ∧ p < 9223372036854775808 := by
  obtain ⟨h1, h2, h3⟩ := (has_iff _ _).1 h
  exact ⟨⟨ha.1, h1 a (by simp)⟩, h2, h3⟩
theorem ev_Pow (p a : Int) (n : Nat) (ha : W64 a) (hn : n < 18446744073709551616) : Ev (fun k => field_Pow.f k p a (n : Int)) (powR p a n) := by
  have h := ev_has p [a] (by rw [mx_len]; simp)
  refine Ev.bind h ?_
  unfold powR
  cases hc : HasB p [a] with
  | false => simpa using Ev.now ((0 : Int), (1 : Int))
  | true =>
    obtain ⟨ia, p1, p2⟩ := has1 ha hc
    have := pow_l0 p p1 p2 n a 1 hn ia ⟨by omega, by omega⟩
    simpa using this
theorem powR_in {p a : Int} {n : Nat} (h1 : 2 ≤ p) (h2 : p < 9223372036854775808) (ha : In p a) : powR p a n = (a ^ n % p, 0) := by
  unfold powR
  rw [if_pos ((has_iff _ _).2 ⟨by intro x hx; simp at hx; subst hx; exact ha.2, h1, h2⟩)]

/-! ### what turns a number round -/
/-- The number of p that is 1 with a, if there is one. -/
noncomputable def finv (p a : Int) : Int := by
  classical exact if h : ∃ x, In p x ∧ a * x % p = 1 then h.choose else 0
theorem finv_spec {p a x : Int} (hx : In p x) (h : a * x % p = 1) : finv p a = x := by
  have hex : ∃ x, In p x ∧ a * x % p = 1 := ⟨x, hx, h⟩
  have hd : finv p a = hex.choose := by unfold finv; rw [dif_pos hex]
  obtain ⟨h1, h2⟩ := hex.choose_spec
  rw [hd]
  generalize hex.choose = y at h1 h2
  have e1 : y * (a * x % p) % p = y := by rw [h, Int.mul_one, h1.emod]
  have e2 : x * (a * y % p) % p = x := by rw [h2, Int.mul_one, hx.emod]
  have e3 : y * (a * x % p) % p = x * (a * y % p) % p := by
    rw [mm_r, mm_r]
    congr 1
    grind
  rw [← e1, e3, e2]
/-- What Inv answers. -/
noncomputable def invR (p a : Int) : Int × Int := if Int.gcd p a = 1 then (finv p a, 0) else (0, 5)

/-- Euclid's rule, step by step: what its four numbers are. -/
structure Eu (p a r s x y : Int) : Prop where
  hs0 : 0 ≤ s
  hsr : s < r
  hrp : r ≤ p
  hg : Int.gcd r s = Int.gcd p a
  hx : ∃ z, x * a = r + z * p
  hy : ∃ z, y * a = s + z * p
  hsg : (0 ≤ x ∧ y ≤ 0 ∧ -y * r + x * s = p) ∨ (x ≤ 0 ∧ 0 ≤ y ∧ y * r + -x * s = p)
  hx2 : 2 * x ≤ p ∧ -(2 * x) ≤ p

theorem eu_next {p a r s x y : Int} (h : Eu p a r s x y) (hp : p < 9223372036854775808) (h0 : s ≠ 0) :
    Eu p a s (r - r / s * s) y (x - r / s * y) ∧ (∀ z, z = r / s * y → -9223372036854775808 ≤ z ∧ z < 9223372036854775808 ∧ -9223372036854775808 ≤ x - z ∧ x - z < 9223372036854775808) ∧ 0 ≤ r / s * s ∧ r / s * s ≤ r ∧ 0 ≤ r / s ∧ r / s ≤ r := by
  obtain ⟨hs0, hsr, hrp, hg, ⟨z1, hx⟩, ⟨z2, hy⟩, hsg, hx2, hx3⟩ := h
  have hq := Int.emod_add_mul_ediv r s
  have hqc : s * (r / s) = r / s * s := Int.mul_comm _ _
  have hm0 := Int.emod_nonneg r h0
  have hm1 := Int.emod_lt_of_pos r (show 0 < s by omega)
  have hq0 : 0 ≤ r / s := Int.ediv_nonneg (by omega) hs0
  have hqr : r / s ≤ r := Int.ediv_le_self _ (by omega)
  have hrem : r - r / s * s = r % s := by omega
  have hqs0 : 0 ≤ r / s * s := Int.mul_nonneg hq0 hs0
  have zs : (0 ≤ x ∧ r / s * y ≤ 0) ∨ (x ≤ 0 ∧ 0 ≤ r / s * y) := by
    rcases hsg with ⟨g1, g2, g3⟩ | ⟨g1, g2, g3⟩
    · have h1 : 0 ≤ r / s * -y := Int.mul_nonneg hq0 (by omega)
      have e : r / s * -y = -(r / s * y) := by grind
      exact .inl ⟨g1, by omega⟩
    · exact .inr ⟨g1, Int.mul_nonneg hq0 g2⟩
  -- the signs, and that nothing is beyond p
  have sg : (0 ≤ y ∧ x - r / s * y ≤ 0 ∧ -(x - r / s * y) * s + y * (r - r / s * s) = p) ∨ (y ≤ 0 ∧ 0 ≤ x - r / s * y ∧ (x - r / s * y) * s + -y * (r - r / s * s) = p) := by
    rcases hsg with ⟨g1, g2, g3⟩ | ⟨g1, g2, g3⟩
    · right
      have : 0 ≤ r / s * -y := Int.mul_nonneg hq0 (by omega)
      have e : r / s * -y = -(r / s * y) := by grind
      refine ⟨g2, by omega, ?_⟩
      rw [← g3]; grind
    · left
      have : 0 ≤ r / s * y := Int.mul_nonneg hq0 g2
      refine ⟨g2, by omega, ?_⟩
      rw [← g3]; grind
  have hy2 : 2 * y ≤ p ∧ -(2 * y) ≤ p := by
    rcases hsg with ⟨g1, g2, g3⟩ | ⟨g1, g2, g3⟩
    · have h1 : 2 * -y ≤ r * -y := Int.mul_le_mul_of_nonneg_right (by omega) (by omega)
      have h2 : 0 ≤ x * s := Int.mul_nonneg g1 hs0
      have e : -y * r = r * -y := by grind
      omega
    · have h1 : 2 * y ≤ r * y := Int.mul_le_mul_of_nonneg_right (by omega) g2
      have h2 : 0 ≤ -x * s := Int.mul_nonneg (by omega) hs0
      have e : y * r = r * y := by grind
      omega
  have bd : ∀ u, (0 ≤ u ∧ u * s ≤ p → u ≤ p) := by
    intro u ⟨h1, h2⟩
    have : u * 1 ≤ u * s := Int.mul_le_mul_of_nonneg_left (by omega) h1
    omega
  have hb : -p ≤ x - r / s * y ∧ x - r / s * y ≤ p := by
    rcases sg with ⟨g1, g2, g3⟩ | ⟨g1, g2, g3⟩
    · have h2 : 0 ≤ y * (r - r / s * s) := Int.mul_nonneg g1 (by omega)
      have := bd (-(x - r / s * y)) ⟨by omega, by omega⟩
      omega
    · have h2 : 0 ≤ -y * (r - r / s * s) := Int.mul_nonneg (by omega) (by omega)
      have := bd (x - r / s * y) ⟨by omega, by omega⟩
      omega
  refine ⟨⟨by omega, by omega, by omega, ?_, ⟨z2, hy⟩, ⟨z1 - r / s * z2, ?_⟩, sg, hy2⟩, ?_, hqs0, by omega, hq0, hqr⟩
  · rw [Int.gcd_sub_mul_right_right, Int.gcd_comm, hg]
  · have : (x - r / s * y) * a = x * a - r / s * (y * a) := by grind
    rw [this, hx, hy]; grind
  · intro z hz
    subst hz
    clear sg hsg bd
    omega
end Go.Proofs.Ytdfhkdddlfmceaa.PfC
