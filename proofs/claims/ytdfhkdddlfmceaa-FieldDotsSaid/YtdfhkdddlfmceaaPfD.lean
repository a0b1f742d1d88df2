/- Pure facts of layer 1: what turns a number round, quotients, dot products; the reference's answers. -/
import Derived.Test.YtdfhkdddlfmceaaX10
import Derived.Test.YtdfhkdddlfmceaaX15
import Derived.Test.YtdfhkdddlfmceaaX19
import Derived.Test.YtdfhkdddlfmceaaX21
import Derived.Test.YtdfhkdddlfmceaaPfC
namespace Go.Proofs.Ytdfhkdddlfmceaa.PfD
open Go.RowKit Go.Proofs.YtdfhkdddlfmceaaW.PrintWords Go.Proofs.YtdfhkdddlfmceaaW.PrintLast Go.Proofs.YtdfhkdddlfmceaaW.PrintMore Go.Proofs.Ytdfhkdddlfmceaa.X Go.Proofs.Ytdfhkdddlfmceaa.PfA Go.Proofs.Ytdfhkdddlfmceaa.PfB Go.Proofs.Ytdfhkdddlfmceaa.PfC
set_option linter.unusedVariables false
set_option linter.unusedSimpArgs false

theorem gcd_self0 (r : Int) (h : 0 ≤ r) : (Int.gcd r 0 : Int) = r := by simp [Int.gcd_zero_right]; omega

theorem inv_l0 (p a : Int) (hp : p < 9223372036854775808) (hp2 : 2 ≤ p) : ∀ (n : Nat) (r s x y : Int), s = n → Eu p a r s x y →
    ∃ v, Ev (fun k => field_inv.l0 k p r s x y) (v, decide (Int.gcd p a = 1)) ∧ (Int.gcd p a = 1 → In p v ∧ a * v % p = 1) := by
  intro n
  induction n using Nat.strongRecOn with
  | _ n ih =>
  intro r s x y hs E
  by_cases c : s = 0
  · have h0 := E.hsr
    have hg := E.hg
    rw [c] at hg
    have hg2 : (Int.gcd p a : Int) = r := by rw [← hg]; exact gcd_self0 r (by omega)
    have hb : (r == 1) = decide (Int.gcd p a = 1) := by
      rw [Bool.eq_iff_iff]
      simp
      omega
    obtain ⟨z, hz⟩ := E.hx
    have hx2 := E.hx2
    by_cases cx : x < 0
    · refine ⟨x + p, ?_, fun h1 => ⟨⟨by omega, by omega⟩, ?_⟩⟩
      · refine Ev.step (f := fun _ => some (x + p, (r == 1))) (fun k => ?_) ?_
        · rw [field_inv.l0, if_pos c, if_pos cx, iw_of (n := p) (by omega) (by omega), iw_of (n := x + p) (by omega) (by omega), uw_of (by omega) (by omega)]
        · rw [hb]; exact Ev.now _
      · have : a * (x + p) = r + (z + a) * p := by rw [Int.add_mul, ← Int.add_assoc, ← hz]; grind
        rw [this, Int.add_mul_emod_self_right, Int.emod_eq_of_lt (by omega) (by omega)]
        omega
    · refine ⟨x, ?_, fun h1 => ⟨⟨by omega, by omega⟩, ?_⟩⟩
      · refine Ev.step (f := fun _ => some (x, (r == 1))) (fun k => ?_) ?_
        · rw [field_inv.l0, if_pos c, if_neg cx, uw_of (by omega) (by omega)]
        · rw [hb]; exact Ev.now _
      · rw [Int.mul_comm, hz, Int.add_mul_emod_self_right, Int.emod_eq_of_lt (by omega) (by omega)]
        omega
  · obtain ⟨E2, bd, h3, h4, h5, h6⟩ := eu_next E hp c
    have b2 := bd _ rfl
    have hs0 := E.hs0; have hsr := E.hsr; have hrp := E.hrp
    obtain ⟨v, hv, hv2⟩ := ih (r - r / s * s).toNat (by have := E2.hsr; have := E2.hs0; omega) s (r - r / s * s) y (x - r / s * y) (by have := E2.hs0; omega) E2
    refine ⟨v, ?_, hv2⟩
    refine Ev.step (f := fun k => field_inv.l0 k p s (r - r / s * s) y (x - r / s * y)) (fun k => ?_) hv
    rw [field_inv.l0, if_neg c, tdiv_nn (by omega), iw_of (n := r / s) (by omega) (by omega), iw_of (n := r / s * s) (by omega) (by omega), iw_of (n := r / s * y) b2.1 b2.2.1, iw_of (n := r - r / s * s) (by omega) (by omega), iw_of (n := x - r / s * y) b2.2.2.1 b2.2.2.2]

theorem ev_inv (p a : Int) (hp2 : 2 ≤ p) (hp : p < 9223372036854775808) (ha : In p a) :
    ∃ v, Ev (fun k => field_inv.f k p a) (v, decide (Int.gcd p a = 1)) ∧ (Int.gcd p a = 1 → In p v ∧ a * v % p = 1) := by
  have h1 := ha.1; have h2 := ha.2
  have E : Eu p a p a 0 1 := ⟨h1, h2, Int.le_refl _, rfl, ⟨-1, by omega⟩, ⟨0, by omega⟩, .inr ⟨by omega, by omega, by omega⟩, by omega⟩
  obtain ⟨v, hv, hv2⟩ := inv_l0 p a hp hp2 a.toNat p a 0 1 (by omega) E
  refine ⟨v, Ev.congr (fun k => ?_) hv, hv2⟩
  unfold field_inv.f
  rw [iw_of (n := p) (by omega) (by omega), iw_of (n := a) (by omega) (by omega)]

/-- Who has none has a divisor with p. -/
theorem gcd_of_inv {p a x : Int} (hp : 2 ≤ p) (h : a * x % p = 1) : Int.gcd p a = 1 := by
  have h1 : ((Int.gcd p a : Nat) : Int) ∣ p := Int.gcd_dvd_left ..
  have h2 : ((Int.gcd p a : Nat) : Int) ∣ a := Int.gcd_dvd_right ..
  have h3 : ((Int.gcd p a : Nat) : Int) ∣ 1 := by
    have e := Int.emod_add_mul_ediv (a * x) p
    rw [h] at e
    have : (1 : Int) = a * x - p * (a * x / p) := by omega
    rw [this]
    exact Int.dvd_sub (Int.dvd_trans h2 (Int.dvd_mul_right _ _)) (Int.dvd_trans h1 (Int.dvd_mul_right _ _))
  have h4 := Int.eq_one_of_dvd_one (by omega) h3
  omega
theorem finv_in {p a : Int} (hp2 : 2 ≤ p) (hp : p < 9223372036854775808) (ha : In p a) (h : Int.gcd p a = 1) : In p (finv p a) ∧ a * finv p a % p = 1 := by
  obtain ⟨v, hv, hv2⟩ := ev_inv p a hp2 hp ha
  obtain ⟨i1, i2⟩ := hv2 h
  rw [finv_spec i1 i2]
  exact ⟨i1, i2⟩
theorem ev_inv' (p a : Int) (hp2 : 2 ≤ p) (hp : p < 9223372036854775808) (ha : In p a) :
    ∃ v, Ev (fun k => field_inv.f k p a) (v, decide (Int.gcd p a = 1)) ∧ (Int.gcd p a = 1 → v = finv p a) := by
  obtain ⟨v, hv, hv2⟩ := ev_inv p a hp2 hp ha
  exact ⟨v, hv, fun h => (finv_spec (hv2 h).1 (hv2 h).2).symm⟩
theorem ev_Inv (p a : Int) (ha : W64 a) : Ev (fun k => field_Inv.f k p a) (if HasB p [a] then invR p a else (0, 1)) := by
  have h := ev_has p [a] (by rw [mx_len]; simp)
  refine Ev.bind h ?_
  cases hc : HasB p [a] with
  | false => simpa using Ev.now ((0 : Int), (1 : Int))
  | true =>
    obtain ⟨ia, p1, p2⟩ := has1 ha hc
    obtain ⟨v, hv, hv2⟩ := ev_inv' p a p1 p2 ia
    simp only [if_true]
    refine Ev.bind hv ?_
    unfold invR
    by_cases g : Int.gcd p a = 1
    · simp only [g, decide_true, if_true]
      rw [← hv2 g]; exact Ev.now _
    · simp only [g, decide_false, if_false]
      exact Ev.now _
theorem ev_Inv' {p a : Int} (h1 : 2 ≤ p) (h2 : p < 9223372036854775808) (ha : In p a) : Ev (fun k => field_Inv.f k p a) (invR p a) := by
  have := ev_Inv p a (ha.w64 (by omega))
  rwa [if_pos ((has_iff _ _).2 ⟨by intro x hx; simp at hx; subst hx; exact ha.2, h1, h2⟩)] at this
noncomputable def divR (p a b : Int) : Int × Int := if Int.gcd p b = 1 then (a * finv p b % p, 0) else (0, 5)
theorem ev_Div (p a b : Int) (ha : W64 a) (hb : W64 b) : Ev (fun k => field_Div.f k p a b) (if HasB p [a, b] then divR p a b else (0, 1)) := by
  have h := ev_has p [a, b] (by rw [mx_len]; simp)
  refine Ev.bind h ?_
  cases hc : HasB p [a, b] with
  | false => simpa using Ev.now ((0 : Int), (1 : Int))
  | true =>
    obtain ⟨ia, ib, p1, p2⟩ := two_in ha hb hc
    obtain ⟨v, hv, hv2⟩ := ev_inv' p b p1 p2 ib
    simp only [if_true]
    refine Ev.bind hv ?_
    unfold divR
    by_cases g : Int.gcd p b = 1
    · simp only [g, decide_true, if_true]
      rw [hv2 g]
      have hf := finv_in p1 p2 ib g
      exact Ev.bind (ev_mul p a (finv p b) (by omega) (by omega) ha (hf.1.w64 (by omega))) (Ev.now _)
    · simp only [g, decide_false, if_false]
      exact Ev.now _
theorem ev_Norm (p a : Int) (ha : 0 ≤ a) : Ev (fun _ => field_Norm.f p a) (if RightB p then (a % p, 0) else (0, 1)) := by
  refine Ev.congr (f := fun _ => some _) (fun k => ?_) (Ev.now _)
  unfold field_Norm.f
  rw [right_f]
  cases hc : RightB p with
  | false => rfl
  | true =>
    obtain ⟨p1, p2⟩ := (right_iff p).1 hc
    simp only [Option.bind_some, if_true]
    rw [if_neg (by omega), tmod_nn ha]

/-! ### dot products -/
/-- The sum of what stands at the same places, multiplied. -/
def dotI : List Int → List Int → Int
  | a :: l, b :: m => a * b + dotI l m
  | _, _ => 0
theorem dotI_nil (m : List Int) : dotI [] m = 0 := by cases m <;> rfl
theorem dotI_cons (a b : Int) (l m : List Int) : dotI (a :: l) (b :: m) = a * b + dotI l m := rfl
def AllIn (p : Int) (l : List Int) : Prop := ∀ a ∈ l, In p a
theorem allIn_of {p : Int} {l : List Int} (hw : ∀ a ∈ l, W64 a) (h : HasB p l = true) : AllIn p l ∧ 2 ≤ p ∧ p < 9223372036854775808 := by
  obtain ⟨h1, h2, h3⟩ := (has_iff _ _).1 h
  exact ⟨fun a ha => ⟨(hw a ha).1, h1 a ha⟩, h2, h3⟩
theorem hasB_of {p : Int} {l : List Int} (h1 : 2 ≤ p) (h2 : p < 9223372036854775808) (h : AllIn p l) : HasB p l = true := (has_iff _ _).2 ⟨fun a ha => (h a ha).2, h1, h2⟩
theorem AllIn.w64 {p : Int} {l : List Int} (h : AllIn p l) (hp : p ≤ 9223372036854775808) : ∀ a ∈ l, W64 a := fun a ha => (h a ha).w64 hp

theorem dot_l0 (p : Int) (h1 : 2 ≤ p) (h2 : p < 9223372036854775808) (a b : List Int) (ha : AllIn p a) (hb : AllIn p b) (hl : a.length = b.length) (hm : a.length ≤ maxLen) :
    ∀ (d i : Nat) (o : Int), a.length - i = d → i ≤ a.length → In p o → Ev (fun k => field_Dot.l0 k p b o a (a.length : Int) (i : Int)) ((o + dotI (a.drop i) (b.drop i)) % p, 0) := by
  intro d
  induction d with
  | zero =>
    intro i o hd hi ho
    refine Ev.step (f := fun _ => some (o, 0)) (fun k => ?_) ?_
    · rw [field_Dot.l0, if_neg (by omega)]
    · rw [List.drop_of_length_le (l := a) (by omega), dotI_nil, Int.add_zero, ho.emod]; exact Ev.now _
  | succ d ih =>
    intro i o hd hi ho
    have hlt : i < a.length := by omega
    have hlt2 : i < b.length := by omega
    have ia := ha _ (List.getElem_mem hlt)
    have ib := hb _ (List.getElem_mem hlt2)
    have em := ev_mul p a[i] b[i] (by omega) (by omega) (ia.w64 (by omega)) (ib.w64 (by omega))
    have hr := ih (i + 1) ((o + a[i] * b[i] % p) % p) (by omega) (by omega) (emod_in _ (by omega))
    refine Ev.step (f := fun k => (field_mul.f k p a[i] b[i]).bind fun t => (field_add.f p o t).bind fun u => field_Dot.l0 k p b u a (a.length : Int) ((i + 1 : Nat) : Int)) (fun k => ?_) ?_
    · rw [field_Dot.l0, if_pos (by omega), if_pos (by omega), if_pos (by omega), if_pos (by omega), rd_at a i hlt, rd_at b i hlt2, wadd (n := a.length) (by omega) (by omega) (by have := mx_len; omega)]
      rfl
    · refine Ev.bind em ?_
      simp only [add_f p o _ h2 ho (emod_in _ (by omega)), Option.bind_some]
      have e : ((o + a[i] * b[i] % p) % p + dotI (a.drop (i + 1)) (b.drop (i + 1))) % p = (o + dotI (a.drop i) (b.drop i)) % p := by
        rw [drop_at a i hlt, drop_at b i hlt2, dotI_cons, am_l, Int.add_assoc, ← Int.add_assoc o, Int.add_right_comm, am_r]
        congr 1
        omega
      rw [e] at hr
      exact hr
def dotR (p : Int) (a b : List Int) : Int × Int := if HasB p a && HasB p b && decide (a.length = b.length) then (dotI a b % p, 0) else (0, 1)
theorem ev_Dot (p : Int) (a b : List Int) (ha : ∀ x ∈ a, W64 x) (hb : ∀ x ∈ b, W64 x) (hm : a.length ≤ maxLen) (hm2 : b.length ≤ maxLen) : Ev (fun k => field_Dot.f k p a b) (dotR p a b) := by
  have bad : Ev (fun k => field_Dot.j0 k p a b true) (0, 1) := Ev.step (f := fun _ => some (0, 1)) (fun k => by rw [field_Dot.j0, if_pos rfl]) (Ev.now _)
  refine Ev.bind (ev_has p a hm) ?_
  unfold dotR
  cases hc : HasB p a with
  | false => simpa using bad
  | true =>
    simp only [if_true]
    refine Ev.bind (ev_has p b hm2) ?_
    cases hc2 : HasB p b with
    | false => simpa using bad
    | true =>
      simp only [if_true, Bool.true_and]
      by_cases hl : a.length = b.length
      · have e : ((a.length : Int) != (b.length : Int)) = false := by simp; omega
        rw [e]
        obtain ⟨ia, p1, p2⟩ := allIn_of ha hc
        obtain ⟨ib, _, _⟩ := allIn_of hb hc2
        have := dot_l0 p p1 p2 a b ia ib hl hm a.length 0 0 (by omega) (by omega) ⟨by omega, by omega⟩
        refine Ev.step (f := fun k => field_Dot.l0 k p b 0 a (a.length : Int) 0) (fun k => by rw [field_Dot.j0, if_neg (by decide)]) ?_
        simpa [hl] using this
      · have e : ((a.length : Int) != (b.length : Int)) = true := by simp; omega
        rw [e]
        simpa [hl] using bad
theorem ev_Dot' {p : Int} {a b : List Int} (h1 : 2 ≤ p) (h2 : p < 9223372036854775808) (ha : AllIn p a) (hb : AllIn p b) (hl : a.length = b.length) (hm : a.length ≤ maxLen) : Ev (fun k => field_Dot.f k p a b) (dotI a b % p, 0) := by
  have := ev_Dot p a b (ha.w64 (by omega)) (hb.w64 (by omega)) hm (by omega)
  unfold dotR at this
  rwa [hasB_of h1 h2 ha, hasB_of h1 h2 hb, if_pos (by simp [hl])] at this

/-! ### the reference -/
theorem radd_f (p a b : Int) (h0 : 0 < p) (h : 0 ≤ a + b) (h' : a + b < 18446744073709551616) : affidavitref01_Add.f p a b = some ((a + b) % p) := by
  unfold affidavitref01_Add.f
  rw [if_neg (by omega), uw_of h h', tmod_nn h]
theorem rsub_f (p a b : Int) (h0 : 0 < p) (hp : p < 9223372036854775808) (ha : In p a) (hb : In p b) : affidavitref01_Sub.f p a b = some ((a - b) % p) := by
  unfold affidavitref01_Sub.f
  have h1 := ha.1; have h2 := ha.2; have h3 := hb.1; have h4 := hb.2
  rw [if_neg (by omega), uw_of (n := a + p) (by omega) (by omega), uw_of (by omega) (by omega), tmod_nn (by omega)]
  congr 1
  rw [show a + p - b = a - b + p by omega, Int.add_emod_right]
theorem ev_rmul (p a : Int) (h1 : 2 ≤ p) (h2 : p < 9223372036854775808) (ha : In p a) : ∀ (n : Nat), n < 18446744073709551616 → Ev (fun k => affidavitref01_Mul.f k p a (n : Int)) (a * n % p) := by
  intro n
  induction n using Nat.strongRecOn with
  | _ n ih =>
  intro hn
  have ha1 := ha.1; have ha2 := ha.2
  by_cases c : n = 0
  · subst c
    refine Ev.step (f := fun _ => some 0) (fun k => ?_) ?_
    · rw [affidavitref01_Mul.f, if_pos (by rfl)]
    · simpa using Ev.now (0 : Int)
  · have e2 : IntKind.u64.wrap (Int.tdiv (n : Int) 2) = ((n / 2 : Nat) : Int) := by rw [tdiv_nn (by omega), uw_of (by omega) (by omega)]; omega
    have hr := ih (n / 2) (by omega) (by omega)
    have hh := emod_in (a * ((n / 2 : Nat) : Int)) (show 0 < p by omega)
    generalize hH : a * ((n / 2 : Nat) : Int) % p = H at *
    have hh1 := hh.1; have hh2 := hh.2
    have hi2 := emod_in (H + H) (show 0 < p by omega)
    have hi3 := hi2.1; have hi4 := hi2.2
    have e5 : (H + H) % p = (a * ((n / 2 : Nat) : Int) + a * ((n / 2 : Nat) : Int)) % p := by rw [← hH, am_l, am_r]
    refine Ev.step (f := fun k => (affidavitref01_Mul.f k p a ((n / 2 : Nat) : Int)).bind fun t => (affidavitref01_Add.f p t t).bind fun u => if (n : Int) % 2 = 1 then (affidavitref01_Add.f p u a).bind fun v => some v else some u) (fun k => ?_) ?_
    · rw [affidavitref01_Mul.f, if_neg (by omega), e2, tmod_nn (by omega)]
    · refine Ev.bind hr ?_
      simp only [radd_f p H H (by omega) (by omega) (by omega), Option.bind_some]
      by_cases c2 : (n : Int) % 2 = 1
      · simp only [if_pos c2, radd_f p ((H + H) % p) a (by omega) (by omega) (by omega), Option.bind_some]
        have : ((H + H) % p + a) % p = a * n % p := by
          rw [e5, am_l]
          congr 1
          have : (n : Int) = ((n / 2 : Nat) : Int) + ((n / 2 : Nat) : Int) + 1 := by omega
          conv => rhs; rw [this]
          grind
        rw [this]; exact Ev.now _
      · simp only [if_neg c2]
        have : (H + H) % p = a * n % p := by
          rw [e5]
          congr 1
          have : (n : Int) = ((n / 2 : Nat) : Int) + ((n / 2 : Nat) : Int) := by omega
          conv => rhs; rw [this]
          grind
        rw [this]; exact Ev.now _
theorem ev_rmul' {p a b : Int} (h1 : 2 ≤ p) (h2 : p < 9223372036854775808) (ha : In p a) (hb : W64 b) : Ev (fun k => affidavitref01_Mul.f k p a b) (a * b % p) := by
  have := ev_rmul p a h1 h2 ha b.toNat (by have := hb.1; have := hb.2; omega)
  rwa [show ((b.toNat : Nat) : Int) = b by have := hb.1; omega] at this
theorem ev_rpow (p a : Int) (h1 : 2 ≤ p) (h2 : p < 9223372036854775808) (ha : In p a) : ∀ (n : Nat), n < 18446744073709551616 → Ev (fun k => affidavitref01_Pow.f k p a (n : Int)) (a ^ n % p) := by
  intro n
  induction n using Nat.strongRecOn with
  | _ n ih =>
  intro hn
  by_cases c : n = 0
  · subst c
    refine Ev.step (f := fun _ => some 1) (fun k => ?_) ?_
    · rw [affidavitref01_Pow.f, if_pos (by rfl)]
    · rw [Int.pow_zero, Int.emod_eq_of_lt (by omega) (by omega)]; exact Ev.now _
  · have e2 : IntKind.u64.wrap (Int.tdiv (n : Int) 2) = ((n / 2 : Nat) : Int) := by rw [tdiv_nn (by omega), uw_of (by omega) (by omega)]; omega
    have hr := ih (n / 2) (by omega) (by omega)
    have hh := emod_in (a ^ (n / 2)) (show 0 < p by omega)
    generalize hH : a ^ (n / 2) % p = H at *
    have hhw := hh.w64 (p := p) (by omega)
    have m1 := ev_rmul' h1 h2 hh hhw
    have hi := emod_in (H * H) (show 0 < p by omega)
    have m2 := ev_rmul' h1 h2 hi (ha.w64 (by omega))
    have e5 : H * H % p = a ^ (n / 2) * a ^ (n / 2) % p := by rw [← hH, mm_l, mm_r]
    refine Ev.step (f := fun k => (affidavitref01_Pow.f k p a ((n / 2 : Nat) : Int)).bind fun t => (affidavitref01_Mul.f k p t t).bind fun u => if (n : Int) % 2 = 1 then (affidavitref01_Mul.f k p u a).bind fun v => some v else some u) (fun k => ?_) ?_
    · rw [affidavitref01_Pow.f, if_neg (by omega), e2, tmod_nn (by omega)]
    · refine Ev.bind hr (Ev.bind m1 ?_)
      by_cases c2 : (n : Int) % 2 = 1
      · simp only [if_pos c2]
        have : H * H % p * a % p = a ^ n % p := by
          rw [e5, mm_l]
          congr 1
          have : n = (n / 2) + (n / 2) + 1 := by omega
          conv => rhs; rw [this, Int.pow_add, Int.pow_add, Int.pow_one]
        rw [← this]
        exact Ev.bind m2 (Ev.now _)
      · simp only [if_neg c2]
        have : H * H % p = a ^ n % p := by
          rw [e5]
          congr 1
          have : n = (n / 2) + (n / 2) := by omega
          conv => rhs; rw [this, Int.pow_add]
        rw [this]; exact Ev.now _
theorem ev_rgcd : ∀ (n : Nat) (a b : Int), b = n → 0 ≤ a → Ev (fun k => affidavitref01_Gcd.l0 k a b) (Int.gcd a b : Int) := by
  intro n
  induction n using Nat.strongRecOn with
  | _ n ih =>
  intro a b hb ha
  by_cases c : b = 0
  · subst c
    refine Ev.step (f := fun _ => some a) (fun k => ?_) ?_
    · rw [affidavitref01_Gcd.l0, if_pos rfl]
    · rw [gcd_self0 a ha]; exact Ev.now _
  · have hm0 := Int.emod_nonneg a c
    have hm1 := Int.emod_lt_of_pos a (show 0 < b by omega)
    have hr := ih (a % b).toNat (by omega) b (a % b) (by omega) (by omega)
    refine Ev.step (f := fun k => affidavitref01_Gcd.l0 k b (a % b)) (fun k => ?_) ?_
    · rw [affidavitref01_Gcd.l0, if_neg c, tmod_nn ha]
    · have e : Int.gcd b (a % b) = Int.gcd a b := by
        have h1 := Int.emod_add_mul_ediv a b
        have h2 : a % b = a - a / b * b := by rw [Int.mul_comm] at h1; omega
        rw [h2, Int.gcd_sub_mul_right_right, Int.gcd_comm]
      rw [e] at hr
      exact hr
theorem ev_rGcd (a b : Int) (ha : 0 ≤ a) (hb : 0 ≤ b) : Ev (fun k => affidavitref01_Gcd.f k a b) (Int.gcd a b : Int) := ev_rgcd b.toNat a b (by omega) ha

/-- Euclid's rule, all modulo p: what its numbers are. -/
structure Em (p a r s x y : Int) : Prop where
  hs0 : 0 ≤ s
  hsr : s < r
  hrp : r ≤ p
  hg : Int.gcd r s = Int.gcd p a
  hx : x * a % p = r % p
  hy : y * a % p = s % p
  ix : In p x
  iy : In p y
theorem rinv_l0 (p a : Int) (hp : p < 9223372036854775808) (hp2 : 2 ≤ p) (hg1 : Int.gcd p a = 1) : ∀ (n : Nat) (r s x y : Int), s = n → Em p a r s x y →
    ∃ v, Ev (fun k => affidavitref01_Inv.l0 k p r s x y) (v, 0) ∧ In p v ∧ a * v % p = 1 := by
  intro n
  induction n using Nat.strongRecOn with
  | _ n ih =>
  intro r s x y hs E
  by_cases c : s = 0
  · have h0 := E.hsr
    have hg := E.hg
    rw [c] at hg
    have hg2 : (Int.gcd p a : Int) = r := by rw [← hg]; exact gcd_self0 r (by omega)
    refine ⟨x, ?_, E.ix, ?_⟩
    · exact Ev.step (f := fun _ => some (x, 0)) (fun k => by rw [affidavitref01_Inv.l0, if_pos c]) (Ev.now _)
    · have hr1 : r = 1 := by omega
      rw [Int.mul_comm, E.hx, hr1]
      exact Int.emod_eq_of_lt (by omega) (by omega)
  · have hs0 := E.hs0; have hsr := E.hsr; have hrp := E.hrp
    have hq := Int.emod_add_mul_ediv r s
    have hqc : s * (r / s) = r / s * s := Int.mul_comm _ _
    have hm0 := Int.emod_nonneg r c
    have hm1 := Int.emod_lt_of_pos r (show 0 < s by omega)
    have hq0 : 0 ≤ r / s := Int.ediv_nonneg (by omega) hs0
    have hqr : r / s ≤ r := Int.ediv_le_self _ (by omega)
    have hqs0 : 0 ≤ r / s * s := Int.mul_nonneg hq0 hs0
    have iq := emod_in (r / s) (show 0 < p by omega)
    have im := emod_in (r / s % p * y) (show 0 < p by omega)
    have em := ev_rmul' hp2 hp iq (E.iy.w64 (by omega))
    have E2 : Em p a s (r - r / s * s) y ((x - r / s % p * y % p) % p) := by
      refine ⟨by omega, by omega, by omega, ?_, E.hy, ?_, E.iy, emod_in _ (by omega)⟩
      · rw [Int.gcd_sub_mul_right_right, Int.gcd_comm, E.hg]
      · rw [mm_l, Int.sub_mul, ← sm_r, mm_l, sm_r, Int.mul_assoc]
        rw [← sm_l, E.hx, sm_l, ← sm_r, mm_l, ← mm_r, E.hy, mm_r, sm_r]
    obtain ⟨v, hv, hv2⟩ := ih (r - r / s * s).toNat (by omega) s (r - r / s * s) y _ (by omega) E2
    refine ⟨v, ?_, hv2⟩
    refine Ev.step (f := fun k => (affidavitref01_Mul.f k p (r / s % p) y).bind fun t => (affidavitref01_Sub.f p x t).bind fun u => affidavitref01_Inv.l0 k p s (r - r / s * s) y u) (fun k => ?_) ?_
    · rw [affidavitref01_Inv.l0, if_neg c, if_neg (by omega), tdiv_nn (by omega), uw_of (n := r / s) (by omega) (by omega), tmod_nn hq0, uw_of (n := r / s * s) (by omega) (by omega), uw_of (n := r - r / s * s) (by omega) (by omega)]
    · refine Ev.bind em ?_
      simp only [rsub_f p x _ (by omega) hp E.ix im, Option.bind_some]
      exact hv
theorem ev_rInv (p a : Int) (hp2 : 2 ≤ p) (hp : p < 9223372036854775808) (ha : In p a) : Ev (fun k => affidavitref01_Inv.f k p a) (invR p a) := by
  have h1 := ha.1; have h2 := ha.2
  refine Ev.bind (ev_rGcd p a (by omega) h1) ?_
  unfold invR
  by_cases g : Int.gcd p a = 1
  · have g' : ((Int.gcd p a : Nat) : Int) = 1 := by omega
    rw [if_pos g]
    refine Ev.congr (fun k => if_pos g') ?_
    have E : Em p a p a 0 1 := ⟨h1, h2, Int.le_refl _, rfl, by simp, by simp, ⟨by omega, by omega⟩, ⟨by omega, by omega⟩⟩
    obtain ⟨v, hv, i1, i2⟩ := rinv_l0 p a hp hp2 g a.toNat p a 0 1 (by omega) E
    rw [finv_spec i1 i2]
    exact hv
  · have g' : ¬ ((Int.gcd p a : Nat) : Int) = 1 := by omega
    simp only [g', g, if_false]
    exact Ev.now _
theorem rdot_l0 (p : Int) (h1 : 2 ≤ p) (h2 : p < 9223372036854775808) (a b : List Int) (ha : AllIn p a) (hb : AllIn p b) (hl : a.length = b.length) (hm : a.length ≤ maxLen) :
    ∀ (d i : Nat) (o : Int), a.length - i = d → i ≤ a.length → In p o → Ev (fun k => affidavitref01_Dot.l0 k p a b o (i : Int)) ((o + dotI (a.drop i) (b.drop i)) % p) := by
  intro d
  induction d with
  | zero =>
    intro i o hd hi ho
    refine Ev.step (f := fun _ => some o) (fun k => ?_) ?_
    · rw [affidavitref01_Dot.l0, if_neg (by omega)]
    · rw [List.drop_of_length_le (l := a) (by omega), dotI_nil, Int.add_zero, ho.emod]; exact Ev.now _
  | succ d ih =>
    intro i o hd hi ho
    have hlt : i < a.length := by omega
    have hlt2 : i < b.length := by omega
    have ia := ha _ (List.getElem_mem hlt)
    have ib := hb _ (List.getElem_mem hlt2)
    have em := ev_rmul' h1 h2 ia (ib.w64 (by omega))
    have hmi := emod_in (a[i] * b[i]) (show 0 < p by omega)
    have o1 := ho.1; have o2 := ho.2; have m1 := hmi.1; have m2 := hmi.2
    have hr := ih (i + 1) ((o + a[i] * b[i] % p) % p) (by omega) (by omega) (emod_in _ (by omega))
    refine Ev.step (f := fun k => (affidavitref01_Mul.f k p a[i] b[i]).bind fun t => (affidavitref01_Add.f p o t).bind fun u => affidavitref01_Dot.l0 k p a b u ((i + 1 : Nat) : Int)) (fun k => ?_) ?_
    · rw [affidavitref01_Dot.l0, if_pos (by omega), if_pos (by omega), if_pos (by omega), rd_at a i hlt, rd_at b i hlt2, wadd (n := a.length) (by omega) (by omega) (by have := mx_len; omega)]
      rfl
    · refine Ev.bind em ?_
      simp only [radd_f p o _ (by omega) (show 0 ≤ o + a[i] * b[i] % p by omega) (by omega), Option.bind_some]
      have e : ((o + a[i] * b[i] % p) % p + dotI (a.drop (i + 1)) (b.drop (i + 1))) % p = (o + dotI (a.drop i) (b.drop i)) % p := by
        rw [drop_at a i hlt, drop_at b i hlt2, dotI_cons, am_l, Int.add_assoc, ← Int.add_assoc o, Int.add_right_comm, am_r]
        congr 1
        omega
      rw [e] at hr
      exact hr
theorem ev_rDot {p : Int} {a b : List Int} (h1 : 2 ≤ p) (h2 : p < 9223372036854775808) (ha : AllIn p a) (hb : AllIn p b) (hl : a.length = b.length) (hm : a.length ≤ maxLen) : Ev (fun k => affidavitref01_Dot.f k p a b) (dotI a b % p) := by
  have := rdot_l0 p h1 h2 a b ha hb hl hm a.length 0 0 (by omega) (by omega) ⟨by omega, by omega⟩
  simp only [List.drop_zero, Int.zero_add] at this
  exact this
end Go.Proofs.Ytdfhkdddlfmceaa.PfD
