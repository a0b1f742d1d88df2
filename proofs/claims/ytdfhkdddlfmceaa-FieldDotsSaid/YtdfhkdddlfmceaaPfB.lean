/- Pure facts of words of 64 bits: what math/bits.Div64 and Rem64 come to. -/
import Derived.Test.YtdfhkdddlfmceaaX9
import Derived.Test.YtdfhkdddlfmceaaPfA
namespace Go.Proofs.Ytdfhkdddlfmceaa.PfB
open Go.RowKit Go.Proofs.YtdfhkdddlfmceaaW.PrintWords Go.Proofs.YtdfhkdddlfmceaaW.PrintLast Go.Proofs.YtdfhkdddlfmceaaW.PrintMore Go.Proofs.Ytdfhkdddlfmceaa.X Go.Proofs.Ytdfhkdddlfmceaa.PfA
set_option linter.unusedVariables false
set_option linter.unusedSimpArgs false

/-- What is known of a divisor of two digits, and a digit's guess. -/
structure Dv (V v1 v0 U u : Int) : Prop where
  hV : V = v1 * 4294967296 + v0
  h1 : 2147483648 ≤ v1
  h1' : v1 < 4294967296
  h0 : 0 ≤ v0
  h0' : v0 < 4294967296
  hU : 0 ≤ U
  hUV : U < V
  hu : 0 ≤ u
  hu' : u < 4294967296

structure Gs (v1 U q r qt : Int) : Prop where
  hr : r = U - q * v1
  hr0 : 0 ≤ r
  hr1 : r < 4294967296
  hq : q ≤ 4294967297
  ht : qt ≤ q

section
variable {V v1 v0 U u q r : Int}
theorem qt_bd (D : Dv V v1 v0 U u) : 0 ≤ (U * 4294967296 + u) / V ∧ (U * 4294967296 + u) / V < 4294967296 := by
  obtain ⟨hV, h1, h1', h0, h0', hU, hUV, hu, hu'⟩ := D
  refine ⟨Int.ediv_nonneg (by omega) (by omega), ?_⟩
  rw [Int.ediv_lt_iff_lt_mul (by omega)]
  omega
theorem le_qt (D : Dv V v1 v0 U u) (hr : r = U - q * v1) (h : q * v0 ≤ 4294967296 * r + u) : q ≤ (U * 4294967296 + u) / V := by
  obtain ⟨hV, h1, h1', h0, h0', hU, hUV, hu, hu'⟩ := D
  rw [Int.le_ediv_iff_mul_le (by omega)]
  have : q * V = q * v1 * 4294967296 + q * v0 := by rw [hV]; grind
  omega
theorem qt_lt (D : Dv V v1 v0 U u) (hr : r = U - q * v1) (h : 4294967296 * r + u < q * v0) : (U * 4294967296 + u) / V < q := by
  obtain ⟨hV, h1, h1', h0, h0', hU, hUV, hu, hu'⟩ := D
  rw [Int.ediv_lt_iff_lt_mul (by omega)]
  have : q * V = q * v1 * 4294967296 + q * v0 := by rw [hV]; grind
  omega
/-- A guess that is too great, and the one below it. -/
theorem down (D : Dv V v1 v0 U u) (G : Gs v1 U q r ((U * 4294967296 + u) / V)) (hc : (U * 4294967296 + u) / V < q) :
    (r + v1 ≥ 4294967296 → q - 1 = (U * 4294967296 + u) / V) ∧ (r + v1 < 4294967296 → Gs v1 U (q - 1) (r + v1) ((U * 4294967296 + u) / V)) := by
  have D' := D
  have hb := qt_bd D
  obtain ⟨hV, h1, h1', h0, h0', hU, hUV, hu, hu'⟩ := D
  obtain ⟨hr, hr0, hr1, hq, ht⟩ := G
  have hm : (q - 1) * v1 = q * v1 - v1 := by grind
  constructor
  · intro h
    have hle : q - 1 ≤ 4294967295 := by
      rcases Int.lt_or_le (q - 1) 4294967296 with g | g
      · omega
      · have : (4294967296 : Int) * v1 ≤ (q - 1) * v1 := Int.mul_le_mul_of_nonneg_right g (by omega)
        omega
    have hp := mul_bd (a := q - 1) (b := v0) (m := 4294967295) (n := 4294967295) (by omega) h0 hle (by omega)
    have := le_qt (q := q - 1) (r := r + v1) D' (by omega) (by omega)
    omega
  · intro h
    exact ⟨by omega, by omega, h, by omega, by omega⟩
theorem ends (D : Dv V v1 v0 U u) (G : Gs v1 U q r ((U * 4294967296 + u) / V)) (h : q * v0 ≤ 4294967296 * r + u) : q = (U * 4294967296 + u) / V := by
  have := le_qt D G.hr h
  have := G.ht
  omega
theorem starts (D : Dv V v1 v0 U u) : Gs v1 U (U / v1) (U % v1) ((U * 4294967296 + u) / V) := by
  have D' := D
  obtain ⟨hV, h1, h1', h0, h0', hU, hUV, hu, hu'⟩ := D
  have he := Int.emod_add_mul_ediv U v1
  have hc : v1 * (U / v1) = U / v1 * v1 := Int.mul_comm _ _
  have hm0 := Int.emod_nonneg U (show v1 ≠ 0 by omega)
  have hm1 := Int.emod_lt_of_pos U (show 0 < v1 by omega)
  refine ⟨by omega, hm0, by omega, ?_, ?_⟩
  · have : U / v1 < 4294967298 := by
      rw [Int.ediv_lt_iff_lt_mul (by omega)]
      omega
    omega
  · rcases Int.lt_or_le (U / v1) ((U * 4294967296 + u) / V) with g | g
    · exfalso
      have h2 : U / v1 + 1 ≤ (U * 4294967296 + u) / V := g
      rw [Int.le_ediv_iff_mul_le (by omega)] at h2
      have h3 : (U / v1 + 1) * V = (U / v1 * v1 + v1) * 4294967296 + (U / v1 + 1) * v0 := by rw [hV]; grind
      have h4 : 0 ≤ (U / v1 + 1) * v0 := Int.mul_nonneg (by have := Int.ediv_nonneg hU (show 0 ≤ v1 by omega); omega) h0
      omega
    · exact g
end

theorem test_ {q v0 r u v1 U qt : Int} (G : Gs v1 U q r qt) (hq0 : 0 ≤ q) (h0 : 0 ≤ v0) (h0' : v0 < 4294967296) (hu : 0 ≤ u) (hu' : u < 4294967296) :
    IntKind.u64.wrap (q * v0) = q * v0 ∧ IntKind.u64.wrap (IntKind.u64.wrap (4294967296 * r) + u) = 4294967296 * r + u ∧ 0 ≤ q * v0 := by
  obtain ⟨hr, hr0, hr1, hq, ht⟩ := G
  have hp := mul_bd (a := q) (b := v0) (m := 4294967297) (n := 4294967295) hq0 h0 hq (by omega)
  refine ⟨uw_of (by omega) (by omega), ?_, hp.1⟩
  rw [uw_of (n := 4294967296 * r) (by omega) (by omega), uw_of (by omega) (by omega)]

theorem ev_l0 {V s v1 v0 U u1 u0 : Int} {res : Int × Int} (D : Dv V v1 v0 U u1) (hres : Ev (fun k => bits_Div64.j2 k V s v1 v0 U u1 u0 ((U * 4294967296 + u1) / V)) res) :
    ∀ (d : Nat) (q r : Int), q - (U * 4294967296 + u1) / V = d → Gs v1 U q r ((U * 4294967296 + u1) / V) → Ev (fun k => bits_Div64.l0 k V s v1 v0 U u1 u0 q r) res := by
  intro d
  induction d with
  | zero =>
    intro q r hd G
    have hb := qt_bd D
    obtain ⟨t1, t2, t3⟩ := test_ (v0 := v0) (u := u1) G (by omega) D.h0 D.h0' D.hu D.hu'
    have hn : ¬ 4294967296 * r + u1 < q * v0 := fun h => by have := qt_lt D G.hr h; omega
    have e : q = (U * 4294967296 + u1) / V := by omega
    refine Ev.step (f := fun k => bits_Div64.j1 k V s v1 v0 U u1 u0 q r false) (fun k => ?_) ?_
    · rw [bits_Div64.l0, if_neg (by omega), t1, t2, decide_eq_false (by omega)]
    · refine Ev.step (f := fun k => bits_Div64.j2 k V s v1 v0 U u1 u0 q) (fun k => ?_) ?_
      · rw [bits_Div64.j1, if_neg (by decide)]
      · rw [e]; exact hres
  | succ d ih =>
    intro q r hd G
    have hb := qt_bd D
    obtain ⟨t1, t2, t3⟩ := test_ (v0 := v0) (u := u1) G (by omega) D.h0 D.h0' D.hu D.hu'
    have hlt : (U * 4294967296 + u1) / V < q := by omega
    obtain ⟨g1, g2⟩ := down D G hlt
    have hbd := D.h1; have hbd' := D.h1'; have hr0 := G.hr0; have hr1 := G.hr1; have hq := G.hq
    refine Ev.step (f := fun k => bits_Div64.j1 k V s v1 v0 U u1 u0 q r true) (fun k => ?_) ?_
    · rw [bits_Div64.l0]
      by_cases c : q ≥ 4294967296
      · rw [if_pos c]
      · have hp : 4294967296 * r + u1 < q * v0 := by
          rcases Int.lt_or_le (4294967296 * r + u1) (q * v0) with h | h
          · exact h
          · have := ends D G h; omega
        rw [if_neg c, t1, t2, decide_eq_true (by omega)]
    · have e1 : IntKind.u64.wrap (q - 1) = q - 1 := uw_of (by omega) (by omega)
      have e2 : IntKind.u64.wrap (r + v1) = r + v1 := uw_of (by omega) (by omega)
      by_cases c : r + v1 ≥ 4294967296
      · refine Ev.step (f := fun k => bits_Div64.j2 k V s v1 v0 U u1 u0 (q - 1)) (fun k => ?_) ?_
        · rw [bits_Div64.j1, if_pos rfl, e2, if_pos c, e1]
        · rw [g1 c]; exact hres
      · refine Ev.step (f := fun k => bits_Div64.l0 k V s v1 v0 U u1 u0 (q - 1) (r + v1)) (fun k => ?_) ?_
        · rw [bits_Div64.j1, if_pos rfl, e2, if_neg c, e1]
        · exact ih _ _ (by omega) (g2 (by omega))

theorem ev_l1 {V s v1 v0 U u0 q1 : Int} (D : Dv V v1 v0 U u0) (hs : 0 ≤ s) :
    ∀ (d : Nat) (q r : Int), q - (U * 4294967296 + u0) / V = d → Gs v1 U q r ((U * 4294967296 + u0) / V) →
      Ev (fun k => bits_Div64.l1 k V s v1 v0 u0 q1 r U q) (IntKind.u64.wrap (IntKind.u64.wrap (q1 * 4294967296) + (U * 4294967296 + u0) / V), shr .u64 (IntKind.u64.wrap (IntKind.u64.wrap (IntKind.u64.wrap (U * 4294967296) + u0) - IntKind.u64.wrap ((U * 4294967296 + u0) / V * V))) s) := by
  intro d
  induction d with
  | zero =>
    intro q r hd G
    have hb := qt_bd D
    obtain ⟨t1, t2, t3⟩ := test_ (v0 := v0) (u := u0) G (by omega) D.h0 D.h0' D.hu D.hu'
    have hn : ¬ 4294967296 * r + u0 < q * v0 := fun h => by have := qt_lt D G.hr h; omega
    have e : q = (U * 4294967296 + u0) / V := by omega
    refine Ev.step (f := fun k => bits_Div64.j4 k V s v1 v0 u0 q1 r U q false) (fun k => ?_) ?_
    · rw [bits_Div64.l1, if_neg (by omega), t1, t2, decide_eq_false (by omega)]
    · refine Ev.step (f := fun k => some _) (fun k => ?_) (Ev.now _)
      rw [bits_Div64.j4, if_neg (by decide), if_pos hs, e]
  | succ d ih =>
    intro q r hd G
    have hb := qt_bd D
    obtain ⟨t1, t2, t3⟩ := test_ (v0 := v0) (u := u0) G (by omega) D.h0 D.h0' D.hu D.hu'
    have hlt : (U * 4294967296 + u0) / V < q := by omega
    obtain ⟨g1, g2⟩ := down D G hlt
    have hbd := D.h1; have hbd' := D.h1'; have hr0 := G.hr0; have hr1 := G.hr1; have hq := G.hq
    refine Ev.step (f := fun k => bits_Div64.j4 k V s v1 v0 u0 q1 r U q true) (fun k => ?_) ?_
    · rw [bits_Div64.l1]
      by_cases c : q ≥ 4294967296
      · rw [if_pos c]
      · have hp : 4294967296 * r + u0 < q * v0 := by
          rcases Int.lt_or_le (4294967296 * r + u0) (q * v0) with h | h
          · exact h
          · have := ends D G h; omega
        rw [if_neg c, t1, t2, decide_eq_true (by omega)]
    · have e1 : IntKind.u64.wrap (q - 1) = q - 1 := uw_of (by omega) (by omega)
      have e2 : IntKind.u64.wrap (r + v1) = r + v1 := uw_of (by omega) (by omega)
      by_cases c : r + v1 ≥ 4294967296
      · refine Ev.step (f := fun k => some _) (fun k => ?_) (Ev.now _)
        rw [bits_Div64.j4, if_pos rfl, e2, if_pos c, e1, if_pos hs, g1 c]
      · refine Ev.step (f := fun k => bits_Div64.l1 k V s v1 v0 u0 q1 (r + v1) U (q - 1)) (fun k => ?_) ?_
        · rw [bits_Div64.j4, if_pos rfl, e2, if_neg c, e1]
        · exact ih _ _ (by omega) (g2 (by omega))

/-- The second half: of what is left behind the first digit. -/
theorem ev_j2 {V s v1 v0 U u1 u0 : Int} (D : Dv V v1 v0 U u1) (hu : 0 ≤ u0) (hu' : u0 < 4294967296) (hs : 0 ≤ s) :
    Ev (fun k => bits_Div64.j2 k V s v1 v0 U u1 u0 ((U * 4294967296 + u1) / V))
      ((U * 4294967296 + u1) / V * 4294967296 + ((U * 4294967296 + u1) % V * 4294967296 + u0) / V, shr .u64 (((U * 4294967296 + u1) % V * 4294967296 + u0) % V) s) := by
  have hb := qt_bd D
  have D' := D
  obtain ⟨hV, h1, h1', h0, h0', hU, hUV, hu1, hu1'⟩ := D
  have hVb : V < 18446744073709551616 := by omega
  have hN := Int.emod_add_mul_ediv (U * 4294967296 + u1) V
  have hR0 := Int.emod_nonneg (U * 4294967296 + u1) (show V ≠ 0 by omega)
  have hR1 := Int.emod_lt_of_pos (U * 4294967296 + u1) (show 0 < V by omega)
  generalize hQ : (U * 4294967296 + u1) / V = Q at *
  generalize hRr : (U * 4294967296 + u1) % V = R at *
  have hc : V * Q = Q * V := Int.mul_comm _ _
  have e1 : IntKind.u64.wrap (IntKind.u64.wrap (IntKind.u64.wrap (U * 4294967296) + u1) - IntKind.u64.wrap (Q * V)) = R := by
    rw [uw, uw, uw, uw]
    generalize Q * V = P at *
    generalize V * Q = P2 at *
    omega
  have D2 : Dv V v1 v0 R u0 := ⟨hV, h1, h1', h0, h0', hR0, hR1, hu, hu'⟩
  have S := starts D2
  have hb2 := qt_bd D2
  have hN2 := Int.emod_add_mul_ediv (R * 4294967296 + u0) V
  have hR20 := Int.emod_nonneg (R * 4294967296 + u0) (show V ≠ 0 by omega)
  have hR21 := Int.emod_lt_of_pos (R * 4294967296 + u0) (show 0 < V by omega)
  have hq0 := Int.ediv_nonneg hR0 (show 0 ≤ v1 by omega)
  have hm0 := Int.emod_nonneg R (show v1 ≠ 0 by omega)
  have hm1 := Int.emod_lt_of_pos R (show 0 < v1 by omega)
  have hm := Int.emod_add_mul_ediv R v1
  have hmc : v1 * (R / v1) = R / v1 * v1 := Int.mul_comm _ _
  have hqb := S.hq
  have hmp : 0 ≤ R / v1 * v1 := Int.mul_nonneg hq0 (by omega)
  have ev := ev_l1 (s := s) (q1 := Q) D2 hs (R / v1 - (R * 4294967296 + u0) / V).toNat (R / v1) (R % v1) (by have := S.ht; omega) S
  refine Ev.step (f := fun k => bits_Div64.l1 k V s v1 v0 u0 Q (R % v1) R (R / v1)) (fun k => ?_) ?_
  · rw [bits_Div64.j2, if_neg (by omega), e1, tdiv_nn hR0, uw_of (n := R / v1) hq0 (by omega), uw_of (n := R / v1 * v1) (by omega) (by omega), show R - R / v1 * v1 = R % v1 by omega, uw_of (n := R % v1) hm0 (by omega)]
  · have r1 : IntKind.u64.wrap (IntKind.u64.wrap (Q * 4294967296) + (R * 4294967296 + u0) / V) = Q * 4294967296 + (R * 4294967296 + u0) / V := by
      rw [uw_of (n := Q * 4294967296) (by omega) (by omega), uw_of (by omega) (by omega)]
    have r2 : IntKind.u64.wrap (IntKind.u64.wrap (IntKind.u64.wrap (R * 4294967296) + u0) - IntKind.u64.wrap ((R * 4294967296 + u0) / V * V)) = (R * 4294967296 + u0) % V := by
      have hc2 : V * ((R * 4294967296 + u0) / V) = (R * 4294967296 + u0) / V * V := Int.mul_comm _ _
      generalize (R * 4294967296 + u0) / V * V = P at *
      generalize V * ((R * 4294967296 + u0) / V) = P2 at *
      rw [uw, uw, uw, uw]
      omega
    rw [r1, r2] at ev
    exact ev

theorem pow_nat (y : Nat) (s : Nat) : ((y * 2 ^ s : Nat) : Int) = (y : Int) * 2 ^ s := by push_cast; rfl

/-- WHAT Div64 COMES TO. -/
theorem div64 (hi lo y : Int) (h0 : 0 ≤ hi) (h1 : hi < y) (h2 : y < 18446744073709551616) (h3 : 0 ≤ lo) (h4 : lo < 18446744073709551616) :
    Ev (fun k => bits_Div64.f k hi lo y) ((hi * 18446744073709551616 + lo) / y, (hi * 18446744073709551616 + lo) % y) := by
  by_cases c0 : hi = 0
  · subst c0
    refine Ev.congr (f := fun _ => some (lo / y, lo % y)) (fun k => ?_) ?_
    · have hb : lo / y ≤ lo := Int.ediv_le_self _ h3
      have hb0 : 0 ≤ lo / y := Int.ediv_nonneg h3 (by omega)
      unfold bits_Div64.f
      rw [if_neg (by omega), if_neg (by omega), if_pos rfl, tdiv_nn h3, tmod_nn h3, uw_of hb0 (by omega)]
    · simpa using Ev.now (lo / y, lo % y)
  · obtain ⟨n, rfl⟩ := Int.eq_ofNat_of_zero_le (show 0 ≤ y by omega)
    obtain ⟨s, hs, s1, s2, s3⟩ := lz64 0 n (by omega) (by omega)
    have hpos : (0 : Int) < 2 ^ s := Int.pow_pos (by decide)
    have s2' : (9223372036854775808 : Int) ≤ (n : Int) * 2 ^ s := by rw [← pow_nat]; exact Int.ofNat_le.2 (show 9223372036854775808 ≤ n * 2 ^ s from s2)
    have s3' : (n : Int) * 2 ^ s < 18446744073709551616 := by rw [← pow_nat]; exact Int.ofNat_lt.2 (show n * 2 ^ s < 18446744073709551616 from s3)
    have hpow : (2 : Int) ^ s * 2 ^ (64 - s) = 18446744073709551616 := by
      rw [← Int.pow_add, show s + (64 - s) = 64 by omega]; rfl
    have hpos2 : (0 : Int) < 2 ^ (64 - s) := Int.pow_pos (by decide)
    -- the parts
    obtain ⟨V, hV⟩ : ∃ V, V = (n : Int) * 2 ^ s := ⟨_, rfl⟩
    obtain ⟨v1, hv1⟩ : ∃ v, v = V / 4294967296 := ⟨_, rfl⟩
    obtain ⟨v0, hv0⟩ : ∃ v, v = V % 4294967296 := ⟨_, rfl⟩
    have hhi : hi * 2 ^ s + 2 ^ s ≤ V := by
      have := Int.mul_le_mul_of_nonneg_right (show hi + 1 ≤ (n : Int) by omega) (Int.le_of_lt hpos)
      rw [Int.add_mul, Int.one_mul] at this
      omega
    have hhi0 : 0 ≤ hi * 2 ^ s := Int.mul_nonneg h0 (Int.le_of_lt hpos)
    have hl0 : 0 ≤ lo / 2 ^ (64 - s) := Int.ediv_nonneg h3 (Int.le_of_lt hpos2)
    have hl1 : lo / 2 ^ (64 - s) < 2 ^ s := by
      rw [Int.ediv_lt_iff_lt_mul hpos2, hpow]; exact h4
    obtain ⟨U, hU⟩ : ∃ U, U = hi * 2 ^ s + lo / 2 ^ (64 - s) := ⟨_, rfl⟩
    obtain ⟨L, hL⟩ : ∃ L, L = lo * 2 ^ s % 18446744073709551616 := ⟨_, rfl⟩
    obtain ⟨u1, hu1⟩ : ∃ v, v = L / 4294967296 := ⟨_, rfl⟩
    obtain ⟨u0, hu0⟩ : ∃ v, v = L % 4294967296 := ⟨_, rfl⟩
    have D : Dv V v1 v0 U u1 := ⟨by omega, by omega, by omega, by omega, by omega, by omega, by omega, by omega, by omega⟩
    have S := starts D
    have hall : (hi * 18446744073709551616 + lo) * 2 ^ s = (U * 4294967296 + u1) * 4294967296 + u0 := by
      have e1 : lo * 2 ^ s = (lo / 2 ^ (64 - s)) * 18446744073709551616 + L := by
        have e2 := Int.emod_add_mul_ediv (lo * 2 ^ s) 18446744073709551616
        have e3 : lo * 2 ^ s / 18446744073709551616 = lo / 2 ^ (64 - s) := by
          rw [← hpow, Int.mul_comm lo, Int.mul_ediv_mul_of_pos _ _ hpos]
        rw [e3] at e2
        omega
      have e4 : (hi * 18446744073709551616 + lo) * 2 ^ s = hi * 2 ^ s * 18446744073709551616 + lo * 2 ^ s := by grind
      rw [e4, e1]
      omega
    have j2 := ev_j2 (s := (s : Int)) (u0 := u0) D (by omega) (by omega) (by omega)
    have hq0 := Int.ediv_nonneg D.hU (show 0 ≤ v1 by omega)
    have hqb := S.hq
    have hm := Int.emod_add_mul_ediv U v1
    have hmc : v1 * (U / v1) = U / v1 * v1 := Int.mul_comm _ _
    have hm0 := Int.emod_nonneg U (show v1 ≠ 0 by omega)
    have hm1 := Int.emod_lt_of_pos U (show 0 < v1 by omega)
    have hmp : 0 ≤ U / v1 * v1 := Int.mul_nonneg hq0 (by omega)
    have ev := ev_l0 (s := (s : Int)) (u0 := u0) D j2 (U / v1 - (U * 4294967296 + u1) / V).toNat (U / v1) (U % v1) (by have := S.ht; omega) S
    -- the answer
    have hVp : 0 < V := by omega
    have hN := Int.emod_add_mul_ediv (U * 4294967296 + u1) V
    have hN2 := Int.emod_add_mul_ediv ((U * 4294967296 + u1) % V * 4294967296 + u0) V
    have hM0 := Int.emod_nonneg ((U * 4294967296 + u1) % V * 4294967296 + u0) (show V ≠ 0 by omega)
    have hM1 := Int.emod_lt_of_pos ((U * 4294967296 + u1) % V * 4294967296 + u0) hVp
    generalize hQ1 : (U * 4294967296 + u1) / V = Q1 at *
    generalize hR1 : (U * 4294967296 + u1) % V = R1 at *
    generalize hQ0 : (R1 * 4294967296 + u0) / V = Q0 at *
    generalize hM : (R1 * 4294967296 + u0) % V = M at *
    have hX : (hi * 18446744073709551616 + lo) * 2 ^ s = (Q1 * 4294967296 + Q0) * V + M := by
      rw [hall]
      have : (Q1 * 4294967296 + Q0) * V = V * Q1 * 4294967296 + V * Q0 := by grind
      rw [this]
      omega
    have hn0 : (0 : Int) < n := by omega
    have hdm : (hi * 18446744073709551616 + lo) / n = Q1 * 4294967296 + Q0 ∧ (hi * 18446744073709551616 + lo) % n = M / 2 ^ s := by
      have e5 : M % 2 ^ s = 0 := by
        have : M = ((hi * 18446744073709551616 + lo) - (Q1 * 4294967296 + Q0) * n) * 2 ^ s := by
          have : ((hi * 18446744073709551616 + lo) - (Q1 * 4294967296 + Q0) * n) * 2 ^ s = (hi * 18446744073709551616 + lo) * 2 ^ s - (Q1 * 4294967296 + Q0) * (n * 2 ^ s) := by grind
          rw [this, ← hV]; omega
        rw [this]; exact Int.mul_emod_left _ _
      have e6 : M = M / 2 ^ s * 2 ^ s := by
        have := Int.emod_add_mul_ediv M (2 ^ s)
        rw [e5, Int.zero_add, Int.mul_comm] at this
        exact this.symm
      have e7 : (hi * 18446744073709551616 + lo) = (Q1 * 4294967296 + Q0) * n + M / 2 ^ s := by
        have : (hi * 18446744073709551616 + lo) * 2 ^ s = ((Q1 * 4294967296 + Q0) * n + M / 2 ^ s) * 2 ^ s := by
          rw [hX, Int.add_mul (_ * _) (M / 2 ^ s), ← e6, hV]; grind
        exact Int.eq_of_mul_eq_mul_right (by omega) this
      have e8 : 0 ≤ M / 2 ^ s := Int.ediv_nonneg hM0 (Int.le_of_lt hpos)
      have e9 : M / 2 ^ s < n := by
        rw [Int.ediv_lt_iff_lt_mul hpos, ← hV]; exact hM1
      have e10 : (hi * 18446744073709551616 + lo) = M / 2 ^ s + n * (Q1 * 4294967296 + Q0) := by rw [Int.mul_comm (n : Int), Int.add_comm (M / 2 ^ s)]; exact e7
      have := (Int.ediv_emod_unique (a := hi * 18446744073709551616 + lo) (b := n) (q := Q1 * 4294967296 + Q0) (r := M / 2 ^ s) hn0).2 ⟨e10.symm, e8, e9⟩
      exact this
    rw [hdm.1, hdm.2]
    have eM : shr .u64 M (s : Int) = M / 2 ^ s := by
      unfold shr
      rw [Int.toNat_natCast, Nat.min_eq_left (show s ≤ IntKind.u64.bits by simp [IntKind.bits]; omega)]
    rw [eM] at ev
    refine Ev.step (f := fun k => bits_Div64.l0 (k + 1) V s v1 v0 U u1 u0 (U / v1) (U % v1)) (fun k => ?_) ?_
    · unfold bits_Div64.f
      rw [if_neg (by omega), if_neg (by omega), if_neg c0]
      have hlz := (lz64 k n (by omega) (by omega))
      obtain ⟨s', hs', s1', s2'', s3''⟩ := hlz
      have hss : s' = s := by
        have hk : bits_LeadingZeros64.f (0 + 1) (n : Int) = bits_LeadingZeros64.f (k + 1) (n : Int) := rfl
        rw [hs, hs'] at hk
        have := Option.some.inj hk
        omega
      subst hss
      rw [hs']
      simp only [Option.bind_some]
      have hsw : IntKind.u64.wrap (s' : Int) = (s' : Int) := uw_of (by omega) (by omega)
      have hsw2 : IntKind.u64.wrap (64 - (s' : Int)) = 64 - (s' : Int) := uw_of (by omega) (by omega)
      have sV : shl .u64 (n : Int) (s' : Int) = V := by
        unfold shl
        rw [Int.toNat_natCast, Nat.min_eq_left (show s' ≤ IntKind.u64.bits by simp [IntKind.bits]; omega), ← hV, uw_of (by omega) (by omega)]
      have sH : shl .u64 hi (s' : Int) = hi * 2 ^ s' := by
        unfold shl
        rw [Int.toNat_natCast, Nat.min_eq_left (show s' ≤ IntKind.u64.bits by simp [IntKind.bits]; omega), uw_of (by omega) (by omega)]
      have sL : shl .u64 lo (s' : Int) = L := by
        unfold shl
        rw [Int.toNat_natCast, Nat.min_eq_left (show s' ≤ IntKind.u64.bits by simp [IntKind.bits]; omega), uw, hL]
      have sR : shr .u64 lo (64 - (s' : Int)) = lo / 2 ^ (64 - s') := by
        unfold shr
        rw [show (64 - (s' : Int)).toNat = 64 - s' by omega, Nat.min_eq_left (show 64 - s' ≤ IntKind.u64.bits by simp [IntKind.bits])]
      have sO : Go.bits .or .u64 (hi * 2 ^ s') (lo / 2 ^ (64 - s')) = U := by
        rw [hU]
        exact bits_join .u64 64 (by decide) (fun n a b => uw_of a b) s' _ _ hhi0 (Int.mul_emod_left _ _) (by omega) hl0 hl1 (by omega)
      rw [hsw, hsw2, if_pos (by omega), if_pos (by omega), sV, sH, sL, sR, sO, and32 (by omega) (by omega), and32 (by omega) (by omega)]
      rw [← hv1, ← hv0, ← hu1, ← hu0, if_neg (by omega), tdiv_nn D.hU, uw_of (n := U / v1) hq0 (by omega), uw_of (n := U / v1 * v1) (by omega) (by omega), show U - U / v1 * v1 = U % v1 by omega, uw_of (n := U % v1) hm0 (by omega)]
    · obtain ⟨K, hK⟩ := ev
      exact ⟨K, fun k hk => hK (k + 1) (by omega)⟩

theorem rem64 (hi lo y : Int) (h0 : 0 ≤ hi) (h1 : 0 < y) (h2 : y < 18446744073709551616) (h3 : 0 ≤ lo) (h4 : lo < 18446744073709551616) :
    Ev (fun k => bits_Rem64.f k hi lo y) ((hi * 18446744073709551616 + lo) % y) := by
  have hm0 := Int.emod_nonneg hi (show y ≠ 0 by omega)
  have hm1 := Int.emod_lt_of_pos hi h1
  have ev := div64 (hi % y) lo y hm0 hm1 h2 h3 h4
  have e : (hi % y * 18446744073709551616 + lo) % y = (hi * 18446744073709551616 + lo) % y := by
    rw [Int.add_emod, Int.mul_emod, Int.emod_emod_of_dvd hi (Int.dvd_refl y), ← Int.mul_emod, ← Int.add_emod]
  rw [e] at ev
  refine Ev.congr (f := fun k => (bits_Div64.f k (hi % y) lo y).bind fun b => some b.2) (fun k => ?_) (Ev.bind ev (Ev.now _))
  unfold bits_Rem64.f
  rw [if_neg (by omega), tmod_nn h0]
end Go.Proofs.Ytdfhkdddlfmceaa.PfB
