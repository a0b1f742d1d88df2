/- Pure facts of words: wraps, what is right modulo a number, rests. -/
import Derived.Test.YtkhjfphenflefaaTy
import Derived.Laws.BitsLemmas
namespace Go.Proofs.Ytkhjfphenflefaa.TM
open Go Go.RowKit
set_option linter.unusedVariables false
set_option linter.defProp false
set_option linter.unusedSimpArgs false

abbrev u64 (n : Int) : PV := .i (.v (.int .u64 n))
abbrev i64 (n : Int) : PV := .i (.v (.int .i64 n))
abbrev bl (b : Bool) : PV := .i (.v (.bool b))
abbrev iu (x : Int) : IV := .v (.int .u64 x)
abbrev ii (x : Int) : IV := .v (.int .i64 x)
/-- Lists of words, and of numbers. -/
abbrev lu (l : List Int) : PV := .i (.l l.length (l.map iu))
abbrev li (l : List Int) : PV := .i (.l l.length (l.map ii))
abbrev fnc (f : Nat) : PV := .i (.v (.func (.func f) #[] #[]))
abbrev nilP : PV := .i (.v (.slice none 0 0))
theorem uw (n : Int) : IntKind.u64.wrap n = n % 18446744073709551616 := by simp [IntKind.wrap, IntKind.bits, IntKind.signed]
theorem uw_of {n : Int} (h0 : 0 ≤ n) (h1 : n < 18446744073709551616) : IntKind.u64.wrap n = n := by rw [uw]; omega
theorem iw_of {n : Int} (h0 : -9223372036854775808 ≤ n) (h1 : n < 9223372036854775808) : IntKind.i64.wrap n = n := by rw [IntKind.wrap_i64]; omega
theorem and32 {x : Int} (h0 : 0 ≤ x) (h1 : x < 18446744073709551616) : Go.bits .and .u64 x 4294967295 = x % 4294967296 :=
  bits_mask .u64 64 (by decide) (fun n a b => uw_of a b) 32 (by decide) x h0 h1
theorem and1 {x : Int} (h0 : 0 ≤ x) (h1 : x < 18446744073709551616) : Go.bits .and .u64 x 1 = x % 2 :=
  bits_mask .u64 64 (by decide) (fun n a b => uw_of a b) 1 (by decide) x h0 h1
theorem tmod_nn {a b : Int} (h : 0 ≤ a) : Int.tmod a b = a % b := Int.tmod_eq_emod_of_nonneg h
theorem tdiv_nn {a b : Int} (h : 0 ≤ a) : Int.tdiv a b = a / b := Int.tdiv_eq_ediv_of_nonneg h

/-- A word of 64 bits. -/
def W64 (a : Int) : Prop := 0 ≤ a ∧ a < 18446744073709551616
/-- May p be a modulus? -/
def RightB (p : Int) : Bool := decide (2 ≤ p) && decide (p < 9223372036854775808)
def HasB (p : Int) (l : List Int) : Bool := l.all (fun a => decide (a < p)) && RightB p
theorem wf_iff {k : IntKind} {a : Int} : (Lit.int k a).wf = true ↔ k.min ≤ a ∧ a ≤ k.max := by simp [Lit.wf]
theorem w64_of {a : Int} (h : (Lit.int .u64 a).wf = true) : W64 a := by
  have := wf_iff.1 h
  have e1 : IntKind.u64.min = 0 := rfl
  have e2 : IntKind.u64.max = 18446744073709551615 := rfl
  exact ⟨by omega, by omega⟩
theorem w64_all {l : List Int} (h : ∀ a ∈ l, (Lit.int .u64 a).wf = true) : ∀ a ∈ l, W64 a := fun a ha => w64_of (h a ha)
theorem w64_wf {a : Int} (h : W64 a) : (Lit.int .u64 a).wf = true := by
  have e1 : IntKind.u64.min = 0 := rfl
  have e2 : IntKind.u64.max = 18446744073709551615 := rfl
  obtain ⟨h1, h2⟩ := h
  exact wf_iff.2 ⟨by omega, by omega⟩
theorem i64_of {a : Int} (h : (Lit.int .i64 a).wf = true) : -9223372036854775808 ≤ a ∧ a < 9223372036854775808 := by
  have := wf_iff.1 h
  have e1 : IntKind.i64.min = -9223372036854775808 := rfl
  have e2 : IntKind.i64.max = 9223372036854775807 := rfl
  omega
theorem u32_of {a : Int} (h : (Lit.int .u32 a).wf = true) : 0 ≤ a ∧ a < 4294967296 := by
  have := wf_iff.1 h
  have e1 : IntKind.u32.min = 0 := rfl
  have e2 : IntKind.u32.max = 4294967295 := rfl
  omega
theorem u8_of {a : Int} (h : (Lit.int .u8 a).wf = true) : 0 ≤ a ∧ a < 256 := by
  have := wf_iff.1 h
  have e1 : IntKind.u8.min = 0 := rfl
  have e2 : IntKind.u8.max = 255 := rfl
  omega
theorem hasB_nil (p : Int) : HasB p [] = RightB p := by simp [HasB]
theorem hasB_cons (p a : Int) (l : List Int) : HasB p (a :: l) = (decide (a < p) && HasB p l) := by simp [HasB, Bool.and_assoc]

theorem right_iff (p : Int) : RightB p = true ↔ 2 ≤ p ∧ p < 9223372036854775808 := by simp [RightB]
theorem has_iff (p : Int) (l : List Int) : HasB p l = true ↔ (∀ a ∈ l, a < p) ∧ 2 ≤ p ∧ p < 9223372036854775808 := by simp [HasB, RightB]
theorem mx_len : maxLen = 9223372036854775807 := rfl
theorem mm_l (p a b : Int) : a % p * b % p = a * b % p := by rw [Int.mul_emod, Int.emod_emod_of_dvd _ (Int.dvd_refl p), ← Int.mul_emod]
theorem mm_r (p a b : Int) : a * (b % p) % p = a * b % p := by rw [Int.mul_emod, Int.emod_emod_of_dvd _ (Int.dvd_refl p), ← Int.mul_emod]
theorem am_l (p a b : Int) : (a % p + b) % p = (a + b) % p := by rw [Int.add_emod, Int.emod_emod_of_dvd _ (Int.dvd_refl p), ← Int.add_emod]
theorem am_r (p a b : Int) : (a + b % p) % p = (a + b) % p := by rw [Int.add_emod, Int.emod_emod_of_dvd _ (Int.dvd_refl p), ← Int.add_emod]
theorem sm_l (p a b : Int) : (a % p - b) % p = (a - b) % p := by rw [Int.sub_emod, Int.emod_emod_of_dvd _ (Int.dvd_refl p), ← Int.sub_emod]
theorem sm_r (p a b : Int) : (a - b % p) % p = (a - b) % p := by rw [Int.sub_emod, Int.emod_emod_of_dvd _ (Int.dvd_refl p), ← Int.sub_emod]
theorem pm (p a : Int) (n : Nat) : (a % p) ^ n % p = a ^ n % p := by
  induction n with
  | zero => simp
  | succ n ih => rw [Int.pow_succ, Int.pow_succ, Int.mul_emod, ih, Int.emod_emod_of_dvd _ (Int.dvd_refl p), ← Int.mul_emod]

/-- Numbers of a modulus. -/
def In (p a : Int) : Prop := 0 ≤ a ∧ a < p
theorem In.w64 {p a : Int} (hp : p ≤ 9223372036854775808) (h : In p a) : W64 a := by unfold In W64 at *; omega
theorem emod_in {p : Int} (a : Int) (h : 0 < p) : In p (a % p) := ⟨Int.emod_nonneg _ (by omega), Int.emod_lt_of_pos _ h⟩
theorem In.emod {p a : Int} (h : In p a) : a % p = a := Int.emod_eq_of_lt h.1 h.2

theorem mul_bd {a b m n : Int} (ha : 0 ≤ a) (hb : 0 ≤ b) (hm : a ≤ m) (hn : b ≤ n) : 0 ≤ a * b ∧ a * b ≤ m * n :=
  ⟨Int.mul_nonneg ha hb, Int.mul_le_mul hm hn hb (by omega)⟩
theorem fdiv_pos (a : Int) {b : Int} (h : 0 ≤ b) : a.fdiv b = a / b := Int.fdiv_eq_ediv_of_nonneg a h
theorem shr32 (a : Int) : a.fdiv (2 ^ (min 32 IntKind.u64.bits)) = a / 4294967296 := fdiv_pos a (by decide)
theorem shr16 (a : Int) : a.fdiv (2 ^ (min 16 IntKind.u64.bits)) = a / 65536 := fdiv_pos a (by decide)
theorem shr8 (a : Int) : a.fdiv (2 ^ (min 8 IntKind.u64.bits)) = a / 256 := fdiv_pos a (by decide)
theorem shr1 (a : Int) : a.fdiv (2 ^ (min 1 IntKind.u64.bits)) = a / 2 := fdiv_pos a (by decide)
theorem dec_true {p : Prop} [Decidable p] (h : p) : decide p = true := decide_eq_true h
theorem dec_false {p : Prop} [Decidable p] (h : ¬ p) : decide p = false := decide_eq_false h
theorem beq_tt {a b : Int} (h : a = b) : (a == b) = true := by subst h; simp
theorem beq_ff {a b : Int} (h : a ≠ b) : (a == b) = false := by simp [h]
theorem bne_tt {a b : Int} (h : a ≠ b) : (a != b) = true := by simp [h]
theorem bne_ff {a b : Int} (h : a = b) : (a != b) = false := by subst h; simp
theorem ifneg0 {α : Type} {a : Int} {x y : α} (h : 0 ≤ a) : (if a < 0 then x else y) = y := if_neg (by omega)
theorem ifz {α : Type} {a : Int} {x y : α} (h : a ≠ 0) : (if a = 0 then x else y) = y := if_neg h
def gos :=
  And.intro @beq_tt <| And.intro @beq_ff <| And.intro @bne_tt <| And.intro @bne_ff <| And.intro @ifneg0 <| And.intro @uw_of <| And.intro @iw_of <| And.intro @dec_true <| And.intro @dec_false <| And.intro @shr32 <| And.intro @shr16 <| And.intro @shr8 <| And.intro @shr1 <| And.intro @tdiv_nn <| And.intro @tmod_nn <| @ifz
end Go.Proofs.Ytkhjfphenflefaa.TM
