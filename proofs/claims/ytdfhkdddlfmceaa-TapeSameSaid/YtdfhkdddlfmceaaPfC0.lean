/- Pure facts of layer 1: words, lists, what is right. -/
import Derived.Test.YtdfhkdddlfmceaaX1
import Derived.Test.YtdfhkdddlfmceaaX4
import Derived.Test.YtdfhkdddlfmceaaX7
import Derived.Test.YtdfhkdddlfmceaaX21
import Derived.Test.YtdfhkdddlfmceaaPfA
namespace Go.Proofs.Ytdfhkdddlfmceaa.PfC
open Go.RowKit Go.Proofs.YtdfhkdddlfmceaaW.PrintWords Go.Proofs.YtdfhkdddlfmceaaW.PrintLast Go.Proofs.YtdfhkdddlfmceaaW.PrintMore Go.Proofs.Ytdfhkdddlfmceaa.X Go.Proofs.Ytdfhkdddlfmceaa.PfA
set_option linter.unusedVariables false
set_option linter.unusedSimpArgs false

/-- A word of 64 bits. -/
def W64 (a : Int) : Prop := 0 ≤ a ∧ a < 18446744073709551616
/-- May p be a modulus? -/
def RightB (p : Int) : Bool := decide (2 ≤ p) && decide (p < 9223372036854775808)
def HasB (p : Int) (l : List Int) : Bool := l.all (fun a => decide (a < p)) && RightB p
theorem wf_iff {k : IntKind} {a : Int} : (Lit.int k a).wf = true ↔ k.min ≤ a ∧ a ≤ k.max := by simp [Lit.wf]
theorem w64_of {a : Int} (h : (Lit.int .u64 a).wf = true) : W64 a := by
  have := wf_iff.1 h
  have e1 : IntKind.u64.min = 0 := rfl
  have e2 : IntKind.u64.max = 18446744073709551615 := rfl
  exact ⟨by omega, by omega⟩
theorem w64_all {l : List Int} (h : ∀ a ∈ l, (Lit.int .u64 a).wf = true) : ∀ a ∈ l, W64 a := fun a ha => w64_of (h a ha)
theorem w64_wf {a : Int} (h : W64 a) : (Lit.int .u64 a).wf = true := by
  have e1 : IntKind.u64.min = 0 := rfl
  have e2 : IntKind.u64.max = 18446744073709551615 := rfl
  obtain ⟨h1, h2⟩ := h
  exact wf_iff.2 ⟨by omega, by omega⟩
theorem i64_of {a : Int} (h : (Lit.int .i64 a).wf = true) : -9223372036854775808 ≤ a ∧ a < 9223372036854775808 := by
  have := wf_iff.1 h
  have e1 : IntKind.i64.min = -9223372036854775808 := rfl
  have e2 : IntKind.i64.max = 9223372036854775807 := rfl
  omega
theorem u32_of {a : Int} (h : (Lit.int .u32 a).wf = true) : 0 ≤ a ∧ a < 4294967296 := by
  have := wf_iff.1 h
  have e1 : IntKind.u32.min = 0 := rfl
  have e2 : IntKind.u32.max = 4294967295 := rfl
  omega
theorem u8_of {a : Int} (h : (Lit.int .u8 a).wf = true) : 0 ≤ a ∧ a < 256 := by
  have := wf_iff.1 h
  have e1 : IntKind.u8.min = 0 := rfl
  have e2 : IntKind.u8.max = 255 := rfl
  omega
theorem hasB_nil (p : Int) : HasB p [] = RightB p := by simp [HasB]
theorem hasB_cons (p a : Int) (l : List Int) : HasB p (a :: l) = (decide (a < p) && HasB p l) := by simp [HasB, Bool.and_assoc]

theorem right_iff (p : Int) : RightB p = true ↔ 2 ≤ p ∧ p < 9223372036854775808 := by simp [RightB]
theorem has_iff (p : Int) (l : List Int) : HasB p l = true ↔ (∀ a ∈ l, a < p) ∧ 2 ≤ p ∧ p < 9223372036854775808 := by simp [HasB, RightB]
theorem right_f (p : Int) : field_Right.f p = some (RightB p) := by
  unfold field_Right.f RightB
  by_cases h : 2 ≤ p <;> simp [h]
theorem rright_f (p : Int) : affidavitref01_Right.f p = some (RightB p) := by
  unfold affidavitref01_Right.f RightB
  by_cases h : 2 ≤ p
  · rw [if_pos (by omega)]
    simp only [h, decide_true, Bool.true_and]
    congr 1
    exact decide_eq_decide.2 (by omega)
  · rw [if_neg (by omega)]
    simp [h]

theorem wadd {i n : Int} (h0 : 0 ≤ i) (h : i < n) (hn : n ≤ 9223372036854775807) : wrap64 (i + 1) = i + 1 := iw_of (by omega) (by omega)
theorem mx_len : maxLen = 9223372036854775807 := rfl
theorem rd_at (l : List Int) (i : Nat) (h : i < l.length) : rd l (i : Int) = l[i] := by
  unfold rd
  rw [Int.toNat_natCast, List.getD_eq_getElem?_getD, List.getElem?_eq_getElem h]
  rfl
theorem drop_at (l : List Int) (i : Nat) (h : i < l.length) : l.drop i = l[i] :: l.drop (i + 1) := List.drop_eq_getElem_cons h

theorem ev_has (p : Int) (l : List Int) (hl : l.length ≤ maxLen) : Ev (fun k => field_Has.f k p l) (HasB p l) := by
  have key : ∀ (d i : Nat), l.length - i = d → i ≤ l.length → Ev (fun k => field_Has.l0 k p l (l.length : Int) (i : Int)) (HasB p (l.drop i)) := by
    intro d
    induction d with
    | zero =>
      intro i hd hi
      refine Ev.step (f := fun _ => some (RightB p)) (fun k => ?_) ?_
      · rw [field_Has.l0, if_neg (by omega), right_f]; rfl
      · rw [List.drop_of_length_le (by omega)]
        rw [hasB_nil]; exact Ev.now _
    | succ d ih =>
      intro i hd hi
      have hlt : i < l.length := by omega
      by_cases c : l[i] ≥ p
      · refine Ev.step (f := fun _ => some false) (fun k => ?_) ?_
        · rw [field_Has.l0, if_pos (by omega), if_pos (by omega), if_pos (by omega), rd_at l i hlt, if_pos c]
        · rw [drop_at l i hlt]
          rw [hasB_cons, show decide (l[i] < p) = false by simp; omega]
          exact Ev.now false
      · refine Ev.step (f := fun k => field_Has.l0 k p l (l.length : Int) ((i + 1 : Nat) : Int)) (fun k => ?_) ?_
        · rw [field_Has.l0, if_pos (by omega), if_pos (by omega), if_pos (by omega), rd_at l i hlt, if_neg c, wadd (n := l.length) (by omega) (by omega) (by have := mx_len; omega)]
          rfl
        · have := ih (i + 1) (by omega) (by omega)
          rw [drop_at l i hlt]
          rw [hasB_cons, show decide (l[i] < p) = true by simp; omega]
          exact this
  exact key l.length 0 (by omega) (by omega)

theorem ev_rhas (p : Int) (l : List Int) (hl : l.length ≤ maxLen) : Ev (fun k => affidavitref01_Has.f k p l) (HasB p l) := by
  have key : ∀ (d i : Nat), l.length - i = d → i ≤ l.length → Ev (fun k => affidavitref01_Has.l0 k p l (i : Int)) (HasB p (l.drop i)) := by
    intro d
    induction d with
    | zero =>
      intro i hd hi
      refine Ev.step (f := fun _ => some (RightB p)) (fun k => ?_) ?_
      · rw [affidavitref01_Has.l0, if_neg (by omega), rright_f]; rfl
      · rw [List.drop_of_length_le (by omega)]
        rw [hasB_nil]; exact Ev.now _
    | succ d ih =>
      intro i hd hi
      have hlt : i < l.length := by omega
      by_cases c : l[i] ≥ p
      · refine Ev.step (f := fun _ => some false) (fun k => ?_) ?_
        · rw [affidavitref01_Has.l0, if_pos (by omega), if_pos (by omega), rd_at l i hlt, if_pos c]
        · rw [drop_at l i hlt]
          rw [hasB_cons, show decide (l[i] < p) = false by simp; omega]
          exact Ev.now false
      · refine Ev.step (f := fun k => affidavitref01_Has.l0 k p l ((i + 1 : Nat) : Int)) (fun k => ?_) ?_
        · rw [affidavitref01_Has.l0, if_pos (by omega), if_pos (by omega), rd_at l i hlt, if_neg c, wadd (n := l.length) (by omega) (by omega) (by have := mx_len; omega)]
          rfl
        · have := ih (i + 1) (by omega) (by omega)
          rw [drop_at l i hlt]
          rw [hasB_cons, show decide (l[i] < p) = true by simp; omega]
          exact this
  exact key l.length 0 (by omega) (by omega)

theorem ev_same (a b : List Int) (ha : a.length ≤ maxLen) : Ev (fun k => affidavitref01_Same.f k a b) (decide (a = b)) := by
  by_cases hlen : a.length = b.length
  · have key : ∀ (d i : Nat), a.length - i = d → i ≤ a.length → Ev (fun k => affidavitref01_Same.l0 k a b (i : Int)) (decide (a.drop i = b.drop i)) := by
      intro d
      induction d with
      | zero =>
        intro i hd hi
        refine Ev.step (f := fun _ => some true) (fun k => ?_) ?_
        · rw [affidavitref01_Same.l0, if_neg (by omega)]
        · rw [List.drop_of_length_le (l := a) (by omega), List.drop_of_length_le (l := b) (by omega)]
          simpa using Ev.now true
      | succ d ih =>
        intro i hd hi
        have hlt : i < a.length := by omega
        have hlt2 : i < b.length := by omega
        by_cases c : a[i] = b[i]
        · refine Ev.step (f := fun k => affidavitref01_Same.l0 k a b ((i + 1 : Nat) : Int)) (fun k => ?_) ?_
          · rw [affidavitref01_Same.l0, if_pos (by omega), if_pos (by omega), if_pos (by omega), rd_at a i hlt, rd_at b i hlt2, if_pos c, wadd (n := a.length) (by omega) (by omega) (by have := mx_len; omega)]
            rfl
          · have := ih (i + 1) (by omega) (by omega)
            rw [drop_at a i hlt, drop_at b i hlt2, show decide (a[i] :: a.drop (i + 1) = b[i] :: b.drop (i + 1)) = decide (a.drop (i + 1) = b.drop (i + 1)) from decide_eq_decide.2 ⟨fun h => (List.cons.inj h).2, fun h => by rw [c, h]⟩]
            exact this
        · refine Ev.step (f := fun _ => some false) (fun k => ?_) ?_
          · rw [affidavitref01_Same.l0, if_pos (by omega), if_pos (by omega), if_pos (by omega), rd_at a i hlt, rd_at b i hlt2, if_neg c]
          · rw [drop_at a i hlt, drop_at b i hlt2, decide_eq_false (fun h => c (List.cons.inj h).1)]
            exact Ev.now false
    refine Ev.congr (f := fun k => affidavitref01_Same.l0 k a b 0) (fun k => ?_) ?_
    · unfold affidavitref01_Same.f
      rw [if_pos (by omega)]
    · simpa using key a.length 0 (by omega) (by omega)
  · refine Ev.congr (f := fun _ => some false) (fun k => ?_) ?_
    · unfold affidavitref01_Same.f
      rw [if_neg (by omega)]
    · have : a ≠ b := fun h => hlen (by rw [h])
      simpa [this] using Ev.now false

theorem mm_l (p a b : Int) : a % p * b % p = a * b % p := by rw [Int.mul_emod, Int.emod_emod_of_dvd _ (Int.dvd_refl p), ← Int.mul_emod]
theorem mm_r (p a b : Int) : a * (b % p) % p = a * b % p := by rw [Int.mul_emod, Int.emod_emod_of_dvd _ (Int.dvd_refl p), ← Int.mul_emod]
theorem am_l (p a b : Int) : (a % p + b) % p = (a + b) % p := by rw [Int.add_emod, Int.emod_emod_of_dvd _ (Int.dvd_refl p), ← Int.add_emod]
theorem am_r (p a b : Int) : (a + b % p) % p = (a + b) % p := by rw [Int.add_emod, Int.emod_emod_of_dvd _ (Int.dvd_refl p), ← Int.add_emod]
theorem sm_l (p a b : Int) : (a % p - b) % p = (a - b) % p := by rw [Int.sub_emod, Int.emod_emod_of_dvd _ (Int.dvd_refl p), ← Int.sub_emod]
theorem sm_r (p a b : Int) : (a - b % p) % p = (a - b) % p := by rw [Int.sub_emod, Int.emod_emod_of_dvd _ (Int.dvd_refl p), ← Int.sub_emod]
theorem pm (p a : Int) (n : Nat) : (a % p) ^ n % p = a ^ n % p := by
  induction n with
  | zero => simp
  | succ n ih => rw [Int.pow_succ, Int.pow_succ, Int.mul_emod, ih, Int.emod_emod_of_dvd _ (Int.dvd_refl p), ← Int.mul_emod]

/-- Numbers of a modulus. -/
def In (p a : Int) : Prop := 0 ≤ a ∧ a < p
theorem In.w64 {p a : Int} (hp : p ≤ 9223372036854775808) (h : In p a) : W64 a := by unfold In W64 at *; omega
theorem emod_in {p : Int} (a : Int) (h : 0 < p) : In p (a % p) := ⟨Int.emod_nonneg _ (by omega), Int.emod_lt_of_pos _ h⟩
theorem In.emod {p a : Int} (h : In p a) : a % p = a := Int.emod_eq_of_lt h.1 h.2

end Go.Proofs.Ytdfhkdddlfmceaa.PfC
