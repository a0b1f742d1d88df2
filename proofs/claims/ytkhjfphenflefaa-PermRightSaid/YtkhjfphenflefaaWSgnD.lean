/- The sign that rings tell is the sign of the pairs, continued. Conditions: none. -/
import Derived.Test.YtkhjfphenflefaaWSgnC
namespace Go.Proofs.Ytkhjfphenflefaa.TM
open Go Go.RowKit
set_option linter.unusedVariables false
set_option linter.defProp false
set_option linter.unusedSimpArgs false

theorem sw_comm (a b : Nat) (f : Nat → Int) : sw a b f = sw b a f := by
  funext i
  unfold sw
  by_cases c1 : i = a
  · by_cases c2 : i = b
    · rw [if_pos c1, if_pos c2, ← c1, ← c2]
    · rw [if_pos c1, if_neg c2, if_pos c1]
  · by_cases c2 : i = b
    · rw [if_neg c1, if_pos c2, if_pos c2]
    · rw [if_neg c1, if_neg c2, if_neg c2, if_neg c1]
theorem sgnI_swap {a b n : Nat} {f : Nat → Int} (h : InjN f n) (ha : a < n) (hb : b < n) (hab : a ≠ b) : sgnI (sw a b f) n = - sgnI f n := by
  rcases Nat.lt_or_gt_of_ne hab with c | c
  · obtain ⟨d, rfl⟩ : ∃ d, b = a + 1 + d := ⟨b - (a + 1), by omega⟩
    exact sgnI_sw d a n f h hb
  · obtain ⟨d, rfl⟩ : ∃ d, a = b + 1 + d := ⟨a - (b + 1), by omega⟩
    rw [sw_comm]
    exact sgnI_sw d b n f h ha
/-- What is seen goes as the order says, all else stays. -/
def put1 (l s : List Int) : Nat → Int := fun i => if (i : Int) ∈ s then l.getD i 0 else i
def ringG (l s : List Int) (J : Int) (k : Nat) : Nat → Int := fun i => if (i : Int) ∈ s ++ orb l J k then l.getD i 0 else if (i : Int) = itn l J k then J else i
theorem put1_inj {l s : List Int} (o : Ord l) (hc : Cl l s) : InjN (put1 l s) l.length := by
  intro i j hi hj he
  unfold put1 at he
  have e1 : l.getD i 0 = nx l (i : Int) := rfl
  have e2 : l.getD j 0 = nx l (j : Int) := rfl
  by_cases c1 : (i : Int) ∈ s
  · by_cases c2 : (j : Int) ∈ s
    · rw [if_pos c1, if_pos c2, e1, e2] at he
      have := nx_inj o (a := (i : Int)) (b := (j : Int)) (by omega) (by omega) he
      omega
    · rw [if_pos c1, if_neg c2, e1] at he
      have := (hc (i : Int) (by omega) (by omega)).1 c1
      rw [he] at this
      exact absurd this c2
  · by_cases c2 : (j : Int) ∈ s
    · rw [if_neg c1, if_pos c2, e2] at he
      have := (hc (j : Int) (by omega) (by omega)).1 c2
      rw [← he] at this
      exact absurd this c1
    · rw [if_neg c1, if_neg c2] at he
      omega
theorem ringG_zero {l s : List Int} {J : Int} : ringG l s J 0 = put1 l s := by
  funext i
  unfold ringG put1
  rw [orb_zero, List.append_nil]
  by_cases c1 : (i : Int) ∈ s
  · rw [if_pos c1, if_pos c1]
  · rw [if_neg c1, if_neg c1]
    by_cases c2 : (i : Int) = itn l J 0
    · rw [if_pos c2, c2]; rfl
    · rw [if_neg c2]
theorem ringG_succ {l s : List Int} (o : Ord l) {J : Int} (h0 : 0 ≤ J) (h1 : J < l.length) {k : Nat} (n1 : itn l J k ∉ s ++ orb l J k) (n2 : itn l J (k + 1) ∉ s ++ orb l J (k + 1)) :
    ringG l s J (k + 1) = sw (itn l J k).toNat (itn l J (k + 1)).toNat (ringG l s J k) := by
  have it := itn_in o h0 h1
  have a0 := (it k).1
  have b0 := (it (k + 1)).1
  have n3 : itn l J (k + 1) ∉ s ++ orb l J k := fun h => n2 (by
    rw [orb_succ, ← List.append_assoc]; exact List.mem_append.2 (.inl h))
  have n4 : itn l J (k + 1) ≠ itn l J k := fun h => n2 (by
    rw [orb_succ, ← List.append_assoc]; exact List.mem_append.2 (.inr (by simp [h])))
  have mem : ∀ x : Int, x ∈ s ++ orb l J (k + 1) ↔ x ∈ s ++ orb l J k ∨ x = itn l J k := fun x => by
    rw [orb_succ, ← List.append_assoc, List.mem_append, List.mem_singleton]
  funext i
  by_cases c1 : (i : Int) = itn l J k
  · have hi : i = (itn l J k).toNat := by omega
    have hb : ((itn l J (k + 1)).toNat : Int) = itn l J (k + 1) := by omega
    rw [← hi, sw_a]
    unfold ringG
    rw [if_pos ((mem _).2 (.inr c1)), hb, if_neg n3, if_neg n4, itn_nx, nx, ← hi]
  · by_cases c2 : (i : Int) = itn l J (k + 1)
    · have hi : i = (itn l J (k + 1)).toNat := by omega
      have ha : ((itn l J k).toNat : Int) = itn l J k := by omega
      rw [← hi, sw_b]
      unfold ringG
      rw [ha, if_neg n1, if_pos rfl, c2, if_neg n2, if_pos rfl]
    · rw [sw_o _ (by omega) (by omega)]
      unfold ringG
      rw [if_neg c1, if_neg c2]
      by_cases c3 : (i : Int) ∈ s ++ orb l J k
      · rw [if_pos c3, if_pos ((mem _).2 (.inl c3))]
      · rw [if_neg c3, if_neg fun h => ((mem _).1 h).elim c3 c1]
theorem ringG_last {l s : List Int} {J : Int} (h0 : 0 ≤ J) {q : Nat} (hq : 0 ≤ itn l J q) (hb : itn l J (q + 1) = J) : ringG l s J q = put1 l (s ++ orb l J (q + 1)) := by
  funext i
  unfold ringG put1
  have mem : ∀ x : Int, x ∈ s ++ orb l J (q + 1) ↔ x ∈ s ++ orb l J q ∨ x = itn l J q := fun x => by
    rw [orb_succ, ← List.append_assoc, List.mem_append, List.mem_singleton]
  by_cases c1 : (i : Int) ∈ s ++ orb l J q
  · rw [if_pos c1, if_pos ((mem _).2 (.inl c1))]
  · by_cases c2 : (i : Int) = itn l J q
    · rw [if_neg c1, if_pos c2, if_pos ((mem _).2 (.inr c2)), ← hb, itn_nx, nx, ← c2]; rfl
    · rw [if_neg c1, if_neg c2, if_neg fun h => ((mem _).1 h).elim c1 c2]
def alt : Nat → Int
  | 0 => 1
  | k + 1 => - alt k
theorem ringG_sgn {l s : List Int} (o : Ord l) (hc : Cl l s) {J : Int} (h0 : 0 ≤ J) (h1 : J < l.length) : ∀ k, (∀ i, i ≤ k → itn l J i ∉ s ++ orb l J i) →
    InjN (ringG l s J k) l.length ∧ sgnI (ringG l s J k) l.length = alt k * sgnI (put1 l s) l.length
  | 0, _ => by rw [ringG_zero]; exact ⟨put1_inj o hc, by simp [alt]⟩
  | k + 1, h => by
    have it := itn_in o h0 h1
    obtain ⟨i1, i2⟩ := ringG_sgn o hc h0 h1 k fun i hi => h i (by omega)
    have a := it k
    have b := it (k + 1)
    have n4 : itn l J (k + 1) ≠ itn l J k := fun e => h (k + 1) (Nat.le_refl _) (by
      rw [orb_succ, ← List.append_assoc]; exact List.mem_append.2 (.inr (by simp [e])))
    rw [ringG_succ o h0 h1 (h k (by omega)) (h (k + 1) (Nat.le_refl _))]
    refine ⟨i1.sw (by omega) (by omega), ?_⟩
    rw [sgnI_swap i1 (by omega) (by omega) (by omega), i2, alt, Int.neg_mul]
end Go.Proofs.Ytkhjfphenflefaa.TM
