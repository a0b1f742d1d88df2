/- Signs: a list's sign by its pairs, and what a swap does to it. Conditions: none. -/
import Derived.Test.YtkhjfphenflefaaWWords
namespace Go.Proofs.Ytkhjfphenflefaa.TM
open Go Go.RowKit
set_option linter.unusedVariables false
set_option linter.defProp false
set_option linter.unusedSimpArgs false

def eps (x y : Int) : Int := if x < y then 1 else -1
theorem eps_flip {x y : Int} (h : x ≠ y) : eps y x = - eps x y := by
  unfold eps
  by_cases c : x < y
  · rw [if_pos c, if_neg (by omega)]
  · rw [if_neg c, if_pos (by omega)]; rfl
def colP (f : Nat → Int) (y : Int) : Nat → Int
  | 0 => 1
  | k + 1 => colP f y k * eps (f k) y
/-- The sign of n numbers: each pair that stands the wrong way turns it. -/
def sgnI (f : Nat → Int) : Nat → Int
  | 0 => 1
  | j + 1 => sgnI f j * colP f (f j) j
def sw (a b : Nat) (f : Nat → Int) : Nat → Int := fun i => if i = a then f b else if i = b then f a else f i
theorem sw_a (a b : Nat) (f : Nat → Int) : sw a b f a = f b := if_pos rfl
theorem sw_b (a b : Nat) (f : Nat → Int) : sw a b f b = f a := by
  unfold sw
  by_cases h : b = a
  · subst h; rw [if_pos rfl]
  · rw [if_neg h, if_pos rfl]
theorem sw_o {a b i : Nat} (f : Nat → Int) (h1 : i ≠ a) (h2 : i ≠ b) : sw a b f i = f i := by unfold sw; rw [if_neg h1, if_neg h2]
theorem colP_congr {f g : Nat → Int} {y : Int} : ∀ {k : Nat}, (∀ i, i < k → f i = g i) → colP f y k = colP g y k
  | 0, _ => rfl
  | k + 1, h => by rw [colP, colP, colP_congr (fun i hi => h i (by omega)), h k (by omega)]
theorem sgnI_congr {f g : Nat → Int} : ∀ {n : Nat}, (∀ i, i < n → f i = g i) → sgnI f n = sgnI g n
  | 0, _ => rfl
  | n + 1, h => by rw [sgnI, sgnI, sgnI_congr (fun i hi => h i (by omega)), h n (by omega), colP_congr (fun i hi => h i (by omega))]
theorem colP_adj (f : Nat → Int) (y : Int) (a : Nat) : ∀ d, colP (sw a (a + 1) f) y (a + 2 + d) = colP f y (a + 2 + d)
  | 0 => by
    rw [Nat.add_zero, show a + 2 = (a + 1) + 1 from rfl, colP, colP, colP, colP, sw_a, sw_b, colP_congr (g := f) (fun i hi => sw_o f (by omega) (by omega)), Int.mul_assoc, Int.mul_assoc, Int.mul_comm (eps (f (a + 1)) y)]
  | d + 1 => by
    rw [show a + 2 + (d + 1) = (a + 2 + d) + 1 from rfl, colP, colP, colP_adj f y a d, sw_o f (by omega) (by omega)]
theorem sgnI_adj (f : Nat → Int) (a : Nat) (h : f a ≠ f (a + 1)) : ∀ d, sgnI (sw a (a + 1) f) (a + 2 + d) = - sgnI f (a + 2 + d)
  | 0 => by
    have e : ∀ y, colP (sw a (a + 1) f) y a = colP f y a := fun y => colP_congr (fun i hi => sw_o f (by omega) (by omega))
    rw [Nat.add_zero, show a + 2 = (a + 1) + 1 from rfl, sgnI, sgnI, sgnI, sgnI, colP, colP, sw_a, sw_b, e, e, sgnI_congr (g := f) (fun i hi => sw_o f (by omega) (by omega)), eps_flip h]
    generalize sgnI f a = s
    generalize colP f (f a) a = x
    generalize colP f (f (a + 1)) a = y
    generalize eps (f a) (f (a + 1)) = z
    rw [Int.mul_neg, Int.mul_neg]
    congr 1
    rw [Int.mul_assoc, Int.mul_assoc, ← Int.mul_assoc y x, ← Int.mul_assoc x y, Int.mul_comm y x]
  | d + 1 => by
    rw [show a + 2 + (d + 1) = (a + 2 + d) + 1 from rfl, sgnI, sgnI, sgnI_adj f a h d, sw_o f (by omega) (by omega), colP_adj, Int.neg_mul]
def InjN (f : Nat → Int) (n : Nat) : Prop := ∀ i j, i < n → j < n → f i = f j → i = j
theorem InjN.sw {f : Nat → Int} {n a b : Nat} (h : InjN f n) (ha : a < n) (hb : b < n) : InjN (sw a b f) n := by
  have key : ∀ i, i < n → ∃ i', i' < n ∧ TM.sw a b f i = f i' ∧ (i' = if i = a then b else if i = b then a else i) := fun i hi => by
    unfold TM.sw
    by_cases h1 : i = a
    · exact ⟨b, hb, by rw [if_pos h1], by rw [if_pos h1]⟩
    · by_cases h2 : i = b
      · exact ⟨a, ha, by rw [if_neg h1, if_pos h2], by rw [if_neg h1, if_pos h2]⟩
      · exact ⟨i, hi, by rw [if_neg h1, if_neg h2], by rw [if_neg h1, if_neg h2]⟩
  intro i j hi hj he
  obtain ⟨i', hi', e1, e2⟩ := key i hi
  obtain ⟨j', hj', e3, e4⟩ := key j hj
  have := h i' j' hi' hj' (by rw [← e1, ← e3]; exact he)
  rw [e2, e4] at this
  split at this <;> split at this <;> (try split at this) <;> (try split at this) <;> omega
theorem sgnI_sw : ∀ (d a n : Nat) (f : Nat → Int), InjN f n → a + 1 + d < n → sgnI (sw a (a + 1 + d) f) n = - sgnI f n
  | 0, a, n, f, hi, hn => by
    obtain ⟨e, rfl⟩ : ∃ e, n = a + 2 + e := ⟨n - (a + 2), by omega⟩
    exact sgnI_adj f a (fun he => by have := hi a (a + 1) (by omega) (by omega) he; omega) e
  | d + 1, a, n, f, hi, hn => by
    obtain ⟨e, he⟩ : ∃ e, n = (a + 1 + d) + 2 + e := ⟨n - (a + 1 + d + 2), by omega⟩
    have h1 : sw a (a + 1 + (d + 1)) f = sw (a + 1 + d) (a + 1 + d + 1) (sw a (a + 1 + d) (sw (a + 1 + d) (a + 1 + d + 1) f)) := by
      rw [show a + 1 + (d + 1) = a + 1 + d + 1 from rfl]
      funext i
      unfold sw
      have n1 : ¬ a = a + 1 + d := by omega
      have n2 : ¬ a = a + 1 + d + 1 := by omega
      have n3 : ¬ a + 1 + d + 1 = a := by omega
      have n4 : ¬ a + 1 + d = a := by omega
      have n5 : ¬ a + 1 + d + 1 = a + 1 + d := by omega
      have n6 : ¬ a + 1 + d = a + 1 + d + 1 := by omega
      by_cases c1 : i = a
      · subst c1; simp only [if_true, n1, n2, n3, n4, n5, n6, if_false]
      · by_cases c2 : i = a + 1 + d
        · subst c2; simp only [if_true, n1, n2, n3, n4, n5, n6, if_false]
        · by_cases c3 : i = a + 1 + d + 1
          · subst c3; simp only [if_true, n1, n2, n3, n4, n5, n6, if_false]
          · simp only [c1, c2, c3, if_false]
    have i1 := hi.sw (a := a + 1 + d) (b := a + 1 + d + 1) (by omega) (by omega)
    have i2 := i1.sw (a := a) (b := a + 1 + d) (by omega) (by omega)
    have adj : ∀ g : Nat → Int, InjN g n → sgnI (sw (a + 1 + d) (a + 1 + d + 1) g) n = - sgnI g n := fun g hg => by
      rw [he]
      exact sgnI_adj g (a + 1 + d) (fun h => by have := hg (a + 1 + d) (a + 1 + d + 1) (by omega) (by omega) h; omega) e
    rw [h1, adj _ i2, sgnI_sw d a n _ i1 (by omega), adj _ hi]
    omega
end Go.Proofs.Ytkhjfphenflefaa.TM
