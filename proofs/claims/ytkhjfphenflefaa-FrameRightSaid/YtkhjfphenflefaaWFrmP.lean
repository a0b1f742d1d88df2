/- Pure facts of layer 11: numbers as bytes, sums of bytes. Conditions: none. -/
import Derived.Test.YtkhjfphenflefaaWTbl
namespace Go.Proofs.Ytkhjfphenflefaa.TM
open Go Go.RowKit
set_option linter.unusedVariables false
set_option linter.defProp false
set_option linter.unusedSimpArgs false

abbrev ib (n : Int) : IV := IV.v (.int .u8 n)
abbrev lb (l : List Int) : PV := .i (.l l.length (l.map ib))
abbrev u32 (n : Int) : PV := .i (.v (.int .u32 n))
def Byt (a : Int) : Prop := 0 ≤ a ∧ a < 256
def Byts (l : List Int) : Prop := ∀ a ∈ l, Byt a
theorem Byts.app {a b : List Int} (ha : Byts a) (hb : Byts b) : Byts (a ++ b) := fun x hx => (List.mem_append.1 hx).elim (ha x) (hb x)
theorem Byts.take {l : List Int} (h : Byts l) (n : Nat) : Byts (l.take n) := fun x hx => h x (List.mem_of_mem_take hx)
theorem Byts.drop {l : List Int} (h : Byts l) (n : Nat) : Byts (l.drop n) := fun x hx => h x (List.mem_of_mem_drop hx)
theorem Byts.nil : Byts [] := fun x hx => by simp at hx
theorem Byts.one {a : Int} (h : Byt a) : Byts [a] := fun x hx => by simp at hx; subst hx; exact h
/-- A number's last k digits, the highest first. -/
def numL : Int → Nat → List Int
  | _, 0 => []
  | n, k + 1 => numL (n / 256) k ++ [n % 256]
theorem numL_len : ∀ (n : Int) (k : Nat), (numL n k).length = k
  | _, 0 => rfl
  | n, k + 1 => by rw [numL, List.length_append, numL_len]; rfl
theorem numL_byts : ∀ (n : Int) (k : Nat), Byts (numL n k)
  | _, 0 => Byts.nil
  | n, k + 1 => by
    rw [numL]
    exact (numL_byts _ k).app (Byts.one ⟨by omega, by omega⟩)
/-- The number of bytes. -/
def ofL (l : List Int) : Int := l.foldl (fun s c => s * 256 + c) 0
theorem ofL_nil : ofL [] = 0 := rfl
theorem ofL_snoc (l : List Int) (c : Int) : ofL (l ++ [c]) = ofL l * 256 + c := by unfold ofL; rw [List.foldl_append]; rfl
theorem ofL_take {l : List Int} {j : Nat} (h : j < l.length) : ofL (l.take (j + 1)) = ofL (l.take j) * 256 + l[j] := by
  rw [List.take_succ_eq_append_getElem h, ofL_snoc]
def p256 : Nat → Int
  | 0 => 1
  | k + 1 => p256 k * 256
theorem p256_pos : ∀ k, 0 < p256 k
  | 0 => by decide
  | k + 1 => by have := p256_pos k; unfold p256; omega
theorem p256_mono {j k : Nat} (h : j ≤ k) : p256 j ≤ p256 k := by
  induction k with
  | zero => have : j = 0 := by omega
            subst this; exact Int.le_refl _
  | succ k ih =>
    by_cases e : j = k + 1
    · subst e; exact Int.le_refl _
    · have h1 := ih (by omega)
      have h2 := p256_pos k
      show p256 j ≤ p256 k * 256
      omega
theorem snoc_cases {l : List Int} {k : Nat} (h : l.length = k + 1) : ∃ (a : List Int) (c : Int), l = a ++ [c] ∧ a.length = k := by
  refine ⟨l.dropLast, l.getLast (fun e => by subst e; simp at h), (List.dropLast_concat_getLast _).symm, by rw [List.length_dropLast]; omega⟩
theorem ofL_bd : ∀ (k : Nat) {l : List Int}, l.length = k → Byts l → 0 ≤ ofL l ∧ ofL l < p256 k
  | 0, l, h, _ => by
    have : l = [] := List.eq_nil_of_length_eq_zero h
    subst this
    exact ⟨Int.le_refl _, by decide⟩
  | k + 1, l, h, hb => by
    obtain ⟨a, c, rfl, ha⟩ := snoc_cases h
    have h1 := ofL_bd k ha fun x hx => hb x (by simp [hx])
    have h2 := hb c (by simp)
    rw [ofL_snoc]
    unfold Byt at h2
    unfold p256
    omega
theorem ofL_num : ∀ (k : Nat) (n : Int), 0 ≤ n → n < p256 k → ofL (numL n k) = n
  | 0, n, h0, h1 => by unfold p256 at h1; rw [numL, ofL_nil]; omega
  | k + 1, n, h0, h1 => by
    unfold p256 at h1
    rw [numL, ofL_snoc, ofL_num k (n / 256) (by omega) (by omega)]
    omega
theorem num_of : ∀ (k : Nat) {l : List Int}, l.length = k → Byts l → numL (ofL l) k = l
  | 0, l, h, _ => by
    have : l = [] := List.eq_nil_of_length_eq_zero h
    subst this; rfl
  | k + 1, l, h, hb => by
    obtain ⟨a, c, rfl, ha⟩ := snoc_cases h
    have h2 := hb c (by simp)
    unfold Byt at h2
    rw [ofL_snoc, numL, show (ofL a * 256 + c) / 256 = ofL a by omega, show (ofL a * 256 + c) % 256 = c by omega, num_of k ha fun x hx => hb x (by simp [hx])]
/-! ### writing from behind -/
/-- Rounds that write a number's digits at these places. -/
def outS (s : List Int × Int) (i : Nat) : List Int × Int := (s.1.set i (s.2 % 256), s.2 / 256)
def outP (z : List Int) (n : Int) (pre : List Nat) : List Int × Int := pre.foldl outS (z, n)
theorem outP_nil (z : List Int) (n : Int) : outP z n [] = (z, n) := rfl
theorem outP_snoc (z : List Int) (n : Int) (pre : List Nat) (i : Nat) : outP z n (pre ++ [i]) = outS (outP z n pre) i := by unfold outP; rw [List.foldl_append]; rfl
theorem outP_len (z : List Int) (n : Int) (pre : List Nat) : (outP z n pre).1.length = z.length := by
  unfold outP
  induction pre generalizing z n with
  | nil => rfl
  | cons i pre ih => rw [List.foldl_cons, outS, ih, List.length_set]
theorem outP_nn (z : List Int) (n : Int) (h0 : 0 ≤ n) (h1 : n < 18446744073709551616) (pre : List Nat) : 0 ≤ (outP z n pre).2 ∧ (outP z n pre).2 < 18446744073709551616 := by
  unfold outP
  induction pre generalizing z n with
  | nil => exact ⟨h0, h1⟩
  | cons i pre ih => rw [List.foldl_cons, outS]; exact ih _ _ (by omega) (by omega)
theorem outP_all : ∀ (m : Nat) (y w : List Int) (n : Int), y.length = m → (outP (y ++ w) n (List.range m).reverse).1 = numL n m ++ w
  | 0, y, w, n, h => by
    have : y = [] := List.eq_nil_of_length_eq_zero h
    subst this; rfl
  | m + 1, y, w, n, h => by
    obtain ⟨a, c, rfl, ha⟩ := snoc_cases h
    have e : (List.range (m + 1)).reverse = m :: (List.range m).reverse := by rw [List.range_succ, List.reverse_append]; rfl
    have e2 : outS (a ++ [c] ++ w, n) m = (a ++ (n % 256 :: w), n / 256) := by
      unfold outS
      simp only [List.append_assoc, List.singleton_append]
      rw [List.set_append_right _ _ (by omega), ha, Nat.sub_self, List.set_cons_zero]
    unfold outP
    rw [e, List.foldl_cons, e2]
    have := outP_all m a (n % 256 :: w) (n / 256) ha
    unfold outP at this
    rw [this, numL]
    simp
/-! ### sums -/
def sumJ (l : List Int) : Nat → Int
  | 0 => 0
  | j + 1 => (sumJ l j + ((j : Int) + 1) * l.getD j 0) % 16777213
def sumS (l : List Int) : Int := if 131072 < l.length then 0 else sumJ l l.length
theorem sumJ_bd (l : List Int) : ∀ j, 0 ≤ sumJ l j ∧ sumJ l j < 16777213
  | 0 => by show 0 ≤ (0 : Int) ∧ (0 : Int) < 16777213; decide
  | j + 1 => ⟨Int.emod_nonneg _ (by decide), Int.emod_lt_of_pos _ (by decide)⟩
theorem sumS_bd (l : List Int) : 0 ≤ sumS l ∧ sumS l < 16777213 := by
  unfold sumS
  split
  · decide
  · exact sumJ_bd l _
theorem sumJ_app (l m : List Int) : ∀ j, j ≤ l.length → sumJ (l ++ m) j = sumJ l j
  | 0, _ => rfl
  | j + 1, h => by
    rw [sumJ, sumJ, sumJ_app l m j (by omega), List.getD_eq_getElem?_getD, List.getD_eq_getElem?_getD, List.getElem?_append_left (by omega)]
end Go.Proofs.Ytkhjfphenflefaa.TM
