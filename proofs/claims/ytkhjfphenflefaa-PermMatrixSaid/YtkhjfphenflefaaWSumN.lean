/- Pure facts: sums of n numbers, and lists told by a function. Conditions: none. -/
import Derived.Test.YtkhjfphenflefaaWMatP
import Derived.Test.YtkhjfphenflefaaWTbl
namespace Go.Proofs.Ytkhjfphenflefaa.TM
open Go Go.RowKit
set_option linter.unusedVariables false
set_option linter.defProp false
set_option linter.unusedSimpArgs false

def sumN : Nat → (Nat → Int) → Int
  | 0, _ => 0
  | n + 1, f => sumN n f + f n
theorem sumN_congr {n : Nat} {f g : Nat → Int} (h : ∀ i, i < n → f i = g i) : sumN n f = sumN n g := by
  induction n with
  | zero => rfl
  | succ n ih => rw [sumN, sumN, ih (fun i hi => h i (by omega)), h n (by omega)]
theorem sumN_add (n : Nat) (f g : Nat → Int) : sumN n (fun i => f i + g i) = sumN n f + sumN n g := by
  induction n with
  | zero => rfl
  | succ n ih => simp only [sumN, ih]; omega
theorem sumN_sub (n : Nat) (f g : Nat → Int) : sumN n (fun i => f i - g i) = sumN n f - sumN n g := by
  induction n with
  | zero => rfl
  | succ n ih => simp only [sumN, ih]; omega
theorem sumN_neg (n : Nat) (f : Nat → Int) : sumN n (fun i => - f i) = - sumN n f := by
  induction n with
  | zero => rfl
  | succ n ih => simp only [sumN, ih]; omega
theorem sumN_mul (n : Nat) (a : Int) (f : Nat → Int) : sumN n (fun i => a * f i) = a * sumN n f := by
  induction n with
  | zero => simp [sumN]
  | succ n ih => simp only [sumN, ih, Int.mul_add]
theorem sumN_mulr (n : Nat) (a : Int) (f : Nat → Int) : sumN n (fun i => f i * a) = sumN n f * a := by
  induction n with
  | zero => simp [sumN]
  | succ n ih => simp only [sumN, ih, Int.add_mul]
theorem sumN_zero (n : Nat) : sumN n (fun _ => 0) = 0 := by
  induction n with
  | zero => rfl
  | succ n ih => simp [sumN, ih]
theorem sumN_z {n : Nat} {f : Nat → Int} (h : ∀ i, i < n → f i = 0) : sumN n f = 0 := (sumN_congr h).trans (sumN_zero n)
theorem sumN_swap (m n : Nat) (f : Nat → Nat → Int) : sumN m (fun i => sumN n (fun j => f i j)) = sumN n (fun j => sumN m (fun i => f i j)) := by
  induction m with
  | zero => simp [sumN, sumN_zero]
  | succ m ih => simp only [sumN, ih, sumN_add]
theorem sumN_mod {p : Int} {n : Nat} {f g : Nat → Int} (h : ∀ i, i < n → f i % p = g i % p) : sumN n f % p = sumN n g % p := by
  induction n with
  | zero => rfl
  | succ n ih => rw [sumN, sumN, Int.add_emod, ih (fun i hi => h i (by omega)), h n (by omega), ← Int.add_emod]
theorem sumN_one {n i : Nat} (f : Nat → Int) (hi : i < n) : sumN n (fun k => if k = i then f k else 0) = f i := by
  induction n with
  | zero => omega
  | succ n ih =>
    rw [sumN]
    by_cases h : i = n
    · subst h
      rw [sumN_z (fun k hk => if_neg (by omega)), if_pos rfl, Int.zero_add]
    · rw [ih (by omega), if_neg (by omega), Int.add_zero]
theorem sumN_split (m n : Nat) (f : Nat → Int) : sumN (m + n) f = sumN m f + sumN n (fun i => f (m + i)) := by
  induction n with
  | zero => simp [sumN]
  | succ n ih => rw [← Nat.add_assoc, sumN, ih, sumN]; omega
theorem sumN_nonneg {n : Nat} {f : Nat → Int} (h : ∀ i, i < n → 0 ≤ f i) : 0 ≤ sumN n f := by
  induction n with
  | zero => exact Int.le_refl _
  | succ n ih => have := ih (fun i hi => h i (by omega)); have := h n (by omega); rw [sumN]; omega

theorem dotI_eq : ∀ (n : Nat) (a b : List Int), a.length = n → b.length = n → dotI a b = sumN n (fun k => a.getD k 0 * b.getD k 0)
  | 0, [], [], _, _ => rfl
  | n + 1, x :: a, y :: b, ha, hb => by
    rw [dotI, dotI_eq n a b (by simpa using ha) (by simpa using hb), Nat.add_comm, sumN_split 1 n]
    simp only [sumN, Int.zero_add]
    congr 1
    apply sumN_congr
    intro i _
    rw [Nat.add_comm 1 i]; simp
  | 0, _ :: _, _, h, _ => by simp at h
  | 0, [], _ :: _, _, h => by simp at h
  | n + 1, [], _, h, _ => by simp at h
  | n + 1, _ :: _, [], _, h => by simp at h
/-- A cell. -/
def cl (c : Nat) (l : List Int) (i k : Nat) : Int := l.getD (i * c + k) 0
theorem rowM_cl {r c i k : Nat} {l : List Int} (hl : l.length = r * c) (hi : i < r) (hk : k < c) : (rowM c l i).getD k 0 = cl c l i k := by
  have b1 := ic_bd (c := c) hi
  have e3 : i * c + k < l.length := by omega
  unfold cl rowM
  rw [List.getD_eq_getElem?_getD, List.getD_eq_getElem?_getD, List.getElem?_take, if_pos hk, List.getElem?_drop]
theorem cl_tbl {r c i k : Nat} (f : Nat → Int) (hi : i < r) (hk : k < c) : cl c (tbl (r * c) f) i k = f (i * c + k) := by
  have b1 := ic_bd (c := c) hi
  exact tbl_getD f (by omega)
theorem dc_div {c i k : Nat} (hk : k < c) : (i * c + k) / c = i := by
  rw [Nat.add_comm, Nat.add_mul_div_right _ _ (by omega), Nat.div_eq_of_lt hk, Nat.zero_add]
theorem dc_mod {c i k : Nat} (hk : k < c) : (i * c + k) % c = k := by
  rw [Nat.add_comm, Nat.add_mul_mod_self_right, Nat.mod_eq_of_lt hk]
theorem dc_lt {c r q : Nat} (h : q < r * c) : q / c < r ∧ q % c < c ∧ q / c * c + q % c = q := by
  have hc : 0 < c := by
    rcases Nat.eq_zero_or_pos c with h0 | h0
    · subst h0; omega
    · exact h0
  refine ⟨(Nat.div_lt_iff_lt_mul hc).2 h, Nat.mod_lt _ hc, ?_⟩
  rw [Nat.mul_comm]; exact Nat.div_add_mod q c
/-- Lists of r rows of c numbers are the same by cells. -/
theorem cells_ext {r c : Nat} {l m : List Int} (hl : l.length = r * c) (hm : m.length = r * c) (h : ∀ i k, i < r → k < c → cl c l i k = cl c m i k) : l = m := by
  rw [tbl_of hl, tbl_of hm]
  apply tbl_congr
  intro q hq
  obtain ⟨h1, h2, h3⟩ := dc_lt hq
  have := h _ _ h1 h2
  unfold cl at this
  rw [h3] at this
  exact this
theorem cl_mem {r c i k : Nat} {l : List Int} (hl : l.length = r * c) (hi : i < r) (hk : k < c) : cl c l i k ∈ l := by
  have b1 := ic_bd (c := c) hi
  have e3 : i * c + k < l.length := by omega
  unfold cl
  rw [List.getD_eq_getElem?_getD, List.getElem?_eq_getElem e3]
  exact List.getElem_mem e3
theorem dotRow {r c i : Nat} {l x : List Int} (hl : l.length = r * c) (hi : i < r) (hx : x.length = c) : dotI (rowM c l i) x = sumN c (fun k => cl c l i k * x.getD k 0) := by
  rw [dotI_eq c _ _ (rowM_len hl hi) hx]
  exact sumN_congr fun k hk => by rw [rowM_cl hl hi hk]
theorem timesM_tbl {p : Int} {r c : Nat} {l x : List Int} (hl : l.length = r * c) (hx : x.length = c) : timesM p r c l x = tbl r (fun i => sumN c (fun k => cl c l i k * x.getD k 0) % p) := by
  unfold timesM tbl
  exact List.map_congr_left fun i hi => by rw [dotRow hl (List.mem_range.1 hi) hx]
theorem turn_cl {r c i k : Nat} (l : List Int) (hi : i < r) (hk : k < c) : cl r (turnM r c l) k i = cl c l i k := by
  have b1 := ic_bd (c := r) hk
  unfold cl turnM
  rw [show (List.range (c * r)).map (fun q => l.getD (srcT r c q) 0) = tbl (c * r) (fun q => l.getD (srcT r c q) 0) from rfl, tbl_getD _ (by omega)]
  unfold srcT
  rw [dc_div hi, dc_mod hi]
end Go.Proofs.Ytkhjfphenflefaa.TM
