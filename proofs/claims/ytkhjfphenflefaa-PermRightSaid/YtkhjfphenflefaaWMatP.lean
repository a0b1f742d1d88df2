/- Pure facts of layer 5: matrices as lists of cells. Conditions: none. -/
import Derived.Test.YtkhjfphenflefaaWField
namespace Go.Proofs.Ytkhjfphenflefaa.TM
open Go Go.RowKit
set_option linter.unusedVariables false
set_option linter.defProp false
set_option linter.unusedSimpArgs false

def dotI : List Int → List Int → Int
  | x :: a, y :: b => x * y + dotI a b
  | _, _ => 0
theorem dotI_nil (b : List Int) : dotI [] b = 0 := by cases b <;> rfl
theorem dotI_snoc : ∀ (a b : List Int) (x y : Int), a.length = b.length → dotI (a ++ [x]) (b ++ [y]) = dotI a b + x * y
  | [], [], x, y, _ => by simp [dotI]
  | u :: a, v :: b, x, y, h => by
    simp only [List.cons_append, dotI]
    rw [dotI_snoc a b x y (by simpa using h)]; omega
  | [], _ :: _, _, _, h => by simp at h
  | _ :: _, [], _, _, h => by simp at h
theorem dotI_take {a b : List Int} {j : Nat} (ha : j < a.length) (hb : j < b.length) : dotI (a.take (j + 1)) (b.take (j + 1)) = dotI (a.take j) (b.take j) + a[j] * b[j] := by
  rw [List.take_succ_eq_append_getElem ha, List.take_succ_eq_append_getElem hb]
  exact dotI_snoc _ _ _ _ (by rw [List.length_take, List.length_take]; omega)
abbrev matP (r c : Int) (l : List Int) : PV := .agg [i64 r, i64 c, lu l]
def SideB (n : Int) : Bool := decide (1 ≤ n) && decide (n ≤ 64)
theorem side_iff (n : Int) : SideB n = true ↔ 1 ≤ n ∧ n ≤ 64 := by simp [SideB]
def MatB (p r c : Int) (l : List Int) : Bool := SideB r && (SideB c && (decide ((l.length : Int) = r * c) && HasB p l))
/-- A right matrix. -/
structure Mt (p : Int) (r c : Nat) (l : List Int) : Prop where
  hp : Md p
  r1 : 1 ≤ r
  r2 : r ≤ 64
  c1 : 1 ≤ c
  c2 : c ≤ 64
  len : l.length = r * c
  has : ∀ a ∈ l, a < p
theorem mat_of {p r c : Int} {l : List Int} (h : MatB p r c l = true) : ∃ R C : Nat, r = R ∧ c = C ∧ Mt p R C l := by
  simp only [MatB, Bool.and_eq_true, side_iff, decide_eq_true_eq] at h
  obtain ⟨h1, h2, h3, h4⟩ := h
  obtain ⟨R, rfl⟩ := Int.eq_ofNat_of_zero_le (show 0 ≤ r by omega)
  obtain ⟨C, rfl⟩ := Int.eq_ofNat_of_zero_le (show 0 ≤ c by omega)
  obtain ⟨g1, g2, g3⟩ := (has_iff p l).1 h4
  refine ⟨R, C, rfl, rfl, ⟨g2, g3⟩, by omega, by omega, by omega, by omega, ?_, g1⟩
  have : (l.length : Int) = ((R * C : Nat) : Int) := by rw [h3]; push_cast; rfl
  omega
theorem mat_mk {p : Int} {r c : Nat} {l : List Int} (h : Mt p r c l) : MatB p r c l = true := by
  simp only [MatB, Bool.and_eq_true, side_iff, decide_eq_true_eq]
  have h1 := h.r1; have h2 := h.r2; have h3 := h.c1; have h4 := h.c2
  refine ⟨by omega, by omega, ?_, (has_iff p l).2 ⟨h.has, h.hp.1, h.hp.2⟩⟩
  rw [h.len]; push_cast; rfl
theorem rc_bd {r c : Nat} (h1 : r ≤ 64) (h2 : c ≤ 64) : r * c ≤ 4096 := Nat.mul_le_mul h1 h2
theorem ic_bd {i r c : Nat} (h : i < r) : i * c + c ≤ r * c := by rw [← Nat.succ_mul]; exact Nat.mul_le_mul_right c h
/-- A row. -/
def rowM (c : Nat) (l : List Int) (i : Nat) : List Int := (l.drop (i * c)).take c
theorem rowM_len {r c i : Nat} {l : List Int} (hl : l.length = r * c) (h : i < r) : (rowM c l i).length = c := by
  have := ic_bd (c := c) h
  unfold rowM; rw [List.length_take, List.length_drop]; omega
theorem rowM_mem {c i : Nat} {l : List Int} {a : Int} (h : a ∈ rowM c l i) : a ∈ l := List.mem_of_mem_drop (List.mem_of_mem_take h)
def timesM (p : Int) (r c : Nat) (l x : List Int) : List Int := (List.range r).map fun i => dotI (rowM c l i) x % p
theorem timesM_take {p : Int} {r c : Nat} {l x : List Int} {j : Nat} (h : j < r) : (List.range (j + 1)).map (fun i => dotI (rowM c l i) x % p) = (List.range j).map (fun i => dotI (rowM c l i) x % p) ++ [dotI (rowM c l j) x % p] := by
  rw [List.range_succ, List.map_append]; rfl
def W64s (l : List Int) : Prop := ∀ a ∈ l, W64 a
theorem in_of {p : Int} {l : List Int} (h : ∀ a ∈ l, a < p) (hw : W64s l) {a : Int} (ha : a ∈ l) : In p a := ⟨(hw a ha).1, h a ha⟩
/-! ### turned -/
/-- Where a cell of the turned matrix comes from. -/
def srcT (r c q : Nat) : Nat := (q % r) * c + q / r
def turnM (r c : Nat) (l : List Int) : List Int := (List.range (c * r)).map fun q => l.getD (srcT r c q) 0
/-- The cells that have come when j of them are written. -/
def turnJ (r c : Nat) (l : List Int) (j : Nat) : List Int := (List.range (c * r)).map fun q => if srcT r c q < j then l.getD (srcT r c q) 0 else 0
theorem turn_src {r c q : Nat} (hr : 0 < r) (hq : q < c * r) : srcT r c q < r * c ∧ srcT r c q % c = q / r ∧ srcT r c q / c = q % r := by
  have h1 : q / r < c := (Nat.div_lt_iff_lt_mul hr).2 hq
  have h2 : q % r < r := Nat.mod_lt _ hr
  have hc : 0 < c := Nat.lt_of_le_of_lt (Nat.zero_le _) h1
  have h3 := ic_bd (c := c) h2
  unfold srcT
  refine ⟨by omega, ?_, ?_⟩
  · rw [Nat.add_comm, Nat.add_mul_mod_self_right, Nat.mod_eq_of_lt h1]
  · rw [Nat.add_comm, Nat.add_mul_div_right _ _ hc, Nat.div_eq_of_lt h1, Nat.zero_add]
theorem turn_dst {r c j : Nat} (hc : 0 < c) (hj : j < r * c) : j % c * r + j / c < c * r ∧ srcT r c (j % c * r + j / c) = j := by
  have h1 : j / c < r := (Nat.div_lt_iff_lt_mul hc).2 hj
  have h2 : j % c < c := Nat.mod_lt _ hc
  have h3 := ic_bd (c := r) h2
  refine ⟨by omega, ?_⟩
  unfold srcT
  rw [Nat.add_comm (j % c * r), Nat.add_mul_mod_self_right, Nat.mod_eq_of_lt h1, Nat.add_mul_div_right _ _ (Nat.lt_of_le_of_lt (Nat.zero_le _) h1), Nat.div_eq_of_lt h1, Nat.zero_add, Nat.mul_comm]
  exact Nat.div_add_mod j c
theorem turn_uniq {r c j q : Nat} (hr : 0 < r) (hq : q < c * r) (h : srcT r c q = j) : q = j % c * r + j / c := by
  obtain ⟨_, h2, h3⟩ := turn_src hr hq
  subst h
  rw [h2, h3, Nat.mul_comm]
  exact (Nat.div_add_mod q r).symm
theorem turnJ_len (r c : Nat) (l : List Int) (j : Nat) : (turnJ r c l j).length = c * r := by simp [turnJ]
theorem turnM_len (r c : Nat) (l : List Int) : (turnM r c l).length = c * r := by simp [turnM]
theorem turnJ_zero (r c : Nat) (l : List Int) : turnJ r c l 0 = List.replicate (c * r) 0 := by
  apply List.ext_getElem?
  intro i
  unfold turnJ
  rw [List.getElem?_map, List.getElem?_replicate]
  by_cases h : i < c * r
  · rw [if_pos h, List.getElem?_range h]; simp
  · rw [if_neg h, List.getElem?_eq_none (by simp; omega)]; rfl
theorem turnJ_next {r c j : Nat} {l : List Int} (hr : 0 < r) (hc : 0 < c) (hl : l.length = r * c) (hj : j < r * c) : (turnJ r c l j).take (j % c * r + j / c) ++ [l[j]] ++ (turnJ r c l j).drop (j % c * r + j / c + 1) = turnJ r c l (j + 1) := by
  obtain ⟨d1, d2⟩ := turn_dst (r := r) hc hj
  generalize hd : j % c * r + j / c = d at d1 d2 ⊢
  have g : ∀ k i, i < c * r → (turnJ r c l k)[i]? = some (if srcT r c i < k then l.getD (srcT r c i) 0 else 0) := by
    intro k i hi; unfold turnJ; rw [List.getElem?_map, List.getElem?_range hi]; rfl
  apply List.ext_getElem?
  intro i
  have hlen : ((turnJ r c l j).take d).length = d := by rw [List.length_take, turnJ_len]; omega
  by_cases hi : i < c * r
  · rw [g _ _ hi, List.append_assoc, List.getElem?_append, hlen]
    by_cases h1 : i < d
    · rw [if_pos h1, List.getElem?_take, if_pos h1, g _ _ hi]
      have : srcT r c i ≠ j := fun h => by have := turn_uniq hr hi h; omega
      congr 2
      simp only [eq_iff_iff]; omega
    · rw [if_neg h1, List.getElem?_append]
      by_cases h2 : i = d
      · subst h2
        rw [if_pos (by simp), d2, if_pos (by omega)]
        simp [List.getD_eq_getElem?_getD, hl ▸ hj]
      · rw [if_neg (by simp; omega), List.getElem?_drop, List.length_singleton, show d + 1 + (i - d - 1) = i by omega, g _ _ hi]
        have : srcT r c i ≠ j := fun h => by have := turn_uniq hr hi h; omega
        congr 2
        simp only [eq_iff_iff]; omega
  · rw [List.getElem?_eq_none (by simp [turnJ_len]; omega), List.getElem?_eq_none (by rw [turnJ_len]; omega)]
theorem turnJ_all {r c : Nat} {l : List Int} (hr : 0 < r) : turnJ r c l (r * c) = turnM r c l := by
  unfold turnJ turnM
  apply List.map_congr_left
  intro q hq
  rw [if_pos (turn_src hr (List.mem_range.1 hq)).1]
theorem turnM_mem {r c : Nat} {l : List Int} {a : Int} (hr : 0 < r) (hl : l.length = r * c) (h : a ∈ turnM r c l) : a ∈ l := by
  unfold turnM at h
  obtain ⟨q, hq, rfl⟩ := List.mem_map.1 h
  have h1 := (turn_src hr (List.mem_range.1 hq)).1
  rw [List.getD_eq_getElem?_getD, List.getElem?_eq_getElem (by omega)]
  exact List.getElem_mem _
theorem turn_mt {p : Int} {r c : Nat} {l : List Int} (M : Mt p r c l) : Mt p c r (turnM r c l) :=
  ⟨M.hp, M.c1, M.c2, M.r1, M.r2, turnM_len r c l, fun a ha => M.has a (turnM_mem (by have := M.r1; omega) M.len ha)⟩
end Go.Proofs.Ytkhjfphenflefaa.TM
