/- Lists told by a function. Conditions: none. -/
import Derived.Test.YtkhjfphenflefaaWWords
namespace Go.Proofs.Ytkhjfphenflefaa.TM
open Go Go.RowKit
set_option linter.unusedVariables false
set_option linter.defProp false
set_option linter.unusedSimpArgs false

/-- A list told by a function. -/
def tbl (n : Nat) (f : Nat → Int) : List Int := (List.range n).map f
theorem tbl_len (n : Nat) (f : Nat → Int) : (tbl n f).length = n := by simp [tbl]
theorem tbl_get? {n : Nat} (f : Nat → Int) {i : Nat} (h : i < n) : (tbl n f)[i]? = some (f i) := by unfold tbl; rw [List.getElem?_map, List.getElem?_range h]; rfl
theorem tbl_get {n : Nat} (f : Nat → Int) {i : Nat} (h : i < (tbl n f).length) : (tbl n f)[i] = f i := by
  have := tbl_get? f (i := i) (n := n) (by rw [tbl_len] at h; exact h)
  rw [List.getElem?_eq_getElem h] at this
  exact Option.some.inj this
theorem tbl_getD {n : Nat} (f : Nat → Int) {i : Nat} (h : i < n) : (tbl n f).getD i 0 = f i := by rw [List.getD_eq_getElem?_getD, tbl_get? f h]; rfl
theorem tbl_succ (n : Nat) (f : Nat → Int) : tbl (n + 1) f = tbl n f ++ [f n] := by unfold tbl; rw [List.range_succ, List.map_append]; rfl
theorem tbl_congr {n : Nat} {f g : Nat → Int} (h : ∀ i, i < n → f i = g i) : tbl n f = tbl n g := by
  unfold tbl
  exact List.map_congr_left fun i hi => h i (List.mem_range.1 hi)
theorem tbl_of {n : Nat} {l : List Int} (h : l.length = n) : l = tbl n (fun i => l.getD i 0) := by
  apply List.ext_getElem?
  intro i
  by_cases hi : i < n
  · rw [tbl_get? _ hi, List.getD_eq_getElem?_getD, List.getElem?_eq_getElem (by omega)]; rfl
  · rw [List.getElem?_eq_none (by omega), List.getElem?_eq_none (by rw [tbl_len]; omega)]
theorem tbl_eq {n : Nat} {l : List Int} {f : Nat → Int} (h : l.length = n) (hf : ∀ i, i < n → l.getD i 0 = f i) : l = tbl n f := (tbl_of h).trans (tbl_congr hf)
theorem tbl_inj {n : Nat} {f g : Nat → Int} (h : tbl n f = tbl n g) {i : Nat} (hi : i < n) : f i = g i := by rw [← tbl_getD f hi, h, tbl_getD g hi]
theorem tbl_zero (n : Nat) : tbl n (fun _ => 0) = List.replicate n 0 := by
  unfold tbl
  rw [List.map_const', List.length_range]
theorem tbl_mem {n : Nat} {f : Nat → Int} {a : Int} (h : a ∈ tbl n f) : ∃ i, i < n ∧ f i = a := by
  unfold tbl at h
  obtain ⟨i, hi, e⟩ := List.mem_map.1 h
  exact ⟨i, List.mem_range.1 hi, e⟩
theorem tbl_put {n d : Nat} (f : Nat → Int) (x : Int) (hd : d < n) : (tbl n f).take d ++ [x] ++ (tbl n f).drop (d + 1) = tbl n (fun q => if q = d then x else f q) := by
  have h1 : ((tbl n f).take d).length = d := by rw [List.length_take, tbl_len]; omega
  apply List.ext_getElem?
  intro i
  rw [List.append_assoc, List.getElem?_append, h1]
  by_cases hi : i < n
  · rw [tbl_get? _ hi]
    by_cases a : i < d
    · rw [if_pos a, List.getElem?_take, if_pos a, tbl_get? _ hi, if_neg (by omega)]
    · rw [if_neg a, List.getElem?_append]
      by_cases b : i = d
      · subst b; rw [if_pos (by simp), if_pos rfl]; simp
      · rw [if_neg (by simp; omega), List.getElem?_drop, List.length_singleton, show d + 1 + (i - d - 1) = i by omega, tbl_get? _ hi, if_neg b]
  · rw [List.getElem?_eq_none (l := tbl n _) (by rw [tbl_len]; omega), if_neg (by omega), List.getElem?_append_right (by simp; omega), List.getElem?_drop, List.length_singleton, List.getElem?_eq_none (by rw [tbl_len]; omega)]
theorem tbl_put_iu {n d : Nat} (f : Nat → Int) (x : Int) (hd : d < n) : ((tbl n f).map iu).take d ++ [iu x] ++ ((tbl n f).map iu).drop (d + 1) = (tbl n (fun q => if q = d then x else f q)).map iu := by
  rw [← tbl_put f x hd]; simp
theorem zero_tbl (n : Nat) : List.map IV.v (zeroRow [Value.int .u64 0] n) = (tbl n (fun _ => 0)).map iu := by
  rw [tbl_zero, List.map_replicate]
  induction n with
  | zero => rfl
  | succ n ih => rw [zeroRow_succ, List.map_append, ih]; rfl
theorem zero_tbl_ii (n : Nat) : List.map IV.v (zeroRow [Value.int .i64 0] n) = (tbl n (fun _ => 0)).map ii := by
  rw [tbl_zero, List.map_replicate]
  induction n with
  | zero => rfl
  | succ n ih => rw [zeroRow_succ, List.map_append, ih]; rfl

theorem tbl_put_ii {n d : Nat} (f : Nat → Int) (x : Int) (hd : d < n) : ((tbl n f).map ii).take d ++ [ii x] ++ ((tbl n f).map ii).drop (d + 1) = (tbl n (fun q => if q = d then x else f q)).map ii := by
  rw [← tbl_put f x hd]; simp
end Go.Proofs.Ytkhjfphenflefaa.TM
