/- What an order does to One's rows. -/
import Derived.Test.YtkhjfphenflefaaWPermH
import Derived.Test.YtkhjfphenflefaaWPermG
import Derived.Test.YtkhjfphenflefaaWMatD
import Derived.Test.YtkhjfphenflefaaWSumN
namespace Go.Proofs.Ytkhjfphenflefaa.TM
open Go Go.RowKit
set_option linter.unusedVariables false
set_option linter.defProp false
set_option linter.unusedSimpArgs false

theorem rowsL_tbl {R c : Nat} {l : List Int} (hl : l.length = R * c) : ∀ {p : List Int}, (∀ a ∈ p, 0 ≤ a ∧ a < R) → ∀ {i k : Nat}, i < p.length → k < c → cl c (rowsL p c l) i k = cl c l (p.getD i 0).toNat k
  | [], _, i, k, hi, _ => by simp at hi
  | a :: p, hm, i, k, hi, hk => by
    obtain ⟨h0, h1⟩ := hm a (by simp)
    have hkc : a.toNat * c + c ≤ R * c := ic_bd (by omega)
    have hd : ((l.drop (a.toNat * c)).take c).length = c := by rw [List.length_take, List.length_drop]; omega
    have e : rowsL (a :: p) c l = (l.drop (a.toNat * c)).take c ++ rowsL p c l := by unfold rowsL; rw [List.flatMap_cons]
    unfold cl
    rw [e, List.getD_eq_getElem?_getD, List.getElem?_append, hd]
    cases i with
    | zero =>
      rw [if_pos (by omega)]
      simp only [Nat.zero_mul, Nat.zero_add, List.getD_cons_zero]
      rw [List.getElem?_take, if_pos hk, List.getElem?_drop, List.getD_eq_getElem?_getD]
    | succ i =>
      have hm1 : (i + 1) * c = i * c + c := Nat.succ_mul i c
      rw [if_neg (by omega), List.getD_cons_succ, show (i + 1) * c + k - c = i * c + k by omega]
      have := rowsL_tbl hl (p := p) (fun b hb => hm b (by simp [hb])) (i := i) (k := k) (by simpa using hi) hk
      unfold cl at this
      rw [← this, List.getD_eq_getElem?_getD]
theorem one_cl {n i k : Nat} (hi : i < n) (hk : k < n) : cl n (oneJ n n) i k = if k = i then 1 else 0 := by
  have h1 : i * n + k < n * n := by have := ic_bd (c := n) hi; omega
  unfold cl oneJ
  rw [List.getD_eq_getElem?_getD, List.getElem?_map, List.getElem?_range h1]
  simp only [Option.map_some, Option.getD_some, dc_div hk, dc_mod hk]
  by_cases h : k = i
  · rw [if_pos ⟨h.symm, hi⟩, if_pos h]
  · rw [if_neg (fun h2 => h h2.1.symm), if_neg h]
theorem perm_cl {p : List Int} (o : Ord p) {i k : Nat} (hi : i < p.length) (hk : k < p.length) : cl p.length (rowsL p p.length (oneJ p.length p.length)) i k = if (k : Int) = p.getD i 0 then 1 else 0 := by
  rw [rowsL_tbl (oneJ_len _ _) o.mem hi hk]
  have h := ord_at o hi
  rw [one_cl (by omega) hk]
  by_cases e : (k : Int) = p.getD i 0
  · rw [if_pos e, if_pos (by omega)]
  · rw [if_neg e, if_neg (by omega)]
theorem perm_times {p v : List Int} (o : Ord p) (hv : v.length = p.length) (h : ∀ a ∈ v, 0 ≤ a ∧ a < 101) : timesM 101 p.length p.length (rowsL p p.length (oneJ p.length p.length)) v = doneI p v := by
  rw [timesM_tbl (rowsL_len o.mem (oneJ_len _ _)) hv]
  refine (tbl_eq (doneI_len p v) fun i hi => ?_).symm
  rw [doneI_getD hi]
  have hp := ord_at o hi
  have hq : (p.getD i 0).toNat < p.length := by omega
  rw [sumN_congr (g := fun k => if k = (p.getD i 0).toNat then v.getD k 0 else 0) fun k hk => by
    rw [perm_cl o hi hk]
    by_cases e : (k : Int) = p.getD i 0
    · rw [if_pos e, if_pos (by omega), Int.one_mul]
    · rw [if_neg e, if_neg (by omega), Int.zero_mul], sumN_one _ hq]
  have hm : v.getD (p.getD i 0).toNat 0 ∈ v := by rw [List.getD_eq_getElem?_getD, List.getElem?_eq_getElem (by omega)]; exact List.getElem_mem _
  obtain ⟨a0, a1⟩ := h _ hm
  exact (Int.emod_eq_of_lt a0 a1).symm
theorem perm_left {p v : List Int} (o : Ord p) (hv : v.length = p.length) (h : ∀ a ∈ v, 0 ≤ a ∧ a < 101) : timesM 101 p.length p.length (turnM p.length p.length (rowsL p p.length (oneJ p.length p.length))) v = doneI (tbl p.length (backF p p.length)) v := by
  rw [timesM_tbl (turnM_len _ _ _) hv]
  refine (tbl_eq (by rw [doneI_len, tbl_len]) fun k hk => ?_).symm
  obtain ⟨m, h1, h2, h3⟩ := back_getD o hk
  rw [doneI_getD (by rw [tbl_len]; exact hk), h2, Int.toNat_natCast]
  rw [sumN_congr (g := fun i => if i = m then v.getD i 0 else 0) fun i hi => by
    rw [turn_cl _ hi hk, perm_cl o hi hk]
    by_cases e : i = m
    · subst e
      rw [if_pos h3.symm, if_pos rfl, Int.one_mul]
    · rw [if_neg (fun h4 => e (fnI_inj o i m hi h1 (by unfold fnI; rw [← h4, h3]))), if_neg e, Int.zero_mul], sumN_one _ h1]
  have hm : v.getD m 0 ∈ v := by rw [List.getD_eq_getElem?_getD, List.getElem?_eq_getElem (by omega)]; exact List.getElem_mem _
  obtain ⟨a0, a1⟩ := h _ hm
  exact (Int.emod_eq_of_lt a0 a1).symm
theorem back_back {p : List Int} (o : Ord p) : tbl p.length (backF (tbl p.length (backF p p.length)) p.length) = p := by
  obtain ⟨o4, _⟩ := back_ord o
  refine (tbl_eq rfl fun d hd => ?_).symm
  have hl : (tbl p.length (backF p p.length)).length = p.length := tbl_len _ _
  obtain ⟨i, h1, h2, h3⟩ := back_spec o4 d (by rw [hl]; exact hd)
  rw [hl] at h1 h3
  obtain ⟨m, g1, g2, g3⟩ := back_getD o h1
  unfold fnI at h2
  rw [h2] at g2
  have : d = m := by omega
  subst this
  rw [g3, h3]
theorem perm_mt {p : List Int} (o : Ord p) : Mt 101 p.length p.length (rowsL p p.length (oneJ p.length p.length)) := by
  refine ⟨⟨by omega, by omega⟩, o.pos, o.le, o.pos, o.le, rowsL_len o.mem (oneJ_len _ _), fun a ha => ?_⟩
  unfold rowsL at ha
  obtain ⟨b, hb, hab⟩ := List.mem_flatMap.1 ha
  have := List.mem_of_mem_drop (List.mem_of_mem_take hab)
  unfold oneJ at this
  obtain ⟨q, _, rfl⟩ := List.mem_map.1 this
  split <;> omega
theorem perm_w64 {p : List Int} : W64s (rowsL p p.length (oneJ p.length p.length)) := by
  intro a ha
  unfold rowsL at ha
  obtain ⟨b, hb, hab⟩ := List.mem_flatMap.1 ha
  have := List.mem_of_mem_drop (List.mem_of_mem_take hab)
  unfold oneJ at this
  obtain ⟨q, _, rfl⟩ := List.mem_map.1 this
  unfold W64
  split <;> omega
end Go.Proofs.Ytkhjfphenflefaa.TM
