/- Sign is the sign of the pairs; orders done one behind the other. Conditions: none. -/
import Derived.Test.YtkhjfphenflefaaWSgnD
namespace Go.Proofs.Ytkhjfphenflefaa.TM
open Go Go.RowKit
set_option linter.unusedVariables false
set_option linter.defProp false
set_option linter.unusedSimpArgs false

theorem sgnP_app (x y : List (List Int)) : ∀ k, k ≤ x.length → sgnP (x ++ y) k = sgnP x k
  | 0, _ => rfl
  | k + 1, h => by
    rw [sgnP, sgnP, sgnP_app x y k (by omega), List.getD_eq_getElem?_getD, List.getElem?_append_left (by omega), ← List.getD_eq_getElem?_getD]
theorem alt_eq : ∀ q, alt q = if (q + 1) % 2 = 0 then -1 else 1
  | 0 => rfl
  | q + 1 => by
    rw [alt, alt_eq q]
    by_cases c : (q + 1) % 2 = 0
    · rw [if_pos c, if_neg (by omega)]; rfl
    · rw [if_neg c, if_pos (by omega)]
theorem rgs_sgn {l : List Int} (o : Ord l) : ∀ j, j ≤ l.length → Cl l (rgs l j).2 ∧ (∀ i : Nat, i < j → (i : Int) ∈ (rgs l j).2) ∧ sgnP (rgs l j).1 (rgs l j).1.length = sgnI (put1 l (rgs l j).2) l.length
  | 0, _ => ⟨fun a _ _ => by simp [rgs], fun i hi => by omega, by
      rw [sgnI_congr (f := put1 l (rgs l 0).2) (g := fun i => (i : Int)) (fun i _ => by simp [put1, rgs]), sgnI_id]; rfl⟩
  | j + 1, hj => by
    obtain ⟨h1, h2, h3⟩ := rgs_sgn o j (by omega)
    rw [rgs]
    generalize rgs l j = p at h1 h2 h3 ⊢
    obtain ⟨out, s⟩ := p
    simp only at h1 h2 h3 ⊢
    by_cases c : (j : Int) ∈ s
    · rw [if_pos c]
      refine ⟨h1, fun i hi => ?_, h3⟩
      by_cases e : i = j
      · subst e; exact c
      · exact h2 i (by omega)
    · rw [if_neg c]
      have j0 : (0 : Int) ≤ j := by omega
      have j1 : (j : Int) < l.length := by omega
      obtain ⟨n1, n2, n3⟩ := ringN_spec o s j0 j1
      generalize ringN l s j = m at n1 n2 n3 ⊢
      obtain ⟨m0, mb⟩ := ring_back o h1 j0 j1 c n1 n2
      obtain ⟨q, rfl⟩ : ∃ q, m = q + 1 := ⟨m - 1, by omega⟩
      have cl := cl_next o h1 j0 j1 m0 mb
      refine ⟨cl, fun i hi => ?_, ?_⟩
      · by_cases e : i = j
        · subst e; exact List.mem_append.2 (.inr (orb_mem.2 ⟨0, by omega, rfl⟩))
        · exact List.mem_append.2 (.inl (h2 i (by omega)))
      · have g := (ringG_sgn o h1 j0 j1 q fun i hi => n2 i (by omega)).2
        rw [ringG_last j0 (itn_in o j0 j1 q).1 mb] at g
        rw [g, List.length_append, List.length_singleton, sgnP, sgnP_app _ _ _ (Nat.le_refl _), h3, List.getD_eq_getElem?_getD, List.getElem?_append_right (Nat.le_refl _), Nat.sub_self]
        simp only [List.getElem?_cons_zero, Option.getD_some, orb_len]
        rw [alt_eq]
        by_cases e : (q + 1) % 2 = 0
        · rw [if_pos e, if_pos e]; omega
        · rw [if_neg e, if_neg e]; omega
/-- An order as a function. -/
def fnI (l : List Int) : Nat → Int := fun i => l.getD i 0
theorem sgnR_eq {l : List Int} (o : Ord l) : sgnR l = sgnI (fnI l) l.length := by
  obtain ⟨_, h2, h3⟩ := rgs_sgn o l.length (Nat.le_refl _)
  unfold sgnR ringsI
  rw [h3]
  exact sgnI_congr fun i hi => by unfold put1; rw [if_pos (h2 i hi)]; rfl
theorem fnI_inj {l : List Int} (o : Ord l) : InjN (fnI l) l.length := fun i j hi hj he => by
  have := nx_inj o (a := (i : Int)) (b := (j : Int)) (by omega) (by omega) he
  omega
theorem fnI_in {l : List Int} (o : Ord l) : InN (fnI l) l.length := fun i hi => by
  have := o.mem _ (List.getElem_mem hi)
  unfold fnI
  rw [List.getD_eq_getElem?_getD, List.getElem?_eq_getElem hi]
  exact this
theorem fnI_done {p q : List Int} (i : Nat) (hi : i < q.length) : fnI (doneI q p) i = cmp (fnI p) (fnI q) i := by
  unfold fnI doneI cmp
  rw [List.getD_eq_getElem?_getD, List.getElem?_map, List.getElem?_eq_getElem hi]
  simp only [Option.map_some, Option.getD_some]
  rw [List.getD_eq_getElem?_getD (l := q), List.getElem?_eq_getElem hi]
  rfl
end Go.Proofs.Ytkhjfphenflefaa.TM
