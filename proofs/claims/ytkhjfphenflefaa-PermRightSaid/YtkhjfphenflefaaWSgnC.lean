/- The sign that rings tell is the sign of the pairs. Conditions: none. -/
import Derived.Test.YtkhjfphenflefaaWSgnB
import Derived.Test.YtkhjfphenflefaaWPermE
namespace Go.Proofs.Ytkhjfphenflefaa.TM
open Go Go.RowKit
set_option linter.unusedVariables false
set_option linter.defProp false
set_option linter.unusedSimpArgs false

def nx (l : List Int) (a : Int) : Int := l.getD a.toNat 0
theorem itn_nx (l : List Int) (a : Int) (k : Nat) : itn l a (k + 1) = nx l (itn l a k) := rfl
theorem nx_inj {l : List Int} (o : Ord l) {a b : Int} (ha : 0 ≤ a ∧ a < l.length) (hb : 0 ≤ b ∧ b < l.length) (h : nx l a = nx l b) : a = b := by
  have h1 : a.toNat < l.length := by omega
  have h2 : b.toNat < l.length := by omega
  unfold nx at h
  rw [List.getD_eq_getElem?_getD, List.getD_eq_getElem?_getD, List.getElem?_eq_getElem h1, List.getElem?_eq_getElem h2] at h
  simp only [Option.getD_some] at h
  have hp := List.pairwise_iff_getElem.1 o.nd
  rcases Nat.lt_trichotomy a.toNat b.toNat with c | c | c
  · exact absurd h (hp _ _ h1 h2 c)
  · omega
  · exact absurd h.symm (hp _ _ h2 h1 c)
/-- What is seen is whole rings. -/
def Cl (l s : List Int) : Prop := ∀ a : Int, 0 ≤ a → a < l.length → (a ∈ s ↔ nx l a ∈ s)
theorem orb_mem {l : List Int} {a x : Int} {k : Nat} : x ∈ orb l a k ↔ ∃ i, i < k ∧ itn l a i = x := by
  unfold orb
  rw [List.mem_map]
  constructor
  · rintro ⟨i, hi, e⟩; exact ⟨i, List.mem_range.1 hi, e⟩
  · rintro ⟨i, hi, e⟩; exact ⟨i, List.mem_range.2 hi, e⟩
/-- A ring comes back to where it began. -/
theorem ring_back {l s : List Int} (o : Ord l) (hc : Cl l s) {J : Int} (h0 : 0 ≤ J) (h1 : J < l.length) (hJ : J ∉ s) {m : Nat} (n1 : itn l J m ∈ s ++ orb l J m) (n2 : ∀ i, i < m → itn l J i ∉ s ++ orb l J i) : 0 < m ∧ itn l J m = J := by
  have it := itn_in o h0 h1
  cases m with
  | zero =>
    rw [orb_zero, List.append_nil] at n1
    exact absurd n1 hJ
  | succ q =>
    refine ⟨by omega, ?_⟩
    have hq := n2 q (by omega)
    rcases List.mem_append.1 n1 with h | h
    · rw [itn_nx] at h
      exact absurd (List.mem_append.2 (.inl ((hc _ (it q).1 (it q).2).2 h))) hq
    · obtain ⟨i, hi, e⟩ := orb_mem.1 h
      cases i with
      | zero => exact e.symm
      | succ i =>
        rw [itn_nx, itn_nx] at e
        have := nx_inj o (it i) (it q) e
        exact absurd (List.mem_append.2 (.inr (orb_mem.2 ⟨i, by omega, this⟩))) hq
theorem cl_next {l s : List Int} (o : Ord l) (hc : Cl l s) {J : Int} (h0 : 0 ≤ J) (h1 : J < l.length) {m : Nat} (hm : 0 < m) (hb : itn l J m = J) : Cl l (s ++ orb l J m) := by
  have it := itn_in o h0 h1
  intro a a0 a1
  rw [List.mem_append, List.mem_append, hc a a0 a1]
  refine or_congr Iff.rfl ?_
  rw [orb_mem, orb_mem]
  constructor
  · rintro ⟨i, hi, rfl⟩
    by_cases c : i + 1 < m
    · exact ⟨i + 1, c, itn_nx _ _ _⟩
    · have : i + 1 = m := by omega
      refine ⟨0, hm, ?_⟩
      rw [← itn_nx, this, hb]; rfl
  · rintro ⟨i, hi, e⟩
    cases i with
    | zero =>
      obtain ⟨q, rfl⟩ : ∃ q, m = q + 1 := ⟨m - 1, by omega⟩
      refine ⟨q, by omega, ?_⟩
      refine nx_inj o (it q) ⟨a0, a1⟩ ?_
      rw [← itn_nx, hb, ← e]; rfl
    | succ i =>
      rw [itn_nx] at e
      exact ⟨i, by omega, nx_inj o (it i) ⟨a0, a1⟩ e⟩
end Go.Proofs.Ytkhjfphenflefaa.TM
