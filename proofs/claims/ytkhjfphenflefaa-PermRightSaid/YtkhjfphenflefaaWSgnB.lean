/- Signs of what is done one behind the other. Conditions: none. -/
import Derived.Test.YtkhjfphenflefaaWSgn
import Derived.Test.YtkhjfphenflefaaWPermC
namespace Go.Proofs.Ytkhjfphenflefaa.TM
open Go Go.RowKit
set_option linter.unusedVariables false
set_option linter.defProp false
set_option linter.unusedSimpArgs false

def InN (q : Nat → Int) (n : Nat) : Prop := ∀ i, i < n → 0 ≤ q i ∧ q i < n
theorem tbl_nodup {q : Nat → Int} : ∀ {n : Nat}, InjN q n → (tbl n q).Nodup
  | 0, _ => List.nodup_nil
  | n + 1, h => by
    rw [tbl_succ, List.nodup_append]
    refine ⟨tbl_nodup fun i j hi hj => h i j (by omega) (by omega), by simp, fun x hx y hy he => ?_⟩
    obtain ⟨i, hi, e⟩ := tbl_mem hx
    have hy' : y = q n := by simpa using hy
    have := h i n (by omega) (by omega) (by rw [e, he, hy'])
    omega
theorem surjN {q : Nat → Int} {n : Nat} (h : InjN q n) (hr : InN q n) (m : Nat) (hm : m < n) : ∃ i, i < n ∧ q i = m := by
  by_cases c : (m : Int) ∈ tbl n q
  · exact tbl_mem c
  · have h1 : ((m : Int) :: tbl n q).Nodup := List.nodup_cons.2 ⟨c, tbl_nodup h⟩
    have h2 := nodup_bound h1 (n := n) (fun a ha => by
      rcases List.mem_cons.1 ha with rfl | ha
      · omega
      · obtain ⟨i, hi, rfl⟩ := tbl_mem ha; exact hr i hi)
    rw [List.length_cons, tbl_len] at h2
    omega
theorem colP_id (y : Int) : ∀ k : Nat, (k : Int) ≤ y → colP (fun i => (i : Int)) y k = 1
  | 0, _ => rfl
  | k + 1, h => by rw [colP, colP_id y k (by omega), eps, if_pos (by omega)]; rfl
theorem sgnI_id : ∀ n, sgnI (fun i => (i : Int)) n = 1
  | 0 => rfl
  | n + 1 => by rw [sgnI, sgnI_id n, colP_id _ _ (by omega)]; rfl
def cmp (p q : Nat → Int) : Nat → Int := fun i => p (q i).toNat
theorem cmp_sw (p q : Nat → Int) (a b : Nat) : cmp p (sw a b q) = sw a b (cmp p q) := by
  funext i
  unfold cmp sw
  by_cases c1 : i = a
  · simp only [c1, if_true]
  · by_cases c2 : i = b
    · subst c2; simp only [c1, if_false, if_true]
    · simp only [c1, c2, if_false]
theorem cmp_inj {p q : Nat → Int} {n : Nat} (hp : InjN p n) (hq : InjN q n) (hr : InN q n) : InjN (cmp p q) n := fun i j hi hj he => by
  have h1 := hr i hi
  have h2 := hr j hj
  have := hp _ _ (by omega) (by omega) he
  exact hq i j hi hj (by omega)
theorem sw_in {q : Nat → Int} {n a b : Nat} (h : InN q n) (ha : a < n) (hb : b < n) : InN (sw a b q) n := fun i hi => by
  unfold sw
  by_cases c1 : i = a
  · rw [if_pos c1]; exact h b hb
  · by_cases c2 : i = b
    · rw [if_neg c1, if_pos c2]; exact h a ha
    · rw [if_neg c1, if_neg c2]; exact h i hi
theorem sgnI_cmp (p : Nat → Int) (n : Nat) (hp : InjN p n) : ∀ (m : Nat) (q : Nat → Int), m ≤ n → InjN q n → InN q n → (∀ i, m ≤ i → i < n → q i = i) → sgnI (cmp p q) n = sgnI p n * sgnI q n
  | 0, q, _, hq, hr, hf => by
    rw [sgnI_congr (f := q) (g := fun i => (i : Int)) (fun i hi => hf i (by omega) hi), sgnI_id, Int.mul_one]
    exact sgnI_congr fun i hi => by unfold cmp; rw [hf i (by omega) hi]; rfl
  | m + 1, q, hm, hq, hr, hf => by
    by_cases c : q m = m
    · exact sgnI_cmp p n hp m q (by omega) hq hr fun i h1 h2 => by
        by_cases e : i = m
        · subst e; exact c
        · exact hf i (by omega) h2
    · obtain ⟨b, hb, hbm⟩ := surjN hq hr m (by omega)
      have hlt : b < m := by
        rcases Nat.lt_trichotomy b m with h | h | h
        · exact h
        · subst h; exact absurd hbm c
        · have := hf b (by omega) hb; omega
      obtain ⟨d, rfl⟩ : ∃ d, m = b + 1 + d := ⟨m - (b + 1), by omega⟩
      have h1 := sgnI_cmp p n hp (b + 1 + d) (sw b (b + 1 + d) q) (by omega) (hq.sw (by omega) (by omega)) (sw_in hr (by omega) (by omega)) fun i h1 h2 => by
        by_cases e : i = b + 1 + d
        · subst e; rw [sw_b]; exact hbm
        · rw [sw_o q (by omega) e]; exact hf i (by omega) h2
      rw [cmp_sw, sgnI_sw d b n _ (cmp_inj hp hq hr) (by omega), sgnI_sw d b n q hq (by omega), Int.mul_neg] at h1
      omega
end Go.Proofs.Ytkhjfphenflefaa.TM
