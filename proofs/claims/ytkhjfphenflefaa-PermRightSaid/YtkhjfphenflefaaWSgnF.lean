/- Orders done one behind the other, undone, and with two numbers changed: orders, and their signs. Conditions: none. -/
import Derived.Test.YtkhjfphenflefaaWSgnE
namespace Go.Proofs.Ytkhjfphenflefaa.TM
open Go Go.RowKit
set_option linter.unusedVariables false
set_option linter.defProp false
set_option linter.unusedSimpArgs false

theorem ord_tbl {n : Nat} {f : Nat → Int} (h1 : 1 ≤ n) (h2 : n ≤ 64) (hi : InjN f n) (hr : InN f n) : Ord (tbl n f) := by
  refine ⟨by rw [tbl_len]; exact h1, by rw [tbl_len]; exact h2, fun a ha => ?_, tbl_nodup hi⟩
  obtain ⟨i, hlt, rfl⟩ := tbl_mem ha
  rw [tbl_len]
  exact hr i hlt
theorem sgn_tbl {n : Nat} {f : Nat → Int} (o : Ord (tbl n f)) : sgnR (tbl n f) = sgnI f n := by
  rw [sgnR_eq o, tbl_len]
  exact sgnI_congr fun i hi => tbl_getD f hi
theorem sgnI_one (f : Nat → Int) : ∀ n, sgnI f n = 1 ∨ sgnI f n = -1
  | 0 => .inl rfl
  | n + 1 => by
    have key : ∀ (y : Int) (k : Nat), colP f y k = 1 ∨ colP f y k = -1 := fun y k => by
      induction k with
      | zero => exact .inl rfl
      | succ k ih =>
        rw [colP, eps]
        rcases ih with h | h <;> rw [h] <;> split <;> simp
    rw [sgnI]
    rcases sgnI_one f n with h | h <;> rcases key (f n) n with e | e <;> rw [h, e] <;> simp
theorem done_tbl (p q : List Int) : doneI q p = tbl q.length (cmp (fnI p) (fnI q)) := tbl_eq (doneI_len q p) fun i hi => fnI_done i hi
theorem cmp_in {p q : Nat → Int} {n : Nat} (hp : InN p n) (hq : InN q n) : InN (cmp p q) n := fun i hi => by
  have := hq i hi
  exact hp _ (by omega)
theorem done_ord {p q : List Int} (op : Ord p) (oq : Ord q) (h : p.length = q.length) : Ord (doneI q p) ∧ sgnR (doneI q p) = sgnR p * sgnR q := by
  have ip := fnI_inj op
  have rp := fnI_in op
  rw [h] at ip rp
  have o : Ord (tbl q.length (cmp (fnI p) (fnI q))) := ord_tbl oq.pos oq.le (cmp_inj ip (fnI_inj oq) (fnI_in oq)) (cmp_in rp (fnI_in oq))
  rw [done_tbl]
  refine ⟨o, ?_⟩
  rw [sgn_tbl o, sgnI_cmp (fnI p) q.length ip q.length (fnI q) (Nat.le_refl _) (fnI_inj oq) (fnI_in oq) (fun i h1 h2 => by omega), sgnR_eq op, sgnR_eq oq, h]
theorem backF_at {l : List Int} (o : Ord l) : ∀ j, j ≤ l.length → ∀ i, i < j → backF l j (fnI l i).toNat = i
  | 0, _, i, hi => by omega
  | j + 1, hj, i, hi => by
    rw [backF]
    by_cases c : (fnI l i).toNat = (l.getD j 0).toNat
    · rw [if_pos c]
      have a := fnI_in o i (by omega)
      have b := fnI_in o j (by omega)
      have e : fnI l j = l.getD j 0 := rfl
      rw [← e] at c
      have := fnI_inj o i j (by omega) (by omega) (by omega)
      rw [this]
    · rw [if_neg c]
      refine backF_at o j (by omega) i ?_
      rcases Nat.lt_or_ge i j with h | h
      · exact h
      · have : i = j := by omega
        subst this
        exact absurd rfl c
theorem back_spec {l : List Int} (o : Ord l) (d : Nat) (hd : d < l.length) : ∃ i, i < l.length ∧ fnI l i = d ∧ backF l l.length d = i := by
  obtain ⟨i, hi, e⟩ := surjN (fnI_inj o) (fnI_in o) d hd
  have := backF_at o l.length (Nat.le_refl _) i hi
  rw [e, Int.toNat_natCast] at this
  exact ⟨i, hi, e, this⟩
theorem back_ord {l : List Int} (o : Ord l) : Ord (tbl l.length (backF l l.length)) ∧ sgnR (tbl l.length (backF l l.length)) = sgnR l := by
  have hi : InjN (backF l l.length) l.length := fun a b ha hb he => by
    obtain ⟨i, _, e1, e2⟩ := back_spec o a ha
    obtain ⟨j, _, e3, e4⟩ := back_spec o b hb
    rw [e2, e4] at he
    have : i = j := by omega
    subst this
    rw [e1] at e3
    omega
  have hr : InN (backF l l.length) l.length := fun a ha => by
    obtain ⟨i, h, _, e2⟩ := back_spec o a ha
    rw [e2]; omega
  have ob := ord_tbl o.pos o.le hi hr
  refine ⟨ob, ?_⟩
  have h1 := sgnI_cmp (fnI l) l.length (fnI_inj o) l.length (backF l l.length) (Nat.le_refl _) hi hr (fun i h1 h2 => by omega)
  rw [sgnI_congr (f := cmp (fnI l) (backF l l.length)) (g := fun i => (i : Int)) (fun d hd => by
    obtain ⟨i, h, e1, e2⟩ := back_spec o d hd
    unfold cmp
    rw [e2, Int.toNat_natCast, e1]), sgnI_id] at h1
  rw [sgn_tbl ob, sgnR_eq o]
  rcases sgnI_one (fnI l) l.length with a | a <;> rcases sgnI_one (backF l l.length) l.length with b | b <;> rw [a, b] at h1 ⊢ <;> simp at h1
theorem swap_ord {l : List Int} (o : Ord l) {a b : Nat} (ha : a < l.length) (hb : b < l.length) : Ord (tbl l.length (sw a b (fnI l))) ∧ sgnR (tbl l.length (sw a b (fnI l))) = if a = b then sgnR l else - sgnR l := by
  have oo := ord_tbl o.pos o.le ((fnI_inj o).sw ha hb) (sw_in (fnI_in o) ha hb)
  refine ⟨oo, ?_⟩
  rw [sgn_tbl oo, sgnR_eq o]
  by_cases c : a = b
  · subst c
    rw [if_pos rfl]
    exact sgnI_congr fun i _ => by
      unfold sw
      by_cases h : i = a
      · rw [if_pos h, h]
      · rw [if_neg h, if_neg h]
  · rw [if_neg c, sgnI_swap (fnI_inj o) ha hb c]
end Go.Proofs.Ytkhjfphenflefaa.TM
