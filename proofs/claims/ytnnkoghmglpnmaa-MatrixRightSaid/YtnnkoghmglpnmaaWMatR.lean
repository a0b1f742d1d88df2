/- Layer 5, the plain law: thin matrices. Conditions: none; lemmas. -/
import Derived.Test.YtnnkoghmglpnmaaWMatN
import Derived.Test.YtnnkoghmglpnmaaWMatJ
import Derived.Test.YtnnkoghmglpnmaaWMatQ
namespace Go.Proofs.Ytnnkoghmglpnmaa.TM
open Go Go.RowKit
set_option linter.unusedVariables false
set_option linter.defProp false
set_option linter.unusedSimpArgs false

theorem dot_seg (x : List Int) (C : Nat) : ∀ (ks vs : List Int) (last : Int), ks.length = vs.length → -1 ≤ last → risF last ks C = true → dotI vs (atF x ks) = sumN C (fun c => lookC c ks vs 0 * x.getD c 0)
  | [], [], _, _, _, _ => by
    rw [sumN_z (fun c _ => by rw [show lookC (c : Int) [] [] 0 = 0 from rfl, Int.zero_mul])]; rfl
  | q :: ks, u :: vs, last, hl, h0, h => by
    have ha := risF_all _ _ _ h
    rw [risF] at h
    have hq := ha q (by simp)
    rw [if_neg (by omega)] at h
    have ih := dot_seg x C ks vs q (by simpa using hl) (by omega) h
    obtain ⟨Q, rfl⟩ := Int.eq_ofNat_of_zero_le (show 0 ≤ q by omega)
    have hn : ∀ z ∈ ks, z ≠ (Q : Int) := fun z hz => by have := risF_all _ _ _ h z hz; omega
    show u * x.getD ((Q : Int)).toNat 0 + dotI vs (atF x ks) = _
    rw [ih, Int.toNat_natCast]
    rw [sumN_congr (f := fun c => lookC c ((Q : Int) :: ks) (u :: vs) 0 * x.getD c 0) (g := fun c => (if c = Q then u * x.getD c 0 else 0) + lookC c ks vs 0 * x.getD c 0) (fun c hc => by
      simp only [lookC]
      by_cases e : c = Q
      · subst e
        rw [if_pos rfl, if_pos rfl, lookC_no _ _ _ _ hn, lookC_no _ _ _ _ hn]; omega
      · rw [if_neg (by omega), if_neg e]; omega)]
    rw [sumN_add, sumN_one (fun c => u * x.getD c 0) (by omega)]
  | [], _ :: _, _, h, _, _ => by simp at h
  | _ :: _, [], _, h, _, _ => by simp at h
theorem Sp.seg_len {p : Int} {R C : Nat} {b k v : List Int} (S : Sp p R C b k v) {i : Nat} (hi : i < R) : (segI b k i).length = (segI b v i).length := by
  obtain ⟨a, y, _, _, _, _, _, _, _, _, _, lk, lv, _, _⟩ := S.row hi
  omega
theorem st_whole {p : Int} {R C : Nat} {b k v x : List Int} (S : Sp p R C b k v) {i : Nat} (hi : i < R) : stF p b k v x i = sumN C (fun c => whC b k v i c * x.getD c 0) % p := by
  unfold stF
  rw [dot_seg x C _ _ (-1) (S.seg_len hi) (by omega) (S.ris i hi)]; rfl
/-- A thin matrix made whole. -/
def wholeM (R C : Nat) (b k v : List Int) : List Int := tbl (R * C) (fun q => whC b k v (q / C) (q % C))
theorem wholeM_len (R C : Nat) (b k v : List Int) : (wholeM R C b k v).length = R * C := tbl_len ..
theorem wholeM_cl {R C : Nat} (b k v : List Int) {i c : Nat} (hi : i < R) (hc : c < C) : cl C (wholeM R C b k v) i c = whC b k v i c := by
  unfold wholeM
  rw [cl_tbl _ hi hc, dc_div hc, dc_mod hc]
theorem st_times {p : Int} {R C : Nat} {b k v x : List Int} (S : Sp p R C b k v) (hx : x.length = C) : tbl R (stF p b k v x) = timesM p R C (wholeM R C b k v) x := by
  rw [timesM_tbl (wholeM_len ..) hx]
  apply tbl_congr
  intro i hi
  rw [st_whole S hi]
  congr 1
  apply sumN_congr
  intro c hc
  rw [wholeM_cl b k v hi hc]
theorem sl_left {p : Int} {R C : Nat} {b k v x : List Int} (S : Sp p R C b k v) (hx : x.length = R) : tbl C (fun q => slS b k v x R q % p) = leftM p x R C (wholeM R C b k v) := by
  rw [tbl_of (leftM_len p x R C _)]
  apply tbl_congr
  intro c hc
  rw [leftM_get hx hc]
  unfold slS
  congr 1
  apply sumN_congr
  intro i hi
  rw [wholeM_cl b k v hi hc]
theorem flat_split (f : Nat → List Int) {i R : Nat} (hi : i < R) : ∃ t, (List.range R).flatMap f = (List.range i).flatMap f ++ f i ++ t := by
  obtain ⟨d, rfl⟩ : ∃ d, R = (i + 1) + d := ⟨R - (i + 1), by omega⟩
  rw [List.range_add, List.flatMap_append, List.range_succ, List.flatMap_append]
  simp
theorem flat_seg (f : Nat → List Int) {i R : Nat} (hi : i < R) : (((List.range R).flatMap f).drop ((List.range i).flatMap f).length).take (((List.range (i + 1)).flatMap f).length - ((List.range i).flatMap f).length) = f i := by
  obtain ⟨t, ht⟩ := flat_split f hi
  rw [ht, List.range_succ, List.flatMap_append, List.append_assoc, List.drop_left]
  simp
theorem lookC_nz (c : Nat) : ∀ (l : List Int) (n : Nat), (c < n → lookC c (nzC l n) (nzV l) 0 = 0) ∧ (n ≤ c → lookC c (nzC l n) (nzV l) 0 = l.getD (c - n) 0)
  | [], n => ⟨fun _ => rfl, fun _ => rfl⟩
  | a :: l, n => by
    obtain ⟨h1, h2⟩ := lookC_nz c l (n + 1)
    have no : c ≤ n → ∀ q ∈ nzC l (n + 1), q ≠ (c : Int) := by
      intro hc q hq
      have : ∀ (l : List Int) (m : Nat), ∀ q ∈ nzC l m, (m : Int) ≤ q := by
        intro l
        induction l with
        | nil => intro m q hq; cases hq
        | cons b l ih =>
          intro m q hq
          simp only [nzC] at hq
          by_cases e : b = 0
          · rw [if_pos e] at hq; have := ih (m + 1) q hq; omega
          · rw [if_neg e] at hq
            rcases List.mem_cons.1 hq with rfl | hq
            · omega
            · have := ih (m + 1) q hq; omega
      have := this l (n + 1) q hq; omega
    simp only [nzC, nzV]
    by_cases e : a = 0
    · rw [if_pos e, if_pos e]
      refine ⟨fun h => h1 (by omega), fun h => ?_⟩
      by_cases c1 : c = n
      · subst c1; rw [lookC_no _ _ _ _ (no (Nat.le_refl _)), Nat.sub_self]; exact e.symm
      · rw [h2 (by omega), show c - n = (c - (n + 1)) + 1 by omega]; rfl
    · rw [if_neg e, if_neg e]
      simp only [lookC]
      refine ⟨fun h => by rw [if_neg (by omega)]; exact h1 (by omega), fun h => ?_⟩
      by_cases c1 : c = n
      · subst c1; rw [if_pos rfl, lookC_no _ _ _ _ (no (Nat.le_refl _)), Nat.sub_self]; rfl
      · rw [if_neg (by omega), h2 (by omega), show c - n = (c - (n + 1)) + 1 by omega]; rfl
theorem risF_nz : ∀ (l : List Int) (n : Nat) (last : Int), last < n → risF last (nzC l n) ((n + l.length : Nat) : Int) = true
  | [], _, _, _ => rfl
  | a :: l, n, last, h => by
    simp only [nzC]
    by_cases e : a = 0
    · rw [if_pos e]
      have := risF_nz l (n + 1) last (by omega)
      rw [show n + 1 + l.length = n + (a :: l).length by simp only [List.length_cons]; omega] at this
      exact this
    · rw [if_neg e, risF, if_neg (by simp only [List.length_cons]; omega)]
      have := risF_nz l (n + 1) n (by omega)
      rw [show n + 1 + l.length = n + (a :: l).length by simp only [List.length_cons]; omega] at this
      exact this
theorem nzV_mem : ∀ (l : List Int), ∀ a ∈ nzV l, a ∈ l ∧ a ≠ 0
  | [], a, h => by cases h
  | b :: l, a, h => by
    simp only [nzV] at h
    by_cases e : b = 0
    · rw [if_pos e] at h
      have := nzV_mem l a h
      exact ⟨by simp [this.1], this.2⟩
    · rw [if_neg e] at h
      rcases List.mem_cons.1 h with rfl | h
      · exact ⟨by simp, e⟩
      · have := nzV_mem l a h
        exact ⟨by simp [this.1], this.2⟩
theorem thinB_get {C : Nat} {l : List Int} {R i : Nat} (hi : i ≤ R) : (thinB C l R).getD i 0 = ((thinC C l i).length : Int) := by
  unfold thinB
  rw [List.getD_eq_getElem?_getD, List.getElem?_map, List.getElem?_range (by omega)]; rfl
theorem thin_segC {C : Nat} {l : List Int} {R i : Nat} (hi : i < R) : segI (thinB C l R) (thinC C l R) i = nzC (rowM C l i) 0 := by
  unfold segI
  rw [thinB_get (by omega), thinB_get (by omega), Int.toNat_natCast, Int.toNat_natCast]
  exact flat_seg (fun i => nzC (rowM C l i) 0) hi
theorem thin_segV {C : Nat} {l : List Int} {R i : Nat} (hi : i < R) : segI (thinB C l R) (thinV C l R) i = nzV (rowM C l i) := by
  unfold segI
  rw [thinB_get (by omega), thinB_get (by omega), Int.toNat_natCast, Int.toNat_natCast, thin_len, thin_len]
  exact flat_seg (fun i => nzV (rowM C l i)) hi
theorem thin_wh {R C : Nat} {l : List Int} (hl : l.length = R * C) {i c : Nat} (hi : i < R) (hc : c < C) : whC (thinB C l R) (thinC C l R) (thinV C l R) i c = cl C l i c := by
  unfold whC
  rw [thin_segC hi, thin_segV hi, (lookC_nz c _ 0).2 (by omega), Nat.sub_zero, rowM_cl hl hi hc]
theorem sF_of {l : List Int} : ∀ {n : Nat}, (∀ i, i < n → l.getD i 0 ≤ l.getD (i + 1) 0) → sF l n = true
  | 0, _ => rfl
  | n + 1, h => by
    rw [sF, if_neg (by have := h n (by omega); omega)]
    exact sF_of fun i hi => h i (by omega)
theorem thin_sp {p : Int} {R C : Nat} {l : List Int} (M : Mt p R C l) : Sp p R C (thinB C l R) (thinC C l R) (thinV C l R) := by
  refine ⟨M.hp, M.r1, M.r2, M.c1, M.c2, ?_, ?_, ?_, ?_⟩
  · simp only [begB, Bool.and_eq_true, decide_eq_true_eq]
    refine ⟨by simp [thinB], by rw [thinB_get (by omega)]; rfl, by rw [thinB_get (Nat.le_refl _)], ?_, thin_len C l R⟩
    apply sF_of
    intro i hi
    rw [thinB_get (by omega), thinB_get (by omega), thinC_next, List.length_append]; omega
  · intro a ha
    unfold thinV at ha
    obtain ⟨i, _, h⟩ := List.mem_flatMap.1 ha
    exact M.has a (rowM_mem (nzV_mem _ a h).1)
  · intro h
    unfold thinV at h
    obtain ⟨i, _, h⟩ := List.mem_flatMap.1 h
    exact (nzV_mem _ 0 h).2 rfl
  · intro i hi
    rw [thin_segC hi]
    have := risF_nz (rowM C l i) 0 (-1) (by omega)
    rw [rowM_len M.len hi, Nat.zero_add] at this
    exact this
theorem thin_whole {R C : Nat} {l : List Int} (hl : l.length = R * C) : wholeM R C (thinB C l R) (thinC C l R) (thinV C l R) = l := by
  apply cells_ext (wholeM_len ..) hl
  intro i c hi hc
  rw [wholeM_cl _ _ _ hi hc, thin_wh hl hi hc]
end Go.Proofs.Ytnnkoghmglpnmaa.TM
