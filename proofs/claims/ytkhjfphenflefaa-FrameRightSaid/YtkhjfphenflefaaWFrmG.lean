/- Layer 11: what is put is read as it was. Conditions: none. -/
import Derived.Test.YtkhjfphenflefaaWFrmF
namespace Go.Proofs.Ytkhjfphenflefaa.TM
open Go Go.RowKit
set_option linter.unusedVariables false
set_option linter.defProp false
set_option linter.unusedSimpArgs false

theorem slc_app {a b c : List Int} {i n : Nat} (hi : a.length = i) (hn : b.length = n) : slc (a ++ (b ++ c)) i n = b := by
  subst hi; subst hn
  unfold slc
  rw [List.drop_left' rfl, List.take_left' rfl]
theorem slc_right {a b : List Int} {i j n : Nat} (hi : a.length = i) : slc (a ++ b) (i + j) n = slc b j n := by
  subst hi
  unfold slc
  rw [List.drop_append, List.drop_eq_nil_of_le (by omega), List.nil_append, Nat.add_sub_cancel_left]
theorem slc_body : ∀ {y : List Int} {t : List Int} {i : Nat} (h : i < y.length), slc (bodyB y ++ t) (8 * i) 8 = numL y[i] 8
  | x :: y, t, 0, _ => by
    have e : bodyB (x :: y) ++ t = [] ++ (numL x 8 ++ (bodyB y ++ t)) := by unfold bodyB; rw [List.flatMap_cons]; simp
    show slc (bodyB (x :: y) ++ t) 0 8 = numL x 8
    rw [e]
    exact slc_app rfl (numL_len x 8)
  | x :: y, t, i + 1, h => by
    have e : bodyB (x :: y) ++ t = numL x 8 ++ (bodyB y ++ t) := by unfold bodyB; rw [List.flatMap_cons]; simp
    rw [e, show 8 * (i + 1) = 8 + 8 * i by omega, slc_right (numL_len x 8), slc_body (by simpa using h)]; rfl
/-- What is put is read as it was. -/
theorem next_put {k r n : Int} {y t : List Int} (hm : mayB k r y = true) (hn : 0 ≤ n ∧ n < 4294967296) (hy : ∀ a ∈ y, W64 a) : NextOk (putB k r n y ++ t) (k, r, n, y) (12 + 8 * y.length) := by
  obtain ⟨k1, k2, r1, r2, yl⟩ := may_iff.1 hm
  have e1 : putB k r n y ++ t = [163, k, r] ++ (numL n 4 ++ (numL y.length 2 ++ (bodyB y ++ (numL (sumS (allB k r n y)) 3 ++ t)))) := by
    simp [putB, allB, headB]
  have e2 : putB k r n y ++ t = headB k r n y.length ++ (bodyB y ++ (numL (sumS (allB k r n y)) 3 ++ t)) := by simp [putB, allB]
  have e3 : putB k r n y ++ t = allB k r n y ++ (numL (sumS (allB k r n y)) 3 ++ t) := by simp [putB]
  have e4 : putB k r n y ++ t = ([163, k, r] ++ numL n 4) ++ (numL y.length 2 ++ (bodyB y ++ (numL (sumS (allB k r n y)) 3 ++ t))) := by
    simp [putB, allB, headB]
  have h7 : slc (putB k r n y ++ t) 7 2 = numL y.length 2 := by rw [e4]; exact slc_app (by simp [numL_len]) (numL_len _ _)
  have h3 : slc (putB k r n y ++ t) 3 4 = numL n 4 := by rw [e1]; exact slc_app rfl (numL_len _ _)
  have hM : manyN (putB k r n y ++ t) = y.length := by
    unfold manyN
    rw [h7, ofL_num 2 _ (by omega) (by rw [show p256 2 = 65536 by decide]; omega)]
    omega
  have hal := allB_len k r n y
  have sb := sumS_bd (allB k r n y)
  refine ⟨by rw [List.length_append, putB_len]; omega, by rw [hM], by rw [hM]; exact yl, ?_, ?_, ?_, ?_⟩
  · rw [e1]; rfl
  · rw [e1]; exact may_iff.2 ⟨k1, k2, r1, r2, by simp⟩
  · rw [hM, e3, slc_app hal (numL_len _ _), List.take_left' hal, ofL_num 3 _ sb.1 (by rw [show p256 3 = 16777216 by decide]; omega)]
  · rw [hM, h3, ofL_num 4 n hn.1 (by rw [show p256 4 = 4294967296 by decide]; exact hn.2)]
    have hb : bodyN (putB k r n y ++ t) y.length = y := by
      apply List.ext_getElem
      · simp [bodyN]
      · intro i h1 h2
        have hg : (bodyN (putB k r n y ++ t) y.length)[i] = ofL (slc (putB k r n y ++ t) (9 + 8 * i) 8) := by simp [bodyN]
        rw [hg, e2, slc_right (headB_len _ _ _ _), slc_body h2]
        have := hy _ (List.getElem_mem h2)
        exact ofL_num 8 _ this.1 (by rw [show p256 8 = 18446744073709551616 by decide]; exact this.2)
    rw [hb]
    rw [e1]; rfl
theorem next_short {b : List Int} (h : b.length < 12) : nextR b = (fr0, 0, 3) := by unfold nextR; rw [if_pos h]
end Go.Proofs.Ytkhjfphenflefaa.TM
