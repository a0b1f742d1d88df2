/- Layer 11: a byte that is changed makes it none. Conditions: none. -/
import Derived.Test.YtkhjfphenflefaaWFrmG
namespace Go.Proofs.Ytkhjfphenflefaa.TM
open Go Go.RowKit
set_option linter.unusedVariables false
set_option linter.defProp false
set_option linter.unusedSimpArgs false

def totJ (l : List Int) : Nat → Int
  | 0 => 0
  | j + 1 => totJ l j + ((j : Int) + 1) * l.getD j 0
theorem sumJ_tot (l : List Int) : ∀ n, sumJ l n = totJ l n % 16777213
  | 0 => rfl
  | n + 1 => by rw [sumJ, totJ, sumJ_tot l n, am_l]
theorem getD_set_eq {l : List Int} {p : Nat} (c : Int) (h : p < l.length) : (l.set p c).getD p 0 = c := by
  rw [List.getD_eq_getElem?_getD, List.getElem?_set_self h]; rfl
theorem getD_set_ne2 {l : List Int} {p i : Nat} (c : Int) (h : i ≠ p) : (l.set p c).getD i 0 = l.getD i 0 := by
  rw [List.getD_eq_getElem?_getD, List.getD_eq_getElem?_getD, List.getElem?_set_ne (Ne.symm h)]
theorem totJ_set_le {l : List Int} {p : Nat} (c : Int) : ∀ n, n ≤ p → totJ (l.set p c) n = totJ l n
  | 0, _ => rfl
  | n + 1, h => by rw [totJ, totJ, totJ_set_le c n (by omega), getD_set_ne2 c (by omega)]
theorem totJ_set {l : List Int} {p : Nat} (c : Int) (hp : p < l.length) : ∀ n, p < n → totJ (l.set p c) n = totJ l n + ((p : Int) + 1) * (c - l.getD p 0)
  | n + 1, h => by
    rw [totJ, totJ]
    by_cases e : p = n
    · subst e
      rw [totJ_set_le c p (Nat.le_refl _), getD_set_eq c hp, Int.mul_sub]
      omega
    · rw [totJ_set c hp n (by omega), getD_set_ne2 c (fun h => e h.symm)]
      omega
theorem slc_set_lo {l : List Int} {p i n : Nat} (c : Int) (h : i + n ≤ p) : slc (l.set p c) i n = slc l i n := by
  apply List.ext_getElem?
  intro q
  unfold slc
  rw [List.getElem?_take, List.getElem?_take]
  by_cases hq : q < n
  · rw [if_pos hq, if_pos hq, List.getElem?_drop, List.getElem?_drop, List.getElem?_set_ne (by omega)]
  · rw [if_neg hq, if_neg hq]
theorem slc_set_hi {l : List Int} {p i n : Nat} (c : Int) (h : p < i) : slc (l.set p c) i n = slc l i n := by
  apply List.ext_getElem?
  intro q
  unfold slc
  rw [List.getElem?_take, List.getElem?_take]
  by_cases hq : q < n
  · rw [if_pos hq, if_pos hq, List.getElem?_drop, List.getElem?_drop, List.getElem?_set_ne (by omega)]
  · rw [if_neg hq, if_neg hq]
theorem slc_getD {l : List Int} {i n q : Nat} (hq : q < n) : (slc l i n).getD q 0 = l.getD (i + q) 0 := by
  unfold slc
  rw [List.getD_eq_getElem?_getD, List.getD_eq_getElem?_getD, List.getElem?_take, if_pos hq, List.getElem?_drop]
theorem byts_set {l : List Int} {p : Nat} {c : Int} (hb : Byts l) (hc : Byt c) : Byts (l.set p c) := fun x hx => by
  rcases List.mem_or_eq_of_mem_set hx with h | h
  · exact hb x h
  · exact h ▸ hc
theorem ofL_inj {k : Nat} {a b : List Int} (ha : a.length = k) (hb : b.length = k) (h1 : Byts a) (h2 : Byts b) (h : ofL a = ofL b) : a = b := by
  rw [← num_of k ha h1, ← num_of k hb h2, h]
/-- A byte behind the first nine that is changed makes it none. -/
theorem next_set {b : List Int} (hb : Byts b) {f : Int × Int × Int × List Int} {m : Nat} (o : NextOk b f m) (hm : m = b.length) (h300 : manyN b ≤ 300) {p : Nat} (hp : 9 ≤ p) (hpl : p < b.length) {c : Int} (hc : Byt c) (hne : b.getD p 0 ≠ c) : nextR (b.set p c) = (fr0, 0, 4) := by
  obtain ⟨h1, h2, h3, h4, h5, h6, _⟩ := o
  have hl : (b.set p c).length = b.length := List.length_set
  have hmn : manyN (b.set p c) = manyN b := by unfold manyN; rw [slc_set_lo c (by omega)]
  have hbp : Byt (b.getD p 0) := byt_at hb hpl
  have hb' : Byts (b.set p c) := byts_set hb hc
  unfold nextR
  rw [hl, if_neg (by omega), getD_set_ne2 c (by omega), getD_set_ne2 c (by omega), getD_set_ne2 c (by omega), hmn, if_pos ⟨h4, h5, h3⟩, if_neg (by omega), if_neg]
  intro he
  by_cases hlow : p < 9 + 8 * manyN b
  · rw [slc_set_hi c hlow, h6] at he
    have tl : (b.take (9 + 8 * manyN b)).length = 9 + 8 * manyN b := by rw [List.length_take]; omega
    have e : (b.set p c).take (9 + 8 * manyN b) = (b.take (9 + 8 * manyN b)).set p c := List.take_set
    unfold sumS at he
    rw [e, List.length_set, tl, if_neg (by omega), if_neg (by omega), sumJ_tot, sumJ_tot, totJ_set c (by omega) _ hlow, getD_take hlow] at he
    generalize totJ (b.take (9 + 8 * manyN b)) (9 + 8 * manyN b) = T at he
    generalize b.getD p 0 = B at he hne hbp
    unfold Byt at hc hbp
    have hP : ((p : Int) + 1) * (c - B) % 16777213 = 0 := by omega
    have q1 : (0 : Int) < (p : Int) + 1 := by omega
    have q2 : (p : Int) + 1 ≤ 2409 := by omega
    rcases Int.lt_or_gt_of_ne hne with hlt | hgt
    · have d1 : 0 < c - B := by omega
      have d2 : c - B ≤ 255 := by omega
      have m1 : 0 < ((p : Int) + 1) * (c - B) := Int.mul_pos q1 d1
      have m2 : ((p : Int) + 1) * (c - B) ≤ 2409 * 255 := Int.mul_le_mul q2 d2 (by omega) (by omega)
      omega
    · have d1 : 0 < B - c := by omega
      have d2 : B - c ≤ 255 := by omega
      have m1 : 0 < ((p : Int) + 1) * (B - c) := Int.mul_pos q1 d1
      have m2 : ((p : Int) + 1) * (B - c) ≤ 2409 * 255 := Int.mul_le_mul q2 d2 (by omega) (by omega)
      have m3 : ((p : Int) + 1) * (c - B) = - (((p : Int) + 1) * (B - c)) := by rw [← Int.mul_neg]; congr 1; omega
      omega
  · have e : (b.set p c).take (9 + 8 * manyN b) = b.take (9 + 8 * manyN b) := by
      have := slc_set_lo (l := b) (p := p) (i := 0) (n := 9 + 8 * manyN b) c (by omega)
      unfold slc at this
      simpa using this
    rw [e, ← h6] at he
    have l1 : (slc (b.set p c) (9 + 8 * manyN b) 3).length = 3 := slc_len (by omega)
    have l2 : (slc b (9 + 8 * manyN b) 3).length = 3 := slc_len (by omega)
    have := ofL_inj l1 l2 (slc_byts hb' _ _) (slc_byts hb _ _) he
    have g := congrArg (fun l => l.getD (p - (9 + 8 * manyN b)) 0) this
    rw [slc_getD (by omega), slc_getD (by omega), show 9 + 8 * manyN b + (p - (9 + 8 * manyN b)) = p by omega, getD_set_eq c hpl] at g
    exact hne g.symm
end Go.Proofs.Ytkhjfphenflefaa.TM
