/- Pure facts of layer 10: which words count, and what is drawn. -/
import Derived.Test.YtdfhkdddlfmceaaX1
import Derived.Test.YtdfhkdddlfmceaaX2
import Derived.Test.YtdfhkdddlfmceaaX3
import Derived.Test.YtdfhkdddlfmceaaX4
import Derived.Test.YtdfhkdddlfmceaaPfC0
namespace Go.Proofs.Ytdfhkdddlfmceaa.PfT
open Go.RowKit Go.Proofs.YtdfhkdddlfmceaaW.PrintWords Go.Proofs.YtdfhkdddlfmceaaW.PrintLast Go.Proofs.YtdfhkdddlfmceaaW.PrintMore Go.Proofs.Ytdfhkdddlfmceaa.X Go.Proofs.Ytdfhkdddlfmceaa.PfA Go.Proofs.Ytdfhkdddlfmceaa.PfC
set_option linter.unusedVariables false
set_option linter.unusedSimpArgs false

/-- Does a word count? -/
def cntB (p w : Int) : Bool := RightB p && decide (w ≤ 18446744073709551615 - 18446744073709551616 % p)
/-- Does it count, and will its number do (z: 0 won't)? -/
def good (p : Int) (z : Bool) (w : Int) : Bool := cntB p w && (!z || (w % p != 0))
/-- So many numbers, and how many words they took. -/
def tk (p : Int) (z : Bool) : Nat → List Int → Option (List Int × Nat)
  | 0, _ => some ([], 0)
  | _ + 1, [] => none
  | n + 1, w :: r => if good p z w then (tk p z n r).map (fun q => (w % p :: q.1, q.2 + 1)) else (tk p z (n + 1) r).map (fun q => (q.1, q.2 + 1))
def cnt (p : Int) (z : Bool) (ws : List Int) : Nat := ws.countP (good p z)
/-- All numbers that can be drawn. -/
def vals (p : Int) (z : Bool) (ws : List Int) : List Int := (ws.filter (good p z)).map (· % p)

section
variable {p : Int} {z : Bool}
theorem tk_zero (ws : List Int) : tk p z 0 ws = some ([], 0) := by cases ws <;> rfl
theorem tk_good {w : Int} {r : List Int} (n : Nat) (h : good p z w = true) : tk p z (n + 1) (w :: r) = (tk p z n r).map (fun q => (w % p :: q.1, q.2 + 1)) := by rw [tk, if_pos h]
theorem tk_bad {w : Int} {r : List Int} (n : Nat) (h : good p z w = false) : tk p z (n + 1) (w :: r) = (tk p z (n + 1) r).map (fun q => (q.1, q.2 + 1)) := by rw [tk, if_neg (by rw [h]; decide)]
theorem cnt_good {w : Int} {r : List Int} (h : good p z w = true) : cnt p z (w :: r) = cnt p z r + 1 := by simp [cnt, h]
theorem cnt_bad {w : Int} {r : List Int} (h : good p z w = false) : cnt p z (w :: r) = cnt p z r := by simp [cnt, h]
theorem vals_good {w : Int} {r : List Int} (h : good p z w = true) : vals p z (w :: r) = w % p :: vals p z r := by simp [vals, h]
theorem vals_bad {w : Int} {r : List Int} (h : good p z w = false) : vals p z (w :: r) = vals p z r := by simp [vals, h]
theorem vals_len (ws : List Int) : (vals p z ws).length = cnt p z ws := by simp [vals, cnt, List.countP_eq_length_filter]

theorem tk_some (n : Nat) : ∀ ws : List Int, n ≤ cnt p z ws → ∃ c, tk p z n ws = some ((vals p z ws).take n, c) ∧ c ≤ ws.length ∧ vals p z (ws.drop c) = (vals p z ws).drop n := by
  intro ws
  induction ws generalizing n with
  | nil =>
    intro h
    obtain rfl : n = 0 := by simpa [cnt] using h
    exact ⟨0, tk_zero _, Nat.le_refl _, rfl⟩
  | cons w r ih =>
    intro h
    cases n with
    | zero => exact ⟨0, by rw [tk_zero]; simp, Nat.zero_le _, by simp⟩
    | succ n =>
      cases g : good p z w with
      | true =>
        rw [cnt_good g] at h
        obtain ⟨c, h1, h2, h3⟩ := ih n (by omega)
        refine ⟨c + 1, by rw [tk_good n g, h1, vals_good g]; simp, by simp; omega, ?_⟩
        rw [vals_good g]; simpa using h3
      | false =>
        rw [cnt_bad g] at h
        obtain ⟨c, h1, h2, h3⟩ := ih (n + 1) (by omega)
        refine ⟨c + 1, by rw [tk_bad n g, h1, vals_bad g]; simp, by simp; omega, ?_⟩
        rw [vals_bad g]; simpa using h3
theorem tk_none (n : Nat) : ∀ ws : List Int, cnt p z ws < n → tk p z n ws = none := by
  intro ws
  induction ws generalizing n with
  | nil =>
    intro h
    cases n with
    | zero => omega
    | succ n => rfl
  | cons w r ih =>
    intro h
    cases n with
    | zero => omega
    | succ n =>
      cases g : good p z w with
      | true => rw [cnt_good g] at h; rw [tk_good n g, ih n (by omega)]; rfl
      | false => rw [cnt_bad g] at h; rw [tk_bad n g, ih (n + 1) (by omega)]; rfl
/-- Drawn in two parts. -/
theorem tk_split (m n : Nat) : ∀ (ws : List Int) (l1 l2 : List Int) (c1 c2 : Nat), tk p z m ws = some (l1, c1) → tk p z n (ws.drop c1) = some (l2, c2) → tk p z (m + n) ws = some (l1 ++ l2, c1 + c2) := by
  intro ws
  induction ws generalizing m with
  | nil =>
    intro l1 l2 c1 c2 h1 h2
    cases m with
    | zero =>
      rw [tk_zero] at h1
      simp only [Option.some.injEq, Prod.mk.injEq] at h1
      obtain ⟨rfl, rfl⟩ := h1
      simpa using h2
    | succ m => simp [tk] at h1
  | cons w r ih =>
    intro l1 l2 c1 c2 h1 h2
    cases m with
    | zero =>
      rw [tk_zero] at h1
      simp only [Option.some.injEq, Prod.mk.injEq] at h1
      obtain ⟨rfl, rfl⟩ := h1
      simpa using h2
    | succ m =>
      cases g : good p z w with
      | true =>
        rw [tk_good m g, Option.map_eq_some_iff] at h1
        obtain ⟨⟨l, c⟩, h3, h4⟩ := h1
        simp only [Prod.mk.injEq] at h4
        obtain ⟨rfl, rfl⟩ := h4
        have := ih m l l2 c c2 h3 (by simpa using h2)
        rw [Nat.add_right_comm, tk_good (m + n) g, this]
        simp; omega
      | false =>
        rw [tk_bad m g, Option.map_eq_some_iff] at h1
        obtain ⟨⟨l, c⟩, h3, h4⟩ := h1
        simp only [Prod.mk.injEq] at h4
        obtain ⟨rfl, rfl⟩ := h4
        have := ih (m + 1) l l2 c c2 h3 (by simpa using h2)
        rw [Nat.add_right_comm] at this ⊢
        rw [tk_bad (m + n) g, this]
        simp; omega
/-- What stands behind doesn't matter. -/
theorem tk_more (n : Nat) : ∀ (ws b : List Int) (q : List Int × Nat), tk p z n ws = some q → tk p z n (ws ++ b) = some q := by
  intro ws b
  induction ws generalizing n with
  | nil =>
    intro q h
    cases n with
    | zero => rw [tk_zero] at h ⊢; exact h
    | succ n => simp [tk] at h
  | cons w r ih =>
    intro q h
    cases n with
    | zero => rw [tk_zero] at h ⊢; exact h
    | succ n =>
      cases g : good p z w with
      | true =>
        rw [tk_good n g, Option.map_eq_some_iff] at h
        obtain ⟨q', h1, h2⟩ := h
        rw [List.cons_append, tk_good n g, ih n q' h1, Option.map_some, h2]
      | false =>
        rw [tk_bad n g, Option.map_eq_some_iff] at h
        obtain ⟨q', h1, h2⟩ := h
        rw [List.cons_append, tk_bad n g, ih (n + 1) q' h1, Option.map_some, h2]
theorem vals_in (hp : 0 < p) (ws : List Int) : ∀ x ∈ vals p z ws, In p x := by
  intro x hx
  simp only [vals, List.mem_map] at hx
  obtain ⟨w, _, rfl⟩ := hx
  exact emod_in _ hp
/-- The numbers but 0 are those of all that aren't 0. -/
theorem vals_some (ws : List Int) : vals p true ws = (vals p false ws).filter (· != 0) := by
  induction ws with
  | nil => rfl
  | cons w r ih =>
    cases c : cntB p w with
    | false =>
      have g1 : good p true w = false := by simp [good, c]
      have g2 : good p false w = false := by simp [good, c]
      rw [vals_bad g1, vals_bad g2, ih]
    | true =>
      have g2 : good p false w = true := by simp [good, c]
      rw [vals_good g2, List.filter_cons]
      by_cases e : w % p = 0
      · have g1 : good p true w = false := by simp [good, c, e]
        rw [vals_bad g1, ih]; simp [e]
      · have g1 : good p true w = true := by simp [good, c, e]
        rw [vals_good g1, ih]; simp [e]
/-- Words that don't count, slipped in. -/
def mix (b : Int) (ws : List Int) : List Int := ws.flatMap fun w => [b, w]
theorem mix_nil (b : Int) : mix b [] = [] := rfl
theorem mix_cons (b w : Int) (r : List Int) : mix b (w :: r) = b :: w :: mix b r := rfl
theorem mix_app (b : Int) (l m : List Int) : mix b (l ++ m) = mix b l ++ mix b m := List.flatMap_append
theorem mix_mem {b x : Int} {l : List Int} (h : x ∈ mix b l) : ∃ w, w ∈ l ∧ (x = b ∨ x = w) := by
  simp only [mix, List.mem_flatMap] at h
  obtain ⟨w, h1, h2⟩ := h
  simp only [List.mem_cons, List.not_mem_nil, or_false] at h2
  exact ⟨w, h1, h2⟩
theorem vals_mix {b : Int} (hb : cntB p b = false) (ws : List Int) : vals p z (mix b ws) = vals p z ws := by
  induction ws with
  | nil => rfl
  | cons w r ih =>
    have g : good p z b = false := by simp [good, hb]
    rw [show mix b (w :: r) = b :: w :: mix b r from rfl, vals_bad g]
    cases g2 : good p z w with
    | true => rw [vals_good g2, vals_good g2, ih]
    | false => rw [vals_bad g2, vals_bad g2, ih]
end

/-! ### what the program answers -/
theorem over_f (p : Int) (h1 : 2 ≤ p) (h2 : p < 9223372036854775808) : tape_over.f p = some (18446744073709551616 % p) := by
  unfold tape_over.f
  have hm0 := Int.emod_nonneg 18446744073709551615 (show p ≠ 0 by omega)
  have hm1 := Int.emod_lt_of_pos 18446744073709551615 (show 0 < p by omega)
  rw [if_neg (by omega), uw_of (by omega) (by omega), tmod_nn (by omega), am_l]
  rfl
theorem over_bd (p : Int) (h1 : 2 ≤ p) : 0 ≤ 18446744073709551616 % p ∧ 18446744073709551616 % p < p := ⟨Int.emod_nonneg _ (by omega), Int.emod_lt_of_pos _ (by omega)⟩
theorem counts_f (p w : Int) : tape_Counts.f p w = some (cntB p w) := by
  unfold tape_Counts.f cntB
  rw [right_f]
  cases h : RightB p with
  | false => rfl
  | true =>
    obtain ⟨h1, h2⟩ := (right_iff p).1 h
    have := over_bd p h1
    simp only [Option.bind_some, if_true, over_f p h1 h2, Bool.true_and]
    rw [uw_of (by omega) (by omega)]
theorem rcounts_f (p w : Int) (hw : W64 w) : affidavitref10_Counts.f p w = some (cntB p w) := by
  unfold affidavitref10_Counts.f cntB
  rw [rright_f]
  cases h : RightB p with
  | false => rfl
  | true =>
    obtain ⟨h1, h2⟩ := (right_iff p).1 h
    obtain ⟨w0, w1⟩ := hw
    have hb := over_bd p h1
    simp only [Option.bind_some, if_true, Bool.true_and]
    rw [if_neg (by omega), tmod_nn w0]
    have hm0 := Int.emod_nonneg w (show p ≠ 0 by omega)
    have hm1 := Int.emod_lt_of_pos w (show 0 < p by omega)
    have hd := Int.emod_add_mul_ediv w p
    have hD := Int.emod_add_mul_ediv 18446744073709551616 p
    have hq0 : 0 ≤ p * (w / p) := Int.mul_nonneg (by omega) (Int.ediv_nonneg w0 (by omega))
    rw [uw_of (n := w - w % p) (by omega) (by omega), uw_of (n := p - 1) (by omega) (by omega)]
    congr 1
    rw [decide_eq_decide, uw]
    constructor
    · intro hh
      have h3 : w - w % p + (p - 1) < 18446744073709551616 := by
        rcases Int.lt_or_le (w - w % p + (p - 1)) 18446744073709551616 with g | g
        · exact g
        · exfalso; omega
      -- so the row's number is below the rows that are whole
      rcases Int.lt_or_le (w / p) (18446744073709551616 / p) with g | g
      · have h4 : p * (w / p + 1) ≤ p * (18446744073709551616 / p) := Int.mul_le_mul_of_nonneg_left (by omega) (by omega)
        rw [Int.mul_add, Int.mul_one] at h4
        omega
      · have h4 : p * (18446744073709551616 / p) ≤ p * (w / p) := Int.mul_le_mul_of_nonneg_left g (by omega)
        have h5 : w / p ≤ 18446744073709551616 / p := by
          rcases Int.lt_or_le (18446744073709551616 / p) (w / p) with g2 | g2
          · have h6 : p * (18446744073709551616 / p + 1) ≤ p * (w / p) := Int.mul_le_mul_of_nonneg_left (by omega) (by omega)
            rw [Int.mul_add, Int.mul_one] at h6
            omega
          · exact g2
        have h6 : w / p = 18446744073709551616 / p := by omega
        rw [h6] at hd
        omega
    · intro hh
      have h3 : w / p < 18446744073709551616 / p := by
        rcases Int.lt_or_le (w / p) (18446744073709551616 / p) with g | g
        · exact g
        · have h4 : p * (18446744073709551616 / p) ≤ p * (w / p) := Int.mul_le_mul_of_nonneg_left g (by omega)
          omega
      have h4 : p * (w / p + 1) ≤ p * (18446744073709551616 / p) := Int.mul_le_mul_of_nonneg_left (by omega) (by omega)
      rw [Int.mul_add, Int.mul_one] at h4
      rw [Int.emod_eq_of_lt (by omega) (by omega)]
      omega
/-- A right tape. -/
def TapeB (ws : List Int) (at_ : Int) : Bool := decide ((ws.length : Int) ≤ 65536) && (decide (0 ≤ at_) && decide (at_ ≤ (ws.length : Int)))
theorem tape_iff (ws : List Int) (a : Int) : TapeB ws a = true ↔ (ws.length : Int) ≤ 65536 ∧ 0 ≤ a ∧ a ≤ (ws.length : Int) := by simp [TapeB]
theorem tape_f (ws : List Int) (a : Int) : tape_Right.f ws a = some (TapeB ws a) := by
  unfold tape_Right.f TapeB
  by_cases h1 : (ws.length : Int) ≤ 65536 <;> by_cases h2 : 0 ≤ a <;> simp [h1, h2]
theorem rtape_f (ws : List Int) (a : Int) : affidavitref10_Right.f ws a = some (TapeB ws a) := by
  unfold affidavitref10_Right.f TapeB
  by_cases h1 : (ws.length : Int) ≤ 65536 <;> by_cases h2 : 0 ≤ a <;> simp [h1, h2]
theorem may_f (p : Int) (ws : List Int) (a : Int) : tape_may.f p ws a = some (RightB p && TapeB ws a) := by
  unfold tape_may.f
  rw [right_f, tape_f]
  cases RightB p <;> rfl

/-- What a search from a place on finds: the number, the place behind it, and whether there is one. -/
def fnd (p : Int) (z : Bool) (ws : List Int) (a : Nat) : Int × Int × Bool :=
  match tk p z 1 (ws.drop a) with
  | some (x :: _, c) => (x, ((a + c : Nat) : Int), true)
  | _ => (0, (ws.length : Int), false)
theorem fnd_end {p : Int} {z : Bool} {ws : List Int} {a : Nat} (h : ws.length ≤ a) : fnd p z ws a = (0, (ws.length : Int), false) := by
  unfold fnd
  rw [List.drop_of_length_le h]; rfl
theorem fnd_good {p : Int} {z : Bool} {ws : List Int} {a : Nat} (h : a < ws.length) (g : good p z ws[a] = true) : fnd p z ws a = (ws[a] % p, ((a + 1 : Nat) : Int), true) := by
  unfold fnd
  rw [drop_at ws a h, tk_good 0 g, tk_zero]; rfl
theorem fnd_bad {p : Int} {z : Bool} {ws : List Int} {a : Nat} (h : a < ws.length) (g : good p z ws[a] = false) : fnd p z ws a = fnd p z ws (a + 1) := by
  unfold fnd
  rw [drop_at ws a h, tk_bad 0 g]
  cases tk p z 1 (ws.drop (a + 1)) with
  | none => rfl
  | some q =>
    obtain ⟨l, c⟩ := q
    cases l with
    | nil => rfl
    | cons x l => simp; omega
theorem ev_next_all (p : Int) (h1 : 2 ≤ p) (h2 : p < 9223372036854775808) (ws : List Int) (hw : ∀ x ∈ ws, W64 x) (hl : (ws.length : Int) ≤ 65536) (b : Int) :
    ∀ (d a : Nat), ws.length - a = d → Ev (fun k => tape_next_all.l0 k p (a : Int) ws b) (fnd p false ws a) := by
  intro d
  induction d with
  | zero =>
    intro a hd
    rw [fnd_end (by omega)]
    exact Ev.step (f := fun _ => some _) (fun k => by rw [tape_next_all.l0, if_neg (by omega)]) (Ev.now _)
  | succ d ih =>
    intro a hd
    have hlt : a < ws.length := by omega
    have hx := hw _ (List.getElem_mem hlt)
    have next : Ev (fun k => tape_next_all.l0 k p (wrap64 ((a : Int) + 1)) ws b) (fnd p false ws (a + 1)) := by
      rw [wadd (n := ws.length) (by omega) (by omega) (by omega)]
      exact ih (a + 1) (by omega)
    cases c : cntB p ws[a] with
    | false =>
      rw [fnd_bad hlt (by simp [good, c])]
      refine Ev.step (fun k => ?_) next
      rw [tape_next_all.l0, if_pos (by omega), if_pos (by omega), rd_at ws a hlt, counts_f, c]
      rfl
    | true =>
      rw [fnd_good hlt (by simp [good, c])]
      refine Ev.step (f := fun _ => some _) (fun k => ?_) (Ev.now _)
      rw [tape_next_all.l0, if_pos (by omega), if_pos (by omega), rd_at ws a hlt, counts_f, c]
      simp only [Option.bind_some, if_true]
      rw [if_neg (by omega), tmod_nn hx.1, wadd (n := ws.length) (by omega) (by omega) (by omega)]
      rfl
theorem ev_next_some (p : Int) (h1 : 2 ≤ p) (h2 : p < 9223372036854775808) (ws : List Int) (hw : ∀ x ∈ ws, W64 x) (hl : (ws.length : Int) ≤ 65536) (b : Int) :
    ∀ (d a : Nat), ws.length - a = d → Ev (fun k => tape_next_some.l0 k p (a : Int) ws b) (fnd p true ws a) := by
  intro d
  induction d with
  | zero =>
    intro a hd
    rw [fnd_end (by omega)]
    exact Ev.step (f := fun _ => some _) (fun k => by rw [tape_next_some.l0, if_neg (by omega)]) (Ev.now _)
  | succ d ih =>
    intro a hd
    have hlt : a < ws.length := by omega
    have hx := hw _ (List.getElem_mem hlt)
    have next : Ev (fun k => tape_next_some.l0 k p (wrap64 ((a : Int) + 1)) ws b) (fnd p true ws (a + 1)) := by
      rw [wadd (n := ws.length) (by omega) (by omega) (by omega)]
      exact ih (a + 1) (by omega)
    cases c : cntB p ws[a] with
    | false =>
      rw [fnd_bad hlt (by simp [good, c])]
      refine Ev.step (fun k => ?_) next
      rw [tape_next_some.l0, if_pos (by omega), if_pos (by omega), rd_at ws a hlt, counts_f, c]
      rfl
    | true =>
      by_cases e : ws[a] % p = 0
      · rw [fnd_bad hlt (by simp [good, c, e])]
        refine Ev.step (fun k => ?_) next
        rw [tape_next_some.l0, if_pos (by omega), if_pos (by omega), rd_at ws a hlt, counts_f, c]
        simp only [Option.bind_some, if_true]
        rw [if_neg (by omega), tmod_nn hx.1]
        simp [tape_some.f, e]
      · rw [fnd_good hlt (by simp [good, c, e])]
        refine Ev.step (f := fun _ => some _) (fun k => ?_) (Ev.now _)
        rw [tape_next_some.l0, if_pos (by omega), if_pos (by omega), rd_at ws a hlt, counts_f, c]
        simp only [Option.bind_some, if_true]
        rw [if_neg (by omega), tmod_nn hx.1, wadd (n := ws.length) (by omega) (by omega) (by omega)]
        simp [tape_some.f, e]

/-- What many numbers are. -/
def manyR (p : Int) (z : Bool) (ws : List Int) (a n : Nat) : List Int × List Int × Int × Int :=
  match tk p z n (ws.drop a) with
  | some (l, c) => (l, ws, ((a + c : Nat) : Int), 0)
  | none => ([], ws, (ws.length : Int), 9)
theorem tk_step {p : Int} {z : Bool} {ws : List Int} {x : Int} {l : List Int} {c : Nat} (n : Nat) (h : tk p z 1 ws = some (x :: l, c)) : tk p z (1 + n) ws = (tk p z n (ws.drop c)).map (fun q => (x :: q.1, c + q.2)) := by
  have hl : l = [] := by
    by_cases g : 1 ≤ cnt p z ws
    · obtain ⟨c', h1, _, _⟩ := tk_some 1 ws g
      rw [h1] at h
      simp only [Option.some.injEq, Prod.mk.injEq] at h
      have := congrArg List.length h.1
      simp at this
      have h2 : (List.take 1 (vals p z ws)).length ≤ 1 := List.length_take_le _ _
      rw [h.1] at h2
      simp at h2
      exact h2
    · rw [tk_none (p := p) (z := z) 1 ws (by omega)] at h; simp at h
  subst hl
  cases h2 : tk p z n (ws.drop c) with
  | some q =>
    obtain ⟨l2, c2⟩ := q
    rw [tk_split 1 n ws [x] l2 c c2 h h2]; rfl
  | none =>
    have g : cnt p z ws < 1 + n := by
      by_cases g : 1 + n ≤ cnt p z ws
      · exfalso
        obtain ⟨c', h3, _, h5⟩ := tk_some (p := p) (z := z) 1 ws (by omega)
        rw [h] at h3
        simp only [Option.some.injEq, Prod.mk.injEq] at h3
        obtain ⟨_, rfl⟩ := h3
        have h6 : n ≤ cnt p z (ws.drop c) := by rw [← vals_len, h5, List.length_drop, vals_len]; omega
        obtain ⟨_, h7, _⟩ := tk_some n _ h6
        rw [h7] at h2; simp at h2
      · omega
    rw [tk_none _ _ g]; rfl
theorem tk_cnt {p : Int} {z : Bool} {ws : List Int} {n : Nat} {q : List Int × Nat} (h : tk p z n ws = some q) : n ≤ cnt p z ws := by
  by_cases g : n ≤ cnt p z ws
  · exact g
  · rw [tk_none (p := p) (z := z) n ws (by omega)] at h; simp at h
theorem ev_several_all_l0 (p : Int) (h1 : 2 ≤ p) (h2 : p < 9223372036854775808) (ws : List Int) (hw : ∀ x ∈ ws, W64 x) (hl : (ws.length : Int) ≤ 65536) (N : Nat) (hN : N ≤ 8192) :
    ∀ (d i a : Nat) (acc : List Int), N - i = d → i ≤ N → acc.length = i → a ≤ ws.length → Ev (fun k => tape_several_all.l0 k p acc (N : Int) (i : Int) ws (a : Int))
      (match tk p false (N - i) (ws.drop a) with | some (l, c) => (acc ++ l, ws, ((a + c : Nat) : Int), 0) | none => ([], ws, (ws.length : Int), 9)) := by
  intro d
  induction d with
  | zero =>
    intro i a acc hd hi hacc ha
    rw [hd, tk_zero]
    refine Ev.step (f := fun _ => some (acc, ws, (a : Int), 0)) (fun k => by rw [tape_several_all.l0, if_neg (by omega)]) ?_
    simpa using Ev.now (acc, ws, (a : Int), (0 : Int))
  | succ d ih =>
    intro i a acc hd hi hacc ha
    have nx := ev_next_all p h1 h2 ws hw hl (a : Int) (ws.length - a) a rfl
    have e1 : N - i = 1 + d := by omega
    rw [e1]
    by_cases g : 1 ≤ cnt p false (ws.drop a)
    · obtain ⟨c, h3, h4, h5⟩ := tk_some 1 _ g
      have hv : 1 ≤ (vals p false (ws.drop a)).length := by rw [vals_len]; exact g
      obtain ⟨x, t, hxt⟩ : ∃ x t, vals p false (ws.drop a) = x :: t := by
        cases hh : vals p false (ws.drop a) with
        | nil => rw [hh] at hv; simp at hv
        | cons x t => exact ⟨x, t, rfl⟩
      rw [hxt] at h3
      simp only [List.take_succ_cons, List.take_zero] at h3
      have hf : fnd p false ws a = (x, ((a + c : Nat) : Int), true) := by unfold fnd; rw [h3]
      rw [hf] at nx
      rw [tk_step d h3, List.drop_drop]
      have hc : a + c ≤ ws.length := by rw [List.length_drop] at h4; omega
      have hrec := ih (i + 1) (a + c) (acc ++ [x]) (by omega) (by omega) (by simp [hacc]) hc
      rw [show N - (i + 1) = d by omega] at hrec
      refine Ev.step (f := fun k => (tape_next_all.f k p ws (a : Int)).bind fun b => if b.2.2 = true then (if acc.length < 17592186044416 then tape_several_all.l0 k p (acc ++ [b.1]) (N : Int) (wrap64 ((i : Int) + 1)) ws b.2.1 else none) else some ([], ws, b.2.1, 9)) (fun k => by rw [tape_several_all.l0, if_pos (by omega)]) ?_
      refine Ev.bind nx ?_
      simp only [if_true]
      rw [wadd (n := N) (by omega) (by omega) (by omega)]
      simp only [if_pos (show acc.length < 17592186044416 by omega)]
      refine Ev.congr (fun k => rfl) (?_ : Ev (fun k => tape_several_all.l0 k p (acc ++ [x]) (N : Int) ((i + 1 : Nat) : Int) ws ((a + c : Nat) : Int)) _)
      cases hh : tk p false d (ws.drop (a + c)) with
      | none => rw [hh] at hrec; simpa using hrec
      | some q =>
        obtain ⟨l2, c2⟩ := q
        rw [hh] at hrec
        simp only [Option.map_some]
        simp only [List.append_assoc, List.singleton_append] at hrec
        rw [Nat.add_assoc] at hrec
        exact hrec
    · have h3 := tk_none (p := p) (z := false) 1 (ws.drop a) (by omega)
      have hf : fnd p false ws a = (0, (ws.length : Int), false) := by unfold fnd; rw [h3]
      rw [hf] at nx
      rw [tk_none (1 + d) (ws.drop a) (by omega)]
      refine Ev.step (f := fun k => (tape_next_all.f k p ws (a : Int)).bind fun b => if b.2.2 = true then (if acc.length < 17592186044416 then tape_several_all.l0 k p (acc ++ [b.1]) (N : Int) (wrap64 ((i : Int) + 1)) ws b.2.1 else none) else some ([], ws, b.2.1, 9)) (fun k => by rw [tape_several_all.l0, if_pos (by omega)]) ?_
      refine Ev.bind nx ?_
      simpa using Ev.now (([] : List Int), ws, (ws.length : Int), (9 : Int))
theorem ev_several_some_l0 (p : Int) (h1 : 2 ≤ p) (h2 : p < 9223372036854775808) (ws : List Int) (hw : ∀ x ∈ ws, W64 x) (hl : (ws.length : Int) ≤ 65536) (N : Nat) (hN : N ≤ 8192) :
    ∀ (d i a : Nat) (acc : List Int), N - i = d → i ≤ N → acc.length = i → a ≤ ws.length → Ev (fun k => tape_several_some.l0 k p acc (N : Int) (i : Int) ws (a : Int))
      (match tk p true (N - i) (ws.drop a) with | some (l, c) => (acc ++ l, ws, ((a + c : Nat) : Int), 0) | none => ([], ws, (ws.length : Int), 9)) := by
  intro d
  induction d with
  | zero =>
    intro i a acc hd hi hacc ha
    rw [hd, tk_zero]
    refine Ev.step (f := fun _ => some (acc, ws, (a : Int), 0)) (fun k => by rw [tape_several_some.l0, if_neg (by omega)]) ?_
    simpa using Ev.now (acc, ws, (a : Int), (0 : Int))
  | succ d ih =>
    intro i a acc hd hi hacc ha
    have nx := ev_next_some p h1 h2 ws hw hl (a : Int) (ws.length - a) a rfl
    have e1 : N - i = 1 + d := by omega
    rw [e1]
    by_cases g : 1 ≤ cnt p true (ws.drop a)
    · obtain ⟨c, h3, h4, h5⟩ := tk_some 1 _ g
      have hv : 1 ≤ (vals p true (ws.drop a)).length := by rw [vals_len]; exact g
      obtain ⟨x, t, hxt⟩ : ∃ x t, vals p true (ws.drop a) = x :: t := by
        cases hh : vals p true (ws.drop a) with
        | nil => rw [hh] at hv; simp at hv
        | cons x t => exact ⟨x, t, rfl⟩
      rw [hxt] at h3
      simp only [List.take_succ_cons, List.take_zero] at h3
      have hf : fnd p true ws a = (x, ((a + c : Nat) : Int), true) := by unfold fnd; rw [h3]
      rw [hf] at nx
      rw [tk_step d h3, List.drop_drop]
      have hc : a + c ≤ ws.length := by rw [List.length_drop] at h4; omega
      have hrec := ih (i + 1) (a + c) (acc ++ [x]) (by omega) (by omega) (by simp [hacc]) hc
      rw [show N - (i + 1) = d by omega] at hrec
      refine Ev.step (f := fun k => (tape_next_some.f k p ws (a : Int)).bind fun b => if b.2.2 = true then (if acc.length < 17592186044416 then tape_several_some.l0 k p (acc ++ [b.1]) (N : Int) (wrap64 ((i : Int) + 1)) ws b.2.1 else none) else some ([], ws, b.2.1, 9)) (fun k => by rw [tape_several_some.l0, if_pos (by omega)]) ?_
      refine Ev.bind nx ?_
      simp only [if_true]
      rw [wadd (n := N) (by omega) (by omega) (by omega)]
      simp only [if_pos (show acc.length < 17592186044416 by omega)]
      refine Ev.congr (fun k => rfl) (?_ : Ev (fun k => tape_several_some.l0 k p (acc ++ [x]) (N : Int) ((i + 1 : Nat) : Int) ws ((a + c : Nat) : Int)) _)
      cases hh : tk p true d (ws.drop (a + c)) with
      | none => rw [hh] at hrec; simpa using hrec
      | some q =>
        obtain ⟨l2, c2⟩ := q
        rw [hh] at hrec
        simp only [Option.map_some]
        simp only [List.append_assoc, List.singleton_append] at hrec
        rw [Nat.add_assoc] at hrec
        exact hrec
    · have h3 := tk_none (p := p) (z := true) 1 (ws.drop a) (by omega)
      have hf : fnd p true ws a = (0, (ws.length : Int), false) := by unfold fnd; rw [h3]
      rw [hf] at nx
      rw [tk_none (1 + d) (ws.drop a) (by omega)]
      refine Ev.step (f := fun k => (tape_next_some.f k p ws (a : Int)).bind fun b => if b.2.2 = true then (if acc.length < 17592186044416 then tape_several_some.l0 k p (acc ++ [b.1]) (N : Int) (wrap64 ((i : Int) + 1)) ws b.2.1 else none) else some ([], ws, b.2.1, 9)) (fun k => by rw [tape_several_some.l0, if_pos (by omega)]) ?_
      refine Ev.bind nx ?_
      simpa using Ev.now (([] : List Int), ws, (ws.length : Int), (9 : Int))

/-- What Many and Other answer to anything. -/
def severalR (p : Int) (z : Bool) (ws : List Int) (a n : Int) : List Int × List Int × Int × Int :=
  if RightB p && TapeB ws a && (decide (0 ≤ n) && decide (n ≤ 8192)) then manyR p z ws a.toNat n.toNat else ([], ws, a, 1)
theorem ev_Many (p : Int) (ws : List Int) (a n : Int) (hw : ∀ x ∈ ws, W64 x) : Ev (fun k => tape_Many.f k p ws a n) (severalR p false ws a n) := by
  suffices h : Ev (fun k => tape_several_all.f k p ws a n) (severalR p false ws a n) from Ev.bind h (Ev.now _)
  unfold severalR
  have bad : Ev (fun k => tape_several_all.j0 k p n true ws a) ([], ws, a, 1) := Ev.step (f := fun _ => some _) (fun k => by rw [tape_several_all.j0, if_pos rfl]) (Ev.now _)
  refine Ev.congr (f := fun k => if (RightB p && TapeB ws a) = true then (if n < 0 then tape_several_all.j0 k p n true ws a else tape_several_all.j0 k p n (decide (n > 8192)) ws a) else tape_several_all.j0 k p n true ws a) (fun k => by unfold tape_several_all.f; rw [may_f]; rfl) ?_
  cases c : (RightB p && TapeB ws a) with
  | false => simpa using bad
  | true =>
    simp only [if_true, Bool.true_and]
    by_cases c1 : n < 0
    · simp only [if_pos c1]
      rw [if_neg (by simp; omega)]
      exact bad
    · simp only [if_neg c1]
      by_cases c2 : n > 8192
      · rw [decide_eq_true c2, if_neg (by simp; omega)]
        exact bad
      · rw [decide_eq_false c2, if_pos (by simp; omega)]
        obtain ⟨hp, ht⟩ := Bool.and_eq_true_iff.1 c
        obtain ⟨h1, h2⟩ := (right_iff p).1 hp
        obtain ⟨t1, t2, t3⟩ := (tape_iff ws a).1 ht
        obtain ⟨A, rfl⟩ := Int.eq_ofNat_of_zero_le t2
        obtain ⟨N, rfl⟩ := Int.eq_ofNat_of_zero_le (show 0 ≤ n by omega)
        have := ev_several_all_l0 p h1 h2 ws hw t1 N (by omega) N 0 A [] (by omega) (by omega) rfl (by omega)
        refine Ev.step (f := fun k => tape_several_all.l0 k p [] (N : Int) 0 ws (A : Int)) (fun k => by rw [tape_several_all.j0, if_neg (by decide)]) ?_
        unfold manyR
        simp only [Int.toNat_natCast, Nat.sub_zero, List.nil_append] at this ⊢
        exact this
theorem ev_Other (p : Int) (ws : List Int) (a n : Int) (hw : ∀ x ∈ ws, W64 x) : Ev (fun k => tape_Other.f k p ws a n) (severalR p true ws a n) := by
  suffices h : Ev (fun k => tape_several_some.f k p ws a n) (severalR p true ws a n) from Ev.bind h (Ev.now _)
  unfold severalR
  have bad : Ev (fun k => tape_several_some.j0 k p n true ws a) ([], ws, a, 1) := Ev.step (f := fun _ => some _) (fun k => by rw [tape_several_some.j0, if_pos rfl]) (Ev.now _)
  refine Ev.congr (f := fun k => if (RightB p && TapeB ws a) = true then (if n < 0 then tape_several_some.j0 k p n true ws a else tape_several_some.j0 k p n (decide (n > 8192)) ws a) else tape_several_some.j0 k p n true ws a) (fun k => by unfold tape_several_some.f; rw [may_f]; rfl) ?_
  cases c : (RightB p && TapeB ws a) with
  | false => simpa using bad
  | true =>
    simp only [if_true, Bool.true_and]
    by_cases c1 : n < 0
    · simp only [if_pos c1]
      rw [if_neg (by simp; omega)]
      exact bad
    · simp only [if_neg c1]
      by_cases c2 : n > 8192
      · rw [decide_eq_true c2, if_neg (by simp; omega)]
        exact bad
      · rw [decide_eq_false c2, if_pos (by simp; omega)]
        obtain ⟨hp, ht⟩ := Bool.and_eq_true_iff.1 c
        obtain ⟨h1, h2⟩ := (right_iff p).1 hp
        obtain ⟨t1, t2, t3⟩ := (tape_iff ws a).1 ht
        obtain ⟨A, rfl⟩ := Int.eq_ofNat_of_zero_le t2
        obtain ⟨N, rfl⟩ := Int.eq_ofNat_of_zero_le (show 0 ≤ n by omega)
        have := ev_several_some_l0 p h1 h2 ws hw t1 N (by omega) N 0 A [] (by omega) (by omega) rfl (by omega)
        refine Ev.step (f := fun k => tape_several_some.l0 k p [] (N : Int) 0 ws (A : Int)) (fun k => by rw [tape_several_some.j0, if_neg (by decide)]) ?_
        unfold manyR
        simp only [Int.toNat_natCast, Nat.sub_zero, List.nil_append] at this ⊢
        exact this

def leftR (p : Int) (ws : List Int) (a : Int) : Int := if RightB p && TapeB ws a then (cnt p false (ws.drop a.toNat) : Int) else 0
theorem good_false (p w : Int) : good p false w = cntB p w := by simp [good]
theorem left_l0 (p : Int) (ws : List Int) (hl : (ws.length : Int) ≤ 65536) : ∀ (d i : Nat) (m : Int), ws.length - i = d → i ≤ ws.length → 0 ≤ m → m ≤ i → Ev (fun k => tape_Left.l0 k p m ws (ws.length : Int) (i : Int)) (m + (cnt p false (ws.drop i) : Int)) := by
  intro d
  induction d with
  | zero =>
    intro i m hd hi h0 hm
    rw [List.drop_of_length_le (by omega)]
    refine Ev.step (f := fun _ => some m) (fun k => by rw [tape_Left.l0, if_neg (by omega)]) ?_
    simpa [cnt] using Ev.now m
  | succ d ih =>
    intro i m hd hi h0 hm
    have hlt : i < ws.length := by omega
    have e1 : wrap64 ((i : Int) + 1) = ((i + 1 : Nat) : Int) := wadd (n := ws.length) (by omega) (by omega) (by omega)
    have e2 : wrap64 (m + 1) = m + 1 := iw_of (by omega) (by omega)
    rw [drop_at ws i hlt]
    cases c : cntB p ws[i] with
    | false =>
      rw [cnt_bad (by rw [good_false]; exact c)]
      refine Ev.step (fun k => ?_) (ih (i + 1) m (by omega) (by omega) h0 (by omega))
      rw [tape_Left.l0, if_pos (by omega), if_pos (by omega), if_pos (by omega), rd_at ws i hlt, counts_f, c, e1]
      rfl
    | true =>
      rw [cnt_good (by rw [good_false]; exact c)]
      have := ih (i + 1) (m + 1) (by omega) (by omega) (by omega) (by omega)
      rw [show m + ((cnt p false (ws.drop (i + 1)) + 1 : Nat) : Int) = m + 1 + (cnt p false (ws.drop (i + 1)) : Int) by omega]
      refine Ev.step (fun k => ?_) this
      rw [tape_Left.l0, if_pos (by omega), if_pos (by omega), if_pos (by omega), rd_at ws i hlt, counts_f, c, e1, e2]
      rfl
theorem ev_Left (p : Int) (ws : List Int) (a : Int) : Ev (fun k => tape_Left.f k p ws a) (leftR p ws a) := by
  refine Ev.congr (f := fun k => if (RightB p && TapeB ws a) = true then (if 0 ≤ a then (if a ≤ (ws.length : Int) then tape_Left.l0 k p 0 (ws.drop a.toNat) ((ws.drop a.toNat).length : Int) 0 else none) else none) else some 0) (fun k => by unfold tape_Left.f; rw [may_f]; rfl) ?_
  unfold leftR
  cases c : (RightB p && TapeB ws a) with
  | false => simpa using Ev.now (0 : Int)
  | true =>
    obtain ⟨hp, ht⟩ := Bool.and_eq_true_iff.1 c
    obtain ⟨t1, t2, t3⟩ := (tape_iff ws a).1 ht
    simp only [if_true, if_pos t2, if_pos t3]
    have := left_l0 p (ws.drop a.toNat) (by rw [List.length_drop]; omega) (ws.drop a.toNat).length 0 0 (by omega) (by omega) (by omega) (by omega)
    simpa using this
end Go.Proofs.Ytdfhkdddlfmceaa.PfT
