/- Pure facts of layer 10: which words count, and what is drawn. Conditions: none. -/
import Derived.Test.YtdfhkdddlfmceaaWWords
namespace Go.Proofs.Ytdfhkdddlfmceaa.TM
open Go Go.RowKit
set_option linter.unusedVariables false
set_option linter.defProp false
set_option linter.unusedSimpArgs false

/-- Does a word count? -/
def cntB (p w : Int) : Bool := RightB p && decide (w ≤ 18446744073709551615 - 18446744073709551616 % p)
/-- Does it count, and will its number do (z: 0 won't)? -/
def good (p : Int) (z : Bool) (w : Int) : Bool := cntB p w && (!z || (w % p != 0))
/-- So many numbers, and how many words they took. -/
def tk (p : Int) (z : Bool) : Nat → List Int → Option (List Int × Nat)
  | 0, _ => some ([], 0)
  | _ + 1, [] => none
  | n + 1, w :: r => if good p z w then (tk p z n r).map (fun q => (w % p :: q.1, q.2 + 1)) else (tk p z (n + 1) r).map (fun q => (q.1, q.2 + 1))
def cnt (p : Int) (z : Bool) (ws : List Int) : Nat := ws.countP (good p z)
/-- All numbers that can be drawn. -/
def vals (p : Int) (z : Bool) (ws : List Int) : List Int := (ws.filter (good p z)).map (· % p)

section
variable {p : Int} {z : Bool}
theorem tk_zero (ws : List Int) : tk p z 0 ws = some ([], 0) := by cases ws <;> rfl
theorem tk_good {w : Int} {r : List Int} (n : Nat) (h : good p z w = true) : tk p z (n + 1) (w :: r) = (tk p z n r).map (fun q => (w % p :: q.1, q.2 + 1)) := by rw [tk, if_pos h]
theorem tk_bad {w : Int} {r : List Int} (n : Nat) (h : good p z w = false) : tk p z (n + 1) (w :: r) = (tk p z (n + 1) r).map (fun q => (q.1, q.2 + 1)) := by rw [tk, if_neg (by rw [h]; decide)]
theorem cnt_good {w : Int} {r : List Int} (h : good p z w = true) : cnt p z (w :: r) = cnt p z r + 1 := by simp [cnt, h]
theorem cnt_bad {w : Int} {r : List Int} (h : good p z w = false) : cnt p z (w :: r) = cnt p z r := by simp [cnt, h]
theorem vals_good {w : Int} {r : List Int} (h : good p z w = true) : vals p z (w :: r) = w % p :: vals p z r := by simp [vals, h]
theorem vals_bad {w : Int} {r : List Int} (h : good p z w = false) : vals p z (w :: r) = vals p z r := by simp [vals, h]
theorem vals_len (ws : List Int) : (vals p z ws).length = cnt p z ws := by simp [vals, cnt, List.countP_eq_length_filter]

theorem tk_some (n : Nat) : ∀ ws : List Int, n ≤ cnt p z ws → ∃ c, tk p z n ws = some ((vals p z ws).take n, c) ∧ c ≤ ws.length ∧ vals p z (ws.drop c) = (vals p z ws).drop n := by
  intro ws
  induction ws generalizing n with
  | nil =>
    intro h
    obtain rfl : n = 0 := by simpa [cnt] using h
    exact ⟨0, tk_zero _, Nat.le_refl _, rfl⟩
  | cons w r ih =>
    intro h
    cases n with
    | zero => exact ⟨0, by rw [tk_zero]; simp, Nat.zero_le _, by simp⟩
    | succ n =>
      cases g : good p z w with
      | true =>
        rw [cnt_good g] at h
        obtain ⟨c, h1, h2, h3⟩ := ih n (by omega)
        refine ⟨c + 1, by rw [tk_good n g, h1, vals_good g]; simp, by simp; omega, ?_⟩
        rw [vals_good g]; simpa using h3
      | false =>
        rw [cnt_bad g] at h
        obtain ⟨c, h1, h2, h3⟩ := ih (n + 1) (by omega)
        refine ⟨c + 1, by rw [tk_bad n g, h1, vals_bad g]; simp, by simp; omega, ?_⟩
        rw [vals_bad g]; simpa using h3
theorem tk_none (n : Nat) : ∀ ws : List Int, cnt p z ws < n → tk p z n ws = none := by
  intro ws
  induction ws generalizing n with
  | nil =>
    intro h
    cases n with
    | zero => omega
    | succ n => rfl
  | cons w r ih =>
    intro h
    cases n with
    | zero => omega
    | succ n =>
      cases g : good p z w with
      | true => rw [cnt_good g] at h; rw [tk_good n g, ih n (by omega)]; rfl
      | false => rw [cnt_bad g] at h; rw [tk_bad n g, ih (n + 1) (by omega)]; rfl
/-- Drawn in two parts. -/
theorem tk_split (m n : Nat) : ∀ (ws : List Int) (l1 l2 : List Int) (c1 c2 : Nat), tk p z m ws = some (l1, c1) → tk p z n (ws.drop c1) = some (l2, c2) → tk p z (m + n) ws = some (l1 ++ l2, c1 + c2) := by
  intro ws
  induction ws generalizing m with
  | nil =>
    intro l1 l2 c1 c2 h1 h2
    cases m with
    | zero =>
      rw [tk_zero] at h1
      simp only [Option.some.injEq, Prod.mk.injEq] at h1
      obtain ⟨rfl, rfl⟩ := h1
      simpa using h2
    | succ m => simp [tk] at h1
  | cons w r ih =>
    intro l1 l2 c1 c2 h1 h2
    cases m with
    | zero =>
      rw [tk_zero] at h1
      simp only [Option.some.injEq, Prod.mk.injEq] at h1
      obtain ⟨rfl, rfl⟩ := h1
      simpa using h2
    | succ m =>
      cases g : good p z w with
      | true =>
        rw [tk_good m g, Option.map_eq_some_iff] at h1
        obtain ⟨⟨l, c⟩, h3, h4⟩ := h1
        simp only [Prod.mk.injEq] at h4
        obtain ⟨rfl, rfl⟩ := h4
        have := ih m l l2 c c2 h3 (by simpa using h2)
        rw [Nat.add_right_comm, tk_good (m + n) g, this]
        simp; omega
      | false =>
        rw [tk_bad m g, Option.map_eq_some_iff] at h1
        obtain ⟨⟨l, c⟩, h3, h4⟩ := h1
        simp only [Prod.mk.injEq] at h4
        obtain ⟨rfl, rfl⟩ := h4
        have := ih (m + 1) l l2 c c2 h3 (by simpa using h2)
        rw [Nat.add_right_comm] at this ⊢
        rw [tk_bad (m + n) g, this]
        simp; omega
/-- What stands behind doesn't matter. -/
theorem tk_more (n : Nat) : ∀ (ws b : List Int) (q : List Int × Nat), tk p z n ws = some q → tk p z n (ws ++ b) = some q := by
  intro ws b
  induction ws generalizing n with
  | nil =>
    intro q h
    cases n with
    | zero => rw [tk_zero] at h ⊢; exact h
    | succ n => simp [tk] at h
  | cons w r ih =>
    intro q h
    cases n with
    | zero => rw [tk_zero] at h ⊢; exact h
    | succ n =>
      cases g : good p z w with
      | true =>
        rw [tk_good n g, Option.map_eq_some_iff] at h
        obtain ⟨q', h1, h2⟩ := h
        rw [List.cons_append, tk_good n g, ih n q' h1, Option.map_some, h2]
      | false =>
        rw [tk_bad n g, Option.map_eq_some_iff] at h
        obtain ⟨q', h1, h2⟩ := h
        rw [List.cons_append, tk_bad n g, ih (n + 1) q' h1, Option.map_some, h2]
theorem vals_in (hp : 0 < p) (ws : List Int) : ∀ x ∈ vals p z ws, In p x := by
  intro x hx
  simp only [vals, List.mem_map] at hx
  obtain ⟨w, _, rfl⟩ := hx
  exact emod_in _ hp
/-- The numbers but 0 are those of all that aren't 0. -/
theorem vals_some (ws : List Int) : vals p true ws = (vals p false ws).filter (· != 0) := by
  induction ws with
  | nil => rfl
  | cons w r ih =>
    cases c : cntB p w with
    | false =>
      have g1 : good p true w = false := by simp [good, c]
      have g2 : good p false w = false := by simp [good, c]
      rw [vals_bad g1, vals_bad g2, ih]
    | true =>
      have g2 : good p false w = true := by simp [good, c]
      rw [vals_good g2, List.filter_cons]
      by_cases e : w % p = 0
      · have g1 : good p true w = false := by simp [good, c, e]
        rw [vals_bad g1, ih]; simp [e]
      · have g1 : good p true w = true := by simp [good, c, e]
        rw [vals_good g1, ih]; simp [e]
/-- Words that don't count, slipped in. -/
def mix (b : Int) (ws : List Int) : List Int := ws.flatMap fun w => [b, w]
theorem mix_nil (b : Int) : mix b [] = [] := rfl
theorem mix_cons (b w : Int) (r : List Int) : mix b (w :: r) = b :: w :: mix b r := rfl
theorem mix_app (b : Int) (l m : List Int) : mix b (l ++ m) = mix b l ++ mix b m := List.flatMap_append
theorem mix_mem {b x : Int} {l : List Int} (h : x ∈ mix b l) : ∃ w, w ∈ l ∧ (x = b ∨ x = w) := by
  simp only [mix, List.mem_flatMap] at h
  obtain ⟨w, h1, h2⟩ := h
  simp only [List.mem_cons, List.not_mem_nil, or_false] at h2
  exact ⟨w, h1, h2⟩
theorem vals_mix {b : Int} (hb : cntB p b = false) (ws : List Int) : vals p z (mix b ws) = vals p z ws := by
  induction ws with
  | nil => rfl
  | cons w r ih =>
    have g : good p z b = false := by simp [good, hb]
    rw [show mix b (w :: r) = b :: w :: mix b r from rfl, vals_bad g]
    cases g2 : good p z w with
    | true => rw [vals_good g2, vals_good g2, ih]
    | false => rw [vals_bad g2, vals_bad g2, ih]
end

theorem over_bd (p : Int) (h1 : 2 ≤ p) : 0 ≤ 18446744073709551616 % p ∧ 18446744073709551616 % p < p := ⟨Int.emod_nonneg _ (by omega), Int.emod_lt_of_pos _ (by omega)⟩
def TapeB (ws : List Int) (at_ : Int) : Bool := decide ((ws.length : Int) ≤ 65536) && (decide (0 ≤ at_) && decide (at_ ≤ (ws.length : Int)))
theorem tape_iff (ws : List Int) (a : Int) : TapeB ws a = true ↔ (ws.length : Int) ≤ 65536 ∧ 0 ≤ a ∧ a ≤ (ws.length : Int) := by simp [TapeB]
theorem drop_at {α : Type} (ws : List α) (a : Nat) (h : a < ws.length) : ws.drop a = ws[a] :: ws.drop (a + 1) := List.drop_eq_getElem_cons h
def fnd (p : Int) (z : Bool) (ws : List Int) (a : Nat) : Int × Int × Bool :=
  match tk p z 1 (ws.drop a) with
  | some (x :: _, c) => (x, ((a + c : Nat) : Int), true)
  | _ => (0, (ws.length : Int), false)
theorem fnd_end {p : Int} {z : Bool} {ws : List Int} {a : Nat} (h : ws.length ≤ a) : fnd p z ws a = (0, (ws.length : Int), false) := by
  unfold fnd
  rw [List.drop_of_length_le h]; rfl
theorem fnd_good {p : Int} {z : Bool} {ws : List Int} {a : Nat} (h : a < ws.length) (g : good p z ws[a] = true) : fnd p z ws a = (ws[a] % p, ((a + 1 : Nat) : Int), true) := by
  unfold fnd
  rw [drop_at ws a h, tk_good 0 g, tk_zero]; rfl
theorem fnd_bad {p : Int} {z : Bool} {ws : List Int} {a : Nat} (h : a < ws.length) (g : good p z ws[a] = false) : fnd p z ws a = fnd p z ws (a + 1) := by
  unfold fnd
  rw [drop_at ws a h, tk_bad 0 g]
  cases tk p z 1 (ws.drop (a + 1)) with
  | none => rfl
  | some q =>
    obtain ⟨l, c⟩ := q
    cases l with
    | nil => rfl
    | cons x l => simp; omega
def manyR (p : Int) (z : Bool) (ws : List Int) (a n : Nat) : List Int × List Int × Int × Int :=
  match tk p z n (ws.drop a) with
  | some (l, c) => (l, ws, ((a + c : Nat) : Int), 0)
  | none => ([], ws, (ws.length : Int), 9)
theorem tk_step {p : Int} {z : Bool} {ws : List Int} {x : Int} {l : List Int} {c : Nat} (n : Nat) (h : tk p z 1 ws = some (x :: l, c)) : tk p z (1 + n) ws = (tk p z n (ws.drop c)).map (fun q => (x :: q.1, c + q.2)) := by
  have hl : l = [] := by
    by_cases g : 1 ≤ cnt p z ws
    · obtain ⟨c', h1, _, _⟩ := tk_some 1 ws g
      rw [h1] at h
      simp only [Option.some.injEq, Prod.mk.injEq] at h
      have := congrArg List.length h.1
      simp at this
      have h2 : (List.take 1 (vals p z ws)).length ≤ 1 := List.length_take_le _ _
      rw [h.1] at h2
      simp at h2
      exact h2
    · rw [tk_none (p := p) (z := z) 1 ws (by omega)] at h; simp at h
  subst hl
  cases h2 : tk p z n (ws.drop c) with
  | some q =>
    obtain ⟨l2, c2⟩ := q
    rw [tk_split 1 n ws [x] l2 c c2 h h2]; rfl
  | none =>
    have g : cnt p z ws < 1 + n := by
      by_cases g : 1 + n ≤ cnt p z ws
      · exfalso
        obtain ⟨c', h3, _, h5⟩ := tk_some (p := p) (z := z) 1 ws (by omega)
        rw [h] at h3
        simp only [Option.some.injEq, Prod.mk.injEq] at h3
        obtain ⟨_, rfl⟩ := h3
        have h6 : n ≤ cnt p z (ws.drop c) := by rw [← vals_len, h5, List.length_drop, vals_len]; omega
        obtain ⟨_, h7, _⟩ := tk_some n _ h6
        rw [h7] at h2; simp at h2
      · omega
    rw [tk_none _ _ g]; rfl
theorem tk_cnt {p : Int} {z : Bool} {ws : List Int} {n : Nat} {q : List Int × Nat} (h : tk p z n ws = some q) : n ≤ cnt p z ws := by
  by_cases g : n ≤ cnt p z ws
  · exact g
  · rw [tk_none (p := p) (z := z) n ws (by omega)] at h; simp at h
def severalR (p : Int) (z : Bool) (ws : List Int) (a n : Int) : List Int × List Int × Int × Int :=
  if RightB p && TapeB ws a && (decide (0 ≤ n) && decide (n ≤ 8192)) then manyR p z ws a.toNat n.toNat else ([], ws, a, 1)
def leftR (p : Int) (ws : List Int) (a : Int) : Int := if RightB p && TapeB ws a then (cnt p false (ws.drop a.toNat) : Int) else 0
theorem good_false (p w : Int) : good p false w = cntB p w := by simp [good]
theorem several_ok {p : Int} {z : Bool} {ws : List Int} {a n : Nat} (hp : RightB p = true) (ht : TapeB ws a = true) (hn : n ≤ 8192) (h : n ≤ cnt p z (ws.drop a)) :
    ∃ c, severalR p z ws a n = ((vals p z (ws.drop a)).take n, ws, ((a + c : Nat) : Int), 0) ∧ tk p z n (ws.drop a) = some ((vals p z (ws.drop a)).take n, c) ∧ a + c ≤ ws.length ∧ vals p z (ws.drop (a + c)) = (vals p z (ws.drop a)).drop n := by
  obtain ⟨c, h1, h2, h3⟩ := tk_some n _ h
  have ha : a ≤ ws.length := by have := (tape_iff ws a).1 ht; omega
  refine ⟨c, ?_, h1, by rw [List.length_drop] at h2; omega, by rw [← List.drop_drop]; exact h3⟩
  unfold severalR manyR
  rw [hp, ht, if_pos (by simp; omega)]
  simp only [Int.toNat_natCast, h1]
theorem several_end {p : Int} {z : Bool} {ws : List Int} {a n : Nat} (hp : RightB p = true) (ht : TapeB ws a = true) (hn : n ≤ 8192) (h : cnt p z (ws.drop a) < n) :
    severalR p z ws a n = ([], ws, (ws.length : Int), 9) := by
  have h1 := tk_none (p := p) (z := z) n (ws.drop a) h
  unfold severalR manyR
  rw [hp, ht, if_pos (by simp; omega)]
  simp only [Int.toNat_natCast, h1]
theorem left_eq {p : Int} {ws : List Int} {a : Nat} (hp : RightB p = true) (ht : TapeB ws a = true) : leftR p ws a = (cnt p false (ws.drop a) : Int) := by
  unfold leftR
  rw [hp, ht]; simp
theorem cnt_le {p : Int} {z : Bool} (ws : List Int) : cnt p z ws ≤ ws.length := List.countP_le_length
theorem take60 {l : List Int} (j : Nat) (h : l.length ≤ 60) : (l.take j).length ≤ 60 := by rw [List.length_take]; omega
theorem drop60 {l : List Int} (j : Nat) (h : l.length ≤ 60) : (l.drop j).length ≤ 60 := by rw [List.length_drop]; omega
theorem lt44 {n : Nat} (h : n ≤ 60) : n < 17592186044416 := by omega
theorem lt44b {a b : Nat} (h : a ≤ 60) (h' : b ≤ 60) : a + b < 17592186044416 := by omega
theorem ne_succ (n : Nat) : ¬ ((n + 1 : Nat) : Int) = 0 := by omega
theorem lt_256 {C : Nat} (h : (C : Int) < 256) : C < 256 := by omega
theorem cut_le (C n : Nat) : C % (n + 1) ≤ n := by have := Nat.mod_lt C (show 0 < n + 1 by omega); omega
def drawR (p : Int) (z : Bool) (ws : List Int) (a : Nat) : Int × List Int × Int × Int :=
  if (fnd p z ws a).2.2 = true then ((fnd p z ws a).1, ws, (fnd p z ws a).2.1, 0) else (0, ws, (fnd p z ws a).2.1, 9)
section
variable {p : Int} {z : Bool} {ws : List Int} {a : Nat}
theorem drawR_end (h : ws.length ≤ a) : drawR p z ws a = (0, ws, (ws.length : Int), 9) := by unfold drawR; rw [fnd_end h]; rfl
theorem drawR_good (h : a < ws.length) (g : good p z ws[a] = true) : drawR p z ws a = (ws[a] % p, ws, ((a + 1 : Nat) : Int), 0) := by unfold drawR; rw [fnd_good h g]; rfl
theorem drawR_bad (h : a < ws.length) (g : good p z ws[a] = false) : drawR p z ws a = drawR p z ws (a + 1) := by unfold drawR; rw [fnd_bad h g]
end
def oneR (p : Int) (ws : List Int) (a : Int) : Int × List Int × Int × Int := if RightB p && TapeB ws a then drawR p false ws a.toNat else (0, ws, a, 1)
theorem over_eq {p : Int} (h1 : 2 ≤ p) : (18446744073709551615 % p + 1) % p = 18446744073709551616 % p := by
  rw [am_l]; rfl
theorem rcounts_eq {p w : Int} (h1 : 2 ≤ p) (h2 : p < 9223372036854775808) (hw : W64 w) : decide (IntKind.u64.wrap (w - w % p) ≤ IntKind.u64.wrap (IntKind.u64.wrap (w - w % p) + IntKind.u64.wrap (p - 1))) = decide (w ≤ 18446744073709551615 - 18446744073709551616 % p) := by
  obtain ⟨w0, w1⟩ := hw
  have hb := over_bd p h1
  have hm0 := Int.emod_nonneg w (show p ≠ 0 by omega)
  have hm1 := Int.emod_lt_of_pos w (show 0 < p by omega)
  have hd := Int.emod_add_mul_ediv w p
  have hD := Int.emod_add_mul_ediv 18446744073709551616 p
  have hq0 : 0 ≤ p * (w / p) := Int.mul_nonneg (by omega) (Int.ediv_nonneg w0 (by omega))
  rw [uw_of (n := w - w % p) (by omega) (by omega), uw_of (n := p - 1) (by omega) (by omega)]
  rw [decide_eq_decide, uw]
  constructor
  · intro hh
    have h3 : w - w % p + (p - 1) < 18446744073709551616 := by
      rcases Int.lt_or_le (w - w % p + (p - 1)) 18446744073709551616 with g | g
      · exact g
      · exfalso; omega
    -- so the row's number is below the rows that are whole
    rcases Int.lt_or_le (w / p) (18446744073709551616 / p) with g | g
    · have h4 : p * (w / p + 1) ≤ p * (18446744073709551616 / p) := Int.mul_le_mul_of_nonneg_left (by omega) (by omega)
      rw [Int.mul_add, Int.mul_one] at h4
      omega
    · have h4 : p * (18446744073709551616 / p) ≤ p * (w / p) := Int.mul_le_mul_of_nonneg_left g (by omega)
      have h5 : w / p ≤ 18446744073709551616 / p := by
        rcases Int.lt_or_le (18446744073709551616 / p) (w / p) with g2 | g2
        · have h6 : p * (18446744073709551616 / p + 1) ≤ p * (w / p) := Int.mul_le_mul_of_nonneg_left (by omega) (by omega)
          rw [Int.mul_add, Int.mul_one] at h6
          omega
        · exact g2
      have h6 : w / p = 18446744073709551616 / p := by omega
      rw [h6] at hd
      omega
  · intro hh
    have h3 : w / p < 18446744073709551616 / p := by
      rcases Int.lt_or_le (w / p) (18446744073709551616 / p) with g | g
      · exact g
      · have h4 : p * (18446744073709551616 / p) ≤ p * (w / p) := Int.mul_le_mul_of_nonneg_left g (by omega)
        omega
    have h4 : p * (w / p + 1) ≤ p * (18446744073709551616 / p) := Int.mul_le_mul_of_nonneg_left (by omega) (by omega)
    rw [Int.mul_add, Int.mul_one] at h4
    rw [Int.emod_eq_of_lt (a := w - w % p + (p - 1)) (by omega) (by omega)]
    omega
end Go.Proofs.Ytdfhkdddlfmceaa.TM
