/- Layer 10: what is drawn of a right tape; the fixed answers of its statements. -/
import Derived.Test.YtdfhkdddlfmceaaX1
import Derived.Test.YtdfhkdddlfmceaaX3
import Derived.Test.YtdfhkdddlfmceaaPfT
namespace Go.Proofs.Ytdfhkdddlfmceaa.PfU
open Go.RowKit Go.Proofs.YtdfhkdddlfmceaaW.PrintWords Go.Proofs.YtdfhkdddlfmceaaW.PrintLast Go.Proofs.YtdfhkdddlfmceaaW.PrintMore Go.Proofs.Ytdfhkdddlfmceaa.X Go.Proofs.Ytdfhkdddlfmceaa.PfA Go.Proofs.Ytdfhkdddlfmceaa.PfC Go.Proofs.Ytdfhkdddlfmceaa.PfT
set_option linter.unusedVariables false
set_option linter.unusedSimpArgs false
/-- What is drawn, as long as there are numbers. -/
theorem several_ok {p : Int} {z : Bool} {ws : List Int} {a n : Nat} (hp : RightB p = true) (ht : TapeB ws a = true) (hn : n ≤ 8192) (h : n ≤ cnt p z (ws.drop a)) :
    ∃ c, severalR p z ws a n = ((vals p z (ws.drop a)).take n, ws, ((a + c : Nat) : Int), 0) ∧ tk p z n (ws.drop a) = some ((vals p z (ws.drop a)).take n, c) ∧ a + c ≤ ws.length ∧ vals p z (ws.drop (a + c)) = (vals p z (ws.drop a)).drop n := by
  obtain ⟨c, h1, h2, h3⟩ := tk_some n _ h
  have ha : a ≤ ws.length := by have := (tape_iff ws a).1 ht; omega
  refine ⟨c, ?_, h1, by rw [List.length_drop] at h2; omega, by rw [← List.drop_drop]; exact h3⟩
  unfold severalR manyR
  rw [hp, ht, if_pos (by simp; omega)]
  simp only [Int.toNat_natCast, h1]
theorem several_end {p : Int} {z : Bool} {ws : List Int} {a n : Nat} (hp : RightB p = true) (ht : TapeB ws a = true) (hn : n ≤ 8192) (h : cnt p z (ws.drop a) < n) :
    severalR p z ws a n = ([], ws, (ws.length : Int), 9) := by
  have h1 := tk_none (p := p) (z := z) n (ws.drop a) h
  unfold severalR manyR
  rw [hp, ht, if_pos (by simp; omega)]
  simp only [Int.toNat_natCast, h1]
theorem left_eq {p : Int} {ws : List Int} {a : Nat} (hp : RightB p = true) (ht : TapeB ws a = true) : leftR p ws a = (cnt p false (ws.drop a) : Int) := by
  unfold leftR
  rw [hp, ht]; simp
theorem cnt_le {p : Int} {z : Bool} (ws : List Int) : cnt p z ws ≤ ws.length := List.countP_le_length
theorem le60 {n : Nat} (h : n ≤ 60) : n ≤ maxLen := Nat.le_trans h (by decide)
theorem tmod_cut (C n j : Nat) (hC : C < 256) (hn : n ≤ 60) (hj : j = C % (n + 1)) : Int.tmod (wrap64 (C : Int)) (wrap64 ((n : Int) + 1)) = (j : Int) := by
  rw [hj, iw_of (n := (C : Int)) (by omega) (by omega), iw_of (n := (n : Int) + 1) (by omega) (by omega), tmod_nn (by omega)]
  push_cast; rfl
theorem sub_w (n j : Nat) (h : j ≤ n) (hn : n ≤ 60) : wrap64 ((n : Int) - (j : Int)) = ((n - j : Nat) : Int) := by
  rw [iw_of (by omega) (by omega)]; omega
theorem add_w (n : Nat) (hn : n ≤ 8192) : wrap64 ((n : Int) + 1) = ((n + 1 : Nat) : Int) := iw_of (by omega) (by omega)
theorem take60 {l : List Int} (j : Nat) (h : l.length ≤ 60) : (l.take j).length ≤ 60 := by rw [List.length_take]; omega
theorem drop60 {l : List Int} (j : Nat) (h : l.length ≤ 60) : (l.drop j).length ≤ 60 := by rw [List.length_drop]; omega
theorem lt44 {n : Nat} (h : n ≤ 60) : n < 17592186044416 := by omega
theorem lt44b {a b : Nat} (h : a ≤ 60) (h' : b ≤ 60) : a + b < 17592186044416 := by omega
theorem ne_succ (n : Nat) : ¬ ((n + 1 : Nat) : Int) = 0 := by omega
theorem lt_256 {C : Nat} (h : (C : Int) < 256) : C < 256 := by omega
theorem cut_le (C n : Nat) : C % (n + 1) ≤ n := by have := Nat.mod_lt C (show 0 < n + 1 by omega); omega
theorem awake_ev : Ev (fun k => affidavitlaw10_awake.f k) true := by
  have hw : ∀ x ∈ ([18446744073709551615, 7, 3, 8] : List Int), W64 x := by intro x hx; simp at hx; rcases hx with rfl | rfl | rfl | rfl <;> exact ⟨by decide, by decide⟩
  have g0 : ∀ z, good 3 z 18446744073709551615 = false := by decide
  have g1 : ∀ z, good 3 z 7 = true := by decide
  have g2 : good 3 false 3 = true := by decide
  have g3 : good 3 true 3 = false := by decide
  have g4 : ∀ z, good 3 z 8 = true := by decide
  have hd : Ev (fun k => tape_Draw.f k 3 [18446744073709551615, 7, 3, 8] 0) (1, [18446744073709551615, 7, 3, 8], 2, 0) := by
    have nx := ev_next_all 3 (by decide) (by decide) _ hw (by decide) 0 4 0 rfl
    rw [show fnd 3 false [18446744073709551615, 7, 3, 8] 0 = (1, 2, true) by decide] at nx
    refine Ev.congr (f := fun k => (tape_next_all.f k 3 [18446744073709551615, 7, 3, 8] 0).bind fun b => if b.2.2 = true then some (b.1, [18446744073709551615, 7, 3, 8], b.2.1, 0) else some (0, [18446744073709551615, 7, 3, 8], b.2.1, 9)) (fun k => by unfold tape_Draw.f; rw [may_f, show (RightB 3 && TapeB [18446744073709551615, 7, 3, 8] 0) = true by decide]; rfl) ?_
    exact Ev.bind nx (by simpa using Ev.now _)
  have ho := ev_Other 3 [18446744073709551615, 7, 3, 8] 2 1 hw
  have hm := ev_Many 3 [18446744073709551615, 7, 3, 8] 2 3 hw
  rw [show severalR 3 true [18446744073709551615, 7, 3, 8] 2 1 = ([2], [18446744073709551615, 7, 3, 8], 4, 0) by decide] at ho
  rw [show severalR 3 false [18446744073709551615, 7, 3, 8] 2 3 = ([], [18446744073709551615, 7, 3, 8], 4, 9) by decide] at hm
  have hl := ev_Left 3 [18446744073709551615, 7, 3, 8] 0
  rw [show leftR 3 [18446744073709551615, 7, 3, 8] 0 = 3 by decide] at hl
  unfold affidavitlaw10_awake.f
  simp only [Option.bind_some]
  refine Ev.bind hd (Ev.bind ho (Ev.bind hm ?_))
  simp only [if_true, List.length_singleton, tape_f, counts_f, Option.bind_some]
  refine Ev.congr (f := fun k => (tape_Left.f k 3 [18446744073709551615, 7, 3, 8] 0).bind fun t => if t = 3 then some true else some false) (fun k => ?_) (Ev.bind hl (by simpa using Ev.now true))
  simp [rd, show TapeB [18446744073709551615, 7, 3, 8] 0 = true by decide, show cntB 3 18446744073709551615 = false by decide]
end Go.Proofs.Ytdfhkdddlfmceaa.PfU
