/- Walks of functions that the given law reaches: each comes to what its plain twin says. Written by xprint.py, a program of this claim's session; Lean checks it. -/
import Derived.Test.YtdfhkdddlfmceaaX0
import Derived.Test.YtdfhkdddlfmceaaX4
import Derived.Test.YtdfhkdddlfmceaaX19
namespace Go.Proofs.Ytdfhkdddlfmceaa.X
open Go.RowKit Go.Proofs.YtdfhkdddlfmceaaW.PrintWords Go.Proofs.YtdfhkdddlfmceaaW.PrintLast Go.Proofs.YtdfhkdddlfmceaaW.PrintMore
attribute [local go_sem] max2_int min2_int max_two min_two max_three min_three max_four min_four   -- for this text's walks alone
set_option linter.unusedVariables false
set_option linter.unusedSimpArgs false

/-! ### affidavitref01_Has: function 39 -/
def affidavitref01_Has.l0 : Nat → Int → List Int → Int → Option (Bool)
  | 0, _, _, _ => none
  | k + 1, x0, x1, x5 => if x5 < (x1.length : Int) then (if 0 ≤ x5 then (if (rd x1 x5) ≥ x0 then (some false) else (affidavitref01_Has.l0 k x0 x1 (wrap64 (x5 + 1)))) else (none)) else ((affidavitref01_Right.f x0).bind fun t616 => (some t616))
def affidavitref01_Has.f (k : Nat) (a0 : Int) (l1 : List Int) : Option (Bool) := affidavitref01_Has.l0 k a0 l1 0
theorem affidavitref01_Has.mono_l : ∀ k, (∀ y0 y1 y2, LeO (affidavitref01_Has.l0 k y0 y1 y2) (affidavitref01_Has.l0 (k + 1) y0 y1 y2))
  | 0 => fun _ _ _ r h => by simp [affidavitref01_Has.l0] at h
  | k + 1 => by
    have ih0 := affidavitref01_Has.mono_l k
    · intro y0 y1 y2
      unfold affidavitref01_Has.l0
      repeat' first
      | (with_reducible exact ih0 _ _ _)
      | (with_reducible exact LeO.refl _)
      | (with_reducible exact LeO.none _)
      | (with_reducible refine LeO.ite ?_ ?_)
      | (with_reducible refine LeO.bind ?_ (fun _ => ?_))
      | exact ih0 _ _ _
      | exact LeO.none _
      | refine LeO.ite ?_ ?_
      | refine LeO.bind ?_ (fun _ => ?_)
theorem affidavitref01_Has.mono : ∀ a0 a1 k, LeO (affidavitref01_Has.f k a0 a1) (affidavitref01_Has.f (k + 1) a0 a1) := by
  intro a0 a1 k
  have ih0 := affidavitref01_Has.mono_l k
  unfold affidavitref01_Has.f
  repeat' first
      | (with_reducible exact ih0 _ _ _)
      | (with_reducible exact LeO.refl _)
      | (with_reducible exact LeO.none _)
      | (with_reducible refine LeO.ite ?_ ?_)
      | (with_reducible refine LeO.bind ?_ (fun _ => ?_))
      | exact ih0 _ _ _
      | exact LeO.none _
      | refine LeO.ite ?_ ?_
      | refine LeO.bind ?_ (fun _ => ?_)
set_option maxHeartbeats 8000000 in
set_option maxRecDepth 100000 in
theorem affidavitref01_Has.calls (k : Nat) (a0 : Int) (A1 : Option Addr) (c1 : Nat) (l1 : List Int) (r : Bool) (w : World) (hr1 : Kd.C (Kd.int .u64) w A1 l1.length l1) (hc1 : l1.length ≤ c1) (h : affidavitref01_Has.f k a0 l1 = some r) :
    Calls Try.prog 39 #[.int .u64 a0, .slice A1 l1.length c1] w fun e w' => e = .returned (.bool r) ∧ Drawn0 w w' := by
  have HR1 := Aside0.mk hr1
  have HC1 := Aside0.mk hc1
  clear hr1 hc1
  have H : (affidavitref01_Has.l0 k a0 l1 0) = some r := h
  clear h
  have H' := Aside0.mk H
  clear H
  go_enter Try.func39, Try.ntmps39
  go_wp2
  go_loopg [5] k (fun kq v5 w' => ∃ (x5_1 : Int), v5 = .int .i64 x5_1 ∧ Aside0 (affidavitref01_Has.l0 kq a0 l1 x5_1 = some r) ∧ Aside0 (kq ≤ k) ∧ Drawn0 w w')
  case atStart => exact ⟨(0), (by first | rfl | (simp; done) | (simp [*]; done)), H', ⟨Nat.le_refl _⟩, by repeat (first | exact Drawn0.refl _ | apply Drawn0.step)⟩
  case round =>
    clear H'
    try clear c1
    try clear p2
    obtain ⟨x5_1, rfl, HA, HK1, ⟨m1, rfl⟩⟩ := hrel
    cases gk with
    | zero => exact absurd HA.out (by simp [affidavitref01_Has.l0])
    | succ k1 =>
      have H := HA.out
      clear HA
      simp only [affidavitref01_Has.l0] at H
      by_cases c3 : x5_1 < (l1.length : Int)
      · rw [if_pos c3] at H
        have c3b0 : decide (x5_1 < (l1.length : Int)) = true := decide_eq_true c3
        clear c3
        by_cases c4 : 0 ≤ x5_1
        · rw [if_pos c4] at H
          have c4b0 : decide (0 ≤ x5_1) = true := decide_eq_true c4
          clear c4
          by_cases c5 : (rd l1 x5_1) ≥ a0
          · rw [if_pos c5] at H
            have c5b0 : decide (a0 ≤ (rd l1 x5_1)) = true := decide_eq_true c5
            clear c5
            obtain rfl := Option.some.inj H
            have p615 : 0 ≤ (x5_1 : Int) := of_decide_eq_true (by first | (with_reducible assumption) | assumption)
            have q615 : x5_1 < (l1.length : Int) := of_decide_eq_true (by first | (with_reducible assumption) | assumption)
            obtain ⟨ad615, e615, hx615_0⟩ := Kd.at_int HR1.out x5_1 p615 q615
            cases e615
            replace p615 := eq_true p615
            replace q615 := eq_true q615
            go_wp2
            go_ret
            exact ⟨by first | rfl | (simp; done) | (simp [*]; done), by repeat (first | exact Drawn0.refl _ | apply Drawn0.step)⟩
          · rw [if_neg c5] at H
            have c5b0 : decide (a0 ≤ (rd l1 x5_1)) = false := decide_eq_false c5
            clear c5
            have H' := Aside0.mk H
            clear H
            have p615 : 0 ≤ (x5_1 : Int) := of_decide_eq_true (by first | (with_reducible assumption) | assumption)
            have q615 : x5_1 < (l1.length : Int) := of_decide_eq_true (by first | (with_reducible assumption) | assumption)
            obtain ⟨ad615, e615, hx615_0⟩ := Kd.at_int HR1.out x5_1 p615 q615
            cases e615
            replace p615 := eq_true p615
            replace q615 := eq_true q615
            go_wp2
            go_roundg k1
            case measure => have := HK1.out; omega
            case rel => exact ⟨(wrap64 (x5_1 + 1)), (by first | rfl | (simp; done) | (simp [*]; done)), H', ⟨by have := HK1.out; omega⟩, by repeat (first | exact Drawn0.refl _ | apply Drawn0.step)⟩
        · rw [if_neg c4] at H
          exact absurd H (by simp)
      · rw [if_neg c3] at H
        have c3b0 : decide (x5_1 < (l1.length : Int)) = false := decide_eq_false c3
        clear c3
        replace H := Option.bind_eq_some_iff.mp H
        obtain ⟨t616, A60, H⟩ := H
        replace H : (some t616) = some r := H
        have A6 := Aside0.mk A60
        clear A60
        obtain rfl := Option.some.inj H
        go_wp2_with (first | ((with_reducible refine gate_callee (f := 22) rfl ?_); refine goesL_ (some 19) rfl rfl Try.func22 (by kernel_rfl) rfl #[.int .u64 a0] rfl (by (try simp only [List.map_toArray, List.map_cons, List.map_nil]); first | done | rfl | (simp only [List.length_drop, List.length_take]; rfl)) ?_; (with_reducible refine (affidavitref01_Right.calls a0 t616 _ A6.out).mono ?_); rintro e w' ⟨rfl, ⟨nd, rfl⟩⟩; refine ⟨_, rfl, ?_⟩))
        go_ret
        exact ⟨by first | rfl | (simp; done) | (simp [*]; done), by repeat (first | exact Drawn0.refl _ | apply Drawn0.step)⟩

/-! ### affidavitref01_Add: function 43 -/
def affidavitref01_Add.f (a0 : Int) (a1 : Int) (a2 : Int) : Option (Int) := if a0 = 0 then (none) else (some (Int.tmod (IntKind.u64.wrap (a1 + a2)) a0))
set_option maxHeartbeats 8000000 in
set_option maxRecDepth 100000 in
theorem affidavitref01_Add.calls (a0 : Int) (a1 : Int) (a2 : Int) (r : Int) (w : World) (h : affidavitref01_Add.f a0 a1 a2 = some r) :
    Calls Try.prog 43 #[.int .u64 a0, .int .u64 a1, .int .u64 a2] w fun e w' => e = .returned (.int .u64 r) ∧ Drawn0 w w' := by
  have H : (if a0 = 0 then (none) else (some (Int.tmod (IntKind.u64.wrap (a1 + a2)) a0))) = some r := h
  clear h
  by_cases c4 : a0 = 0
  · rw [if_pos c4] at H
    exact absurd H (by simp)
  · rw [if_neg c4] at H
    have c4b0 : (a0 == 0) = false := beq_eq_false_iff_ne.mpr c4
    have c4b1 : (a0 != 0) = true := bne_iff_ne.mpr c4
    obtain rfl := Option.some.inj H
    go_enter Try.func43, Try.ntmps43
    go_wp2
    go_ret
    exact ⟨by first | rfl | (simp; done) | (simp [*]; done), by repeat (first | exact Drawn0.refl _ | apply Drawn0.step)⟩

/-! ### affidavitref01_Mul: function 45 -/
def affidavitref01_Mul.f : Nat → Int → Int → Int → Option (Int)
  | 0, _, _, _ => none
  | k + 1, a0, a1, a2 => if a2 = 0 then (some 0) else ((affidavitref01_Mul.f k a0 a1 (IntKind.u64.wrap (Int.tdiv a2 2))).bind fun t617 => ((affidavitref01_Add.f a0 t617 t617).bind fun t618 => (if (Int.tmod a2 2) = 1 then ((affidavitref01_Add.f a0 t618 a1).bind fun t619 => (some t619)) else (some t618))))
theorem affidavitref01_Mul.mono_l : ∀ k, (∀ y0 y1 y2, LeO (affidavitref01_Mul.f k y0 y1 y2) (affidavitref01_Mul.f (k + 1) y0 y1 y2))
  | 0 => fun _ _ _ r h => by simp [affidavitref01_Mul.f] at h
  | k + 1 => by
    have ih0 := affidavitref01_Mul.mono_l k
    · intro y0 y1 y2
      unfold affidavitref01_Mul.f
      repeat' first
      | (with_reducible exact ih0 _ _ _)
      | (with_reducible exact LeO.refl _)
      | (with_reducible exact LeO.none _)
      | (with_reducible refine LeO.ite ?_ ?_)
      | (with_reducible refine LeO.bind ?_ (fun _ => ?_))
      | exact ih0 _ _ _
      | exact LeO.none _
      | refine LeO.ite ?_ ?_
      | refine LeO.bind ?_ (fun _ => ?_)
theorem affidavitref01_Mul.mono : ∀ a0 a1 a2 k, LeO (affidavitref01_Mul.f k a0 a1 a2) (affidavitref01_Mul.f (k + 1) a0 a1 a2) := by
  intro a0 a1 a2 k
  have ih0 := affidavitref01_Mul.mono_l k
  exact ih0 a0 a1 a2
set_option maxHeartbeats 8000000 in
set_option maxRecDepth 100000 in
theorem affidavitref01_Mul.calls (k : Nat) : ∀ (a0 : Int) (a1 : Int) (a2 : Int) (r : Int) (w : World) (h : affidavitref01_Mul.f k a0 a1 a2 = some r),
    Calls Try.prog 45 #[.int .u64 a0, .int .u64 a1, .int .u64 a2] w fun e w' => e = .returned (.int .u64 r) ∧ Drawn0 w w' := by
  induction k using Nat.strongRecOn with
  | _ k ih =>
  intro a0 a1 a2 r w h
  cases k with
  | zero => exact absurd h (by simp [affidavitref01_Mul.f])
  | succ k =>
  simp only [affidavitref01_Mul.f] at h
  have H : (if a2 = 0 then (some 0) else ((affidavitref01_Mul.f k a0 a1 (IntKind.u64.wrap (Int.tdiv a2 2))).bind fun t617 => ((affidavitref01_Add.f a0 t617 t617).bind fun t618 => (if (Int.tmod a2 2) = 1 then ((affidavitref01_Add.f a0 t618 a1).bind fun t619 => (some t619)) else (some t618))))) = some r := h
  clear h
  by_cases c4 : a2 = 0
  · rw [if_pos c4] at H
    have c4b0 : (a2 == 0) = true := beq_iff_eq.mpr c4
    have c4b1 : (a2 != 0) = false := bne_eq_false_iff_eq.mpr c4
    clear c4
    obtain rfl := Option.some.inj H
    go_enter Try.func45, Try.ntmps45
    go_wp2
    go_ret
    exact ⟨by first | rfl | (simp; done) | (simp [*]; done), by repeat (first | exact Drawn0.refl _ | apply Drawn0.step)⟩
  · rw [if_neg c4] at H
    have c4b0 : (a2 == 0) = false := beq_eq_false_iff_ne.mpr c4
    have c4b1 : (a2 != 0) = true := bne_iff_ne.mpr c4
    replace H := Option.bind_eq_some_iff.mp H
    obtain ⟨t617, A50, H⟩ := H
    replace H : ((affidavitref01_Add.f a0 t617 t617).bind fun t618 => (if (Int.tmod a2 2) = 1 then ((affidavitref01_Add.f a0 t618 a1).bind fun t619 => (some t619)) else (some t618))) = some r := H
    have A5 := Aside0.mk A50
    clear A50
    replace H := Option.bind_eq_some_iff.mp H
    obtain ⟨t618, A60, H⟩ := H
    replace H : (if (Int.tmod a2 2) = 1 then ((affidavitref01_Add.f a0 t618 a1).bind fun t619 => (some t619)) else (some t618)) = some r := H
    have A6 := Aside0.mk A60
    clear A60
    by_cases c7 : (Int.tmod a2 2) = 1
    · rw [if_pos c7] at H
      have c7b0 : ((Int.tmod a2 2) == 1) = true := beq_iff_eq.mpr c7
      have c7b1 : ((Int.tmod a2 2) != 1) = false := bne_eq_false_iff_eq.mpr c7
      clear c7
      replace H := Option.bind_eq_some_iff.mp H
      obtain ⟨t619, A80, H⟩ := H
      replace H : (some t619) = some r := H
      have A8 := Aside0.mk A80
      clear A80
      obtain rfl := Option.some.inj H
      go_enter Try.func45, Try.ntmps45
      go_wp2_with (first | ((with_reducible refine gate_callee (f := 45) rfl ?_); refine goesL_ (some 14) rfl rfl Try.func45 (by kernel_rfl) rfl #[.int .u64 a0, .int .u64 a1, .int .u64 (IntKind.u64.wrap (Int.tdiv a2 2))] rfl (by (try simp only [List.map_toArray, List.map_cons, List.map_nil]); first | done | rfl | (simp only [List.length_drop, List.length_take]; rfl)) ?_; (with_reducible refine (ih k (by omega) a0 a1 (IntKind.u64.wrap (Int.tdiv a2 2)) t617 _ A5.out).mono ?_); rintro e w' ⟨rfl, ⟨nd, rfl⟩⟩; refine ⟨_, rfl, ?_⟩) | ((with_reducible refine gate_callee (f := 43) rfl ?_); refine goesL_ (some 18) rfl rfl Try.func43 (by kernel_rfl) rfl #[.int .u64 a0, .int .u64 t617, .int .u64 t617] rfl (by (try simp only [List.map_toArray, List.map_cons, List.map_nil]); first | done | rfl | (simp only [List.length_drop, List.length_take]; rfl)) ?_; (with_reducible refine (affidavitref01_Add.calls a0 t617 t617 t618 _ A6.out).mono ?_); rintro e w' ⟨rfl, ⟨nd, rfl⟩⟩; refine ⟨_, rfl, ?_⟩) | ((with_reducible refine gate_callee (f := 43) rfl ?_); refine goesL_ (some 25) rfl rfl Try.func43 (by kernel_rfl) rfl #[.int .u64 a0, .int .u64 t618, .int .u64 a1] rfl (by (try simp only [List.map_toArray, List.map_cons, List.map_nil]); first | done | rfl | (simp only [List.length_drop, List.length_take]; rfl)) ?_; (with_reducible refine (affidavitref01_Add.calls a0 t618 a1 t619 _ A8.out).mono ?_); rintro e w' ⟨rfl, ⟨nd, rfl⟩⟩; refine ⟨_, rfl, ?_⟩))
      go_ret
      exact ⟨by first | rfl | (simp; done) | (simp [*]; done), by repeat (first | exact Drawn0.refl _ | apply Drawn0.step)⟩
    · rw [if_neg c7] at H
      have c7b0 : ((Int.tmod a2 2) == 1) = false := beq_eq_false_iff_ne.mpr c7
      have c7b1 : ((Int.tmod a2 2) != 1) = true := bne_iff_ne.mpr c7
      obtain rfl := Option.some.inj H
      go_enter Try.func45, Try.ntmps45
      go_wp2_with (first | ((with_reducible refine gate_callee (f := 45) rfl ?_); refine goesL_ (some 14) rfl rfl Try.func45 (by kernel_rfl) rfl #[.int .u64 a0, .int .u64 a1, .int .u64 (IntKind.u64.wrap (Int.tdiv a2 2))] rfl (by (try simp only [List.map_toArray, List.map_cons, List.map_nil]); first | done | rfl | (simp only [List.length_drop, List.length_take]; rfl)) ?_; (with_reducible refine (ih k (by omega) a0 a1 (IntKind.u64.wrap (Int.tdiv a2 2)) t617 _ A5.out).mono ?_); rintro e w' ⟨rfl, ⟨nd, rfl⟩⟩; refine ⟨_, rfl, ?_⟩) | ((with_reducible refine gate_callee (f := 43) rfl ?_); refine goesL_ (some 18) rfl rfl Try.func43 (by kernel_rfl) rfl #[.int .u64 a0, .int .u64 t617, .int .u64 t617] rfl (by (try simp only [List.map_toArray, List.map_cons, List.map_nil]); first | done | rfl | (simp only [List.length_drop, List.length_take]; rfl)) ?_; (with_reducible refine (affidavitref01_Add.calls a0 t617 t617 t618 _ A6.out).mono ?_); rintro e w' ⟨rfl, ⟨nd, rfl⟩⟩; refine ⟨_, rfl, ?_⟩))
      go_ret
      exact ⟨by first | rfl | (simp; done) | (simp [*]; done), by repeat (first | exact Drawn0.refl _ | apply Drawn0.step)⟩

/-! ### affidavitref01_Dot: function 40 -/
def affidavitref01_Dot.l0 : Nat → Int → List Int → List Int → Int → Int → Option (Int)
  | 0, _, _, _, _, _ => none
  | k + 1, x0, x1, x2, x7, x8 => if x8 < (x1.length : Int) then (if 0 ≤ x8 then (if x8 < (x2.length : Int) then ((affidavitref01_Mul.f k x0 (rd x1 x8) (rd x2 x8)).bind fun t622 => ((affidavitref01_Add.f x0 x7 t622).bind fun t623 => (affidavitref01_Dot.l0 k x0 x1 x2 t623 (wrap64 (x8 + 1))))) else (none)) else (none)) else (some x7)
def affidavitref01_Dot.f (k : Nat) (a0 : Int) (l1 : List Int) (l2 : List Int) : Option (Int) := affidavitref01_Dot.l0 k a0 l1 l2 0 0
theorem affidavitref01_Dot.mono_l : ∀ k, (∀ y0 y1 y2 y3 y4, LeO (affidavitref01_Dot.l0 k y0 y1 y2 y3 y4) (affidavitref01_Dot.l0 (k + 1) y0 y1 y2 y3 y4))
  | 0 => fun _ _ _ _ _ r h => by simp [affidavitref01_Dot.l0] at h
  | k + 1 => by
    have ih0 := affidavitref01_Dot.mono_l k
    · intro y0 y1 y2 y3 y4
      unfold affidavitref01_Dot.l0
      repeat' first
      | (with_reducible exact ih0 _ _ _ _ _)
      | (with_reducible exact affidavitref01_Mul.mono _ _ _ _)
      | (with_reducible exact LeO.refl _)
      | (with_reducible exact LeO.none _)
      | (with_reducible refine LeO.ite ?_ ?_)
      | (with_reducible refine LeO.bind ?_ (fun _ => ?_))
      | exact ih0 _ _ _ _ _
      | exact affidavitref01_Mul.mono _ _ _ _
      | exact LeO.none _
      | refine LeO.ite ?_ ?_
      | refine LeO.bind ?_ (fun _ => ?_)
theorem affidavitref01_Dot.mono : ∀ a0 a1 a2 k, LeO (affidavitref01_Dot.f k a0 a1 a2) (affidavitref01_Dot.f (k + 1) a0 a1 a2) := by
  intro a0 a1 a2 k
  have ih0 := affidavitref01_Dot.mono_l k
  unfold affidavitref01_Dot.f
  repeat' first
      | (with_reducible exact ih0 _ _ _ _ _)
      | (with_reducible exact affidavitref01_Mul.mono _ _ _ _)
      | (with_reducible exact LeO.refl _)
      | (with_reducible exact LeO.none _)
      | (with_reducible refine LeO.ite ?_ ?_)
      | (with_reducible refine LeO.bind ?_ (fun _ => ?_))
      | exact ih0 _ _ _ _ _
      | exact affidavitref01_Mul.mono _ _ _ _
      | exact LeO.none _
      | refine LeO.ite ?_ ?_
      | refine LeO.bind ?_ (fun _ => ?_)
set_option maxHeartbeats 8000000 in
set_option maxRecDepth 100000 in
theorem affidavitref01_Dot.calls (k : Nat) (a0 : Int) (A1 : Option Addr) (c1 : Nat) (l1 : List Int) (A2 : Option Addr) (c2 : Nat) (l2 : List Int) (r : Int) (w : World) (hr1 : Kd.C (Kd.int .u64) w A1 l1.length l1) (hc1 : l1.length ≤ c1) (hr2 : Kd.C (Kd.int .u64) w A2 l2.length l2) (hc2 : l2.length ≤ c2) (h : affidavitref01_Dot.f k a0 l1 l2 = some r) :
    Calls Try.prog 40 #[.int .u64 a0, .slice A1 l1.length c1, .slice A2 l2.length c2] w fun e w' => e = .returned (.int .u64 r) ∧ Drawn0 w w' := by
  have HR1 := Aside0.mk hr1
  have HC1 := Aside0.mk hc1
  clear hr1 hc1
  have HR2 := Aside0.mk hr2
  have HC2 := Aside0.mk hc2
  clear hr2 hc2
  have H : (affidavitref01_Dot.l0 k a0 l1 l2 0 0) = some r := h
  clear h
  have H' := Aside0.mk H
  clear H
  go_enter Try.func40, Try.ntmps40
  go_wp2
  repeat (go_quiet (fail); try go_wp2)
  go_loopg [7, 8] k (fun kq v7 v8 w' => ∃ (x7_1 : Int) (x8_1 : Int), v7 = .int .u64 x7_1 ∧ v8 = .int .i64 x8_1 ∧ Aside0 (affidavitref01_Dot.l0 kq a0 l1 l2 x7_1 x8_1 = some r) ∧ Aside0 (kq ≤ k) ∧ Drawn0 w w')
  case atStart => exact ⟨(0), (0), (by first | rfl | (simp; done) | (simp [*]; done)), (by first | rfl | (simp; done) | (simp [*]; done)), H', ⟨Nat.le_refl _⟩, by repeat (first | exact Drawn0.refl _ | apply Drawn0.step)⟩
  case round =>
    clear H'
    try clear c1
    try clear c2
    try clear p2
    obtain ⟨x7_1, x8_1, rfl, rfl, HA, HK1, ⟨m1, rfl⟩⟩ := hrel
    cases gk with
    | zero => exact absurd HA.out (by simp [affidavitref01_Dot.l0])
    | succ k1 =>
      have H := HA.out
      clear HA
      simp only [affidavitref01_Dot.l0] at H
      by_cases c4 : x8_1 < (l1.length : Int)
      · rw [if_pos c4] at H
        have c4b0 : decide (x8_1 < (l1.length : Int)) = true := decide_eq_true c4
        clear c4
        by_cases c5 : 0 ≤ x8_1
        · rw [if_pos c5] at H
          have c5b0 : decide (0 ≤ x8_1) = true := decide_eq_true c5
          clear c5
          by_cases c6 : x8_1 < (l2.length : Int)
          · rw [if_pos c6] at H
            have c6b0 : decide (x8_1 < (l2.length : Int)) = true := decide_eq_true c6
            clear c6
            replace H := Option.bind_eq_some_iff.mp H
            obtain ⟨t622, A70, H⟩ := H
            replace H : ((affidavitref01_Add.f a0 x7_1 t622).bind fun t623 => (affidavitref01_Dot.l0 k1 a0 l1 l2 t623 (wrap64 (x8_1 + 1)))) = some r := H
            have A7 := Aside0.mk A70
            clear A70
            replace H := Option.bind_eq_some_iff.mp H
            obtain ⟨t623, A80, H⟩ := H
            replace H : (affidavitref01_Dot.l0 k1 a0 l1 l2 t623 (wrap64 (x8_1 + 1))) = some r := H
            have A8 := Aside0.mk A80
            clear A80
            have H' := Aside0.mk H
            clear H
            have p620 : 0 ≤ (x8_1 : Int) := of_decide_eq_true (by first | (with_reducible assumption) | assumption)
            have q620 : x8_1 < (l1.length : Int) := of_decide_eq_true (by first | (with_reducible assumption) | assumption)
            obtain ⟨ad620, e620, hx620_0⟩ := Kd.at_int HR1.out x8_1 p620 q620
            cases e620
            replace p620 := eq_true p620
            replace q620 := eq_true q620
            have p621 : 0 ≤ (x8_1 : Int) := of_decide_eq_true (by first | (with_reducible assumption) | assumption)
            have q621 : x8_1 < (l2.length : Int) := of_decide_eq_true (by first | (with_reducible assumption) | assumption)
            obtain ⟨ad621, e621, hx621_0⟩ := Kd.at_int HR2.out x8_1 p621 q621
            cases e621
            replace p621 := eq_true p621
            replace q621 := eq_true q621
            go_wp2_with (first | (go_at_call 45; (with_reducible refine (affidavitref01_Mul.calls k1 a0 (rd l1 x8_1) (rd l2 x8_1) t622 _ A7.out).mono ?_); rintro e w' ⟨rfl, ⟨nd, rfl⟩⟩; (try first | exact ⟨rfl, _, World.drewN_drewN _ _ _⟩ | exact ⟨rfl, _, Eq.trans (World.drewN_drewN _ _ _) (congrArg (World.drewN _) (Nat.add_assoc _ _ _))⟩)) | (go_at_call 43; (with_reducible refine (affidavitref01_Add.calls a0 x7_1 t622 t623 _ A8.out).mono ?_); rintro e w' ⟨rfl, ⟨nd, rfl⟩⟩; (try first | exact ⟨rfl, _, World.drewN_drewN _ _ _⟩ | exact ⟨rfl, _, Eq.trans (World.drewN_drewN _ _ _) (congrArg (World.drewN _) (Nat.add_assoc _ _ _))⟩)))
            repeat (go_quiet (first | (go_at_call 45; (with_reducible refine (affidavitref01_Mul.calls k1 a0 (rd l1 x8_1) (rd l2 x8_1) t622 _ A7.out).mono ?_); rintro e w' ⟨rfl, ⟨nd, rfl⟩⟩; (try first | exact ⟨rfl, _, World.drewN_drewN _ _ _⟩ | exact ⟨rfl, _, Eq.trans (World.drewN_drewN _ _ _) (congrArg (World.drewN _) (Nat.add_assoc _ _ _))⟩)) | (go_at_call 43; (with_reducible refine (affidavitref01_Add.calls a0 x7_1 t622 t623 _ A8.out).mono ?_); rintro e w' ⟨rfl, ⟨nd, rfl⟩⟩; (try first | exact ⟨rfl, _, World.drewN_drewN _ _ _⟩ | exact ⟨rfl, _, Eq.trans (World.drewN_drewN _ _ _) (congrArg (World.drewN _) (Nat.add_assoc _ _ _))⟩))); try go_wp2_with (first | (go_at_call 45; (with_reducible refine (affidavitref01_Mul.calls k1 a0 (rd l1 x8_1) (rd l2 x8_1) t622 _ A7.out).mono ?_); rintro e w' ⟨rfl, ⟨nd, rfl⟩⟩; (try first | exact ⟨rfl, _, World.drewN_drewN _ _ _⟩ | exact ⟨rfl, _, Eq.trans (World.drewN_drewN _ _ _) (congrArg (World.drewN _) (Nat.add_assoc _ _ _))⟩)) | (go_at_call 43; (with_reducible refine (affidavitref01_Add.calls a0 x7_1 t622 t623 _ A8.out).mono ?_); rintro e w' ⟨rfl, ⟨nd, rfl⟩⟩; (try first | exact ⟨rfl, _, World.drewN_drewN _ _ _⟩ | exact ⟨rfl, _, Eq.trans (World.drewN_drewN _ _ _) (congrArg (World.drewN _) (Nat.add_assoc _ _ _))⟩))))
            go_roundg k1
            case measure => have := HK1.out; omega
            case rel => exact ⟨(t623), (wrap64 (x8_1 + 1)), (by first | rfl | (simp; done) | (simp [*]; done)), (by first | rfl | (simp; done) | (simp [*]; done)), H', ⟨by have := HK1.out; omega⟩, by repeat (first | exact Drawn0.refl _ | apply Drawn0.step)⟩
          · rw [if_neg c6] at H
            exact absurd H (by simp)
        · rw [if_neg c5] at H
          exact absurd H (by simp)
      · rw [if_neg c4] at H
        have c4b0 : decide (x8_1 < (l1.length : Int)) = false := decide_eq_false c4
        clear c4
        obtain rfl := Option.some.inj H
        go_wp2
        repeat (go_quiet (fail); try go_wp2)
        go_ret
        exact ⟨by first | rfl | (simp; done) | (simp [*]; done), by repeat (first | exact Drawn0.refl _ | apply Drawn0.step)⟩

/-! ### affidavitref01_Sub: function 44 -/
def affidavitref01_Sub.f (a0 : Int) (a1 : Int) (a2 : Int) : Option (Int) := if a0 = 0 then (none) else (some (Int.tmod (IntKind.u64.wrap ((IntKind.u64.wrap (a1 + a0)) - a2)) a0))
set_option maxHeartbeats 8000000 in
set_option maxRecDepth 100000 in
theorem affidavitref01_Sub.calls (a0 : Int) (a1 : Int) (a2 : Int) (r : Int) (w : World) (h : affidavitref01_Sub.f a0 a1 a2 = some r) :
    Calls Try.prog 44 #[.int .u64 a0, .int .u64 a1, .int .u64 a2] w fun e w' => e = .returned (.int .u64 r) ∧ Drawn0 w w' := by
  have H : (if a0 = 0 then (none) else (some (Int.tmod (IntKind.u64.wrap ((IntKind.u64.wrap (a1 + a0)) - a2)) a0))) = some r := h
  clear h
  by_cases c4 : a0 = 0
  · rw [if_pos c4] at H
    exact absurd H (by simp)
  · rw [if_neg c4] at H
    have c4b0 : (a0 == 0) = false := beq_eq_false_iff_ne.mpr c4
    have c4b1 : (a0 != 0) = true := bne_iff_ne.mpr c4
    obtain rfl := Option.some.inj H
    go_enter Try.func44, Try.ntmps44
    go_wp2
    go_ret
    exact ⟨by first | rfl | (simp; done) | (simp [*]; done), by repeat (first | exact Drawn0.refl _ | apply Drawn0.step)⟩

/-! ### affidavitref01_Inv: function 41 -/
def affidavitref01_Inv.l0 : Nat → Int → Int → Int → Int → Int → Option (Int × Int)
  | 0, _, _, _, _, _ => none
  | k + 1, x0, x6, x7, x8, x9 => if x7 = 0 then (some (x8, 0)) else (if x0 = 0 then (none) else ((affidavitref01_Mul.f k x0 (Int.tmod (IntKind.u64.wrap (Int.tdiv x6 x7)) x0) x9).bind fun t625 => ((affidavitref01_Sub.f x0 x8 t625).bind fun t626 => (affidavitref01_Inv.l0 k x0 x7 (IntKind.u64.wrap (x6 - (IntKind.u64.wrap ((IntKind.u64.wrap (Int.tdiv x6 x7)) * x7)))) x9 t626))))
def affidavitref01_Inv.f (k : Nat) (a0 : Int) (a1 : Int) : Option (Int × Int) := (affidavitref01_Gcd.f k a0 a1).bind fun t624 => (if t624 = 1 then (affidavitref01_Inv.l0 k a0 a0 a1 0 1) else (some (0, 5)))
theorem affidavitref01_Inv.mono_l : ∀ k, (∀ y0 y1 y2 y3 y4, LeO (affidavitref01_Inv.l0 k y0 y1 y2 y3 y4) (affidavitref01_Inv.l0 (k + 1) y0 y1 y2 y3 y4))
  | 0 => fun _ _ _ _ _ r h => by simp [affidavitref01_Inv.l0] at h
  | k + 1 => by
    have ih0 := affidavitref01_Inv.mono_l k
    · intro y0 y1 y2 y3 y4
      unfold affidavitref01_Inv.l0
      repeat' first
      | (with_reducible exact ih0 _ _ _ _ _)
      | (with_reducible exact affidavitref01_Gcd.mono _ _ _)
      | (with_reducible exact affidavitref01_Mul.mono _ _ _ _)
      | (with_reducible exact LeO.refl _)
      | (with_reducible exact LeO.none _)
      | (with_reducible refine LeO.ite ?_ ?_)
      | (with_reducible refine LeO.bind ?_ (fun _ => ?_))
      | exact ih0 _ _ _ _ _
      | exact affidavitref01_Gcd.mono _ _ _
      | exact affidavitref01_Mul.mono _ _ _ _
      | exact LeO.none _
      | refine LeO.ite ?_ ?_
      | refine LeO.bind ?_ (fun _ => ?_)
theorem affidavitref01_Inv.mono : ∀ a0 a1 k, LeO (affidavitref01_Inv.f k a0 a1) (affidavitref01_Inv.f (k + 1) a0 a1) := by
  intro a0 a1 k
  have ih0 := affidavitref01_Inv.mono_l k
  unfold affidavitref01_Inv.f
  repeat' first
      | (with_reducible exact ih0 _ _ _ _ _)
      | (with_reducible exact affidavitref01_Gcd.mono _ _ _)
      | (with_reducible exact affidavitref01_Mul.mono _ _ _ _)
      | (with_reducible exact LeO.refl _)
      | (with_reducible exact LeO.none _)
      | (with_reducible refine LeO.ite ?_ ?_)
      | (with_reducible refine LeO.bind ?_ (fun _ => ?_))
      | exact ih0 _ _ _ _ _
      | exact affidavitref01_Gcd.mono _ _ _
      | exact affidavitref01_Mul.mono _ _ _ _
      | exact LeO.none _
      | refine LeO.ite ?_ ?_
      | refine LeO.bind ?_ (fun _ => ?_)
set_option maxHeartbeats 8000000 in
set_option maxRecDepth 100000 in
theorem affidavitref01_Inv.calls (k : Nat) (a0 : Int) (a1 : Int) (r1 : Int) (r2 : Int) (w : World) (h : affidavitref01_Inv.f k a0 a1 = some (r1, r2)) :
    Calls Try.prog 41 #[.int .u64 a0, .int .u64 a1] w fun e w' => e = .returned (.tuple #[.int .u64 r1, .int .i64 r2]) ∧ Drawn0 w w' := by
  have H : ((affidavitref01_Gcd.f k a0 a1).bind fun t624 => (if t624 = 1 then (affidavitref01_Inv.l0 k a0 a0 a1 0 1) else (some (0, 5)))) = some (r1, r2) := h
  clear h
  replace H := Option.bind_eq_some_iff.mp H
  obtain ⟨t624, A30, H⟩ := H
  replace H : (if t624 = 1 then (affidavitref01_Inv.l0 k a0 a0 a1 0 1) else (some (0, 5))) = some (r1, r2) := H
  have A3 := Aside0.mk A30
  clear A30
  by_cases c4 : t624 = 1
  · rw [if_pos c4] at H
    have c4b0 : (t624 == 1) = true := beq_iff_eq.mpr c4
    have c4b1 : (t624 != 1) = false := bne_eq_false_iff_eq.mpr c4
    clear c4
    have H' := Aside0.mk H
    clear H
    go_enter Try.func41, Try.ntmps41
    go_wp2_with (first | ((with_reducible refine gate_callee (f := 37) rfl ?_); refine goesL_ (some 13) rfl rfl Try.func37 (by kernel_rfl) rfl #[.int .u64 a0, .int .u64 a1] rfl (by (try simp only [List.map_toArray, List.map_cons, List.map_nil]); first | done | rfl | (simp only [List.length_drop, List.length_take]; rfl)) ?_; (with_reducible refine (affidavitref01_Gcd.calls k a0 a1 t624 _ A3.out).mono ?_); rintro e w' ⟨rfl, ⟨nd, rfl⟩⟩; refine ⟨_, rfl, ?_⟩))
    go_loopg [6, 7, 8, 9] k (fun kq v6 v7 v8 v9 w' => ∃ (x6_1 : Int) (x7_1 : Int) (x8_1 : Int) (x9_1 : Int), v6 = .int .u64 x6_1 ∧ v7 = .int .u64 x7_1 ∧ v8 = .int .u64 x8_1 ∧ v9 = .int .u64 x9_1 ∧ Aside0 (affidavitref01_Inv.l0 kq a0 x6_1 x7_1 x8_1 x9_1 = some (r1, r2)) ∧ Aside0 (kq ≤ k) ∧ Drawn0 w w')
    case atStart => exact ⟨(a0), (a1), (0), (1), (by first | rfl | (simp; done) | (simp [*]; done)), (by first | rfl | (simp; done) | (simp [*]; done)), (by first | rfl | (simp; done) | (simp [*]; done)), (by first | rfl | (simp; done) | (simp [*]; done)), H', ⟨Nat.le_refl _⟩, by repeat (first | exact Drawn0.refl _ | apply Drawn0.step)⟩
    case round =>
      clear H'
      try clear p2
      try clear c3
      try clear c4
      try clear c4b0
      try clear c4b1
      obtain ⟨x6_1, x7_1, x8_1, x9_1, rfl, rfl, rfl, rfl, HA, HK1, ⟨m1, rfl⟩⟩ := hrel
      cases gk with
      | zero => exact absurd HA.out (by simp [affidavitref01_Inv.l0])
      | succ k1 =>
        have H := HA.out
        clear HA
        simp only [affidavitref01_Inv.l0] at H
        by_cases c5 : x7_1 = 0
        · rw [if_pos c5] at H
          have c5b0 : (x7_1 == 0) = true := beq_iff_eq.mpr c5
          have c5b1 : (x7_1 != 0) = false := bne_eq_false_iff_eq.mpr c5
          clear c5
          simp only [Option.some.injEq, Prod.mk.injEq] at H
          obtain ⟨rfl, rfl⟩ := H
          go_wp2
          go_ret2
          exact ⟨by first | rfl | (simp; done) | (simp [*]; done), by repeat (first | exact Drawn0.refl _ | apply Drawn0.step)⟩
        · rw [if_neg c5] at H
          have c5b0 : (x7_1 == 0) = false := beq_eq_false_iff_ne.mpr c5
          have c5b1 : (x7_1 != 0) = true := bne_iff_ne.mpr c5
          by_cases c6 : a0 = 0
          · rw [if_pos c6] at H
            exact absurd H (by simp)
          · rw [if_neg c6] at H
            have c6b0 : (a0 == 0) = false := beq_eq_false_iff_ne.mpr c6
            have c6b1 : (a0 != 0) = true := bne_iff_ne.mpr c6
            replace H := Option.bind_eq_some_iff.mp H
            obtain ⟨t625, A70, H⟩ := H
            replace H : ((affidavitref01_Sub.f a0 x8_1 t625).bind fun t626 => (affidavitref01_Inv.l0 k1 a0 x7_1 (IntKind.u64.wrap (x6_1 - (IntKind.u64.wrap ((IntKind.u64.wrap (Int.tdiv x6_1 x7_1)) * x7_1)))) x9_1 t626)) = some (r1, r2) := H
            have A7 := Aside0.mk A70
            clear A70
            replace H := Option.bind_eq_some_iff.mp H
            obtain ⟨t626, A80, H⟩ := H
            replace H : (affidavitref01_Inv.l0 k1 a0 x7_1 (IntKind.u64.wrap (x6_1 - (IntKind.u64.wrap ((IntKind.u64.wrap (Int.tdiv x6_1 x7_1)) * x7_1)))) x9_1 t626) = some (r1, r2) := H
            have A8 := Aside0.mk A80
            clear A80
            have H' := Aside0.mk H
            clear H
            go_wp2_with (first | ((with_reducible refine gate_callee (f := 45) rfl ?_); refine goesL_ (some 36) rfl rfl Try.func45 (by kernel_rfl) rfl #[.int .u64 a0, .int .u64 (Int.tmod (IntKind.u64.wrap (Int.tdiv x6_1 x7_1)) a0), .int .u64 x9_1] rfl (by (try simp only [List.map_toArray, List.map_cons, List.map_nil]); first | done | rfl | (simp only [List.length_drop, List.length_take]; rfl)) ?_; (with_reducible refine (affidavitref01_Mul.calls k1 a0 (Int.tmod (IntKind.u64.wrap (Int.tdiv x6_1 x7_1)) a0) x9_1 t625 _ A7.out).mono ?_); rintro e w' ⟨rfl, ⟨nd, rfl⟩⟩; refine ⟨_, rfl, ?_⟩) | ((with_reducible refine gate_callee (f := 44) rfl ?_); refine goesL_ (some 37) rfl rfl Try.func44 (by kernel_rfl) rfl #[.int .u64 a0, .int .u64 x8_1, .int .u64 t625] rfl (by (try simp only [List.map_toArray, List.map_cons, List.map_nil]); first | done | rfl | (simp only [List.length_drop, List.length_take]; rfl)) ?_; (with_reducible refine (affidavitref01_Sub.calls a0 x8_1 t625 t626 _ A8.out).mono ?_); rintro e w' ⟨rfl, ⟨nd, rfl⟩⟩; refine ⟨_, rfl, ?_⟩))
            go_roundg k1
            case measure => have := HK1.out; omega
            case rel => exact ⟨(x7_1), (IntKind.u64.wrap (x6_1 - (IntKind.u64.wrap ((IntKind.u64.wrap (Int.tdiv x6_1 x7_1)) * x7_1)))), (x9_1), (t626), (by first | rfl | (simp; done) | (simp [*]; done)), (by first | rfl | (simp; done) | (simp [*]; done)), (by first | rfl | (simp; done) | (simp [*]; done)), (by first | rfl | (simp; done) | (simp [*]; done)), H', ⟨by have := HK1.out; omega⟩, by repeat (first | exact Drawn0.refl _ | apply Drawn0.step)⟩
  · rw [if_neg c4] at H
    have c4b0 : (t624 == 1) = false := beq_eq_false_iff_ne.mpr c4
    have c4b1 : (t624 != 1) = true := bne_iff_ne.mpr c4
    simp only [Option.some.injEq, Prod.mk.injEq] at H
    obtain ⟨rfl, rfl⟩ := H
    go_enter Try.func41, Try.ntmps41
    go_wp2_with (first | ((with_reducible refine gate_callee (f := 37) rfl ?_); refine goesL_ (some 13) rfl rfl Try.func37 (by kernel_rfl) rfl #[.int .u64 a0, .int .u64 a1] rfl (by (try simp only [List.map_toArray, List.map_cons, List.map_nil]); first | done | rfl | (simp only [List.length_drop, List.length_take]; rfl)) ?_; (with_reducible refine (affidavitref01_Gcd.calls k a0 a1 t624 _ A3.out).mono ?_); rintro e w' ⟨rfl, ⟨nd, rfl⟩⟩; refine ⟨_, rfl, ?_⟩))
    go_ret2
    exact ⟨by first | rfl | (simp; done) | (simp [*]; done), by repeat (first | exact Drawn0.refl _ | apply Drawn0.step)⟩

/-! ### affidavitref01_Pow: function 42 -/
def affidavitref01_Pow.f : Nat → Int → Int → Int → Option (Int)
  | 0, _, _, _ => none
  | k + 1, a0, a1, a2 => if a2 = 0 then (some 1) else ((affidavitref01_Pow.f k a0 a1 (IntKind.u64.wrap (Int.tdiv a2 2))).bind fun t627 => ((affidavitref01_Mul.f k a0 t627 t627).bind fun t628 => (if (Int.tmod a2 2) = 1 then ((affidavitref01_Mul.f k a0 t628 a1).bind fun t629 => (some t629)) else (some t628))))
theorem affidavitref01_Pow.mono_l : ∀ k, (∀ y0 y1 y2, LeO (affidavitref01_Pow.f k y0 y1 y2) (affidavitref01_Pow.f (k + 1) y0 y1 y2))
  | 0 => fun _ _ _ r h => by simp [affidavitref01_Pow.f] at h
  | k + 1 => by
    have ih0 := affidavitref01_Pow.mono_l k
    · intro y0 y1 y2
      unfold affidavitref01_Pow.f
      repeat' first
      | (with_reducible exact ih0 _ _ _)
      | (with_reducible exact affidavitref01_Mul.mono _ _ _ _)
      | (with_reducible exact LeO.refl _)
      | (with_reducible exact LeO.none _)
      | (with_reducible refine LeO.ite ?_ ?_)
      | (with_reducible refine LeO.bind ?_ (fun _ => ?_))
      | exact ih0 _ _ _
      | exact affidavitref01_Mul.mono _ _ _ _
      | exact LeO.none _
      | refine LeO.ite ?_ ?_
      | refine LeO.bind ?_ (fun _ => ?_)
theorem affidavitref01_Pow.mono : ∀ a0 a1 a2 k, LeO (affidavitref01_Pow.f k a0 a1 a2) (affidavitref01_Pow.f (k + 1) a0 a1 a2) := by
  intro a0 a1 a2 k
  have ih0 := affidavitref01_Pow.mono_l k
  exact ih0 a0 a1 a2
set_option maxHeartbeats 8000000 in
set_option maxRecDepth 100000 in
theorem affidavitref01_Pow.calls (k : Nat) : ∀ (a0 : Int) (a1 : Int) (a2 : Int) (r : Int) (w : World) (h : affidavitref01_Pow.f k a0 a1 a2 = some r),
    Calls Try.prog 42 #[.int .u64 a0, .int .u64 a1, .int .u64 a2] w fun e w' => e = .returned (.int .u64 r) ∧ Drawn0 w w' := by
  induction k using Nat.strongRecOn with
  | _ k ih =>
  intro a0 a1 a2 r w h
  cases k with
  | zero => exact absurd h (by simp [affidavitref01_Pow.f])
  | succ k =>
  simp only [affidavitref01_Pow.f] at h
  have H : (if a2 = 0 then (some 1) else ((affidavitref01_Pow.f k a0 a1 (IntKind.u64.wrap (Int.tdiv a2 2))).bind fun t627 => ((affidavitref01_Mul.f k a0 t627 t627).bind fun t628 => (if (Int.tmod a2 2) = 1 then ((affidavitref01_Mul.f k a0 t628 a1).bind fun t629 => (some t629)) else (some t628))))) = some r := h
  clear h
  by_cases c4 : a2 = 0
  · rw [if_pos c4] at H
    have c4b0 : (a2 == 0) = true := beq_iff_eq.mpr c4
    have c4b1 : (a2 != 0) = false := bne_eq_false_iff_eq.mpr c4
    clear c4
    obtain rfl := Option.some.inj H
    go_enter Try.func42, Try.ntmps42
    go_wp2
    go_ret
    exact ⟨by first | rfl | (simp; done) | (simp [*]; done), by repeat (first | exact Drawn0.refl _ | apply Drawn0.step)⟩
  · rw [if_neg c4] at H
    have c4b0 : (a2 == 0) = false := beq_eq_false_iff_ne.mpr c4
    have c4b1 : (a2 != 0) = true := bne_iff_ne.mpr c4
    replace H := Option.bind_eq_some_iff.mp H
    obtain ⟨t627, A50, H⟩ := H
    replace H : ((affidavitref01_Mul.f k a0 t627 t627).bind fun t628 => (if (Int.tmod a2 2) = 1 then ((affidavitref01_Mul.f k a0 t628 a1).bind fun t629 => (some t629)) else (some t628))) = some r := H
    have A5 := Aside0.mk A50
    clear A50
    replace H := Option.bind_eq_some_iff.mp H
    obtain ⟨t628, A60, H⟩ := H
    replace H : (if (Int.tmod a2 2) = 1 then ((affidavitref01_Mul.f k a0 t628 a1).bind fun t629 => (some t629)) else (some t628)) = some r := H
    have A6 := Aside0.mk A60
    clear A60
    by_cases c7 : (Int.tmod a2 2) = 1
    · rw [if_pos c7] at H
      have c7b0 : ((Int.tmod a2 2) == 1) = true := beq_iff_eq.mpr c7
      have c7b1 : ((Int.tmod a2 2) != 1) = false := bne_eq_false_iff_eq.mpr c7
      clear c7
      replace H := Option.bind_eq_some_iff.mp H
      obtain ⟨t629, A80, H⟩ := H
      replace H : (some t629) = some r := H
      have A8 := Aside0.mk A80
      clear A80
      obtain rfl := Option.some.inj H
      go_enter Try.func42, Try.ntmps42
      go_wp2_with (first | ((with_reducible refine gate_callee (f := 42) rfl ?_); refine goesL_ (some 14) rfl rfl Try.func42 (by kernel_rfl) rfl #[.int .u64 a0, .int .u64 a1, .int .u64 (IntKind.u64.wrap (Int.tdiv a2 2))] rfl (by (try simp only [List.map_toArray, List.map_cons, List.map_nil]); first | done | rfl | (simp only [List.length_drop, List.length_take]; rfl)) ?_; (with_reducible refine (ih k (by omega) a0 a1 (IntKind.u64.wrap (Int.tdiv a2 2)) t627 _ A5.out).mono ?_); rintro e w' ⟨rfl, ⟨nd, rfl⟩⟩; refine ⟨_, rfl, ?_⟩) | ((with_reducible refine gate_callee (f := 45) rfl ?_); refine goesL_ (some 18) rfl rfl Try.func45 (by kernel_rfl) rfl #[.int .u64 a0, .int .u64 t627, .int .u64 t627] rfl (by (try simp only [List.map_toArray, List.map_cons, List.map_nil]); first | done | rfl | (simp only [List.length_drop, List.length_take]; rfl)) ?_; (with_reducible refine (affidavitref01_Mul.calls k a0 t627 t627 t628 _ A6.out).mono ?_); rintro e w' ⟨rfl, ⟨nd, rfl⟩⟩; refine ⟨_, rfl, ?_⟩) | ((with_reducible refine gate_callee (f := 45) rfl ?_); refine goesL_ (some 25) rfl rfl Try.func45 (by kernel_rfl) rfl #[.int .u64 a0, .int .u64 t628, .int .u64 a1] rfl (by (try simp only [List.map_toArray, List.map_cons, List.map_nil]); first | done | rfl | (simp only [List.length_drop, List.length_take]; rfl)) ?_; (with_reducible refine (affidavitref01_Mul.calls k a0 t628 a1 t629 _ A8.out).mono ?_); rintro e w' ⟨rfl, ⟨nd, rfl⟩⟩; refine ⟨_, rfl, ?_⟩))
      go_ret
      exact ⟨by first | rfl | (simp; done) | (simp [*]; done), by repeat (first | exact Drawn0.refl _ | apply Drawn0.step)⟩
    · rw [if_neg c7] at H
      have c7b0 : ((Int.tmod a2 2) == 1) = false := beq_eq_false_iff_ne.mpr c7
      have c7b1 : ((Int.tmod a2 2) != 1) = true := bne_iff_ne.mpr c7
      obtain rfl := Option.some.inj H
      go_enter Try.func42, Try.ntmps42
      go_wp2_with (first | ((with_reducible refine gate_callee (f := 42) rfl ?_); refine goesL_ (some 14) rfl rfl Try.func42 (by kernel_rfl) rfl #[.int .u64 a0, .int .u64 a1, .int .u64 (IntKind.u64.wrap (Int.tdiv a2 2))] rfl (by (try simp only [List.map_toArray, List.map_cons, List.map_nil]); first | done | rfl | (simp only [List.length_drop, List.length_take]; rfl)) ?_; (with_reducible refine (ih k (by omega) a0 a1 (IntKind.u64.wrap (Int.tdiv a2 2)) t627 _ A5.out).mono ?_); rintro e w' ⟨rfl, ⟨nd, rfl⟩⟩; refine ⟨_, rfl, ?_⟩) | ((with_reducible refine gate_callee (f := 45) rfl ?_); refine goesL_ (some 18) rfl rfl Try.func45 (by kernel_rfl) rfl #[.int .u64 a0, .int .u64 t627, .int .u64 t627] rfl (by (try simp only [List.map_toArray, List.map_cons, List.map_nil]); first | done | rfl | (simp only [List.length_drop, List.length_take]; rfl)) ?_; (with_reducible refine (affidavitref01_Mul.calls k a0 t627 t627 t628 _ A6.out).mono ?_); rintro e w' ⟨rfl, ⟨nd, rfl⟩⟩; refine ⟨_, rfl, ?_⟩))
      go_ret
      exact ⟨by first | rfl | (simp; done) | (simp [*]; done), by repeat (first | exact Drawn0.refl _ | apply Drawn0.step)⟩

end Go.Proofs.Ytdfhkdddlfmceaa.X
