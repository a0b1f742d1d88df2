/- Walks of functions that the given law reaches: each comes to what its plain twin says. Written by xprint.py, a program of this claim's session; Lean checks it. -/
import Derived.Test.YtdfhkdddlfmceaaX0
import Derived.Test.YtdfhkdddlfmceaaX1
import Derived.Test.YtdfhkdddlfmceaaX7
import Derived.Test.YtdfhkdddlfmceaaX10
import Derived.Test.YtdfhkdddlfmceaaX11
import Derived.Test.YtdfhkdddlfmceaaX13
import Derived.Test.YtdfhkdddlfmceaaX15
namespace Go.Proofs.Ytdfhkdddlfmceaa.X
open Go.RowKit Go.Proofs.YtdfhkdddlfmceaaW.PrintWords Go.Proofs.YtdfhkdddlfmceaaW.PrintLast Go.Proofs.YtdfhkdddlfmceaaW.PrintMore
attribute [local go_sem] max2_int min2_int max_two min_two max_three min_three max_four min_four   -- for this text's walks alone
set_option linter.unusedVariables false
set_option linter.unusedSimpArgs false

/-! ### affidavitlaw01_FieldNorm: function 9 -/
mutual
def affidavitlaw01_FieldNorm.j0 : Nat → Int → Int → Int → List Int → Bool → Option (Bool)
  | 0, _, _, _, _, _ => none
  | k + 1, x0, x1, x2, x3, x32 => if x32 = true then (some true) else ((field_Norm.f x0 (IntKind.u64.wrap (x1))).bind fun bt529 => ((field_Norm.f x0 (IntKind.u64.wrap (x2))).bind fun bt531 => ((field_Norm.f x0 (IntKind.u64.wrap ((IntKind.u64.wrap (x1)) + (IntKind.u64.wrap (x2))))).bind fun bt533 => ((field_Norm.f x0 (IntKind.u64.wrap ((IntKind.u64.wrap (x1)) * (IntKind.u64.wrap (x2))))).bind fun bt535 => ((field_Add.f k x0 bt529.1 bt531.1).bind fun bt537 => ((field_Mul.f k x0 bt529.1 bt531.1).bind fun bt539 => (affidavitlaw01_FieldNorm.l0 k x0 x3 bt533.1 bt535.1 bt537.1 bt537.2 bt539.1 bt539.2 true 0)))))))
def affidavitlaw01_FieldNorm.l0 : Nat → Int → List Int → Int → Int → Int → Int → Int → Int → Bool → Int → Option (Bool)
  | 0, _, _, _, _, _, _, _, _, _, _ => none
  | k + 1, x0, x3, x13, x15, x17, x18, x19, x20, x21, x22 => if x22 < (x3.length : Int) then (if x21 = true then (if 0 ≤ x22 then ((field_Has.f k x0 (([rd x3 x22] : List Int))).bind fun t545 => (affidavitlaw01_FieldNorm.l0 k x0 x3 x13 x15 x17 x18 x19 x20 t545 (wrap64 (x22 + 1)))) else (none)) else (affidavitlaw01_FieldNorm.l0 k x0 x3 x13 x15 x17 x18 x19 x20 false (wrap64 (x22 + 1)))) else (if x18 = 0 then (if x20 = 0 then (if x17 = x13 then (if x19 = x15 then ((field_Has.f k x0 x3).bind fun t546 => (if (t546 == x21) = true then ((field_Has.f k x0 ([] : List Int)).bind fun t547 => (some t547)) else (some false))) else (some false)) else (some false)) else (some false)) else (some false))
end
def affidavitlaw01_FieldNorm.f (k : Nat) (a0 : Int) (a1 : Int) (a2 : Int) (l3 : List Int) : Option (Bool) := (affidavitlaw01_awake.f k).bind fun t527 => (if t527 = true then ((field_Right.f a0).bind fun t528 => (if t528 = true then (affidavitlaw01_FieldNorm.j0 k a0 a1 a2 l3 (decide ((l3.length : Int) > 60))) else (affidavitlaw01_FieldNorm.j0 k a0 a1 a2 l3 true))) else (some false))
theorem affidavitlaw01_FieldNorm.mono_l : ∀ k, (∀ y0 y1 y2 y3 y4, LeO (affidavitlaw01_FieldNorm.j0 k y0 y1 y2 y3 y4) (affidavitlaw01_FieldNorm.j0 (k + 1) y0 y1 y2 y3 y4)) ∧ (∀ y0 y1 y2 y3 y4 y5 y6 y7 y8 y9, LeO (affidavitlaw01_FieldNorm.l0 k y0 y1 y2 y3 y4 y5 y6 y7 y8 y9) (affidavitlaw01_FieldNorm.l0 (k + 1) y0 y1 y2 y3 y4 y5 y6 y7 y8 y9))
  | 0 => ⟨fun _ _ _ _ _ r h => by simp [affidavitlaw01_FieldNorm.j0] at h, fun _ _ _ _ _ _ _ _ _ _ r h => by simp [affidavitlaw01_FieldNorm.l0] at h⟩
  | k + 1 => by
    obtain ⟨ih0, ih1⟩ := affidavitlaw01_FieldNorm.mono_l k
    refine ⟨?_, ?_⟩
    · intro y0 y1 y2 y3 y4
      unfold affidavitlaw01_FieldNorm.j0
      repeat' first
      | (with_reducible exact ih0 _ _ _ _ _)
      | (with_reducible exact ih1 _ _ _ _ _ _ _ _ _ _)
      | (with_reducible exact affidavitlaw01_awake.mono _)
      | (with_reducible exact field_Add.mono _ _ _ _)
      | (with_reducible exact field_Has.mono _ _ _)
      | (with_reducible exact field_Mul.mono _ _ _ _)
      | (with_reducible exact LeO.refl _)
      | (with_reducible exact LeO.none _)
      | (with_reducible refine LeO.ite ?_ ?_)
      | (with_reducible refine LeO.bind ?_ (fun _ => ?_))
      | exact ih0 _ _ _ _ _
      | exact ih1 _ _ _ _ _ _ _ _ _ _
      | exact affidavitlaw01_awake.mono _
      | exact field_Add.mono _ _ _ _
      | exact field_Has.mono _ _ _
      | exact field_Mul.mono _ _ _ _
      | exact LeO.none _
      | refine LeO.ite ?_ ?_
      | refine LeO.bind ?_ (fun _ => ?_)
    · intro y0 y1 y2 y3 y4 y5 y6 y7 y8 y9
      unfold affidavitlaw01_FieldNorm.l0
      repeat' first
      | (with_reducible exact ih0 _ _ _ _ _)
      | (with_reducible exact ih1 _ _ _ _ _ _ _ _ _ _)
      | (with_reducible exact affidavitlaw01_awake.mono _)
      | (with_reducible exact field_Add.mono _ _ _ _)
      | (with_reducible exact field_Has.mono _ _ _)
      | (with_reducible exact field_Mul.mono _ _ _ _)
      | (with_reducible exact LeO.refl _)
      | (with_reducible exact LeO.none _)
      | (with_reducible refine LeO.ite ?_ ?_)
      | (with_reducible refine LeO.bind ?_ (fun _ => ?_))
      | exact ih0 _ _ _ _ _
      | exact ih1 _ _ _ _ _ _ _ _ _ _
      | exact affidavitlaw01_awake.mono _
      | exact field_Add.mono _ _ _ _
      | exact field_Has.mono _ _ _
      | exact field_Mul.mono _ _ _ _
      | exact LeO.none _
      | refine LeO.ite ?_ ?_
      | refine LeO.bind ?_ (fun _ => ?_)
theorem affidavitlaw01_FieldNorm.mono : ∀ a0 a1 a2 a3 k, LeO (affidavitlaw01_FieldNorm.f k a0 a1 a2 a3) (affidavitlaw01_FieldNorm.f (k + 1) a0 a1 a2 a3) := by
  intro a0 a1 a2 a3 k
  obtain ⟨ih0, ih1⟩ := affidavitlaw01_FieldNorm.mono_l k
  unfold affidavitlaw01_FieldNorm.f
  repeat' first
      | (with_reducible exact ih0 _ _ _ _ _)
      | (with_reducible exact ih1 _ _ _ _ _ _ _ _ _ _)
      | (with_reducible exact affidavitlaw01_awake.mono _)
      | (with_reducible exact field_Add.mono _ _ _ _)
      | (with_reducible exact field_Has.mono _ _ _)
      | (with_reducible exact field_Mul.mono _ _ _ _)
      | (with_reducible exact LeO.refl _)
      | (with_reducible exact LeO.none _)
      | (with_reducible refine LeO.ite ?_ ?_)
      | (with_reducible refine LeO.bind ?_ (fun _ => ?_))
      | exact ih0 _ _ _ _ _
      | exact ih1 _ _ _ _ _ _ _ _ _ _
      | exact affidavitlaw01_awake.mono _
      | exact field_Add.mono _ _ _ _
      | exact field_Has.mono _ _ _
      | exact field_Mul.mono _ _ _ _
      | exact LeO.none _
      | refine LeO.ite ?_ ?_
      | refine LeO.bind ?_ (fun _ => ?_)
set_option maxHeartbeats 8000000 in
set_option maxRecDepth 100000 in
theorem affidavitlaw01_FieldNorm.calls (k : Nat) (a0 : Int) (a1 : Int) (a2 : Int) (A3 : Option Addr) (c3 : Nat) (l3 : List Int) (r : Bool) (w : World) (hr3 : Kd.C (Kd.int .u64) w A3 l3.length l3) (hc3 : l3.length ≤ c3) (h : affidavitlaw01_FieldNorm.f k a0 a1 a2 l3 = some r) (ht : r = true) :
    Calls Try.prog 9 #[.int .u64 a0, .int .u32 a1, .int .u32 a2, .slice A3 l3.length c3] w fun e w' => e = .returned (.bool r) ∧ Below w.heap.size w w' := by
  have HR3 := Aside0.mk hr3
  have HC3 := Aside0.mk hc3
  clear hr3 hc3
  have HB := Aside0.mk (Below.refl w.heap.size w)
  have H : ((affidavitlaw01_awake.f k).bind fun t527 => (if t527 = true then ((field_Right.f a0).bind fun t528 => (if t528 = true then (affidavitlaw01_FieldNorm.j0 k a0 a1 a2 l3 (decide ((l3.length : Int) > 60))) else (affidavitlaw01_FieldNorm.j0 k a0 a1 a2 l3 true))) else (some false))) = some r := h
  clear h
  have HT := Aside0.mk ht
  clear ht
  replace H := Option.bind_eq_some_iff.mp H
  obtain ⟨t527, A50, H⟩ := H
  replace H : (if t527 = true then ((field_Right.f a0).bind fun t528 => (if t528 = true then (affidavitlaw01_FieldNorm.j0 k a0 a1 a2 l3 (decide ((l3.length : Int) > 60))) else (affidavitlaw01_FieldNorm.j0 k a0 a1 a2 l3 true))) else (some false)) = some r := H
  have A5 := Aside0.mk A50
  clear A50
  by_cases c6 : t527 = true
  · subst c6
    have H1 : ((field_Right.f a0).bind fun t528 => (if t528 = true then (affidavitlaw01_FieldNorm.j0 k a0 a1 a2 l3 (decide ((l3.length : Int) > 60))) else (affidavitlaw01_FieldNorm.j0 k a0 a1 a2 l3 true))) = some r := by rw [if_pos rfl] at H; exact H
    clear H
    have H := H1
    clear H1
    have HC7 := Aside0.mk H
    clear H
    go_enter Try.func9, Try.ntmps9
    go_upto_region 3 with (first | ((with_reducible refine gate_callee (f := 29) rfl ?_); refine goesL_ (some 23) rfl rfl Try.func29 (by kernel_rfl) rfl #[] rfl (by (try simp only [List.map_toArray, List.map_cons, List.map_nil]); first | done | rfl | (simp only [List.length_drop, List.length_take]; rfl)) ?_; (with_reducible refine (affidavitlaw01_awake.calls k  true _ A5.out rfl).mono ?_); rintro e w8 ⟨rfl, hb⟩; refine ⟨_, rfl, ?_⟩; have n0_ := Aside0.mk (below_step (by repeat (first | (with_reducible first | exact HB.out | apply below_alloc | apply pw_below_drewN | apply below_drew1) | exact HB.out)) hb); clear HB; have HB := n0_; clear n0_; (try clear hb); (try clear hb2); (try clear hk); (try clear hi)))
    (try simp only [Act.put, List.setIfInBounds_toArray, List.set_cons_zero, List.set_cons_succ])
    go_cut [32] (fun v32 wc => ∃ (kq : Nat) (x32_6 : Bool), v32 = .bool x32_6 ∧ Aside0 (affidavitlaw01_FieldNorm.j0 kq a0 a1 a2 l3 x32_6 = some r) ∧ Aside0 (kq ≤ k) ∧ Aside0 (Below w.heap.size w wc))
    case first =>
      have H := HC7.out
      clear HC7
      replace H := Option.bind_eq_some_iff.mp H
      obtain ⟨t528, A90, H⟩ := H
      replace H : (if t528 = true then (affidavitlaw01_FieldNorm.j0 k a0 a1 a2 l3 (decide ((l3.length : Int) > 60))) else (affidavitlaw01_FieldNorm.j0 k a0 a1 a2 l3 true)) = some r := H
      have A9 := Aside0.mk A90
      clear A90
      by_cases c10 : t528 = true
      · subst c10
        have H1 : (affidavitlaw01_FieldNorm.j0 k a0 a1 a2 l3 (decide ((l3.length : Int) > 60))) = some r := by rw [if_pos rfl] at H; exact H
        clear H
        have H := H1
        clear H1
        have H' := Aside0.mk H
        clear H
        go_wp2_with (first | ((with_reducible refine gate_callee (f := 27) rfl ?_); refine goesL_ (some 26) rfl rfl Try.func27 (by kernel_rfl) rfl #[.int .u64 a0] rfl (by (try simp only [List.map_toArray, List.map_cons, List.map_nil]); first | done | rfl | (simp only [List.length_drop, List.length_take]; rfl)) ?_; (with_reducible refine (field_Right.calls a0 true _ A9.out).mono ?_); rintro e w' ⟨rfl, ⟨nd, rfl⟩⟩; refine ⟨_, rfl, ?_⟩))
        go_meet
        case rel => exact ⟨_, (decide ((l3.length : Int) > 60)), (by first | rfl | (simp; done) | (simp [*]; done)), H', ⟨by first | omega | exact Nat.le_refl _⟩, ⟨by repeat (first | (with_reducible first | exact HB.out | apply below_alloc | apply pw_below_drewN | apply below_drew1) | exact HB.out)⟩⟩
      · replace c10 := Bool.eq_false_iff.mpr c10
        subst c10
        have H1 : (affidavitlaw01_FieldNorm.j0 k a0 a1 a2 l3 true) = some r := by rw [if_neg (show ¬ (false = true) by decide)] at H; exact H
        clear H
        have H := H1
        clear H1
        have H' := Aside0.mk H
        clear H
        go_wp2_with (first | ((with_reducible refine gate_callee (f := 27) rfl ?_); refine goesL_ (some 26) rfl rfl Try.func27 (by kernel_rfl) rfl #[.int .u64 a0] rfl (by (try simp only [List.map_toArray, List.map_cons, List.map_nil]); first | done | rfl | (simp only [List.length_drop, List.length_take]; rfl)) ?_; (with_reducible refine (field_Right.calls a0 false _ A9.out).mono ?_); rintro e w' ⟨rfl, ⟨nd, rfl⟩⟩; refine ⟨_, rfl, ?_⟩))
        go_meet
        case rel => exact ⟨_, (true), (by first | rfl | (simp; done) | (simp [*]; done)), H', ⟨by first | omega | exact Nat.le_refl _⟩, ⟨by repeat (first | (with_reducible first | exact HB.out | apply below_alloc | apply pw_below_drewN | apply below_drew1) | exact HB.out)⟩⟩
    case rest =>
      clear HC7
      try clear c1
      try clear c2
      try clear p2
      try clear c3
      try clear c6
      try clear c9
      try clear c10
      obtain ⟨kq, x32_6, rfl, HA, HJ6, HB⟩ := hcut
      cases kq with
      | zero => exact absurd HA.out (by simp [affidavitlaw01_FieldNorm.j0])
      | succ kj6 =>
        have H := HA.out
        clear HA
        simp only [affidavitlaw01_FieldNorm.j0] at H
        by_cases c11 : x32_6 = true
        · subst c11
          have H1 : (some true) = some r := by rw [if_pos rfl] at H; exact H
          clear H
          have H := H1
          clear H1
          obtain rfl := Option.some.inj H
          go_wp2
          go_ret
          exact ⟨by first | rfl | (simp [errW_none, errW_some] <;> rfl) | (simp [*, errW_none, errW_some] <;> rfl), by repeat (first | (with_reducible first | exact HB.out | apply below_alloc | apply pw_below_drewN | apply below_drew1) | exact HB.out)⟩
        · replace c11 := Bool.eq_false_iff.mpr c11
          subst c11
          have H1 : ((field_Norm.f a0 (IntKind.u64.wrap (a1))).bind fun bt529 => ((field_Norm.f a0 (IntKind.u64.wrap (a2))).bind fun bt531 => ((field_Norm.f a0 (IntKind.u64.wrap ((IntKind.u64.wrap (a1)) + (IntKind.u64.wrap (a2))))).bind fun bt533 => ((field_Norm.f a0 (IntKind.u64.wrap ((IntKind.u64.wrap (a1)) * (IntKind.u64.wrap (a2))))).bind fun bt535 => ((field_Add.f kj6 a0 bt529.1 bt531.1).bind fun bt537 => ((field_Mul.f kj6 a0 bt529.1 bt531.1).bind fun bt539 => (affidavitlaw01_FieldNorm.l0 kj6 a0 l3 bt533.1 bt535.1 bt537.1 bt537.2 bt539.1 bt539.2 true 0))))))) = some r := by rw [if_neg (show ¬ (false = true) by decide)] at H; exact H
          clear H
          have H := H1
          clear H1
          replace H := Option.bind_eq_some_iff.mp H
          obtain ⟨⟨t529, t530⟩, A120, H⟩ := H
          replace H : ((field_Norm.f a0 (IntKind.u64.wrap (a2))).bind fun bt531 => ((field_Norm.f a0 (IntKind.u64.wrap ((IntKind.u64.wrap (a1)) + (IntKind.u64.wrap (a2))))).bind fun bt533 => ((field_Norm.f a0 (IntKind.u64.wrap ((IntKind.u64.wrap (a1)) * (IntKind.u64.wrap (a2))))).bind fun bt535 => ((field_Add.f kj6 a0 t529 bt531.1).bind fun bt537 => ((field_Mul.f kj6 a0 t529 bt531.1).bind fun bt539 => (affidavitlaw01_FieldNorm.l0 kj6 a0 l3 bt533.1 bt535.1 bt537.1 bt537.2 bt539.1 bt539.2 true 0)))))) = some r := H
          have A12 := Aside0.mk A120
          clear A120
          replace H := Option.bind_eq_some_iff.mp H
          obtain ⟨⟨t531, t532⟩, A130, H⟩ := H
          replace H : ((field_Norm.f a0 (IntKind.u64.wrap ((IntKind.u64.wrap (a1)) + (IntKind.u64.wrap (a2))))).bind fun bt533 => ((field_Norm.f a0 (IntKind.u64.wrap ((IntKind.u64.wrap (a1)) * (IntKind.u64.wrap (a2))))).bind fun bt535 => ((field_Add.f kj6 a0 t529 t531).bind fun bt537 => ((field_Mul.f kj6 a0 t529 t531).bind fun bt539 => (affidavitlaw01_FieldNorm.l0 kj6 a0 l3 bt533.1 bt535.1 bt537.1 bt537.2 bt539.1 bt539.2 true 0))))) = some r := H
          have A13 := Aside0.mk A130
          clear A130
          replace H := Option.bind_eq_some_iff.mp H
          obtain ⟨⟨t533, t534⟩, A140, H⟩ := H
          replace H : ((field_Norm.f a0 (IntKind.u64.wrap ((IntKind.u64.wrap (a1)) * (IntKind.u64.wrap (a2))))).bind fun bt535 => ((field_Add.f kj6 a0 t529 t531).bind fun bt537 => ((field_Mul.f kj6 a0 t529 t531).bind fun bt539 => (affidavitlaw01_FieldNorm.l0 kj6 a0 l3 t533 bt535.1 bt537.1 bt537.2 bt539.1 bt539.2 true 0)))) = some r := H
          have A14 := Aside0.mk A140
          clear A140
          replace H := Option.bind_eq_some_iff.mp H
          obtain ⟨⟨t535, t536⟩, A150, H⟩ := H
          replace H : ((field_Add.f kj6 a0 t529 t531).bind fun bt537 => ((field_Mul.f kj6 a0 t529 t531).bind fun bt539 => (affidavitlaw01_FieldNorm.l0 kj6 a0 l3 t533 t535 bt537.1 bt537.2 bt539.1 bt539.2 true 0))) = some r := H
          have A15 := Aside0.mk A150
          clear A150
          replace H := Option.bind_eq_some_iff.mp H
          obtain ⟨⟨t537, t538⟩, A160, H⟩ := H
          replace H : ((field_Mul.f kj6 a0 t529 t531).bind fun bt539 => (affidavitlaw01_FieldNorm.l0 kj6 a0 l3 t533 t535 t537 t538 bt539.1 bt539.2 true 0)) = some r := H
          have A16 := Aside0.mk A160
          clear A160
          replace H := Option.bind_eq_some_iff.mp H
          obtain ⟨⟨t539, t540⟩, A170, H⟩ := H
          replace H : (affidavitlaw01_FieldNorm.l0 kj6 a0 l3 t533 t535 t537 t538 t539 t540 true 0) = some r := H
          have A17 := Aside0.mk A170
          clear A170
          have H' := Aside0.mk H
          clear H
          go_wp2_with (first | ((with_reducible refine gate_callee (f := 34) rfl ?_); refine goesL_ (some 37) rfl rfl Try.func34 (by kernel_rfl) rfl #[.int .u64 a0, .int .u64 (IntKind.u64.wrap (a1))] rfl (by (try simp only [List.map_toArray, List.map_cons, List.map_nil]); first | done | rfl | (simp only [List.length_drop, List.length_take]; rfl)) ?_; (with_reducible refine (field_Norm.calls a0 (IntKind.u64.wrap (a1)) t529 t530 _ A12.out).mono ?_); rintro e w' ⟨rfl, ⟨nd, rfl⟩⟩; refine ⟨_, rfl, ?_⟩) | ((with_reducible refine gate_callee (f := 34) rfl ?_); refine goesL_ (some 44) rfl rfl Try.func34 (by kernel_rfl) rfl #[.int .u64 a0, .int .u64 (IntKind.u64.wrap (a2))] rfl (by (try simp only [List.map_toArray, List.map_cons, List.map_nil]); first | done | rfl | (simp only [List.length_drop, List.length_take]; rfl)) ?_; (with_reducible refine (field_Norm.calls a0 (IntKind.u64.wrap (a2)) t531 t532 _ A13.out).mono ?_); rintro e w' ⟨rfl, ⟨nd, rfl⟩⟩; refine ⟨_, rfl, ?_⟩) | ((with_reducible refine gate_callee (f := 34) rfl ?_); refine goesL_ (some 54) rfl rfl Try.func34 (by kernel_rfl) rfl #[.int .u64 a0, .int .u64 (IntKind.u64.wrap ((IntKind.u64.wrap (a1)) + (IntKind.u64.wrap (a2))))] rfl (by (try simp only [List.map_toArray, List.map_cons, List.map_nil]); first | done | rfl | (simp only [List.length_drop, List.length_take]; rfl)) ?_; (with_reducible refine (field_Norm.calls a0 (IntKind.u64.wrap ((IntKind.u64.wrap (a1)) + (IntKind.u64.wrap (a2)))) t533 t534 _ A14.out).mono ?_); rintro e w' ⟨rfl, ⟨nd, rfl⟩⟩; refine ⟨_, rfl, ?_⟩) | ((with_reducible refine gate_callee (f := 34) rfl ?_); refine goesL_ (some 64) rfl rfl Try.func34 (by kernel_rfl) rfl #[.int .u64 a0, .int .u64 (IntKind.u64.wrap ((IntKind.u64.wrap (a1)) * (IntKind.u64.wrap (a2))))] rfl (by (try simp only [List.map_toArray, List.map_cons, List.map_nil]); first | done | rfl | (simp only [List.length_drop, List.length_take]; rfl)) ?_; (with_reducible refine (field_Norm.calls a0 (IntKind.u64.wrap ((IntKind.u64.wrap (a1)) * (IntKind.u64.wrap (a2)))) t535 t536 _ A15.out).mono ?_); rintro e w' ⟨rfl, ⟨nd, rfl⟩⟩; refine ⟨_, rfl, ?_⟩) | ((with_reducible refine gate_callee (f := 33) rfl ?_); refine goesL_ (some 71) rfl rfl Try.func33 (by kernel_rfl) rfl #[.int .u64 a0, .int .u64 t529, .int .u64 t531] rfl (by (try simp only [List.map_toArray, List.map_cons, List.map_nil]); first | done | rfl | (simp only [List.length_drop, List.length_take]; rfl)) ?_; (with_reducible refine (field_Add.calls kj6 a0 t529 t531 t537 t538 _ A16.out).mono ?_); rintro e w18 ⟨rfl, hb⟩; refine ⟨_, rfl, ?_⟩; have n0_ := Aside0.mk (below_step (by repeat (first | (with_reducible first | exact HB.out | apply below_alloc | apply pw_below_drewN | apply below_drew1) | exact HB.out)) hb); clear HB; have HB := n0_; clear n0_; (try clear hb); (try clear hb2); (try clear hk); (try clear hi)) | ((with_reducible refine gate_callee (f := 31) rfl ?_); refine goesL_ (some 78) rfl rfl Try.func31 (by kernel_rfl) rfl #[.int .u64 a0, .int .u64 t529, .int .u64 t531] rfl (by (try simp only [List.map_toArray, List.map_cons, List.map_nil]); first | done | rfl | (simp only [List.length_drop, List.length_take]; rfl)) ?_; (with_reducible refine (field_Mul.calls kj6 a0 t529 t531 t539 t540 _ A17.out).mono ?_); rintro e w19 ⟨rfl, hb⟩; refine ⟨_, rfl, ?_⟩; have n0_ := Aside0.mk (below_step (by repeat (first | (with_reducible first | exact HB.out | apply below_alloc | apply pw_below_drewN | apply below_drew1) | exact HB.out)) hb); clear HB; have HB := n0_; clear n0_; (try clear hb); (try clear hb2); (try clear hk); (try clear hi)))
          go_loopg [21, 22] kj6 (fun kq v21 v22 w' => ∃ (x21_2 : Bool) (x22_2 : Int), v21 = .bool x21_2 ∧ v22 = .int .i64 x22_2 ∧ Aside0 (affidavitlaw01_FieldNorm.l0 kq a0 l3 t533 t535 t537 t538 t539 t540 x21_2 x22_2 = some r) ∧ Aside0 (kq ≤ kj6) ∧ Aside0 (Below w.heap.size w w'))
          case atStart => exact ⟨(true), (0), (by first | rfl | (simp; done) | (simp [*]; done)), (by first | rfl | (simp; done) | (simp [*]; done)), H', ⟨Nat.le_refl _⟩, ⟨by repeat (first | (with_reducible first | exact HB.out | apply below_alloc | apply pw_below_drewN | apply below_drew1) | exact HB.out)⟩⟩
          case round =>
            clear H'
            try clear c1
            try clear c2
            try clear p2
            try clear c3
            try clear c6
            try clear c9
            try clear c10
            try clear c11
            try clear p2
            obtain ⟨x21_2, x22_2, rfl, rfl, HA, HK2, HB⟩ := hrel
            cases gk with
            | zero => exact absurd HA.out (by simp [affidavitlaw01_FieldNorm.l0])
            | succ k2 =>
              have H := HA.out
              clear HA
              simp only [affidavitlaw01_FieldNorm.l0] at H
              by_cases c20 : x22_2 < (l3.length : Int)
              · rw [if_pos c20] at H
                have c20b0 : decide (x22_2 < (l3.length : Int)) = true := decide_eq_true c20
                clear c20
                by_cases c21 : x21_2 = true
                · subst c21
                  have H1 : (if 0 ≤ x22_2 then ((field_Has.f k2 a0 (([rd l3 x22_2] : List Int))).bind fun t545 => (affidavitlaw01_FieldNorm.l0 k2 a0 l3 t533 t535 t537 t538 t539 t540 t545 (wrap64 (x22_2 + 1)))) else (none)) = some r := by rw [if_pos rfl] at H; exact H
                  clear H
                  have H := H1
                  clear H1
                  by_cases c22 : 0 ≤ x22_2
                  · rw [if_pos c22] at H
                    have c22b0 : decide (0 ≤ x22_2) = true := decide_eq_true c22
                    clear c22
                    obtain ⟨y542, hy542⟩ : ∃ y_ : List Int, y_ = (([rd l3 x22_2] : List Int)) := ⟨_, rfl⟩
                    replace H : ((field_Has.f k2 a0 y542).bind fun t545 => (affidavitlaw01_FieldNorm.l0 k2 a0 l3 t533 t535 t537 t538 t539 t540 t545 (wrap64 (x22_2 + 1)))) = some r := by first | (rw [hy542]; with_reducible exact H) | (have H2_ := (Option.bind_some _ _).symm.trans H; rw [hy542]; with_reducible exact H2_) | (have H2_ := (Option.bind_some _ _).symm.trans H; with_reducible exact H2_) | with_reducible exact H | (rw [hy542]; exact H) | exact H
                    have Ny542 := Aside0.mk hy542
                    clear hy542
                    replace H := Option.bind_eq_some_iff.mp H
                    obtain ⟨t545, A230, H⟩ := H
                    replace H : (affidavitlaw01_FieldNorm.l0 k2 a0 l3 t533 t535 t537 t538 t539 t540 t545 (wrap64 (x22_2 + 1))) = some r := H
                    have A23 := Aside0.mk A230
                    clear A230
                    have H' := Aside0.mk H
                    clear H
                    have p541 : 0 ≤ (x22_2 : Int) := of_decide_eq_true (by first | (with_reducible assumption) | assumption)
                    have q541 : x22_2 < (l3.length : Int) := of_decide_eq_true (by first | (with_reducible assumption) | assumption)
                    obtain ⟨ad541, e541, hx541_0⟩ := Kd.at_int HR3.out x22_2 p541 q541
                    cases e541
                    replace hx541_0 := (HB.out.cell (World.block_lt_of_cell? w _ hx541_0)).trans hx541_0
                    replace p541 := eq_true p541
                    replace q541 := eq_true q541
                    go_wp2_with (first | ((with_reducible refine gate_dst (N := 94) rfl ?_); (try (refine gate_guard (by rfl) ?_; dsimp only)); refine Kd.R_lit (Kd.int .u64) _ 22 ?hg (N := 94) ?hd (xs := ([rd l3 x22_2] : List Int)) (inner := [.int .u64 (rd l3 x22_2)]) (ok := fun _ => True) (okp := fun _ => True) ?hr ?hp (fun _ hk => hk) trivial (Below.refl _ _) (Nat.le_refl _) (by simp) ?_; (case hd => rfl); (case hg => rfl); (case hr => first | (go_simp; done) | (go_simp; rfl)); (case hp => exact (Reps.one (show Kd.M (Kd.int .u64) _ _ _ (rd l3 x22_2) [.int .u64 (rd l3 x22_2)] from rfl) (Reps.none _ _))); intro v543 w24 ho25 hb hg_ hnew_; clear hg_ hnew_; (first | rw [← Ny542.out] at ho25 | (simp only [Int.reduceToNat] at ho25; rw [← Ny542.out] at ho25)); have n0_ := Aside0.mk (Kd.R_lower ho25 (below_size (by repeat (first | (with_reducible first | exact HB.out | apply below_alloc | apply pw_below_drewN | apply below_drew1) | exact HB.out)))); have n1_ := Aside0.mk (below_step (by repeat (first | (with_reducible first | exact HB.out | apply below_alloc | apply pw_below_drewN | apply below_drew1) | exact HB.out)) hb); clear HB; have HO544 := n0_; have HB := n1_; clear n0_ n1_; clear hb ho25; obtain ⟨Ao26, co26, eo26⟩ := Kd.R_slice HO544.out; subst eo26) | (go_at_call 28; (with_reducible refine (field_Has.calls k2 a0 _ _ y542 t545 _ ?side1 ?side2 A23.out).mono ?_); (case side1 => repeat (first | exact (Kd.R_reads' HO544.out).2.2 | (with_reducible refine Kd.C_alloc ?_ _) | (with_reducible refine Kd.C_drewN ?_ _) | (with_reducible refine Kd.C_drew ?_))); (case side2 => exact (Kd.R_reads' HO544.out).2.1); rintro e w' ⟨rfl, ⟨nd, rfl⟩⟩))
                    go_roundg k2
                    case measure => have := HJ6.out; have := HK2.out; omega
                    case rel => exact ⟨(t545), (wrap64 (x22_2 + 1)), (by first | rfl | (simp; done) | (simp [*]; done)), (by first | rfl | (simp; done) | (simp [*]; done)), H', ⟨by have := HJ6.out; have := HK2.out; omega⟩, ⟨by repeat (first | (with_reducible first | exact HB.out | apply below_alloc | apply pw_below_drewN | apply below_drew1) | exact HB.out)⟩⟩
                  · rw [if_neg c22] at H
                    exact absurd H (by simp)
                · replace c21 := Bool.eq_false_iff.mpr c21
                  subst c21
                  have H1 : (affidavitlaw01_FieldNorm.l0 k2 a0 l3 t533 t535 t537 t538 t539 t540 false (wrap64 (x22_2 + 1))) = some r := by rw [if_neg (show ¬ (false = true) by decide)] at H; exact H
                  clear H
                  have H := H1
                  clear H1
                  have H' := Aside0.mk H
                  clear H
                  go_wp2
                  go_roundg k2
                  case measure => have := HJ6.out; have := HK2.out; omega
                  case rel => exact ⟨(false), (wrap64 (x22_2 + 1)), (by first | rfl | (simp; done) | (simp [*]; done)), (by first | rfl | (simp; done) | (simp [*]; done)), H', ⟨by have := HJ6.out; have := HK2.out; omega⟩, ⟨by repeat (first | (with_reducible first | exact HB.out | apply below_alloc | apply pw_below_drewN | apply below_drew1) | exact HB.out)⟩⟩
              · rw [if_neg c20] at H
                have c20b0 : decide (x22_2 < (l3.length : Int)) = false := decide_eq_false c20
                clear c20
                by_cases c27 : t538 = 0
                · rw [if_pos c27] at H
                  have c27b0 : (t538 == 0) = true := beq_iff_eq.mpr c27
                  have c27b1 : (t538 != 0) = false := bne_eq_false_iff_eq.mpr c27
                  clear c27
                  by_cases c28 : t540 = 0
                  · rw [if_pos c28] at H
                    have c28b0 : (t540 == 0) = true := beq_iff_eq.mpr c28
                    have c28b1 : (t540 != 0) = false := bne_eq_false_iff_eq.mpr c28
                    clear c28
                    by_cases c29 : t537 = t533
                    · rw [if_pos c29] at H
                      have c29b0 : (t537 == t533) = true := beq_iff_eq.mpr c29
                      have c29b1 : (t537 != t533) = false := bne_eq_false_iff_eq.mpr c29
                      clear c29
                      by_cases c30 : t539 = t535
                      · rw [if_pos c30] at H
                        have c30b0 : (t539 == t535) = true := beq_iff_eq.mpr c30
                        have c30b1 : (t539 != t535) = false := bne_eq_false_iff_eq.mpr c30
                        clear c30
                        replace H := Option.bind_eq_some_iff.mp H
                        obtain ⟨t546, A310, H⟩ := H
                        replace H : (if (t546 == x21_2) = true then ((field_Has.f k2 a0 ([] : List Int)).bind fun t547 => (some t547)) else (some false)) = some r := H
                        have A31 := Aside0.mk A310
                        clear A310
                        by_cases c32 : (t546 == x21_2) = true
                        · rw [if_pos c32] at H
                          have c32b0 : (t546 == x21_2) = true := c32
                          (try (have c32b1 : decide (t546 = x21_2) = true := by simpa using c32))
                          (try (have c32b2 : (t546 == x21_2) = true := by simpa using c32))
                          clear c32
                          replace H := Option.bind_eq_some_iff.mp H
                          obtain ⟨t547, A330, H⟩ := H
                          replace H : (some t547) = some r := H
                          have A33 := Aside0.mk A330
                          clear A330
                          obtain rfl := Option.some.inj H
                          go_wp2_with (first | (go_at_call 28; (with_reducible refine (field_Has.calls k2 a0 _ _ l3 t546 _ ?side1 ?side2 A31.out).mono ?_); (case side1 => repeat (first | exact (Kd.C_below HR3.out HB.out) | (with_reducible refine Kd.C_alloc ?_ _) | (with_reducible refine Kd.C_drewN ?_ _) | (with_reducible refine Kd.C_drew ?_))); (case side2 => exact HC3.out); rintro e w' ⟨rfl, ⟨nd, rfl⟩⟩) | (go_at_call 28; (refine (field_Has.calls k2 a0 _ _ ([] : List Int) t547 _ ?side1 ?side2 A33.out).mono ?_); (case side1 => exact Kd.C_nil _ _); (case side2 => exact Nat.le_refl _); rintro e w' ⟨rfl, ⟨nd, rfl⟩⟩))
                          go_ret
                          exact ⟨by first | rfl | (simp [errW_none, errW_some] <;> rfl) | (simp [*, errW_none, errW_some] <;> rfl), by repeat (first | (with_reducible first | exact HB.out | apply below_alloc | apply pw_below_drewN | apply below_drew1) | exact HB.out)⟩
                        · rw [if_neg c32] at H
                          have c32b0 : (t546 == x21_2) = false := by simpa using c32
                          (try (have c32b1 : decide (t546 = x21_2) = false := by simpa using c32))
                          (try (have c32b2 : (t546 == x21_2) = false := by simpa using c32))
                          (try (have c32b3 : ¬ (t546 = x21_2) := by simpa using c32))
                          clear c32
                          exact absurd ((Option.some.inj H).trans HT.out) (by decide)
                      · rw [if_neg c30] at H
                        have c30b0 : (t539 == t535) = false := beq_eq_false_iff_ne.mpr c30
                        have c30b1 : (t539 != t535) = true := bne_iff_ne.mpr c30
                        exact absurd ((Option.some.inj H).trans HT.out) (by decide)
                    · rw [if_neg c29] at H
                      have c29b0 : (t537 == t533) = false := beq_eq_false_iff_ne.mpr c29
                      have c29b1 : (t537 != t533) = true := bne_iff_ne.mpr c29
                      exact absurd ((Option.some.inj H).trans HT.out) (by decide)
                  · rw [if_neg c28] at H
                    have c28b0 : (t540 == 0) = false := beq_eq_false_iff_ne.mpr c28
                    have c28b1 : (t540 != 0) = true := bne_iff_ne.mpr c28
                    exact absurd ((Option.some.inj H).trans HT.out) (by decide)
                · rw [if_neg c27] at H
                  have c27b0 : (t538 == 0) = false := beq_eq_false_iff_ne.mpr c27
                  have c27b1 : (t538 != 0) = true := bne_iff_ne.mpr c27
                  exact absurd ((Option.some.inj H).trans HT.out) (by decide)
  · replace c6 := Bool.eq_false_iff.mpr c6
    subst c6
    have H1 : (some false) = some r := by rw [if_neg (show ¬ (false = true) by decide)] at H; exact H
    clear H
    have H := H1
    clear H1
    exact absurd ((Option.some.inj H).trans HT.out) (by decide)

/-- THE ONE PURE STATEMENT of affidavitlaw01_FieldNorm. -/
def affidavitlaw01_FieldNorm.Pure : Prop := ∀ (a0 : Int) (a1 : Int) (a2 : Int) (l3 : List Int), (Lit.int .u64 a0).wf = true → (Lit.int .u32 a1).wf = true → (Lit.int .u32 a2).wf = true → (l3.length ≤ maxLen ∧ ∀ a_ ∈ l3, (Lit.int .u64 a_).wf = true) → ∃ k, affidavitlaw01_FieldNorm.f k a0 a1 a2 l3 = some true
theorem affidavitlaw01_FieldNorm.walkx (P : affidavitlaw01_FieldNorm.Pure) (a0 : Int) (a1 : Int) (a2 : Int) (A3 : Option Addr) (c3 : Nat) (l3 : List Int) (w : World) (hr3 : Kd.C (Kd.int .u64) w A3 l3.length l3) (hc3 : l3.length ≤ c3) (hg0 : (Lit.int .u64 a0).wf = true) (hg1 : (Lit.int .u32 a1).wf = true) (hg2 : (Lit.int .u32 a2).wf = true) (hg3 : (l3.length ≤ maxLen ∧ ∀ a_ ∈ l3, (Lit.int .u64 a_).wf = true)) :
    Calls Try.prog 9 #[.int .u64 a0, .int .u32 a1, .int .u32 a2, .slice A3 l3.length c3] w fun e w' => e = .returned (.bool true) ∧ Below w.heap.size w w' := by
  obtain ⟨k, h⟩ := P a0 a1 a2 l3 hg0 hg1 hg2 hg3
  refine (affidavitlaw01_FieldNorm.calls k a0 a1 a2 A3 c3 l3 true w hr3 hc3 h rfl).mono ?_
  rintro e w' ⟨rfl, hd⟩
  exact ⟨rfl, hd⟩

end Go.Proofs.Ytdfhkdddlfmceaa.X
