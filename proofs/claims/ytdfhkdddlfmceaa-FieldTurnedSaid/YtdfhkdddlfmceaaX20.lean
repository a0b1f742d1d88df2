/- Walks of functions that the given law reaches: each comes to what its plain twin says. Written by xprint.py, a program of this claim's session; Lean checks it. -/
import Derived.Test.YtdfhkdddlfmceaaX0
import Derived.Test.YtdfhkdddlfmceaaX7
import Derived.Test.YtdfhkdddlfmceaaX10
import Derived.Test.YtdfhkdddlfmceaaX11
import Derived.Test.YtdfhkdddlfmceaaX19
namespace Go.Proofs.Ytdfhkdddlfmceaa.X
open Go.RowKit Go.Proofs.YtdfhkdddlfmceaaW.PrintWords Go.Proofs.YtdfhkdddlfmceaaW.PrintLast Go.Proofs.YtdfhkdddlfmceaaW.PrintMore
attribute [local go_sem] max2_int min2_int max_two min_two max_three min_three max_four min_four   -- for this text's walks alone
set_option linter.unusedVariables false
set_option linter.unusedSimpArgs false

/-! ### affidavitlaw01_FieldTurned: function 11 -/
def affidavitlaw01_FieldTurned.f (k : Nat) (a0 : Int) (a1 : Int) (a2 : Int) : Option (Bool) := (affidavitlaw01_awake.f k).bind fun t599 => (if t599 = true then ((field_Has.f k a0 (([a1, a2] : List Int))).bind fun t603 => (if t603 = true then ((field_Inv.f k a0 a1).bind fun bt604 => ((affidavitref01_Gcd.f k a0 a1).bind fun t606 => (if ((bt604.2 == 0) != (t606 == 1)) = true then (some false) else (if bt604.2 = 0 then ((field_Mul.f k a0 a1 bt604.1).bind fun bt607 => ((field_Inv.f k a0 bt604.1).bind fun bt609 => ((field_Div.f k a0 a2 a1).bind fun bt611 => ((field_Mul.f k a0 bt611.1 a1).bind fun bt613 => (if bt607.1 = 1 then (if bt609.2 = 0 then (if bt609.1 = a1 then (if bt611.2 = 0 then (some (bt613.1 == a2)) else (some false)) else (some false)) else (some false)) else (some false)))))) else (if bt604.2 = 5 then (some (bt604.1 == 0)) else (some false)))))) else (some true))) else (some false))
theorem affidavitlaw01_FieldTurned.mono : ∀ a0 a1 a2 k, LeO (affidavitlaw01_FieldTurned.f k a0 a1 a2) (affidavitlaw01_FieldTurned.f (k + 1) a0 a1 a2) := by
  intro a0 a1 a2 k
  unfold affidavitlaw01_FieldTurned.f
  repeat' first
      | (with_reducible exact affidavitlaw01_awake.mono _)
      | (with_reducible exact affidavitref01_Gcd.mono _ _ _)
      | (with_reducible exact field_Div.mono _ _ _ _)
      | (with_reducible exact field_Has.mono _ _ _)
      | (with_reducible exact field_Inv.mono _ _ _)
      | (with_reducible exact field_Mul.mono _ _ _ _)
      | (with_reducible exact LeO.refl _)
      | (with_reducible exact LeO.none _)
      | (with_reducible refine LeO.ite ?_ ?_)
      | (with_reducible refine LeO.bind ?_ (fun _ => ?_))
      | exact affidavitlaw01_awake.mono _
      | exact affidavitref01_Gcd.mono _ _ _
      | exact field_Div.mono _ _ _ _
      | exact field_Has.mono _ _ _
      | exact field_Inv.mono _ _ _
      | exact field_Mul.mono _ _ _ _
      | exact LeO.none _
      | refine LeO.ite ?_ ?_
      | refine LeO.bind ?_ (fun _ => ?_)
set_option maxHeartbeats 8000000 in
set_option maxRecDepth 100000 in
theorem affidavitlaw01_FieldTurned.calls (k : Nat) (a0 : Int) (a1 : Int) (a2 : Int) (r : Bool) (w : World) (h : affidavitlaw01_FieldTurned.f k a0 a1 a2 = some r) (ht : r = true) :
    Calls Try.prog 11 #[.int .u64 a0, .int .u64 a1, .int .u64 a2] w fun e w' => e = .returned (.bool r) ∧ Below w.heap.size w w' := by
  have HB := Aside0.mk (Below.refl w.heap.size w)
  have H : ((affidavitlaw01_awake.f k).bind fun t599 => (if t599 = true then ((field_Has.f k a0 (([a1, a2] : List Int))).bind fun t603 => (if t603 = true then ((field_Inv.f k a0 a1).bind fun bt604 => ((affidavitref01_Gcd.f k a0 a1).bind fun t606 => (if ((bt604.2 == 0) != (t606 == 1)) = true then (some false) else (if bt604.2 = 0 then ((field_Mul.f k a0 a1 bt604.1).bind fun bt607 => ((field_Inv.f k a0 bt604.1).bind fun bt609 => ((field_Div.f k a0 a2 a1).bind fun bt611 => ((field_Mul.f k a0 bt611.1 a1).bind fun bt613 => (if bt607.1 = 1 then (if bt609.2 = 0 then (if bt609.1 = a1 then (if bt611.2 = 0 then (some (bt613.1 == a2)) else (some false)) else (some false)) else (some false)) else (some false)))))) else (if bt604.2 = 5 then (some (bt604.1 == 0)) else (some false)))))) else (some true))) else (some false))) = some r := h
  clear h
  have HT := Aside0.mk ht
  clear ht
  replace H := Option.bind_eq_some_iff.mp H
  obtain ⟨t599, A40, H⟩ := H
  replace H : (if t599 = true then ((field_Has.f k a0 (([a1, a2] : List Int))).bind fun t603 => (if t603 = true then ((field_Inv.f k a0 a1).bind fun bt604 => ((affidavitref01_Gcd.f k a0 a1).bind fun t606 => (if ((bt604.2 == 0) != (t606 == 1)) = true then (some false) else (if bt604.2 = 0 then ((field_Mul.f k a0 a1 bt604.1).bind fun bt607 => ((field_Inv.f k a0 bt604.1).bind fun bt609 => ((field_Div.f k a0 a2 a1).bind fun bt611 => ((field_Mul.f k a0 bt611.1 a1).bind fun bt613 => (if bt607.1 = 1 then (if bt609.2 = 0 then (if bt609.1 = a1 then (if bt611.2 = 0 then (some (bt613.1 == a2)) else (some false)) else (some false)) else (some false)) else (some false)))))) else (if bt604.2 = 5 then (some (bt604.1 == 0)) else (some false)))))) else (some true))) else (some false)) = some r := H
  have A4 := Aside0.mk A40
  clear A40
  by_cases c5 : t599 = true
  · subst c5
    have H1 : ((field_Has.f k a0 (([a1, a2] : List Int))).bind fun t603 => (if t603 = true then ((field_Inv.f k a0 a1).bind fun bt604 => ((affidavitref01_Gcd.f k a0 a1).bind fun t606 => (if ((bt604.2 == 0) != (t606 == 1)) = true then (some false) else (if bt604.2 = 0 then ((field_Mul.f k a0 a1 bt604.1).bind fun bt607 => ((field_Inv.f k a0 bt604.1).bind fun bt609 => ((field_Div.f k a0 a2 a1).bind fun bt611 => ((field_Mul.f k a0 bt611.1 a1).bind fun bt613 => (if bt607.1 = 1 then (if bt609.2 = 0 then (if bt609.1 = a1 then (if bt611.2 = 0 then (some (bt613.1 == a2)) else (some false)) else (some false)) else (some false)) else (some false)))))) else (if bt604.2 = 5 then (some (bt604.1 == 0)) else (some false)))))) else (some true))) = some r := by rw [if_pos rfl] at H; exact H
    clear H
    have H := H1
    clear H1
    obtain ⟨y600, hy600⟩ : ∃ y_ : List Int, y_ = (([a1, a2] : List Int)) := ⟨_, rfl⟩
    replace H : ((field_Has.f k a0 y600).bind fun t603 => (if t603 = true then ((field_Inv.f k a0 a1).bind fun bt604 => ((affidavitref01_Gcd.f k a0 a1).bind fun t606 => (if ((bt604.2 == 0) != (t606 == 1)) = true then (some false) else (if bt604.2 = 0 then ((field_Mul.f k a0 a1 bt604.1).bind fun bt607 => ((field_Inv.f k a0 bt604.1).bind fun bt609 => ((field_Div.f k a0 a2 a1).bind fun bt611 => ((field_Mul.f k a0 bt611.1 a1).bind fun bt613 => (if bt607.1 = 1 then (if bt609.2 = 0 then (if bt609.1 = a1 then (if bt611.2 = 0 then (some (bt613.1 == a2)) else (some false)) else (some false)) else (some false)) else (some false)))))) else (if bt604.2 = 5 then (some (bt604.1 == 0)) else (some false)))))) else (some true))) = some r := by first | (rw [hy600]; with_reducible exact H) | (have H2_ := (Option.bind_some _ _).symm.trans H; rw [hy600]; with_reducible exact H2_) | (have H2_ := (Option.bind_some _ _).symm.trans H; with_reducible exact H2_) | with_reducible exact H | (rw [hy600]; exact H) | exact H
    have Ny600 := Aside0.mk hy600
    clear hy600
    replace H := Option.bind_eq_some_iff.mp H
    obtain ⟨t603, A60, H⟩ := H
    replace H : (if t603 = true then ((field_Inv.f k a0 a1).bind fun bt604 => ((affidavitref01_Gcd.f k a0 a1).bind fun t606 => (if ((bt604.2 == 0) != (t606 == 1)) = true then (some false) else (if bt604.2 = 0 then ((field_Mul.f k a0 a1 bt604.1).bind fun bt607 => ((field_Inv.f k a0 bt604.1).bind fun bt609 => ((field_Div.f k a0 a2 a1).bind fun bt611 => ((field_Mul.f k a0 bt611.1 a1).bind fun bt613 => (if bt607.1 = 1 then (if bt609.2 = 0 then (if bt609.1 = a1 then (if bt611.2 = 0 then (some (bt613.1 == a2)) else (some false)) else (some false)) else (some false)) else (some false)))))) else (if bt604.2 = 5 then (some (bt604.1 == 0)) else (some false)))))) else (some true)) = some r := H
    have A6 := Aside0.mk A60
    clear A60
    by_cases c7 : t603 = true
    · subst c7
      have H1 : ((field_Inv.f k a0 a1).bind fun bt604 => ((affidavitref01_Gcd.f k a0 a1).bind fun t606 => (if ((bt604.2 == 0) != (t606 == 1)) = true then (some false) else (if bt604.2 = 0 then ((field_Mul.f k a0 a1 bt604.1).bind fun bt607 => ((field_Inv.f k a0 bt604.1).bind fun bt609 => ((field_Div.f k a0 a2 a1).bind fun bt611 => ((field_Mul.f k a0 bt611.1 a1).bind fun bt613 => (if bt607.1 = 1 then (if bt609.2 = 0 then (if bt609.1 = a1 then (if bt611.2 = 0 then (some (bt613.1 == a2)) else (some false)) else (some false)) else (some false)) else (some false)))))) else (if bt604.2 = 5 then (some (bt604.1 == 0)) else (some false)))))) = some r := by rw [if_pos rfl] at H; exact H
      clear H
      have H := H1
      clear H1
      replace H := Option.bind_eq_some_iff.mp H
      obtain ⟨⟨t604, t605⟩, A80, H⟩ := H
      replace H : ((affidavitref01_Gcd.f k a0 a1).bind fun t606 => (if ((t605 == 0) != (t606 == 1)) = true then (some false) else (if t605 = 0 then ((field_Mul.f k a0 a1 t604).bind fun bt607 => ((field_Inv.f k a0 t604).bind fun bt609 => ((field_Div.f k a0 a2 a1).bind fun bt611 => ((field_Mul.f k a0 bt611.1 a1).bind fun bt613 => (if bt607.1 = 1 then (if bt609.2 = 0 then (if bt609.1 = a1 then (if bt611.2 = 0 then (some (bt613.1 == a2)) else (some false)) else (some false)) else (some false)) else (some false)))))) else (if t605 = 5 then (some (t604 == 0)) else (some false))))) = some r := H
      have A8 := Aside0.mk A80
      clear A80
      replace H := Option.bind_eq_some_iff.mp H
      obtain ⟨t606, A90, H⟩ := H
      replace H : (if ((t605 == 0) != (t606 == 1)) = true then (some false) else (if t605 = 0 then ((field_Mul.f k a0 a1 t604).bind fun bt607 => ((field_Inv.f k a0 t604).bind fun bt609 => ((field_Div.f k a0 a2 a1).bind fun bt611 => ((field_Mul.f k a0 bt611.1 a1).bind fun bt613 => (if bt607.1 = 1 then (if bt609.2 = 0 then (if bt609.1 = a1 then (if bt611.2 = 0 then (some (bt613.1 == a2)) else (some false)) else (some false)) else (some false)) else (some false)))))) else (if t605 = 5 then (some (t604 == 0)) else (some false)))) = some r := H
      have A9 := Aside0.mk A90
      clear A90
      by_cases c10 : ((t605 == 0) != (t606 == 1)) = true
      · rw [if_pos c10] at H
        have c10b0 : ((t605 == 0) != (t606 == 1)) = true := c10
        (try (have c10b1 : decide ((t605 == 0) = (t606 == 1)) = false := by simpa using c10))
        (try (have c10b2 : ((t605 == 0) == (t606 == 1)) = false := by simpa using c10))
        (try (have c10b3 : ¬ ((t605 == 0) = (t606 == 1)) := by simpa using c10))
        clear c10
        exact absurd ((Option.some.inj H).trans HT.out) (by decide)
      · rw [if_neg c10] at H
        have c10b0 : ((t605 == 0) != (t606 == 1)) = false := by simpa using c10
        (try (have c10b1 : decide ((t605 == 0) = (t606 == 1)) = true := by simpa using c10))
        (try (have c10b2 : ((t605 == 0) == (t606 == 1)) = true := by simpa using c10))
        clear c10
        by_cases c11 : t605 = 0
        · rw [if_pos c11] at H
          have c11b0 : (t605 == 0) = true := beq_iff_eq.mpr c11
          have c11b1 : (t605 != 0) = false := bne_eq_false_iff_eq.mpr c11
          clear c11
          (try (have c11x0 : (t606 == 1) = true := by have h_ := c10b0; rw [c11b0] at h_; simpa using h_))
          replace H := Option.bind_eq_some_iff.mp H
          obtain ⟨⟨t607, t608⟩, A120, H⟩ := H
          replace H : ((field_Inv.f k a0 t604).bind fun bt609 => ((field_Div.f k a0 a2 a1).bind fun bt611 => ((field_Mul.f k a0 bt611.1 a1).bind fun bt613 => (if t607 = 1 then (if bt609.2 = 0 then (if bt609.1 = a1 then (if bt611.2 = 0 then (some (bt613.1 == a2)) else (some false)) else (some false)) else (some false)) else (some false))))) = some r := H
          have A12 := Aside0.mk A120
          clear A120
          replace H := Option.bind_eq_some_iff.mp H
          obtain ⟨⟨t609, t610⟩, A130, H⟩ := H
          replace H : ((field_Div.f k a0 a2 a1).bind fun bt611 => ((field_Mul.f k a0 bt611.1 a1).bind fun bt613 => (if t607 = 1 then (if t610 = 0 then (if t609 = a1 then (if bt611.2 = 0 then (some (bt613.1 == a2)) else (some false)) else (some false)) else (some false)) else (some false)))) = some r := H
          have A13 := Aside0.mk A130
          clear A130
          replace H := Option.bind_eq_some_iff.mp H
          obtain ⟨⟨t611, t612⟩, A140, H⟩ := H
          replace H : ((field_Mul.f k a0 t611 a1).bind fun bt613 => (if t607 = 1 then (if t610 = 0 then (if t609 = a1 then (if t612 = 0 then (some (bt613.1 == a2)) else (some false)) else (some false)) else (some false)) else (some false))) = some r := H
          have A14 := Aside0.mk A140
          clear A140
          replace H := Option.bind_eq_some_iff.mp H
          obtain ⟨⟨t613, t614⟩, A150, H⟩ := H
          replace H : (if t607 = 1 then (if t610 = 0 then (if t609 = a1 then (if t612 = 0 then (some (t613 == a2)) else (some false)) else (some false)) else (some false)) else (some false)) = some r := H
          have A15 := Aside0.mk A150
          clear A150
          by_cases c16 : t607 = 1
          · rw [if_pos c16] at H
            have c16b0 : (t607 == 1) = true := beq_iff_eq.mpr c16
            have c16b1 : (t607 != 1) = false := bne_eq_false_iff_eq.mpr c16
            clear c16
            by_cases c17 : t610 = 0
            · rw [if_pos c17] at H
              have c17b0 : (t610 == 0) = true := beq_iff_eq.mpr c17
              have c17b1 : (t610 != 0) = false := bne_eq_false_iff_eq.mpr c17
              clear c17
              by_cases c18 : t609 = a1
              · rw [if_pos c18] at H
                have c18b0 : (t609 == a1) = true := beq_iff_eq.mpr c18
                have c18b1 : (t609 != a1) = false := bne_eq_false_iff_eq.mpr c18
                clear c18
                by_cases c19 : t612 = 0
                · rw [if_pos c19] at H
                  have c19b0 : (t612 == 0) = true := beq_iff_eq.mpr c19
                  have c19b1 : (t612 != 0) = false := bne_eq_false_iff_eq.mpr c19
                  clear c19
                  obtain rfl := Option.some.inj H
                  go_enter Try.func11, Try.ntmps11
                  go_wp2_with (first | ((with_reducible refine gate_callee (f := 29) rfl ?_); refine goesL_ (some 17) rfl rfl Try.func29 (by kernel_rfl) rfl #[] rfl (by (try simp only [List.map_toArray, List.map_cons, List.map_nil]); first | done | rfl | (simp only [List.length_drop, List.length_take]; rfl)) ?_; (with_reducible refine (affidavitlaw01_awake.calls k  true _ A4.out rfl).mono ?_); rintro e w20 ⟨rfl, hb⟩; refine ⟨_, rfl, ?_⟩; have n0_ := Aside0.mk (below_step (by repeat (first | (with_reducible first | exact HB.out | apply below_alloc | apply pw_below_drewN | apply below_drew1) | exact HB.out)) hb); clear HB; have HB := n0_; clear n0_; (try clear hb); (try clear hb2); (try clear hk); (try clear hi)) | ((with_reducible refine gate_dst (N := 22) rfl ?_); refine Kd.R_lit (Kd.int .u64) _ 22 ?hg (N := 22) ?hd (xs := ([a1, a2] : List Int)) (inner := [.int .u64 a1, .int .u64 a2]) (ok := fun _ => True) (okp := fun _ => True) ?hr ?hp (fun _ hk => hk) trivial (Below.refl _ _) (Nat.le_refl _) (by simp) ?_; (case hd => rfl); (case hg => rfl); (case hr => first | (go_simp; done) | (go_simp; rfl)); (case hp => exact (Reps.one (show Kd.M (Kd.int .u64) _ _ _ a1 [.int .u64 a1] from rfl) (Reps.one (show Kd.M (Kd.int .u64) _ _ _ a2 [.int .u64 a2] from rfl) (Reps.none _ _)))); intro v601 w21 ho22 hb hg_ hnew_; clear hg_ hnew_; (first | rw [← Ny600.out] at ho22 | (simp only [Int.reduceToNat] at ho22; rw [← Ny600.out] at ho22)); have n0_ := Aside0.mk (Kd.R_lower ho22 (below_size (by repeat (first | (with_reducible first | exact HB.out | apply below_alloc | apply pw_below_drewN | apply below_drew1) | exact HB.out)))); have n1_ := Aside0.mk (below_step (by repeat (first | (with_reducible first | exact HB.out | apply below_alloc | apply pw_below_drewN | apply below_drew1) | exact HB.out)) hb); clear HB; have HO602 := n0_; have HB := n1_; clear n0_ n1_; clear hb ho22; obtain ⟨Ao23, co23, eo23⟩ := Kd.R_slice HO602.out; subst eo23) | ((with_reducible refine gate_callee (f := 28) rfl ?_); refine goesL_ (some 23) rfl rfl Try.func28 (by kernel_rfl) rfl #[.int .u64 a0, .slice Ao23 y600.length co23] rfl (by (try simp only [List.map_toArray, List.map_cons, List.map_nil]); first | done | rfl | (simp only [List.length_drop, List.length_take]; rfl)) ?_; (with_reducible refine (field_Has.calls k a0 _ _ y600 true _ ?side1 ?side2 A6.out).mono ?_); (case side1 => repeat (first | exact (Kd.R_reads' HO602.out).2.2 | (with_reducible refine Kd.C_alloc ?_ _) | (with_reducible refine Kd.C_drewN ?_ _) | (with_reducible refine Kd.C_drew ?_))); (case side2 => exact (Kd.R_reads' HO602.out).2.1); rintro e w' ⟨rfl, ⟨nd, rfl⟩⟩; refine ⟨_, rfl, ?_⟩) | ((with_reducible refine gate_callee (f := 36) rfl ?_); refine goesL_ (some 28) rfl rfl Try.func36 (by kernel_rfl) rfl #[.int .u64 a0, .int .u64 a1] rfl (by (try simp only [List.map_toArray, List.map_cons, List.map_nil]); first | done | rfl | (simp only [List.length_drop, List.length_take]; rfl)) ?_; (with_reducible refine (field_Inv.calls k a0 a1 t604 t605 _ A8.out).mono ?_); rintro e w24 ⟨rfl, hb⟩; refine ⟨_, rfl, ?_⟩; have n0_ := Aside0.mk (Kd.R_below (by (with_reducible repeat (first | apply Kd.R_alloc | apply Kd.R_drewN | apply Kd.R_drew)); exact HO602.out) hb); have n1_ := Aside0.mk (below_step (by repeat (first | (with_reducible first | exact HB.out | apply below_alloc | apply pw_below_drewN | apply below_drew1) | exact HB.out)) hb); clear HO602; clear HB; have HO602 := n0_; have HB := n1_; clear n0_ n1_; (try clear hb); (try clear hb2); (try clear hk); (try clear hi)) | ((with_reducible refine gate_callee (f := 37) rfl ?_); refine goesL_ (some 35) rfl rfl Try.func37 (by kernel_rfl) rfl #[.int .u64 a0, .int .u64 a1] rfl (by (try simp only [List.map_toArray, List.map_cons, List.map_nil]); first | done | rfl | (simp only [List.length_drop, List.length_take]; rfl)) ?_; (with_reducible refine (affidavitref01_Gcd.calls k a0 a1 t606 _ A9.out).mono ?_); rintro e w' ⟨rfl, ⟨nd, rfl⟩⟩; refine ⟨_, rfl, ?_⟩) | ((with_reducible refine gate_callee (f := 31) rfl ?_); refine goesL_ (some 50) rfl rfl Try.func31 (by kernel_rfl) rfl #[.int .u64 a0, .int .u64 a1, .int .u64 t604] rfl (by (try simp only [List.map_toArray, List.map_cons, List.map_nil]); first | done | rfl | (simp only [List.length_drop, List.length_take]; rfl)) ?_; (with_reducible refine (field_Mul.calls k a0 a1 t604 t607 t608 _ A12.out).mono ?_); rintro e w25 ⟨rfl, hb⟩; refine ⟨_, rfl, ?_⟩; have n0_ := Aside0.mk (Kd.R_below (by (with_reducible repeat (first | apply Kd.R_alloc | apply Kd.R_drewN | apply Kd.R_drew)); exact HO602.out) hb); have n1_ := Aside0.mk (below_step (by repeat (first | (with_reducible first | exact HB.out | apply below_alloc | apply pw_below_drewN | apply below_drew1) | exact HB.out)) hb); clear HO602; clear HB; have HO602 := n0_; have HB := n1_; clear n0_ n1_; (try clear hb); (try clear hb2); (try clear hk); (try clear hi)) | ((with_reducible refine gate_callee (f := 36) rfl ?_); refine goesL_ (some 56) rfl rfl Try.func36 (by kernel_rfl) rfl #[.int .u64 a0, .int .u64 t604] rfl (by (try simp only [List.map_toArray, List.map_cons, List.map_nil]); first | done | rfl | (simp only [List.length_drop, List.length_take]; rfl)) ?_; (with_reducible refine (field_Inv.calls k a0 t604 t609 t610 _ A13.out).mono ?_); rintro e w26 ⟨rfl, hb⟩; refine ⟨_, rfl, ?_⟩; have n0_ := Aside0.mk (Kd.R_below (by (with_reducible repeat (first | apply Kd.R_alloc | apply Kd.R_drewN | apply Kd.R_drew)); exact HO602.out) hb); have n1_ := Aside0.mk (below_step (by repeat (first | (with_reducible first | exact HB.out | apply below_alloc | apply pw_below_drewN | apply below_drew1) | exact HB.out)) hb); clear HO602; clear HB; have HO602 := n0_; have HB := n1_; clear n0_ n1_; (try clear hb); (try clear hb2); (try clear hk); (try clear hi)) | ((with_reducible refine gate_callee (f := 38) rfl ?_); refine goesL_ (some 63) rfl rfl Try.func38 (by kernel_rfl) rfl #[.int .u64 a0, .int .u64 a2, .int .u64 a1] rfl (by (try simp only [List.map_toArray, List.map_cons, List.map_nil]); first | done | rfl | (simp only [List.length_drop, List.length_take]; rfl)) ?_; (with_reducible refine (field_Div.calls k a0 a2 a1 t611 t612 _ A14.out).mono ?_); rintro e w27 ⟨rfl, hb⟩; refine ⟨_, rfl, ?_⟩; have n0_ := Aside0.mk (Kd.R_below (by (with_reducible repeat (first | apply Kd.R_alloc | apply Kd.R_drewN | apply Kd.R_drew)); exact HO602.out) hb); have n1_ := Aside0.mk (below_step (by repeat (first | (with_reducible first | exact HB.out | apply below_alloc | apply pw_below_drewN | apply below_drew1) | exact HB.out)) hb); clear HO602; clear HB; have HO602 := n0_; have HB := n1_; clear n0_ n1_; (try clear hb); (try clear hb2); (try clear hk); (try clear hi)) | ((with_reducible refine gate_callee (f := 31) rfl ?_); refine goesL_ (some 70) rfl rfl Try.func31 (by kernel_rfl) rfl #[.int .u64 a0, .int .u64 t611, .int .u64 a1] rfl (by (try simp only [List.map_toArray, List.map_cons, List.map_nil]); first | done | rfl | (simp only [List.length_drop, List.length_take]; rfl)) ?_; (with_reducible refine (field_Mul.calls k a0 t611 a1 t613 t614 _ A15.out).mono ?_); rintro e w28 ⟨rfl, hb⟩; refine ⟨_, rfl, ?_⟩; have n0_ := Aside0.mk (Kd.R_below (by (with_reducible repeat (first | apply Kd.R_alloc | apply Kd.R_drewN | apply Kd.R_drew)); exact HO602.out) hb); have n1_ := Aside0.mk (below_step (by repeat (first | (with_reducible first | exact HB.out | apply below_alloc | apply pw_below_drewN | apply below_drew1) | exact HB.out)) hb); clear HO602; clear HB; have HO602 := n0_; have HB := n1_; clear n0_ n1_; (try clear hb); (try clear hb2); (try clear hk); (try clear hi)))
                  go_ret
                  exact ⟨by first | rfl | (simp [errW_none, errW_some] <;> rfl) | (simp [*, errW_none, errW_some] <;> rfl), by repeat (first | (with_reducible first | exact HB.out | apply below_alloc | apply pw_below_drewN | apply below_drew1) | exact HB.out)⟩
                · rw [if_neg c19] at H
                  have c19b0 : (t612 == 0) = false := beq_eq_false_iff_ne.mpr c19
                  have c19b1 : (t612 != 0) = true := bne_iff_ne.mpr c19
                  exact absurd ((Option.some.inj H).trans HT.out) (by decide)
              · rw [if_neg c18] at H
                have c18b0 : (t609 == a1) = false := beq_eq_false_iff_ne.mpr c18
                have c18b1 : (t609 != a1) = true := bne_iff_ne.mpr c18
                exact absurd ((Option.some.inj H).trans HT.out) (by decide)
            · rw [if_neg c17] at H
              have c17b0 : (t610 == 0) = false := beq_eq_false_iff_ne.mpr c17
              have c17b1 : (t610 != 0) = true := bne_iff_ne.mpr c17
              exact absurd ((Option.some.inj H).trans HT.out) (by decide)
          · rw [if_neg c16] at H
            have c16b0 : (t607 == 1) = false := beq_eq_false_iff_ne.mpr c16
            have c16b1 : (t607 != 1) = true := bne_iff_ne.mpr c16
            exact absurd ((Option.some.inj H).trans HT.out) (by decide)
        · rw [if_neg c11] at H
          have c11b0 : (t605 == 0) = false := beq_eq_false_iff_ne.mpr c11
          have c11b1 : (t605 != 0) = true := bne_iff_ne.mpr c11
          (try (have c11x0 : (t606 == 1) = false := by have h_ := c10b0; rw [c11b0] at h_; simpa using h_))
          by_cases c29 : t605 = 5
          · rw [if_pos c29] at H
            have c29b0 : (t605 == 5) = true := beq_iff_eq.mpr c29
            have c29b1 : (t605 != 5) = false := bne_eq_false_iff_eq.mpr c29
            clear c29
            obtain rfl := Option.some.inj H
            go_enter Try.func11, Try.ntmps11
            go_wp2_with (first | ((with_reducible refine gate_callee (f := 29) rfl ?_); refine goesL_ (some 17) rfl rfl Try.func29 (by kernel_rfl) rfl #[] rfl (by (try simp only [List.map_toArray, List.map_cons, List.map_nil]); first | done | rfl | (simp only [List.length_drop, List.length_take]; rfl)) ?_; (with_reducible refine (affidavitlaw01_awake.calls k  true _ A4.out rfl).mono ?_); rintro e w30 ⟨rfl, hb⟩; refine ⟨_, rfl, ?_⟩; have n0_ := Aside0.mk (below_step (by repeat (first | (with_reducible first | exact HB.out | apply below_alloc | apply pw_below_drewN | apply below_drew1) | exact HB.out)) hb); clear HB; have HB := n0_; clear n0_; (try clear hb); (try clear hb2); (try clear hk); (try clear hi)) | ((with_reducible refine gate_dst (N := 22) rfl ?_); refine Kd.R_lit (Kd.int .u64) _ 22 ?hg (N := 22) ?hd (xs := ([a1, a2] : List Int)) (inner := [.int .u64 a1, .int .u64 a2]) (ok := fun _ => True) (okp := fun _ => True) ?hr ?hp (fun _ hk => hk) trivial (Below.refl _ _) (Nat.le_refl _) (by simp) ?_; (case hd => rfl); (case hg => rfl); (case hr => first | (go_simp; done) | (go_simp; rfl)); (case hp => exact (Reps.one (show Kd.M (Kd.int .u64) _ _ _ a1 [.int .u64 a1] from rfl) (Reps.one (show Kd.M (Kd.int .u64) _ _ _ a2 [.int .u64 a2] from rfl) (Reps.none _ _)))); intro v601 w31 ho32 hb hg_ hnew_; clear hg_ hnew_; (first | rw [← Ny600.out] at ho32 | (simp only [Int.reduceToNat] at ho32; rw [← Ny600.out] at ho32)); have n0_ := Aside0.mk (Kd.R_lower ho32 (below_size (by repeat (first | (with_reducible first | exact HB.out | apply below_alloc | apply pw_below_drewN | apply below_drew1) | exact HB.out)))); have n1_ := Aside0.mk (below_step (by repeat (first | (with_reducible first | exact HB.out | apply below_alloc | apply pw_below_drewN | apply below_drew1) | exact HB.out)) hb); clear HB; have HO602 := n0_; have HB := n1_; clear n0_ n1_; clear hb ho32; obtain ⟨Ao33, co33, eo33⟩ := Kd.R_slice HO602.out; subst eo33) | ((with_reducible refine gate_callee (f := 28) rfl ?_); refine goesL_ (some 23) rfl rfl Try.func28 (by kernel_rfl) rfl #[.int .u64 a0, .slice Ao33 y600.length co33] rfl (by (try simp only [List.map_toArray, List.map_cons, List.map_nil]); first | done | rfl | (simp only [List.length_drop, List.length_take]; rfl)) ?_; (with_reducible refine (field_Has.calls k a0 _ _ y600 true _ ?side1 ?side2 A6.out).mono ?_); (case side1 => repeat (first | exact (Kd.R_reads' HO602.out).2.2 | (with_reducible refine Kd.C_alloc ?_ _) | (with_reducible refine Kd.C_drewN ?_ _) | (with_reducible refine Kd.C_drew ?_))); (case side2 => exact (Kd.R_reads' HO602.out).2.1); rintro e w' ⟨rfl, ⟨nd, rfl⟩⟩; refine ⟨_, rfl, ?_⟩) | ((with_reducible refine gate_callee (f := 36) rfl ?_); refine goesL_ (some 28) rfl rfl Try.func36 (by kernel_rfl) rfl #[.int .u64 a0, .int .u64 a1] rfl (by (try simp only [List.map_toArray, List.map_cons, List.map_nil]); first | done | rfl | (simp only [List.length_drop, List.length_take]; rfl)) ?_; (with_reducible refine (field_Inv.calls k a0 a1 t604 t605 _ A8.out).mono ?_); rintro e w34 ⟨rfl, hb⟩; refine ⟨_, rfl, ?_⟩; have n0_ := Aside0.mk (Kd.R_below (by (with_reducible repeat (first | apply Kd.R_alloc | apply Kd.R_drewN | apply Kd.R_drew)); exact HO602.out) hb); have n1_ := Aside0.mk (below_step (by repeat (first | (with_reducible first | exact HB.out | apply below_alloc | apply pw_below_drewN | apply below_drew1) | exact HB.out)) hb); clear HO602; clear HB; have HO602 := n0_; have HB := n1_; clear n0_ n1_; (try clear hb); (try clear hb2); (try clear hk); (try clear hi)) | ((with_reducible refine gate_callee (f := 37) rfl ?_); refine goesL_ (some 35) rfl rfl Try.func37 (by kernel_rfl) rfl #[.int .u64 a0, .int .u64 a1] rfl (by (try simp only [List.map_toArray, List.map_cons, List.map_nil]); first | done | rfl | (simp only [List.length_drop, List.length_take]; rfl)) ?_; (with_reducible refine (affidavitref01_Gcd.calls k a0 a1 t606 _ A9.out).mono ?_); rintro e w' ⟨rfl, ⟨nd, rfl⟩⟩; refine ⟨_, rfl, ?_⟩))
            go_ret
            exact ⟨by first | rfl | (simp [errW_none, errW_some] <;> rfl) | (simp [*, errW_none, errW_some] <;> rfl), by repeat (first | (with_reducible first | exact HB.out | apply below_alloc | apply pw_below_drewN | apply below_drew1) | exact HB.out)⟩
          · rw [if_neg c29] at H
            have c29b0 : (t605 == 5) = false := beq_eq_false_iff_ne.mpr c29
            have c29b1 : (t605 != 5) = true := bne_iff_ne.mpr c29
            exact absurd ((Option.some.inj H).trans HT.out) (by decide)
    · replace c7 := Bool.eq_false_iff.mpr c7
      subst c7
      have H1 : (some true) = some r := by rw [if_neg (show ¬ (false = true) by decide)] at H; exact H
      clear H
      have H := H1
      clear H1
      obtain rfl := Option.some.inj H
      go_enter Try.func11, Try.ntmps11
      go_wp2_with (first | ((with_reducible refine gate_callee (f := 29) rfl ?_); refine goesL_ (some 17) rfl rfl Try.func29 (by kernel_rfl) rfl #[] rfl (by (try simp only [List.map_toArray, List.map_cons, List.map_nil]); first | done | rfl | (simp only [List.length_drop, List.length_take]; rfl)) ?_; (with_reducible refine (affidavitlaw01_awake.calls k  true _ A4.out rfl).mono ?_); rintro e w35 ⟨rfl, hb⟩; refine ⟨_, rfl, ?_⟩; have n0_ := Aside0.mk (below_step (by repeat (first | (with_reducible first | exact HB.out | apply below_alloc | apply pw_below_drewN | apply below_drew1) | exact HB.out)) hb); clear HB; have HB := n0_; clear n0_; (try clear hb); (try clear hb2); (try clear hk); (try clear hi)) | ((with_reducible refine gate_dst (N := 22) rfl ?_); refine Kd.R_lit (Kd.int .u64) _ 22 ?hg (N := 22) ?hd (xs := ([a1, a2] : List Int)) (inner := [.int .u64 a1, .int .u64 a2]) (ok := fun _ => True) (okp := fun _ => True) ?hr ?hp (fun _ hk => hk) trivial (Below.refl _ _) (Nat.le_refl _) (by simp) ?_; (case hd => rfl); (case hg => rfl); (case hr => first | (go_simp; done) | (go_simp; rfl)); (case hp => exact (Reps.one (show Kd.M (Kd.int .u64) _ _ _ a1 [.int .u64 a1] from rfl) (Reps.one (show Kd.M (Kd.int .u64) _ _ _ a2 [.int .u64 a2] from rfl) (Reps.none _ _)))); intro v601 w36 ho37 hb hg_ hnew_; clear hg_ hnew_; (first | rw [← Ny600.out] at ho37 | (simp only [Int.reduceToNat] at ho37; rw [← Ny600.out] at ho37)); have n0_ := Aside0.mk (Kd.R_lower ho37 (below_size (by repeat (first | (with_reducible first | exact HB.out | apply below_alloc | apply pw_below_drewN | apply below_drew1) | exact HB.out)))); have n1_ := Aside0.mk (below_step (by repeat (first | (with_reducible first | exact HB.out | apply below_alloc | apply pw_below_drewN | apply below_drew1) | exact HB.out)) hb); clear HB; have HO602 := n0_; have HB := n1_; clear n0_ n1_; clear hb ho37; obtain ⟨Ao38, co38, eo38⟩ := Kd.R_slice HO602.out; subst eo38) | ((with_reducible refine gate_callee (f := 28) rfl ?_); refine goesL_ (some 23) rfl rfl Try.func28 (by kernel_rfl) rfl #[.int .u64 a0, .slice Ao38 y600.length co38] rfl (by (try simp only [List.map_toArray, List.map_cons, List.map_nil]); first | done | rfl | (simp only [List.length_drop, List.length_take]; rfl)) ?_; (with_reducible refine (field_Has.calls k a0 _ _ y600 false _ ?side1 ?side2 A6.out).mono ?_); (case side1 => repeat (first | exact (Kd.R_reads' HO602.out).2.2 | (with_reducible refine Kd.C_alloc ?_ _) | (with_reducible refine Kd.C_drewN ?_ _) | (with_reducible refine Kd.C_drew ?_))); (case side2 => exact (Kd.R_reads' HO602.out).2.1); rintro e w' ⟨rfl, ⟨nd, rfl⟩⟩; refine ⟨_, rfl, ?_⟩))
      go_ret
      exact ⟨by first | rfl | (simp [errW_none, errW_some] <;> rfl) | (simp [*, errW_none, errW_some] <;> rfl), by repeat (first | (with_reducible first | exact HB.out | apply below_alloc | apply pw_below_drewN | apply below_drew1) | exact HB.out)⟩
  · replace c5 := Bool.eq_false_iff.mpr c5
    subst c5
    have H1 : (some false) = some r := by rw [if_neg (show ¬ (false = true) by decide)] at H; exact H
    clear H
    have H := H1
    clear H1
    exact absurd ((Option.some.inj H).trans HT.out) (by decide)

/-- THE ONE PURE STATEMENT of affidavitlaw01_FieldTurned. -/
def affidavitlaw01_FieldTurned.Pure : Prop := ∀ (a0 : Int) (a1 : Int) (a2 : Int), (Lit.int .u64 a0).wf = true → (Lit.int .u64 a1).wf = true → (Lit.int .u64 a2).wf = true → ∃ k, affidavitlaw01_FieldTurned.f k a0 a1 a2 = some true
theorem affidavitlaw01_FieldTurned.walkx (P : affidavitlaw01_FieldTurned.Pure) (a0 : Int) (a1 : Int) (a2 : Int) (w : World)  (hg0 : (Lit.int .u64 a0).wf = true) (hg1 : (Lit.int .u64 a1).wf = true) (hg2 : (Lit.int .u64 a2).wf = true) :
    Calls Try.prog 11 #[.int .u64 a0, .int .u64 a1, .int .u64 a2] w fun e w' => e = .returned (.bool true) ∧ Below w.heap.size w w' := by
  obtain ⟨k, h⟩ := P a0 a1 a2 hg0 hg1 hg2
  refine (affidavitlaw01_FieldTurned.calls k a0 a1 a2 true w  h rfl).mono ?_
  rintro e w' ⟨rfl, hd⟩
  exact ⟨rfl, hd⟩

end Go.Proofs.Ytdfhkdddlfmceaa.X
