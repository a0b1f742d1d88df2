/- Walks of functions that the given law reaches: each comes to what its plain twin says. Written by xprint.py, a program of this claim's session; Lean checks it. -/
import Derived.Test.YtdfhkdddlfmceaaX0
import Derived.Test.YtdfhkdddlfmceaaX7
import Derived.Test.YtdfhkdddlfmceaaX10
import Derived.Test.YtdfhkdddlfmceaaX11
namespace Go.Proofs.Ytdfhkdddlfmceaa.X
open Go.RowKit Go.Proofs.YtdfhkdddlfmceaaW.PrintWords Go.Proofs.YtdfhkdddlfmceaaW.PrintLast Go.Proofs.YtdfhkdddlfmceaaW.PrintMore
attribute [local go_sem] max2_int min2_int max_two min_two max_three min_three max_four min_four   -- for this text's walks alone
set_option linter.unusedVariables false
set_option linter.unusedSimpArgs false

/-! ### affidavitlaw01_FieldPowers: function 7 -/
def affidavitlaw01_FieldPowers.f (k : Nat) (a0 : Int) (a1 : Int) (a2 : Int) (a3 : Int) : Option (Bool) := (affidavitlaw01_awake.f k).bind fun t474 => (if t474 = true then ((field_Has.f k a0 (([a1] : List Int))).bind fun t478 => (if t478 = true then ((field_Pow.f k a0 a1 (IntKind.u64.wrap (a2))).bind fun bt479 => ((field_Pow.f k a0 a1 (IntKind.u64.wrap (a3))).bind fun bt481 => ((field_Mul.f k a0 bt479.1 bt481.1).bind fun bt483 => ((field_Pow.f k a0 a1 (IntKind.u64.wrap ((IntKind.u64.wrap (a2)) + (IntKind.u64.wrap (a3))))).bind fun bt485 => ((field_Pow.f k a0 bt479.1 (IntKind.u64.wrap (a3))).bind fun bt487 => ((field_Pow.f k a0 a1 (IntKind.u64.wrap ((IntKind.u64.wrap (a2)) * (IntKind.u64.wrap (a3))))).bind fun bt489 => ((field_Pow.f k a0 a1 0).bind fun bt491 => ((field_Pow.f k a0 a1 1).bind fun bt493 => (if bt483.1 = bt485.1 then (if bt487.1 = bt489.1 then (if bt491.1 = 1 then (some (bt493.1 == a1)) else (some false)) else (some false)) else (some false)))))))))) else (some true))) else (some false))
theorem affidavitlaw01_FieldPowers.mono : ∀ a0 a1 a2 a3 k, LeO (affidavitlaw01_FieldPowers.f k a0 a1 a2 a3) (affidavitlaw01_FieldPowers.f (k + 1) a0 a1 a2 a3) := by
  intro a0 a1 a2 a3 k
  unfold affidavitlaw01_FieldPowers.f
  repeat' first
      | (with_reducible exact affidavitlaw01_awake.mono _)
      | (with_reducible exact field_Has.mono _ _ _)
      | (with_reducible exact field_Mul.mono _ _ _ _)
      | (with_reducible exact field_Pow.mono _ _ _ _)
      | (with_reducible exact LeO.refl _)
      | (with_reducible exact LeO.none _)
      | (with_reducible refine LeO.ite ?_ ?_)
      | (with_reducible refine LeO.bind ?_ (fun _ => ?_))
      | exact affidavitlaw01_awake.mono _
      | exact field_Has.mono _ _ _
      | exact field_Mul.mono _ _ _ _
      | exact field_Pow.mono _ _ _ _
      | exact LeO.none _
      | refine LeO.ite ?_ ?_
      | refine LeO.bind ?_ (fun _ => ?_)
set_option maxHeartbeats 8000000 in
set_option maxRecDepth 100000 in
theorem affidavitlaw01_FieldPowers.calls (k : Nat) (a0 : Int) (a1 : Int) (a2 : Int) (a3 : Int) (r : Bool) (w : World) (h : affidavitlaw01_FieldPowers.f k a0 a1 a2 a3 = some r) (ht : r = true) :
    Calls Try.prog 7 #[.int .u64 a0, .int .u64 a1, .int .u32 a2, .int .u32 a3] w fun e w' => e = .returned (.bool r) ∧ Below w.heap.size w w' := by
  have HB := Aside0.mk (Below.refl w.heap.size w)
  have H : ((affidavitlaw01_awake.f k).bind fun t474 => (if t474 = true then ((field_Has.f k a0 (([a1] : List Int))).bind fun t478 => (if t478 = true then ((field_Pow.f k a0 a1 (IntKind.u64.wrap (a2))).bind fun bt479 => ((field_Pow.f k a0 a1 (IntKind.u64.wrap (a3))).bind fun bt481 => ((field_Mul.f k a0 bt479.1 bt481.1).bind fun bt483 => ((field_Pow.f k a0 a1 (IntKind.u64.wrap ((IntKind.u64.wrap (a2)) + (IntKind.u64.wrap (a3))))).bind fun bt485 => ((field_Pow.f k a0 bt479.1 (IntKind.u64.wrap (a3))).bind fun bt487 => ((field_Pow.f k a0 a1 (IntKind.u64.wrap ((IntKind.u64.wrap (a2)) * (IntKind.u64.wrap (a3))))).bind fun bt489 => ((field_Pow.f k a0 a1 0).bind fun bt491 => ((field_Pow.f k a0 a1 1).bind fun bt493 => (if bt483.1 = bt485.1 then (if bt487.1 = bt489.1 then (if bt491.1 = 1 then (some (bt493.1 == a1)) else (some false)) else (some false)) else (some false)))))))))) else (some true))) else (some false))) = some r := h
  clear h
  have HT := Aside0.mk ht
  clear ht
  replace H := Option.bind_eq_some_iff.mp H
  obtain ⟨t474, A50, H⟩ := H
  replace H : (if t474 = true then ((field_Has.f k a0 (([a1] : List Int))).bind fun t478 => (if t478 = true then ((field_Pow.f k a0 a1 (IntKind.u64.wrap (a2))).bind fun bt479 => ((field_Pow.f k a0 a1 (IntKind.u64.wrap (a3))).bind fun bt481 => ((field_Mul.f k a0 bt479.1 bt481.1).bind fun bt483 => ((field_Pow.f k a0 a1 (IntKind.u64.wrap ((IntKind.u64.wrap (a2)) + (IntKind.u64.wrap (a3))))).bind fun bt485 => ((field_Pow.f k a0 bt479.1 (IntKind.u64.wrap (a3))).bind fun bt487 => ((field_Pow.f k a0 a1 (IntKind.u64.wrap ((IntKind.u64.wrap (a2)) * (IntKind.u64.wrap (a3))))).bind fun bt489 => ((field_Pow.f k a0 a1 0).bind fun bt491 => ((field_Pow.f k a0 a1 1).bind fun bt493 => (if bt483.1 = bt485.1 then (if bt487.1 = bt489.1 then (if bt491.1 = 1 then (some (bt493.1 == a1)) else (some false)) else (some false)) else (some false)))))))))) else (some true))) else (some false)) = some r := H
  have A5 := Aside0.mk A50
  clear A50
  by_cases c6 : t474 = true
  · subst c6
    have H1 : ((field_Has.f k a0 (([a1] : List Int))).bind fun t478 => (if t478 = true then ((field_Pow.f k a0 a1 (IntKind.u64.wrap (a2))).bind fun bt479 => ((field_Pow.f k a0 a1 (IntKind.u64.wrap (a3))).bind fun bt481 => ((field_Mul.f k a0 bt479.1 bt481.1).bind fun bt483 => ((field_Pow.f k a0 a1 (IntKind.u64.wrap ((IntKind.u64.wrap (a2)) + (IntKind.u64.wrap (a3))))).bind fun bt485 => ((field_Pow.f k a0 bt479.1 (IntKind.u64.wrap (a3))).bind fun bt487 => ((field_Pow.f k a0 a1 (IntKind.u64.wrap ((IntKind.u64.wrap (a2)) * (IntKind.u64.wrap (a3))))).bind fun bt489 => ((field_Pow.f k a0 a1 0).bind fun bt491 => ((field_Pow.f k a0 a1 1).bind fun bt493 => (if bt483.1 = bt485.1 then (if bt487.1 = bt489.1 then (if bt491.1 = 1 then (some (bt493.1 == a1)) else (some false)) else (some false)) else (some false)))))))))) else (some true))) = some r := by rw [if_pos rfl] at H; exact H
    clear H
    have H := H1
    clear H1
    obtain ⟨y475, hy475⟩ : ∃ y_ : List Int, y_ = (([a1] : List Int)) := ⟨_, rfl⟩
    replace H : ((field_Has.f k a0 y475).bind fun t478 => (if t478 = true then ((field_Pow.f k a0 a1 (IntKind.u64.wrap (a2))).bind fun bt479 => ((field_Pow.f k a0 a1 (IntKind.u64.wrap (a3))).bind fun bt481 => ((field_Mul.f k a0 bt479.1 bt481.1).bind fun bt483 => ((field_Pow.f k a0 a1 (IntKind.u64.wrap ((IntKind.u64.wrap (a2)) + (IntKind.u64.wrap (a3))))).bind fun bt485 => ((field_Pow.f k a0 bt479.1 (IntKind.u64.wrap (a3))).bind fun bt487 => ((field_Pow.f k a0 a1 (IntKind.u64.wrap ((IntKind.u64.wrap (a2)) * (IntKind.u64.wrap (a3))))).bind fun bt489 => ((field_Pow.f k a0 a1 0).bind fun bt491 => ((field_Pow.f k a0 a1 1).bind fun bt493 => (if bt483.1 = bt485.1 then (if bt487.1 = bt489.1 then (if bt491.1 = 1 then (some (bt493.1 == a1)) else (some false)) else (some false)) else (some false)))))))))) else (some true))) = some r := by first | (rw [hy475]; with_reducible exact H) | (have H2_ := (Option.bind_some _ _).symm.trans H; rw [hy475]; with_reducible exact H2_) | (have H2_ := (Option.bind_some _ _).symm.trans H; with_reducible exact H2_) | with_reducible exact H | (rw [hy475]; exact H) | exact H
    have Ny475 := Aside0.mk hy475
    clear hy475
    replace H := Option.bind_eq_some_iff.mp H
    obtain ⟨t478, A70, H⟩ := H
    replace H : (if t478 = true then ((field_Pow.f k a0 a1 (IntKind.u64.wrap (a2))).bind fun bt479 => ((field_Pow.f k a0 a1 (IntKind.u64.wrap (a3))).bind fun bt481 => ((field_Mul.f k a0 bt479.1 bt481.1).bind fun bt483 => ((field_Pow.f k a0 a1 (IntKind.u64.wrap ((IntKind.u64.wrap (a2)) + (IntKind.u64.wrap (a3))))).bind fun bt485 => ((field_Pow.f k a0 bt479.1 (IntKind.u64.wrap (a3))).bind fun bt487 => ((field_Pow.f k a0 a1 (IntKind.u64.wrap ((IntKind.u64.wrap (a2)) * (IntKind.u64.wrap (a3))))).bind fun bt489 => ((field_Pow.f k a0 a1 0).bind fun bt491 => ((field_Pow.f k a0 a1 1).bind fun bt493 => (if bt483.1 = bt485.1 then (if bt487.1 = bt489.1 then (if bt491.1 = 1 then (some (bt493.1 == a1)) else (some false)) else (some false)) else (some false)))))))))) else (some true)) = some r := H
    have A7 := Aside0.mk A70
    clear A70
    by_cases c8 : t478 = true
    · subst c8
      have H1 : ((field_Pow.f k a0 a1 (IntKind.u64.wrap (a2))).bind fun bt479 => ((field_Pow.f k a0 a1 (IntKind.u64.wrap (a3))).bind fun bt481 => ((field_Mul.f k a0 bt479.1 bt481.1).bind fun bt483 => ((field_Pow.f k a0 a1 (IntKind.u64.wrap ((IntKind.u64.wrap (a2)) + (IntKind.u64.wrap (a3))))).bind fun bt485 => ((field_Pow.f k a0 bt479.1 (IntKind.u64.wrap (a3))).bind fun bt487 => ((field_Pow.f k a0 a1 (IntKind.u64.wrap ((IntKind.u64.wrap (a2)) * (IntKind.u64.wrap (a3))))).bind fun bt489 => ((field_Pow.f k a0 a1 0).bind fun bt491 => ((field_Pow.f k a0 a1 1).bind fun bt493 => (if bt483.1 = bt485.1 then (if bt487.1 = bt489.1 then (if bt491.1 = 1 then (some (bt493.1 == a1)) else (some false)) else (some false)) else (some false)))))))))) = some r := by rw [if_pos rfl] at H; exact H
      clear H
      have H := H1
      clear H1
      replace H := Option.bind_eq_some_iff.mp H
      obtain ⟨⟨t479, t480⟩, A90, H⟩ := H
      replace H : ((field_Pow.f k a0 a1 (IntKind.u64.wrap (a3))).bind fun bt481 => ((field_Mul.f k a0 t479 bt481.1).bind fun bt483 => ((field_Pow.f k a0 a1 (IntKind.u64.wrap ((IntKind.u64.wrap (a2)) + (IntKind.u64.wrap (a3))))).bind fun bt485 => ((field_Pow.f k a0 t479 (IntKind.u64.wrap (a3))).bind fun bt487 => ((field_Pow.f k a0 a1 (IntKind.u64.wrap ((IntKind.u64.wrap (a2)) * (IntKind.u64.wrap (a3))))).bind fun bt489 => ((field_Pow.f k a0 a1 0).bind fun bt491 => ((field_Pow.f k a0 a1 1).bind fun bt493 => (if bt483.1 = bt485.1 then (if bt487.1 = bt489.1 then (if bt491.1 = 1 then (some (bt493.1 == a1)) else (some false)) else (some false)) else (some false))))))))) = some r := H
      have A9 := Aside0.mk A90
      clear A90
      replace H := Option.bind_eq_some_iff.mp H
      obtain ⟨⟨t481, t482⟩, A100, H⟩ := H
      replace H : ((field_Mul.f k a0 t479 t481).bind fun bt483 => ((field_Pow.f k a0 a1 (IntKind.u64.wrap ((IntKind.u64.wrap (a2)) + (IntKind.u64.wrap (a3))))).bind fun bt485 => ((field_Pow.f k a0 t479 (IntKind.u64.wrap (a3))).bind fun bt487 => ((field_Pow.f k a0 a1 (IntKind.u64.wrap ((IntKind.u64.wrap (a2)) * (IntKind.u64.wrap (a3))))).bind fun bt489 => ((field_Pow.f k a0 a1 0).bind fun bt491 => ((field_Pow.f k a0 a1 1).bind fun bt493 => (if bt483.1 = bt485.1 then (if bt487.1 = bt489.1 then (if bt491.1 = 1 then (some (bt493.1 == a1)) else (some false)) else (some false)) else (some false)))))))) = some r := H
      have A10 := Aside0.mk A100
      clear A100
      replace H := Option.bind_eq_some_iff.mp H
      obtain ⟨⟨t483, t484⟩, A110, H⟩ := H
      replace H : ((field_Pow.f k a0 a1 (IntKind.u64.wrap ((IntKind.u64.wrap (a2)) + (IntKind.u64.wrap (a3))))).bind fun bt485 => ((field_Pow.f k a0 t479 (IntKind.u64.wrap (a3))).bind fun bt487 => ((field_Pow.f k a0 a1 (IntKind.u64.wrap ((IntKind.u64.wrap (a2)) * (IntKind.u64.wrap (a3))))).bind fun bt489 => ((field_Pow.f k a0 a1 0).bind fun bt491 => ((field_Pow.f k a0 a1 1).bind fun bt493 => (if t483 = bt485.1 then (if bt487.1 = bt489.1 then (if bt491.1 = 1 then (some (bt493.1 == a1)) else (some false)) else (some false)) else (some false))))))) = some r := H
      have A11 := Aside0.mk A110
      clear A110
      replace H := Option.bind_eq_some_iff.mp H
      obtain ⟨⟨t485, t486⟩, A120, H⟩ := H
      replace H : ((field_Pow.f k a0 t479 (IntKind.u64.wrap (a3))).bind fun bt487 => ((field_Pow.f k a0 a1 (IntKind.u64.wrap ((IntKind.u64.wrap (a2)) * (IntKind.u64.wrap (a3))))).bind fun bt489 => ((field_Pow.f k a0 a1 0).bind fun bt491 => ((field_Pow.f k a0 a1 1).bind fun bt493 => (if t483 = t485 then (if bt487.1 = bt489.1 then (if bt491.1 = 1 then (some (bt493.1 == a1)) else (some false)) else (some false)) else (some false)))))) = some r := H
      have A12 := Aside0.mk A120
      clear A120
      replace H := Option.bind_eq_some_iff.mp H
      obtain ⟨⟨t487, t488⟩, A130, H⟩ := H
      replace H : ((field_Pow.f k a0 a1 (IntKind.u64.wrap ((IntKind.u64.wrap (a2)) * (IntKind.u64.wrap (a3))))).bind fun bt489 => ((field_Pow.f k a0 a1 0).bind fun bt491 => ((field_Pow.f k a0 a1 1).bind fun bt493 => (if t483 = t485 then (if t487 = bt489.1 then (if bt491.1 = 1 then (some (bt493.1 == a1)) else (some false)) else (some false)) else (some false))))) = some r := H
      have A13 := Aside0.mk A130
      clear A130
      replace H := Option.bind_eq_some_iff.mp H
      obtain ⟨⟨t489, t490⟩, A140, H⟩ := H
      replace H : ((field_Pow.f k a0 a1 0).bind fun bt491 => ((field_Pow.f k a0 a1 1).bind fun bt493 => (if t483 = t485 then (if t487 = t489 then (if bt491.1 = 1 then (some (bt493.1 == a1)) else (some false)) else (some false)) else (some false)))) = some r := H
      have A14 := Aside0.mk A140
      clear A140
      replace H := Option.bind_eq_some_iff.mp H
      obtain ⟨⟨t491, t492⟩, A150, H⟩ := H
      replace H : ((field_Pow.f k a0 a1 1).bind fun bt493 => (if t483 = t485 then (if t487 = t489 then (if t491 = 1 then (some (bt493.1 == a1)) else (some false)) else (some false)) else (some false))) = some r := H
      have A15 := Aside0.mk A150
      clear A150
      replace H := Option.bind_eq_some_iff.mp H
      obtain ⟨⟨t493, t494⟩, A160, H⟩ := H
      replace H : (if t483 = t485 then (if t487 = t489 then (if t491 = 1 then (some (t493 == a1)) else (some false)) else (some false)) else (some false)) = some r := H
      have A16 := Aside0.mk A160
      clear A160
      by_cases c17 : t483 = t485
      · rw [if_pos c17] at H
        have c17b0 : (t483 == t485) = true := beq_iff_eq.mpr c17
        have c17b1 : (t483 != t485) = false := bne_eq_false_iff_eq.mpr c17
        clear c17
        by_cases c18 : t487 = t489
        · rw [if_pos c18] at H
          have c18b0 : (t487 == t489) = true := beq_iff_eq.mpr c18
          have c18b1 : (t487 != t489) = false := bne_eq_false_iff_eq.mpr c18
          clear c18
          by_cases c19 : t491 = 1
          · rw [if_pos c19] at H
            have c19b0 : (t491 == 1) = true := beq_iff_eq.mpr c19
            have c19b1 : (t491 != 1) = false := bne_eq_false_iff_eq.mpr c19
            clear c19
            obtain rfl := Option.some.inj H
            go_enter Try.func7, Try.ntmps7
            go_wp2_with (first | ((with_reducible refine gate_callee (f := 29) rfl ?_); refine goesL_ (some 25) rfl rfl Try.func29 (by kernel_rfl) rfl #[] rfl (by (try simp only [List.map_toArray, List.map_cons, List.map_nil]); first | done | rfl | (simp only [List.length_drop, List.length_take]; rfl)) ?_; (with_reducible refine (affidavitlaw01_awake.calls k  true _ A5.out rfl).mono ?_); rintro e w20 ⟨rfl, hb⟩; refine ⟨_, rfl, ?_⟩; have n0_ := Aside0.mk (below_step (by repeat (first | (with_reducible first | exact HB.out | apply below_alloc | apply pw_below_drewN | apply below_drew1) | exact HB.out)) hb); clear HB; have HB := n0_; clear n0_; (try clear hb); (try clear hb2); (try clear hk); (try clear hi)) | ((with_reducible refine gate_dst (N := 29) rfl ?_); refine Kd.R_lit (Kd.int .u64) _ 22 ?hg (N := 29) ?hd (xs := ([a1] : List Int)) (inner := [.int .u64 a1]) (ok := fun _ => True) (okp := fun _ => True) ?hr ?hp (fun _ hk => hk) trivial (Below.refl _ _) (Nat.le_refl _) (by simp) ?_; (case hd => rfl); (case hg => rfl); (case hr => first | (go_simp; done) | (go_simp; rfl)); (case hp => exact (Reps.one (show Kd.M (Kd.int .u64) _ _ _ a1 [.int .u64 a1] from rfl) (Reps.none _ _))); intro v476 w21 ho22 hb hg_ hnew_; clear hg_ hnew_; (first | rw [← Ny475.out] at ho22 | (simp only [Int.reduceToNat] at ho22; rw [← Ny475.out] at ho22)); have n0_ := Aside0.mk (Kd.R_lower ho22 (below_size (by repeat (first | (with_reducible first | exact HB.out | apply below_alloc | apply pw_below_drewN | apply below_drew1) | exact HB.out)))); have n1_ := Aside0.mk (below_step (by repeat (first | (with_reducible first | exact HB.out | apply below_alloc | apply pw_below_drewN | apply below_drew1) | exact HB.out)) hb); clear HB; have HO477 := n0_; have HB := n1_; clear n0_ n1_; clear hb ho22; obtain ⟨Ao23, co23, eo23⟩ := Kd.R_slice HO477.out; subst eo23) | ((with_reducible refine gate_callee (f := 28) rfl ?_); refine goesL_ (some 30) rfl rfl Try.func28 (by kernel_rfl) rfl #[.int .u64 a0, .slice Ao23 y475.length co23] rfl (by (try simp only [List.map_toArray, List.map_cons, List.map_nil]); first | done | rfl | (simp only [List.length_drop, List.length_take]; rfl)) ?_; (with_reducible refine (field_Has.calls k a0 _ _ y475 true _ ?side1 ?side2 A7.out).mono ?_); (case side1 => repeat (first | exact (Kd.R_reads' HO477.out).2.2 | (with_reducible refine Kd.C_alloc ?_ _) | (with_reducible refine Kd.C_drewN ?_ _) | (with_reducible refine Kd.C_drew ?_))); (case side2 => exact (Kd.R_reads' HO477.out).2.1); rintro e w' ⟨rfl, ⟨nd, rfl⟩⟩; refine ⟨_, rfl, ?_⟩) | ((with_reducible refine gate_callee (f := 30) rfl ?_); refine goesL_ (some 37) rfl rfl Try.func30 (by kernel_rfl) rfl #[.int .u64 a0, .int .u64 a1, .int .u64 (IntKind.u64.wrap (a2))] rfl (by (try simp only [List.map_toArray, List.map_cons, List.map_nil]); first | done | rfl | (simp only [List.length_drop, List.length_take]; rfl)) ?_; (with_reducible refine (field_Pow.calls k a0 a1 (IntKind.u64.wrap (a2)) t479 t480 _ A9.out).mono ?_); rintro e w24 ⟨rfl, hb⟩; refine ⟨_, rfl, ?_⟩; have n0_ := Aside0.mk (Kd.R_below (by (with_reducible repeat (first | apply Kd.R_alloc | apply Kd.R_drewN | apply Kd.R_drew)); exact HO477.out) hb); have n1_ := Aside0.mk (below_step (by repeat (first | (with_reducible first | exact HB.out | apply below_alloc | apply pw_below_drewN | apply below_drew1) | exact HB.out)) hb); clear HO477; clear HB; have HO477 := n0_; have HB := n1_; clear n0_ n1_; (try clear hb); (try clear hb2); (try clear hk); (try clear hi)) | ((with_reducible refine gate_callee (f := 30) rfl ?_); refine goesL_ (some 45) rfl rfl Try.func30 (by kernel_rfl) rfl #[.int .u64 a0, .int .u64 a1, .int .u64 (IntKind.u64.wrap (a3))] rfl (by (try simp only [List.map_toArray, List.map_cons, List.map_nil]); first | done | rfl | (simp only [List.length_drop, List.length_take]; rfl)) ?_; (with_reducible refine (field_Pow.calls k a0 a1 (IntKind.u64.wrap (a3)) t481 t482 _ A10.out).mono ?_); rintro e w25 ⟨rfl, hb⟩; refine ⟨_, rfl, ?_⟩; have n0_ := Aside0.mk (Kd.R_below (by (with_reducible repeat (first | apply Kd.R_alloc | apply Kd.R_drewN | apply Kd.R_drew)); exact HO477.out) hb); have n1_ := Aside0.mk (below_step (by repeat (first | (with_reducible first | exact HB.out | apply below_alloc | apply pw_below_drewN | apply below_drew1) | exact HB.out)) hb); clear HO477; clear HB; have HO477 := n0_; have HB := n1_; clear n0_ n1_; (try clear hb); (try clear hb2); (try clear hk); (try clear hi)) | ((with_reducible refine gate_callee (f := 31) rfl ?_); refine goesL_ (some 52) rfl rfl Try.func31 (by kernel_rfl) rfl #[.int .u64 a0, .int .u64 t479, .int .u64 t481] rfl (by (try simp only [List.map_toArray, List.map_cons, List.map_nil]); first | done | rfl | (simp only [List.length_drop, List.length_take]; rfl)) ?_; (with_reducible refine (field_Mul.calls k a0 t479 t481 t483 t484 _ A11.out).mono ?_); rintro e w26 ⟨rfl, hb⟩; refine ⟨_, rfl, ?_⟩; have n0_ := Aside0.mk (Kd.R_below (by (with_reducible repeat (first | apply Kd.R_alloc | apply Kd.R_drewN | apply Kd.R_drew)); exact HO477.out) hb); have n1_ := Aside0.mk (below_step (by repeat (first | (with_reducible first | exact HB.out | apply below_alloc | apply pw_below_drewN | apply below_drew1) | exact HB.out)) hb); clear HO477; clear HB; have HO477 := n0_; have HB := n1_; clear n0_ n1_; (try clear hb); (try clear hb2); (try clear hk); (try clear hi)) | ((with_reducible refine gate_callee (f := 30) rfl ?_); refine goesL_ (some 63) rfl rfl Try.func30 (by kernel_rfl) rfl #[.int .u64 a0, .int .u64 a1, .int .u64 (IntKind.u64.wrap ((IntKind.u64.wrap (a2)) + (IntKind.u64.wrap (a3))))] rfl (by (try simp only [List.map_toArray, List.map_cons, List.map_nil]); first | done | rfl | (simp only [List.length_drop, List.length_take]; rfl)) ?_; (with_reducible refine (field_Pow.calls k a0 a1 (IntKind.u64.wrap ((IntKind.u64.wrap (a2)) + (IntKind.u64.wrap (a3)))) t485 t486 _ A12.out).mono ?_); rintro e w27 ⟨rfl, hb⟩; refine ⟨_, rfl, ?_⟩; have n0_ := Aside0.mk (Kd.R_below (by (with_reducible repeat (first | apply Kd.R_alloc | apply Kd.R_drewN | apply Kd.R_drew)); exact HO477.out) hb); have n1_ := Aside0.mk (below_step (by repeat (first | (with_reducible first | exact HB.out | apply below_alloc | apply pw_below_drewN | apply below_drew1) | exact HB.out)) hb); clear HO477; clear HB; have HO477 := n0_; have HB := n1_; clear n0_ n1_; (try clear hb); (try clear hb2); (try clear hk); (try clear hi)) | ((with_reducible refine gate_callee (f := 30) rfl ?_); refine goesL_ (some 71) rfl rfl Try.func30 (by kernel_rfl) rfl #[.int .u64 a0, .int .u64 t479, .int .u64 (IntKind.u64.wrap (a3))] rfl (by (try simp only [List.map_toArray, List.map_cons, List.map_nil]); first | done | rfl | (simp only [List.length_drop, List.length_take]; rfl)) ?_; (with_reducible refine (field_Pow.calls k a0 t479 (IntKind.u64.wrap (a3)) t487 t488 _ A13.out).mono ?_); rintro e w28 ⟨rfl, hb⟩; refine ⟨_, rfl, ?_⟩; have n0_ := Aside0.mk (Kd.R_below (by (with_reducible repeat (first | apply Kd.R_alloc | apply Kd.R_drewN | apply Kd.R_drew)); exact HO477.out) hb); have n1_ := Aside0.mk (below_step (by repeat (first | (with_reducible first | exact HB.out | apply below_alloc | apply pw_below_drewN | apply below_drew1) | exact HB.out)) hb); clear HO477; clear HB; have HO477 := n0_; have HB := n1_; clear n0_ n1_; (try clear hb); (try clear hb2); (try clear hk); (try clear hi)) | ((with_reducible refine gate_callee (f := 30) rfl ?_); refine goesL_ (some 82) rfl rfl Try.func30 (by kernel_rfl) rfl #[.int .u64 a0, .int .u64 a1, .int .u64 (IntKind.u64.wrap ((IntKind.u64.wrap (a2)) * (IntKind.u64.wrap (a3))))] rfl (by (try simp only [List.map_toArray, List.map_cons, List.map_nil]); first | done | rfl | (simp only [List.length_drop, List.length_take]; rfl)) ?_; (with_reducible refine (field_Pow.calls k a0 a1 (IntKind.u64.wrap ((IntKind.u64.wrap (a2)) * (IntKind.u64.wrap (a3)))) t489 t490 _ A14.out).mono ?_); rintro e w29 ⟨rfl, hb⟩; refine ⟨_, rfl, ?_⟩; have n0_ := Aside0.mk (Kd.R_below (by (with_reducible repeat (first | apply Kd.R_alloc | apply Kd.R_drewN | apply Kd.R_drew)); exact HO477.out) hb); have n1_ := Aside0.mk (below_step (by repeat (first | (with_reducible first | exact HB.out | apply below_alloc | apply pw_below_drewN | apply below_drew1) | exact HB.out)) hb); clear HO477; clear HB; have HO477 := n0_; have HB := n1_; clear n0_ n1_; (try clear hb); (try clear hb2); (try clear hk); (try clear hi)) | ((with_reducible refine gate_callee (f := 30) rfl ?_); refine goesL_ (some 88) rfl rfl Try.func30 (by kernel_rfl) rfl #[.int .u64 a0, .int .u64 a1, .int .u64 0] rfl (by (try simp only [List.map_toArray, List.map_cons, List.map_nil]); first | done | rfl | (simp only [List.length_drop, List.length_take]; rfl)) ?_; (with_reducible refine (field_Pow.calls k a0 a1 0 t491 t492 _ A15.out).mono ?_); rintro e w30 ⟨rfl, hb⟩; refine ⟨_, rfl, ?_⟩; have n0_ := Aside0.mk (Kd.R_below (by (with_reducible repeat (first | apply Kd.R_alloc | apply Kd.R_drewN | apply Kd.R_drew)); exact HO477.out) hb); have n1_ := Aside0.mk (below_step (by repeat (first | (with_reducible first | exact HB.out | apply below_alloc | apply pw_below_drewN | apply below_drew1) | exact HB.out)) hb); clear HO477; clear HB; have HO477 := n0_; have HB := n1_; clear n0_ n1_; (try clear hb); (try clear hb2); (try clear hk); (try clear hi)) | ((with_reducible refine gate_callee (f := 30) rfl ?_); refine goesL_ (some 94) rfl rfl Try.func30 (by kernel_rfl) rfl #[.int .u64 a0, .int .u64 a1, .int .u64 1] rfl (by (try simp only [List.map_toArray, List.map_cons, List.map_nil]); first | done | rfl | (simp only [List.length_drop, List.length_take]; rfl)) ?_; (with_reducible refine (field_Pow.calls k a0 a1 1 t493 t494 _ A16.out).mono ?_); rintro e w31 ⟨rfl, hb⟩; refine ⟨_, rfl, ?_⟩; have n0_ := Aside0.mk (Kd.R_below (by (with_reducible repeat (first | apply Kd.R_alloc | apply Kd.R_drewN | apply Kd.R_drew)); exact HO477.out) hb); have n1_ := Aside0.mk (below_step (by repeat (first | (with_reducible first | exact HB.out | apply below_alloc | apply pw_below_drewN | apply below_drew1) | exact HB.out)) hb); clear HO477; clear HB; have HO477 := n0_; have HB := n1_; clear n0_ n1_; (try clear hb); (try clear hb2); (try clear hk); (try clear hi)))
            go_ret
            exact ⟨by first | rfl | (simp [errW_none, errW_some] <;> rfl) | (simp [*, errW_none, errW_some] <;> rfl), by repeat (first | (with_reducible first | exact HB.out | apply below_alloc | apply pw_below_drewN | apply below_drew1) | exact HB.out)⟩
          · rw [if_neg c19] at H
            have c19b0 : (t491 == 1) = false := beq_eq_false_iff_ne.mpr c19
            have c19b1 : (t491 != 1) = true := bne_iff_ne.mpr c19
            exact absurd ((Option.some.inj H).trans HT.out) (by decide)
        · rw [if_neg c18] at H
          have c18b0 : (t487 == t489) = false := beq_eq_false_iff_ne.mpr c18
          have c18b1 : (t487 != t489) = true := bne_iff_ne.mpr c18
          exact absurd ((Option.some.inj H).trans HT.out) (by decide)
      · rw [if_neg c17] at H
        have c17b0 : (t483 == t485) = false := beq_eq_false_iff_ne.mpr c17
        have c17b1 : (t483 != t485) = true := bne_iff_ne.mpr c17
        exact absurd ((Option.some.inj H).trans HT.out) (by decide)
    · replace c8 := Bool.eq_false_iff.mpr c8
      subst c8
      have H1 : (some true) = some r := by rw [if_neg (show ¬ (false = true) by decide)] at H; exact H
      clear H
      have H := H1
      clear H1
      obtain rfl := Option.some.inj H
      go_enter Try.func7, Try.ntmps7
      go_wp2_with (first | ((with_reducible refine gate_callee (f := 29) rfl ?_); refine goesL_ (some 25) rfl rfl Try.func29 (by kernel_rfl) rfl #[] rfl (by (try simp only [List.map_toArray, List.map_cons, List.map_nil]); first | done | rfl | (simp only [List.length_drop, List.length_take]; rfl)) ?_; (with_reducible refine (affidavitlaw01_awake.calls k  true _ A5.out rfl).mono ?_); rintro e w32 ⟨rfl, hb⟩; refine ⟨_, rfl, ?_⟩; have n0_ := Aside0.mk (below_step (by repeat (first | (with_reducible first | exact HB.out | apply below_alloc | apply pw_below_drewN | apply below_drew1) | exact HB.out)) hb); clear HB; have HB := n0_; clear n0_; (try clear hb); (try clear hb2); (try clear hk); (try clear hi)) | ((with_reducible refine gate_dst (N := 29) rfl ?_); refine Kd.R_lit (Kd.int .u64) _ 22 ?hg (N := 29) ?hd (xs := ([a1] : List Int)) (inner := [.int .u64 a1]) (ok := fun _ => True) (okp := fun _ => True) ?hr ?hp (fun _ hk => hk) trivial (Below.refl _ _) (Nat.le_refl _) (by simp) ?_; (case hd => rfl); (case hg => rfl); (case hr => first | (go_simp; done) | (go_simp; rfl)); (case hp => exact (Reps.one (show Kd.M (Kd.int .u64) _ _ _ a1 [.int .u64 a1] from rfl) (Reps.none _ _))); intro v476 w33 ho34 hb hg_ hnew_; clear hg_ hnew_; (first | rw [← Ny475.out] at ho34 | (simp only [Int.reduceToNat] at ho34; rw [← Ny475.out] at ho34)); have n0_ := Aside0.mk (Kd.R_lower ho34 (below_size (by repeat (first | (with_reducible first | exact HB.out | apply below_alloc | apply pw_below_drewN | apply below_drew1) | exact HB.out)))); have n1_ := Aside0.mk (below_step (by repeat (first | (with_reducible first | exact HB.out | apply below_alloc | apply pw_below_drewN | apply below_drew1) | exact HB.out)) hb); clear HB; have HO477 := n0_; have HB := n1_; clear n0_ n1_; clear hb ho34; obtain ⟨Ao35, co35, eo35⟩ := Kd.R_slice HO477.out; subst eo35) | ((with_reducible refine gate_callee (f := 28) rfl ?_); refine goesL_ (some 30) rfl rfl Try.func28 (by kernel_rfl) rfl #[.int .u64 a0, .slice Ao35 y475.length co35] rfl (by (try simp only [List.map_toArray, List.map_cons, List.map_nil]); first | done | rfl | (simp only [List.length_drop, List.length_take]; rfl)) ?_; (with_reducible refine (field_Has.calls k a0 _ _ y475 false _ ?side1 ?side2 A7.out).mono ?_); (case side1 => repeat (first | exact (Kd.R_reads' HO477.out).2.2 | (with_reducible refine Kd.C_alloc ?_ _) | (with_reducible refine Kd.C_drewN ?_ _) | (with_reducible refine Kd.C_drew ?_))); (case side2 => exact (Kd.R_reads' HO477.out).2.1); rintro e w' ⟨rfl, ⟨nd, rfl⟩⟩; refine ⟨_, rfl, ?_⟩))
      go_ret
      exact ⟨by first | rfl | (simp [errW_none, errW_some] <;> rfl) | (simp [*, errW_none, errW_some] <;> rfl), by repeat (first | (with_reducible first | exact HB.out | apply below_alloc | apply pw_below_drewN | apply below_drew1) | exact HB.out)⟩
  · replace c6 := Bool.eq_false_iff.mpr c6
    subst c6
    have H1 : (some false) = some r := by rw [if_neg (show ¬ (false = true) by decide)] at H; exact H
    clear H
    have H := H1
    clear H1
    exact absurd ((Option.some.inj H).trans HT.out) (by decide)

/-- THE ONE PURE STATEMENT of affidavitlaw01_FieldPowers. -/
def affidavitlaw01_FieldPowers.Pure : Prop := ∀ (a0 : Int) (a1 : Int) (a2 : Int) (a3 : Int), (Lit.int .u64 a0).wf = true → (Lit.int .u64 a1).wf = true → (Lit.int .u32 a2).wf = true → (Lit.int .u32 a3).wf = true → ∃ k, affidavitlaw01_FieldPowers.f k a0 a1 a2 a3 = some true
theorem affidavitlaw01_FieldPowers.walkx (P : affidavitlaw01_FieldPowers.Pure) (a0 : Int) (a1 : Int) (a2 : Int) (a3 : Int) (w : World)  (hg0 : (Lit.int .u64 a0).wf = true) (hg1 : (Lit.int .u64 a1).wf = true) (hg2 : (Lit.int .u32 a2).wf = true) (hg3 : (Lit.int .u32 a3).wf = true) :
    Calls Try.prog 7 #[.int .u64 a0, .int .u64 a1, .int .u32 a2, .int .u32 a3] w fun e w' => e = .returned (.bool true) ∧ Below w.heap.size w w' := by
  obtain ⟨k, h⟩ := P a0 a1 a2 a3 hg0 hg1 hg2 hg3
  refine (affidavitlaw01_FieldPowers.calls k a0 a1 a2 a3 true w  h rfl).mono ?_
  rintro e w' ⟨rfl, hd⟩
  exact ⟨rfl, hd⟩

end Go.Proofs.Ytdfhkdddlfmceaa.X
