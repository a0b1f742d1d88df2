/- Walks of functions that the given law reaches: each comes to what its plain twin says. Written by xprint.py, a program of this claim's session; Lean checks it. -/
import Derived.Test.YtdfhkdddlfmceaaX0
import Derived.Test.YtdfhkdddlfmceaaX7
import Derived.Test.YtdfhkdddlfmceaaX10
namespace Go.Proofs.Ytdfhkdddlfmceaa.X
open Go.RowKit Go.Proofs.YtdfhkdddlfmceaaW.PrintWords Go.Proofs.YtdfhkdddlfmceaaW.PrintLast Go.Proofs.YtdfhkdddlfmceaaW.PrintMore
attribute [local go_sem] max2_int min2_int max_two min_two max_three min_three max_four min_four   -- for this text's walks alone
set_option linter.unusedVariables false
set_option linter.unusedSimpArgs false

/-! ### affidavitlaw01_awake: function 29 -/
def affidavitlaw01_awake.f (k : Nat)  : Option (Bool) := (field_Mul.f k 7 5 3).bind fun bt450 => ((field_Inv.f k 7 5).bind fun bt452 => ((field_Pow.f k 7 3 6).bind fun bt454 => ((field_Dot.f k 7 (([1, 2] : List Int)) (([3, 4] : List Int))).bind fun bt462 => ((field_Inv.f k 6 3).bind fun bt464 => (if bt450.2 = 0 then (if bt452.2 = 0 then (if bt454.2 = 0 then (if bt462.2 = 0 then (if bt450.1 = 1 then (if bt452.1 = 3 then (if bt454.1 = 1 then (if bt462.1 = 4 then (if bt464.2 = 5 then ((field_Has.f k 7 (([6] : List Int))).bind fun t469 => (if t469 = true then ((field_Has.f k 7 (([7] : List Int))).bind fun t473 => (some (!t473))) else (some false))) else (some false)) else (some false)) else (some false)) else (some false)) else (some false)) else (some false)) else (some false)) else (some false)) else (some false))))))
theorem affidavitlaw01_awake.mono : ∀ k, LeO (affidavitlaw01_awake.f k ) (affidavitlaw01_awake.f (k + 1) ) := by
  intro  k
  unfold affidavitlaw01_awake.f
  repeat' first
      | (with_reducible exact field_Dot.mono _ _ _ _)
      | (with_reducible exact field_Has.mono _ _ _)
      | (with_reducible exact field_Inv.mono _ _ _)
      | (with_reducible exact field_Mul.mono _ _ _ _)
      | (with_reducible exact field_Pow.mono _ _ _ _)
      | (with_reducible exact LeO.refl _)
      | (with_reducible exact LeO.none _)
      | (with_reducible refine LeO.ite ?_ ?_)
      | (with_reducible refine LeO.bind ?_ (fun _ => ?_))
      | exact field_Dot.mono _ _ _ _
      | exact field_Has.mono _ _ _
      | exact field_Inv.mono _ _ _
      | exact field_Mul.mono _ _ _ _
      | exact field_Pow.mono _ _ _ _
      | exact LeO.none _
      | refine LeO.ite ?_ ?_
      | refine LeO.bind ?_ (fun _ => ?_)
set_option maxHeartbeats 8000000 in
set_option maxRecDepth 100000 in
theorem affidavitlaw01_awake.calls (k : Nat)  (r : Bool) (w : World) (h : affidavitlaw01_awake.f k  = some r) (ht : r = true) :
    Calls Try.prog 29 #[] w fun e w' => e = .returned (.bool r) ∧ Below w.heap.size w w' := by
  have HB := Aside0.mk (Below.refl w.heap.size w)
  have H : ((field_Mul.f k 7 5 3).bind fun bt450 => ((field_Inv.f k 7 5).bind fun bt452 => ((field_Pow.f k 7 3 6).bind fun bt454 => ((field_Dot.f k 7 (([1, 2] : List Int)) (([3, 4] : List Int))).bind fun bt462 => ((field_Inv.f k 6 3).bind fun bt464 => (if bt450.2 = 0 then (if bt452.2 = 0 then (if bt454.2 = 0 then (if bt462.2 = 0 then (if bt450.1 = 1 then (if bt452.1 = 3 then (if bt454.1 = 1 then (if bt462.1 = 4 then (if bt464.2 = 5 then ((field_Has.f k 7 (([6] : List Int))).bind fun t469 => (if t469 = true then ((field_Has.f k 7 (([7] : List Int))).bind fun t473 => (some (!t473))) else (some false))) else (some false)) else (some false)) else (some false)) else (some false)) else (some false)) else (some false)) else (some false)) else (some false)) else (some false))))))) = some r := h
  clear h
  have HT := Aside0.mk ht
  clear ht
  replace H := Option.bind_eq_some_iff.mp H
  obtain ⟨⟨t450, t451⟩, A10, H⟩ := H
  replace H : ((field_Inv.f k 7 5).bind fun bt452 => ((field_Pow.f k 7 3 6).bind fun bt454 => ((field_Dot.f k 7 (([1, 2] : List Int)) (([3, 4] : List Int))).bind fun bt462 => ((field_Inv.f k 6 3).bind fun bt464 => (if t451 = 0 then (if bt452.2 = 0 then (if bt454.2 = 0 then (if bt462.2 = 0 then (if t450 = 1 then (if bt452.1 = 3 then (if bt454.1 = 1 then (if bt462.1 = 4 then (if bt464.2 = 5 then ((field_Has.f k 7 (([6] : List Int))).bind fun t469 => (if t469 = true then ((field_Has.f k 7 (([7] : List Int))).bind fun t473 => (some (!t473))) else (some false))) else (some false)) else (some false)) else (some false)) else (some false)) else (some false)) else (some false)) else (some false)) else (some false)) else (some false)))))) = some r := H
  have A1 := Aside0.mk A10
  clear A10
  replace H := Option.bind_eq_some_iff.mp H
  obtain ⟨⟨t452, t453⟩, A20, H⟩ := H
  replace H : ((field_Pow.f k 7 3 6).bind fun bt454 => ((field_Dot.f k 7 (([1, 2] : List Int)) (([3, 4] : List Int))).bind fun bt462 => ((field_Inv.f k 6 3).bind fun bt464 => (if t451 = 0 then (if t453 = 0 then (if bt454.2 = 0 then (if bt462.2 = 0 then (if t450 = 1 then (if t452 = 3 then (if bt454.1 = 1 then (if bt462.1 = 4 then (if bt464.2 = 5 then ((field_Has.f k 7 (([6] : List Int))).bind fun t469 => (if t469 = true then ((field_Has.f k 7 (([7] : List Int))).bind fun t473 => (some (!t473))) else (some false))) else (some false)) else (some false)) else (some false)) else (some false)) else (some false)) else (some false)) else (some false)) else (some false)) else (some false))))) = some r := H
  have A2 := Aside0.mk A20
  clear A20
  replace H := Option.bind_eq_some_iff.mp H
  obtain ⟨⟨t454, t455⟩, A30, H⟩ := H
  replace H : ((field_Dot.f k 7 (([1, 2] : List Int)) (([3, 4] : List Int))).bind fun bt462 => ((field_Inv.f k 6 3).bind fun bt464 => (if t451 = 0 then (if t453 = 0 then (if t455 = 0 then (if bt462.2 = 0 then (if t450 = 1 then (if t452 = 3 then (if t454 = 1 then (if bt462.1 = 4 then (if bt464.2 = 5 then ((field_Has.f k 7 (([6] : List Int))).bind fun t469 => (if t469 = true then ((field_Has.f k 7 (([7] : List Int))).bind fun t473 => (some (!t473))) else (some false))) else (some false)) else (some false)) else (some false)) else (some false)) else (some false)) else (some false)) else (some false)) else (some false)) else (some false)))) = some r := H
  have A3 := Aside0.mk A30
  clear A30
  obtain ⟨y456, hy456⟩ : ∃ y_ : List Int, y_ = (([1, 2] : List Int)) := ⟨_, rfl⟩
  replace H : ((field_Dot.f k 7 y456 (([3, 4] : List Int))).bind fun bt462 => ((field_Inv.f k 6 3).bind fun bt464 => (if t451 = 0 then (if t453 = 0 then (if t455 = 0 then (if bt462.2 = 0 then (if t450 = 1 then (if t452 = 3 then (if t454 = 1 then (if bt462.1 = 4 then (if bt464.2 = 5 then ((field_Has.f k 7 (([6] : List Int))).bind fun t469 => (if t469 = true then ((field_Has.f k 7 (([7] : List Int))).bind fun t473 => (some (!t473))) else (some false))) else (some false)) else (some false)) else (some false)) else (some false)) else (some false)) else (some false)) else (some false)) else (some false)) else (some false)))) = some r := by first | (rw [hy456]; with_reducible exact H) | (have H2_ := (Option.bind_some _ _).symm.trans H; rw [hy456]; with_reducible exact H2_) | (have H2_ := (Option.bind_some _ _).symm.trans H; with_reducible exact H2_) | with_reducible exact H | (rw [hy456]; exact H) | exact H
  have Ny456 := Aside0.mk hy456
  clear hy456
  obtain ⟨y459, hy459⟩ : ∃ y_ : List Int, y_ = (([3, 4] : List Int)) := ⟨_, rfl⟩
  replace H : ((field_Dot.f k 7 y456 y459).bind fun bt462 => ((field_Inv.f k 6 3).bind fun bt464 => (if t451 = 0 then (if t453 = 0 then (if t455 = 0 then (if bt462.2 = 0 then (if t450 = 1 then (if t452 = 3 then (if t454 = 1 then (if bt462.1 = 4 then (if bt464.2 = 5 then ((field_Has.f k 7 (([6] : List Int))).bind fun t469 => (if t469 = true then ((field_Has.f k 7 (([7] : List Int))).bind fun t473 => (some (!t473))) else (some false))) else (some false)) else (some false)) else (some false)) else (some false)) else (some false)) else (some false)) else (some false)) else (some false)) else (some false)))) = some r := by first | (rw [hy459]; with_reducible exact H) | (have H2_ := (Option.bind_some _ _).symm.trans H; rw [hy459]; with_reducible exact H2_) | (have H2_ := (Option.bind_some _ _).symm.trans H; with_reducible exact H2_) | with_reducible exact H | (rw [hy459]; exact H) | exact H
  have Ny459 := Aside0.mk hy459
  clear hy459
  replace H := Option.bind_eq_some_iff.mp H
  obtain ⟨⟨t462, t463⟩, A40, H⟩ := H
  replace H : ((field_Inv.f k 6 3).bind fun bt464 => (if t451 = 0 then (if t453 = 0 then (if t455 = 0 then (if t463 = 0 then (if t450 = 1 then (if t452 = 3 then (if t454 = 1 then (if t462 = 4 then (if bt464.2 = 5 then ((field_Has.f k 7 (([6] : List Int))).bind fun t469 => (if t469 = true then ((field_Has.f k 7 (([7] : List Int))).bind fun t473 => (some (!t473))) else (some false))) else (some false)) else (some false)) else (some false)) else (some false)) else (some false)) else (some false)) else (some false)) else (some false)) else (some false))) = some r := H
  have A4 := Aside0.mk A40
  clear A40
  replace H := Option.bind_eq_some_iff.mp H
  obtain ⟨⟨t464, t465⟩, A50, H⟩ := H
  replace H : (if t451 = 0 then (if t453 = 0 then (if t455 = 0 then (if t463 = 0 then (if t450 = 1 then (if t452 = 3 then (if t454 = 1 then (if t462 = 4 then (if t465 = 5 then ((field_Has.f k 7 (([6] : List Int))).bind fun t469 => (if t469 = true then ((field_Has.f k 7 (([7] : List Int))).bind fun t473 => (some (!t473))) else (some false))) else (some false)) else (some false)) else (some false)) else (some false)) else (some false)) else (some false)) else (some false)) else (some false)) else (some false)) = some r := H
  have A5 := Aside0.mk A50
  clear A50
  by_cases c6 : t451 = 0
  · rw [if_pos c6] at H
    have c6b0 : (t451 == 0) = true := beq_iff_eq.mpr c6
    have c6b1 : (t451 != 0) = false := bne_eq_false_iff_eq.mpr c6
    clear c6
    by_cases c7 : t453 = 0
    · rw [if_pos c7] at H
      have c7b0 : (t453 == 0) = true := beq_iff_eq.mpr c7
      have c7b1 : (t453 != 0) = false := bne_eq_false_iff_eq.mpr c7
      clear c7
      by_cases c8 : t455 = 0
      · rw [if_pos c8] at H
        have c8b0 : (t455 == 0) = true := beq_iff_eq.mpr c8
        have c8b1 : (t455 != 0) = false := bne_eq_false_iff_eq.mpr c8
        clear c8
        by_cases c9 : t463 = 0
        · rw [if_pos c9] at H
          have c9b0 : (t463 == 0) = true := beq_iff_eq.mpr c9
          have c9b1 : (t463 != 0) = false := bne_eq_false_iff_eq.mpr c9
          clear c9
          by_cases c10 : t450 = 1
          · rw [if_pos c10] at H
            have c10b0 : (t450 == 1) = true := beq_iff_eq.mpr c10
            have c10b1 : (t450 != 1) = false := bne_eq_false_iff_eq.mpr c10
            clear c10
            by_cases c11 : t452 = 3
            · rw [if_pos c11] at H
              have c11b0 : (t452 == 3) = true := beq_iff_eq.mpr c11
              have c11b1 : (t452 != 3) = false := bne_eq_false_iff_eq.mpr c11
              clear c11
              by_cases c12 : t454 = 1
              · rw [if_pos c12] at H
                have c12b0 : (t454 == 1) = true := beq_iff_eq.mpr c12
                have c12b1 : (t454 != 1) = false := bne_eq_false_iff_eq.mpr c12
                clear c12
                by_cases c13 : t462 = 4
                · rw [if_pos c13] at H
                  have c13b0 : (t462 == 4) = true := beq_iff_eq.mpr c13
                  have c13b1 : (t462 != 4) = false := bne_eq_false_iff_eq.mpr c13
                  clear c13
                  by_cases c14 : t465 = 5
                  · rw [if_pos c14] at H
                    have c14b0 : (t465 == 5) = true := beq_iff_eq.mpr c14
                    have c14b1 : (t465 != 5) = false := bne_eq_false_iff_eq.mpr c14
                    clear c14
                    obtain ⟨y466, hy466⟩ : ∃ y_ : List Int, y_ = (([6] : List Int)) := ⟨_, rfl⟩
                    replace H : ((field_Has.f k 7 y466).bind fun t469 => (if t469 = true then ((field_Has.f k 7 (([7] : List Int))).bind fun t473 => (some (!t473))) else (some false))) = some r := by first | (rw [hy466]; with_reducible exact H) | (have H2_ := (Option.bind_some _ _).symm.trans H; rw [hy466]; with_reducible exact H2_) | (have H2_ := (Option.bind_some _ _).symm.trans H; with_reducible exact H2_) | with_reducible exact H | (rw [hy466]; exact H) | exact H
                    have Ny466 := Aside0.mk hy466
                    clear hy466
                    replace H := Option.bind_eq_some_iff.mp H
                    obtain ⟨t469, A150, H⟩ := H
                    replace H : (if t469 = true then ((field_Has.f k 7 (([7] : List Int))).bind fun t473 => (some (!t473))) else (some false)) = some r := H
                    have A15 := Aside0.mk A150
                    clear A150
                    by_cases c16 : t469 = true
                    · subst c16
                      have H1 : ((field_Has.f k 7 (([7] : List Int))).bind fun t473 => (some (!t473))) = some r := by rw [if_pos rfl] at H; exact H
                      clear H
                      have H := H1
                      clear H1
                      obtain ⟨y470, hy470⟩ : ∃ y_ : List Int, y_ = (([7] : List Int)) := ⟨_, rfl⟩
                      replace H : ((field_Has.f k 7 y470).bind fun t473 => (some (!t473))) = some r := by first | (rw [hy470]; with_reducible exact H) | (have H2_ := (Option.bind_some _ _).symm.trans H; rw [hy470]; with_reducible exact H2_) | (have H2_ := (Option.bind_some _ _).symm.trans H; with_reducible exact H2_) | with_reducible exact H | (rw [hy470]; exact H) | exact H
                      have Ny470 := Aside0.mk hy470
                      clear hy470
                      replace H := Option.bind_eq_some_iff.mp H
                      obtain ⟨t473, A170, H⟩ := H
                      replace H : (some (!t473)) = some r := H
                      have A17 := Aside0.mk A170
                      clear A170
                      obtain rfl := Option.some.inj H
                      go_enter Try.func29, Try.ntmps29
                      go_wp2_with (first | ((with_reducible refine gate_callee (f := 31) rfl ?_); refine goesL_ (some 12) rfl rfl Try.func31 (by kernel_rfl) rfl #[.int .u64 7, .int .u64 5, .int .u64 3] rfl (by (try simp only [List.map_toArray, List.map_cons, List.map_nil]); first | done | rfl | (simp only [List.length_drop, List.length_take]; rfl)) ?_; (with_reducible refine (field_Mul.calls k 7 5 3 t450 t451 _ A1.out).mono ?_); rintro e w18 ⟨rfl, hb⟩; refine ⟨_, rfl, ?_⟩; have n0_ := Aside0.mk (below_step (by repeat (first | (with_reducible first | exact HB.out | apply below_alloc | apply pw_below_drewN | apply below_drew1) | exact HB.out)) hb); clear HB; have HB := n0_; clear n0_; (try clear hb); (try clear hb2); (try clear hk); (try clear hi)) | ((with_reducible refine gate_callee (f := 36) rfl ?_); refine goesL_ (some 16) rfl rfl Try.func36 (by kernel_rfl) rfl #[.int .u64 7, .int .u64 5] rfl (by (try simp only [List.map_toArray, List.map_cons, List.map_nil]); first | done | rfl | (simp only [List.length_drop, List.length_take]; rfl)) ?_; (with_reducible refine (field_Inv.calls k 7 5 t452 t453 _ A2.out).mono ?_); rintro e w19 ⟨rfl, hb⟩; refine ⟨_, rfl, ?_⟩; have n0_ := Aside0.mk (below_step (by repeat (first | (with_reducible first | exact HB.out | apply below_alloc | apply pw_below_drewN | apply below_drew1) | exact HB.out)) hb); clear HB; have HB := n0_; clear n0_; (try clear hb); (try clear hb2); (try clear hk); (try clear hi)) | ((with_reducible refine gate_callee (f := 30) rfl ?_); refine goesL_ (some 20) rfl rfl Try.func30 (by kernel_rfl) rfl #[.int .u64 7, .int .u64 3, .int .u64 6] rfl (by (try simp only [List.map_toArray, List.map_cons, List.map_nil]); first | done | rfl | (simp only [List.length_drop, List.length_take]; rfl)) ?_; (with_reducible refine (field_Pow.calls k 7 3 6 t454 t455 _ A3.out).mono ?_); rintro e w20 ⟨rfl, hb⟩; refine ⟨_, rfl, ?_⟩; have n0_ := Aside0.mk (below_step (by repeat (first | (with_reducible first | exact HB.out | apply below_alloc | apply pw_below_drewN | apply below_drew1) | exact HB.out)) hb); clear HB; have HB := n0_; clear n0_; (try clear hb); (try clear hb2); (try clear hk); (try clear hi)) | ((with_reducible refine gate_dst (N := 24) rfl ?_); (try (refine gate_guard (by rfl) ?_; dsimp only)); refine Kd.R_lit (Kd.int .u64) _ 22 ?hg (N := 24) ?hd (xs := ([1, 2] : List Int)) (inner := [.int .u64 1, .int .u64 2]) (ok := fun _ => True) (okp := fun _ => True) ?hr ?hp (fun _ hk => hk) trivial (Below.refl _ _) (Nat.le_refl _) (by simp) ?_; (case hd => rfl); (case hg => rfl); (case hr => first | (go_simp; done) | (go_simp; rfl)); (case hp => exact (Reps.one (show Kd.M (Kd.int .u64) _ _ _ 1 [.int .u64 1] from rfl) (Reps.one (show Kd.M (Kd.int .u64) _ _ _ 2 [.int .u64 2] from rfl) (Reps.none _ _)))); intro v457 w21 ho22 hb hg_ hnew_; clear hg_ hnew_; (first | rw [← Ny456.out] at ho22 | (simp only [Int.reduceToNat] at ho22; rw [← Ny456.out] at ho22)); have n0_ := Aside0.mk (Kd.R_lower ho22 (below_size (by repeat (first | (with_reducible first | exact HB.out | apply below_alloc | apply pw_below_drewN | apply below_drew1) | exact HB.out)))); have n1_ := Aside0.mk (below_step (by repeat (first | (with_reducible first | exact HB.out | apply below_alloc | apply pw_below_drewN | apply below_drew1) | exact HB.out)) hb); clear HB; have HO458 := n0_; have HB := n1_; clear n0_ n1_; clear hb ho22) | ((with_reducible refine gate_dst (N := 25) rfl ?_); (try (refine gate_guard (by rfl) ?_; dsimp only)); refine Kd.R_lit (Kd.int .u64) _ 22 ?hg (N := 25) ?hd (xs := ([3, 4] : List Int)) (inner := [.int .u64 3, .int .u64 4]) (ok := fun _ => True) (okp := fun _ => True) ?hr ?hp (fun _ hk => hk) trivial (Below.refl _ _) (Nat.le_refl _) (by simp) ?_; (case hd => rfl); (case hg => rfl); (case hr => first | (go_simp; done) | (go_simp; rfl)); (case hp => exact (Reps.one (show Kd.M (Kd.int .u64) _ _ _ 3 [.int .u64 3] from rfl) (Reps.one (show Kd.M (Kd.int .u64) _ _ _ 4 [.int .u64 4] from rfl) (Reps.none _ _)))); intro v460 w23 ho24 hb hg_ hnew_; clear hg_ hnew_; (first | rw [← Ny459.out] at ho24 | (simp only [Int.reduceToNat] at ho24; rw [← Ny459.out] at ho24)); have n0_ := Aside0.mk (Kd.R_elder' (by (with_reducible repeat (first | apply Kd.R_alloc | apply Kd.R_drewN | apply Kd.R_drew)); exact HO458.out) (Kd.R_base ho24) hb); have n1_ := Aside0.mk (Kd.R_lower (Kd.R_new' ho24 (Kd.R_lt (by (with_reducible repeat (first | apply Kd.R_alloc | apply Kd.R_drewN | apply Kd.R_drew)); exact HO458.out))) (below_size (by repeat (first | (with_reducible first | exact HB.out | apply below_alloc | apply pw_below_drewN | apply below_drew1) | exact HB.out)))); have n2_ := Aside0.mk (below_step (by repeat (first | (with_reducible first | exact HB.out | apply below_alloc | apply pw_below_drewN | apply below_drew1) | exact HB.out)) hb); clear HO458; clear HB; have HO458 := n0_; have HO461 := n1_; have HB := n2_; clear n0_ n1_ n2_; clear hb ho24; obtain ⟨Ao25, co25, eo25⟩ := Kd.R_slice HO458.out; subst eo25; obtain ⟨Ao26, co26, eo26⟩ := Kd.R_slice HO461.out; subst eo26) | ((with_reducible refine gate_callee (f := 32) rfl ?_); refine goesL_ (some 26) rfl rfl Try.func32 (by kernel_rfl) rfl #[.int .u64 7, .slice Ao25 y456.length co25, .slice Ao26 y459.length co26] rfl (by (try simp only [List.map_toArray, List.map_cons, List.map_nil]); first | done | rfl | (simp only [List.length_drop, List.length_take]; rfl)) ?_; (with_reducible refine (field_Dot.calls k 7 _ _ y456 _ _ y459 t462 t463 _ ?side1 ?side2 ?side3 ?side4 A4.out).mono ?_); (case side1 => repeat (first | exact (Kd.R_reads' HO458.out).2.2 | (with_reducible refine Kd.C_alloc ?_ _) | (with_reducible refine Kd.C_drewN ?_ _) | (with_reducible refine Kd.C_drew ?_))); (case side2 => exact (Kd.R_reads' HO458.out).2.1); (case side3 => repeat (first | exact (Kd.R_reads' HO461.out).2.2 | (with_reducible refine Kd.C_alloc ?_ _) | (with_reducible refine Kd.C_drewN ?_ _) | (with_reducible refine Kd.C_drew ?_))); (case side4 => exact (Kd.R_reads' HO461.out).2.1); rintro e w' ⟨rfl, ⟨nd, rfl⟩⟩; refine ⟨_, rfl, ?_⟩) | ((with_reducible refine gate_callee (f := 36) rfl ?_); refine goesL_ (some 30) rfl rfl Try.func36 (by kernel_rfl) rfl #[.int .u64 6, .int .u64 3] rfl (by (try simp only [List.map_toArray, List.map_cons, List.map_nil]); first | done | rfl | (simp only [List.length_drop, List.length_take]; rfl)) ?_; (with_reducible refine (field_Inv.calls k 6 3 t464 t465 _ A5.out).mono ?_); rintro e w27 ⟨rfl, hb⟩; refine ⟨_, rfl, ?_⟩; have n0_ := Aside0.mk (Kd.R_below (by (with_reducible repeat (first | apply Kd.R_alloc | apply Kd.R_drewN | apply Kd.R_drew)); exact HO458.out) hb); have n1_ := Aside0.mk (Kd.R_below (by (with_reducible repeat (first | apply Kd.R_alloc | apply Kd.R_drewN | apply Kd.R_drew)); exact HO461.out) hb); have n2_ := Aside0.mk (below_step (by repeat (first | (with_reducible first | exact HB.out | apply below_alloc | apply pw_below_drewN | apply below_drew1) | exact HB.out)) hb); clear HO458; clear HO461; clear HB; have HO458 := n0_; have HO461 := n1_; have HB := n2_; clear n0_ n1_ n2_; (try clear hb); (try clear hb2); (try clear hk); (try clear hi)) | ((with_reducible refine gate_dst (N := 68) rfl ?_); (try (refine gate_guard (by rfl) ?_; dsimp only)); refine Kd.R_lit (Kd.int .u64) _ 22 ?hg (N := 68) ?hd (xs := ([6] : List Int)) (inner := [.int .u64 6]) (ok := fun _ => True) (okp := fun _ => True) ?hr ?hp (fun _ hk => hk) trivial (Below.refl _ _) (Nat.le_refl _) (by simp) ?_; (case hd => rfl); (case hg => rfl); (case hr => first | (go_simp; done) | (go_simp; rfl)); (case hp => exact (Reps.one (show Kd.M (Kd.int .u64) _ _ _ 6 [.int .u64 6] from rfl) (Reps.none _ _))); intro v467 w28 ho29 hb hg_ hnew_; clear hg_ hnew_; (first | rw [← Ny466.out] at ho29 | (simp only [Int.reduceToNat] at ho29; rw [← Ny466.out] at ho29)); have n0_ := Aside0.mk (Kd.R_elder' (by (with_reducible repeat (first | apply Kd.R_alloc | apply Kd.R_drewN | apply Kd.R_drew)); exact HO458.out) (Kd.R_base ho29) hb); have n1_ := Aside0.mk (Kd.R_elder' (by (with_reducible repeat (first | apply Kd.R_alloc | apply Kd.R_drewN | apply Kd.R_drew)); exact HO461.out) (Kd.R_base ho29) hb); have n2_ := Aside0.mk (Kd.R_lower (Kd.R_new' (Kd.R_new' ho29 (Kd.R_lt (by (with_reducible repeat (first | apply Kd.R_alloc | apply Kd.R_drewN | apply Kd.R_drew)); exact HO458.out))) (Kd.R_lt (by (with_reducible repeat (first | apply Kd.R_alloc | apply Kd.R_drewN | apply Kd.R_drew)); exact HO461.out))) (below_size (by repeat (first | (with_reducible first | exact HB.out | apply below_alloc | apply pw_below_drewN | apply below_drew1) | exact HB.out)))); have n3_ := Aside0.mk (below_step (by repeat (first | (with_reducible first | exact HB.out | apply below_alloc | apply pw_below_drewN | apply below_drew1) | exact HB.out)) hb); clear HO458; clear HO461; clear HB; have HO458 := n0_; have HO461 := n1_; have HO468 := n2_; have HB := n3_; clear n0_ n1_ n2_ n3_; clear hb ho29; obtain ⟨Ao30, co30, eo30⟩ := Kd.R_slice HO468.out; subst eo30) | (go_at_call 28; (with_reducible refine (field_Has.calls k 7 _ _ y466 true _ ?side1 ?side2 A15.out).mono ?_); (case side1 => repeat (first | exact (Kd.R_reads' HO468.out).2.2 | (with_reducible refine Kd.C_alloc ?_ _) | (with_reducible refine Kd.C_drewN ?_ _) | (with_reducible refine Kd.C_drew ?_))); (case side2 => exact (Kd.R_reads' HO468.out).2.1); rintro e w' ⟨rfl, ⟨nd, rfl⟩⟩) | ((with_reducible refine gate_dst (N := 72) rfl ?_); (try (refine gate_guard (by rfl) ?_; dsimp only)); refine Kd.R_lit (Kd.int .u64) _ 22 ?hg (N := 72) ?hd (xs := ([7] : List Int)) (inner := [.int .u64 7]) (ok := fun _ => True) (okp := fun _ => True) ?hr ?hp (fun _ hk => hk) trivial (Below.refl _ _) (Nat.le_refl _) (by simp) ?_; (case hd => rfl); (case hg => rfl); (case hr => first | (go_simp; done) | (go_simp; rfl)); (case hp => exact (Reps.one (show Kd.M (Kd.int .u64) _ _ _ 7 [.int .u64 7] from rfl) (Reps.none _ _))); intro v471 w31 ho32 hb hg_ hnew_; clear hg_ hnew_; (first | rw [← Ny470.out] at ho32 | (simp only [Int.reduceToNat] at ho32; rw [← Ny470.out] at ho32)); have n0_ := Aside0.mk (Kd.R_elder' (by (with_reducible repeat (first | apply Kd.R_alloc | apply Kd.R_drewN | apply Kd.R_drew)); exact HO458.out) (Kd.R_base ho32) hb); have n1_ := Aside0.mk (Kd.R_elder' (by (with_reducible repeat (first | apply Kd.R_alloc | apply Kd.R_drewN | apply Kd.R_drew)); exact HO461.out) (Kd.R_base ho32) hb); have n2_ := Aside0.mk (Kd.R_elder' (by (with_reducible repeat (first | apply Kd.R_alloc | apply Kd.R_drewN | apply Kd.R_drew)); exact HO468.out) (Kd.R_base ho32) hb); have n3_ := Aside0.mk (Kd.R_lower (Kd.R_new' (Kd.R_new' (Kd.R_new' ho32 (Kd.R_lt (by (with_reducible repeat (first | apply Kd.R_alloc | apply Kd.R_drewN | apply Kd.R_drew)); exact HO458.out))) (Kd.R_lt (by (with_reducible repeat (first | apply Kd.R_alloc | apply Kd.R_drewN | apply Kd.R_drew)); exact HO461.out))) (Kd.R_lt (by (with_reducible repeat (first | apply Kd.R_alloc | apply Kd.R_drewN | apply Kd.R_drew)); exact HO468.out))) (below_size (by repeat (first | (with_reducible first | exact HB.out | apply below_alloc | apply pw_below_drewN | apply below_drew1) | exact HB.out)))); have n4_ := Aside0.mk (below_step (by repeat (first | (with_reducible first | exact HB.out | apply below_alloc | apply pw_below_drewN | apply below_drew1) | exact HB.out)) hb); clear HO458; clear HO461; clear HO468; clear HB; have HO458 := n0_; have HO461 := n1_; have HO468 := n2_; have HO472 := n3_; have HB := n4_; clear n0_ n1_ n2_ n3_ n4_; clear hb ho32; obtain ⟨Ao33, co33, eo33⟩ := Kd.R_slice HO472.out; subst eo33) | (go_at_call 28; (with_reducible refine (field_Has.calls k 7 _ _ y470 t473 _ ?side1 ?side2 A17.out).mono ?_); (case side1 => repeat (first | exact (Kd.R_reads' HO472.out).2.2 | (with_reducible refine Kd.C_alloc ?_ _) | (with_reducible refine Kd.C_drewN ?_ _) | (with_reducible refine Kd.C_drew ?_))); (case side2 => exact (Kd.R_reads' HO472.out).2.1); rintro e w' ⟨rfl, ⟨nd, rfl⟩⟩))
                      go_ret
                      exact ⟨by first | rfl | (simp [errW_none, errW_some] <;> rfl) | (simp [*, errW_none, errW_some] <;> rfl), by repeat (first | (with_reducible first | exact HB.out | apply below_alloc | apply pw_below_drewN | apply below_drew1) | exact HB.out)⟩
                    · replace c16 := Bool.eq_false_iff.mpr c16
                      subst c16
                      have H1 : (some false) = some r := by rw [if_neg (show ¬ (false = true) by decide)] at H; exact H
                      clear H
                      have H := H1
                      clear H1
                      exact absurd ((Option.some.inj H).trans HT.out) (by decide)
                  · rw [if_neg c14] at H
                    have c14b0 : (t465 == 5) = false := beq_eq_false_iff_ne.mpr c14
                    have c14b1 : (t465 != 5) = true := bne_iff_ne.mpr c14
                    exact absurd ((Option.some.inj H).trans HT.out) (by decide)
                · rw [if_neg c13] at H
                  have c13b0 : (t462 == 4) = false := beq_eq_false_iff_ne.mpr c13
                  have c13b1 : (t462 != 4) = true := bne_iff_ne.mpr c13
                  exact absurd ((Option.some.inj H).trans HT.out) (by decide)
              · rw [if_neg c12] at H
                have c12b0 : (t454 == 1) = false := beq_eq_false_iff_ne.mpr c12
                have c12b1 : (t454 != 1) = true := bne_iff_ne.mpr c12
                exact absurd ((Option.some.inj H).trans HT.out) (by decide)
            · rw [if_neg c11] at H
              have c11b0 : (t452 == 3) = false := beq_eq_false_iff_ne.mpr c11
              have c11b1 : (t452 != 3) = true := bne_iff_ne.mpr c11
              exact absurd ((Option.some.inj H).trans HT.out) (by decide)
          · rw [if_neg c10] at H
            have c10b0 : (t450 == 1) = false := beq_eq_false_iff_ne.mpr c10
            have c10b1 : (t450 != 1) = true := bne_iff_ne.mpr c10
            exact absurd ((Option.some.inj H).trans HT.out) (by decide)
        · rw [if_neg c9] at H
          have c9b0 : (t463 == 0) = false := beq_eq_false_iff_ne.mpr c9
          have c9b1 : (t463 != 0) = true := bne_iff_ne.mpr c9
          exact absurd ((Option.some.inj H).trans HT.out) (by decide)
      · rw [if_neg c8] at H
        have c8b0 : (t455 == 0) = false := beq_eq_false_iff_ne.mpr c8
        have c8b1 : (t455 != 0) = true := bne_iff_ne.mpr c8
        exact absurd ((Option.some.inj H).trans HT.out) (by decide)
    · rw [if_neg c7] at H
      have c7b0 : (t453 == 0) = false := beq_eq_false_iff_ne.mpr c7
      have c7b1 : (t453 != 0) = true := bne_iff_ne.mpr c7
      exact absurd ((Option.some.inj H).trans HT.out) (by decide)
  · rw [if_neg c6] at H
    have c6b0 : (t451 == 0) = false := beq_eq_false_iff_ne.mpr c6
    have c6b1 : (t451 != 0) = true := bne_iff_ne.mpr c6
    exact absurd ((Option.some.inj H).trans HT.out) (by decide)

end Go.Proofs.Ytdfhkdddlfmceaa.X
