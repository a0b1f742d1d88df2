/- Walks of functions that the given law reaches: each comes to what its plain twin says. Written by xprint.py, a program of this claim's session; Lean checks it. -/
import Derived.Test.YtdfhkdddlfmceaaX0
import Derived.Test.YtdfhkdddlfmceaaX7
import Derived.Test.YtdfhkdddlfmceaaX10
import Derived.Test.YtdfhkdddlfmceaaX11
import Derived.Test.YtdfhkdddlfmceaaX13
namespace Go.Proofs.Ytdfhkdddlfmceaa.X
open Go.RowKit Go.Proofs.YtdfhkdddlfmceaaW.PrintWords Go.Proofs.YtdfhkdddlfmceaaW.PrintLast Go.Proofs.YtdfhkdddlfmceaaW.PrintMore
attribute [local go_sem] max2_int min2_int max_two min_two max_three min_three max_four min_four   -- for this text's walks alone
set_option linter.unusedVariables false
set_option linter.unusedSimpArgs false

/-! ### affidavitlaw01_FieldDots: function 8 -/
def affidavitlaw01_FieldDots.j0 : Nat → Int → List Int → List Int → Int → Int → Bool → Option (Bool)
  | 0, _, _, _, _, _, _ => none
  | k + 1, x0, x1, x2, x3, x9, x45 => if x45 = true then (some true) else (if (wrap64 (x9 + 1)) = 0 then (none) else ((field_Dot.f k x0 x1 x2).bind fun bt507 => ((field_Dot.f k x0 x2 x1).bind fun bt509 => (if 0 ≤ (Int.tmod (wrap64 (x3)) (wrap64 (x9 + 1))) then (if (Int.tmod (wrap64 (x3)) (wrap64 (x9 + 1))) ≤ (x1.length : Int) then (if (Int.tmod (wrap64 (x3)) (wrap64 (x9 + 1))) ≤ (x2.length : Int) then ((field_Dot.f k x0 (x1.take ((Int.tmod (wrap64 (x3)) (wrap64 (x9 + 1))) : Int).toNat) (x2.take ((Int.tmod (wrap64 (x3)) (wrap64 (x9 + 1))) : Int).toNat)).bind fun bt513 => ((field_Dot.f k x0 (x1.drop ((Int.tmod (wrap64 (x3)) (wrap64 (x9 + 1))) : Int).toNat) (x2.drop ((Int.tmod (wrap64 (x3)) (wrap64 (x9 + 1))) : Int).toNat)).bind fun bt517 => ((field_Add.f k x0 bt513.1 bt517.1).bind fun bt519 => (if 0 ≤ x9 then (if (x9 : Int).toNat ≤ 35184372088832 then ((field_Dot.f k x0 x1 (List.replicate (x9 : Int).toNat 0)).bind fun bt524 => (if bt507.2 = 0 then (if bt509.2 = 0 then (if bt507.1 = bt509.1 then (if bt507.1 = bt519.1 then (some (bt524.1 == 0)) else (some false)) else (some false)) else (some false)) else (some false))) else (none)) else (none))))) else (none)) else (none)) else (none)))))
def affidavitlaw01_FieldDots.f (k : Nat) (a0 : Int) (l1 : List Int) (l2 : List Int) (a3 : Int) : Option (Bool) := (affidavitlaw01_awake.f k).bind fun t502 => (if t502 = true then (if 0 ≤ (mn (mn (l1.length : Int) (l2.length : Int)) 60) then (if (mn (mn (l1.length : Int) (l2.length : Int)) 60) ≤ (l1.length : Int) then (if (mn (mn (l1.length : Int) (l2.length : Int)) 60) ≤ (l2.length : Int) then ((field_Has.f k a0 (l1.take ((mn (mn (l1.length : Int) (l2.length : Int)) 60) : Int).toNat)).bind fun t505 => (if t505 = true then ((field_Has.f k a0 (l2.take ((mn (mn (l1.length : Int) (l2.length : Int)) 60) : Int).toNat)).bind fun t506 => (affidavitlaw01_FieldDots.j0 k a0 (l1.take ((mn (mn (l1.length : Int) (l2.length : Int)) 60) : Int).toNat) (l2.take ((mn (mn (l1.length : Int) (l2.length : Int)) 60) : Int).toNat) a3 (mn (mn (l1.length : Int) (l2.length : Int)) 60) (!t506))) else (affidavitlaw01_FieldDots.j0 k a0 (l1.take ((mn (mn (l1.length : Int) (l2.length : Int)) 60) : Int).toNat) (l2.take ((mn (mn (l1.length : Int) (l2.length : Int)) 60) : Int).toNat) a3 (mn (mn (l1.length : Int) (l2.length : Int)) 60) true))) else (none)) else (none)) else (none)) else (some false))
theorem affidavitlaw01_FieldDots.mono_l : ∀ k, (∀ y0 y1 y2 y3 y4 y5, LeO (affidavitlaw01_FieldDots.j0 k y0 y1 y2 y3 y4 y5) (affidavitlaw01_FieldDots.j0 (k + 1) y0 y1 y2 y3 y4 y5))
  | 0 => fun _ _ _ _ _ _ r h => by simp [affidavitlaw01_FieldDots.j0] at h
  | k + 1 => by
    have ih0 := affidavitlaw01_FieldDots.mono_l k
    · intro y0 y1 y2 y3 y4 y5
      unfold affidavitlaw01_FieldDots.j0
      repeat' first
      | (with_reducible exact ih0 _ _ _ _ _ _)
      | (with_reducible exact affidavitlaw01_awake.mono _)
      | (with_reducible exact field_Add.mono _ _ _ _)
      | (with_reducible exact field_Dot.mono _ _ _ _)
      | (with_reducible exact field_Has.mono _ _ _)
      | (with_reducible exact LeO.refl _)
      | (with_reducible exact LeO.none _)
      | (with_reducible refine LeO.ite ?_ ?_)
      | (with_reducible refine LeO.bind ?_ (fun _ => ?_))
      | exact ih0 _ _ _ _ _ _
      | exact affidavitlaw01_awake.mono _
      | exact field_Add.mono _ _ _ _
      | exact field_Dot.mono _ _ _ _
      | exact field_Has.mono _ _ _
      | exact LeO.none _
      | refine LeO.ite ?_ ?_
      | refine LeO.bind ?_ (fun _ => ?_)
theorem affidavitlaw01_FieldDots.mono : ∀ a0 a1 a2 a3 k, LeO (affidavitlaw01_FieldDots.f k a0 a1 a2 a3) (affidavitlaw01_FieldDots.f (k + 1) a0 a1 a2 a3) := by
  intro a0 a1 a2 a3 k
  have ih0 := affidavitlaw01_FieldDots.mono_l k
  unfold affidavitlaw01_FieldDots.f
  repeat' first
      | (with_reducible exact ih0 _ _ _ _ _ _)
      | (with_reducible exact affidavitlaw01_awake.mono _)
      | (with_reducible exact field_Add.mono _ _ _ _)
      | (with_reducible exact field_Dot.mono _ _ _ _)
      | (with_reducible exact field_Has.mono _ _ _)
      | (with_reducible exact LeO.refl _)
      | (with_reducible exact LeO.none _)
      | (with_reducible refine LeO.ite ?_ ?_)
      | (with_reducible refine LeO.bind ?_ (fun _ => ?_))
      | exact ih0 _ _ _ _ _ _
      | exact affidavitlaw01_awake.mono _
      | exact field_Add.mono _ _ _ _
      | exact field_Dot.mono _ _ _ _
      | exact field_Has.mono _ _ _
      | exact LeO.none _
      | refine LeO.ite ?_ ?_
      | refine LeO.bind ?_ (fun _ => ?_)
set_option maxHeartbeats 8000000 in
set_option maxRecDepth 100000 in
theorem affidavitlaw01_FieldDots.calls (k : Nat) (a0 : Int) (A1 : Option Addr) (c1 : Nat) (l1 : List Int) (A2 : Option Addr) (c2 : Nat) (l2 : List Int) (a3 : Int) (r : Bool) (w : World) (hr1 : Kd.C (Kd.int .u64) w A1 l1.length l1) (hc1 : l1.length ≤ c1) (hr2 : Kd.C (Kd.int .u64) w A2 l2.length l2) (hc2 : l2.length ≤ c2) (h : affidavitlaw01_FieldDots.f k a0 l1 l2 a3 = some r) (ht : r = true) :
    Calls Try.prog 8 #[.int .u64 a0, .slice A1 l1.length c1, .slice A2 l2.length c2, .int .u8 a3] w fun e w' => e = .returned (.bool r) ∧ Below w.heap.size w w' := by
  have HR1 := Aside0.mk hr1
  have HC1 := Aside0.mk hc1
  clear hr1 hc1
  have HR2 := Aside0.mk hr2
  have HC2 := Aside0.mk hc2
  clear hr2 hc2
  have HB := Aside0.mk (Below.refl w.heap.size w)
  have H : ((affidavitlaw01_awake.f k).bind fun t502 => (if t502 = true then (if 0 ≤ (mn (mn (l1.length : Int) (l2.length : Int)) 60) then (if (mn (mn (l1.length : Int) (l2.length : Int)) 60) ≤ (l1.length : Int) then (if (mn (mn (l1.length : Int) (l2.length : Int)) 60) ≤ (l2.length : Int) then ((field_Has.f k a0 (l1.take ((mn (mn (l1.length : Int) (l2.length : Int)) 60) : Int).toNat)).bind fun t505 => (if t505 = true then ((field_Has.f k a0 (l2.take ((mn (mn (l1.length : Int) (l2.length : Int)) 60) : Int).toNat)).bind fun t506 => (affidavitlaw01_FieldDots.j0 k a0 (l1.take ((mn (mn (l1.length : Int) (l2.length : Int)) 60) : Int).toNat) (l2.take ((mn (mn (l1.length : Int) (l2.length : Int)) 60) : Int).toNat) a3 (mn (mn (l1.length : Int) (l2.length : Int)) 60) (!t506))) else (affidavitlaw01_FieldDots.j0 k a0 (l1.take ((mn (mn (l1.length : Int) (l2.length : Int)) 60) : Int).toNat) (l2.take ((mn (mn (l1.length : Int) (l2.length : Int)) 60) : Int).toNat) a3 (mn (mn (l1.length : Int) (l2.length : Int)) 60) true))) else (none)) else (none)) else (none)) else (some false))) = some r := h
  clear h
  have HT := Aside0.mk ht
  clear ht
  replace H := Option.bind_eq_some_iff.mp H
  obtain ⟨t502, A50, H⟩ := H
  replace H : (if t502 = true then (if 0 ≤ (mn (mn (l1.length : Int) (l2.length : Int)) 60) then (if (mn (mn (l1.length : Int) (l2.length : Int)) 60) ≤ (l1.length : Int) then (if (mn (mn (l1.length : Int) (l2.length : Int)) 60) ≤ (l2.length : Int) then ((field_Has.f k a0 (l1.take ((mn (mn (l1.length : Int) (l2.length : Int)) 60) : Int).toNat)).bind fun t505 => (if t505 = true then ((field_Has.f k a0 (l2.take ((mn (mn (l1.length : Int) (l2.length : Int)) 60) : Int).toNat)).bind fun t506 => (affidavitlaw01_FieldDots.j0 k a0 (l1.take ((mn (mn (l1.length : Int) (l2.length : Int)) 60) : Int).toNat) (l2.take ((mn (mn (l1.length : Int) (l2.length : Int)) 60) : Int).toNat) a3 (mn (mn (l1.length : Int) (l2.length : Int)) 60) (!t506))) else (affidavitlaw01_FieldDots.j0 k a0 (l1.take ((mn (mn (l1.length : Int) (l2.length : Int)) 60) : Int).toNat) (l2.take ((mn (mn (l1.length : Int) (l2.length : Int)) 60) : Int).toNat) a3 (mn (mn (l1.length : Int) (l2.length : Int)) 60) true))) else (none)) else (none)) else (none)) else (some false)) = some r := H
  have A5 := Aside0.mk A50
  clear A50
  by_cases c6 : t502 = true
  · subst c6
    have H1 : (if 0 ≤ (mn (mn (l1.length : Int) (l2.length : Int)) 60) then (if (mn (mn (l1.length : Int) (l2.length : Int)) 60) ≤ (l1.length : Int) then (if (mn (mn (l1.length : Int) (l2.length : Int)) 60) ≤ (l2.length : Int) then ((field_Has.f k a0 (l1.take ((mn (mn (l1.length : Int) (l2.length : Int)) 60) : Int).toNat)).bind fun t505 => (if t505 = true then ((field_Has.f k a0 (l2.take ((mn (mn (l1.length : Int) (l2.length : Int)) 60) : Int).toNat)).bind fun t506 => (affidavitlaw01_FieldDots.j0 k a0 (l1.take ((mn (mn (l1.length : Int) (l2.length : Int)) 60) : Int).toNat) (l2.take ((mn (mn (l1.length : Int) (l2.length : Int)) 60) : Int).toNat) a3 (mn (mn (l1.length : Int) (l2.length : Int)) 60) (!t506))) else (affidavitlaw01_FieldDots.j0 k a0 (l1.take ((mn (mn (l1.length : Int) (l2.length : Int)) 60) : Int).toNat) (l2.take ((mn (mn (l1.length : Int) (l2.length : Int)) 60) : Int).toNat) a3 (mn (mn (l1.length : Int) (l2.length : Int)) 60) true))) else (none)) else (none)) else (none)) = some r := by rw [if_pos rfl] at H; exact H
    clear H
    have H := H1
    clear H1
    obtain ⟨ji7, hji7⟩ : ∃ j_ : Int, (mn (l1.length : Int) (l2.length : Int)) = j_ := ⟨_, rfl⟩
    replace H : (if 0 ≤ (mn (ji7) 60) then (if (mn (ji7) 60) ≤ (l1.length : Int) then (if (mn (ji7) 60) ≤ (l2.length : Int) then ((field_Has.f k a0 (l1.take ((mn (ji7) 60) : Int).toNat)).bind fun t505 => (if t505 = true then ((field_Has.f k a0 (l2.take ((mn (ji7) 60) : Int).toNat)).bind fun t506 => (affidavitlaw01_FieldDots.j0 k a0 (l1.take ((mn (ji7) 60) : Int).toNat) (l2.take ((mn (ji7) 60) : Int).toNat) a3 (mn (ji7) 60) (!t506))) else (affidavitlaw01_FieldDots.j0 k a0 (l1.take ((mn (ji7) 60) : Int).toNat) (l2.take ((mn (ji7) 60) : Int).toNat) a3 (mn (ji7) 60) true))) else (none)) else (none)) else (none)) = some r := by first | (rw [hji7] at H; exact H) | (simp only [hji7] at H ⊢; exact H)
    (try rw [hji7] at A5)
    (try (have hji7l : 0 ≤ ji7 := by (rw [← hji7]; unfold mn; (repeat' split) <;> omega)))
    (try (have hji7m : 0 ≤ ji7 := by omega))
    have hji7_ : (if (l2.length : Int) < (l1.length : Int) then (l2.length : Int) else (l1.length : Int)) = ji7 := hji7
    have hji7n : (if l2.length < l1.length then (l2.length : Int) else (l1.length : Int)) = ji7 := by rw [← hji7_]; by_cases g_ : l2.length < l1.length <;> simp [g_]
    obtain ⟨ji8, hji8⟩ : ∃ j_ : Int, (mn (ji7) 60) = j_ := ⟨_, rfl⟩
    replace H : (if 0 ≤ (ji8) then (if (ji8) ≤ (l1.length : Int) then (if (ji8) ≤ (l2.length : Int) then ((field_Has.f k a0 (l1.take ((ji8) : Int).toNat)).bind fun t505 => (if t505 = true then ((field_Has.f k a0 (l2.take ((ji8) : Int).toNat)).bind fun t506 => (affidavitlaw01_FieldDots.j0 k a0 (l1.take ((ji8) : Int).toNat) (l2.take ((ji8) : Int).toNat) a3 ji8 (!t506))) else (affidavitlaw01_FieldDots.j0 k a0 (l1.take ((ji8) : Int).toNat) (l2.take ((ji8) : Int).toNat) a3 ji8 true))) else (none)) else (none)) else (none)) = some r := by first | (rw [hji8] at H; exact H) | (simp only [hji8] at H ⊢; exact H)
    (try rw [hji8] at A5)
    have hji8_ : (if 60 < (ji7) then 60 else (ji7)) = ji8 := hji8
    by_cases c9 : 0 ≤ (ji8)
    · rw [if_pos c9] at H
      have c9b0 := eq_true c9
      have c9b1 : decide (0 ≤ (ji8)) = true := decide_eq_true c9
      clear c9
      by_cases c10 : (ji8) ≤ (l1.length : Int)
      · rw [if_pos c10] at H
        have c10b0 := eq_true c10
        have c10b1 : decide ((ji8) ≤ (l1.length : Int)) = true := decide_eq_true c10
        clear c10
        have c11b0 := eq_true (of_decide_eq_true (by first | (with_reducible assumption) | assumption) : 0 ≤ (ji8))
        by_cases c12 : (ji8) ≤ (l2.length : Int)
        · rw [if_pos c12] at H
          have c12b0 := eq_true c12
          have c12b1 : decide ((ji8) ≤ (l2.length : Int)) = true := decide_eq_true c12
          clear c12
          have HC13 := Aside0.mk H
          clear H
          go_enter Try.func8, Try.ntmps8
          try go_wp2_with (first | (go_at_call 29; (with_reducible refine (affidavitlaw01_awake.calls k  true _ A5.out rfl).mono ?_); rintro e w14 ⟨rfl, hb⟩; have n0_ := Aside0.mk (below_step (by repeat (first | (with_reducible first | exact HB.out | apply below_alloc | apply pw_below_drewN | apply below_drew1) | exact HB.out)) hb); clear HB; have HB := n0_; clear n0_; (try clear hb); (try clear hb2); (try clear hk); (try clear hi)))
          obtain ⟨i015, hi015, _, hsz15, _⟩ := info_parts info22
          obtain ⟨hcut15, hA15, hC15⟩ := print_take_of (P := Try.prog) (Value.int .u64) 0 23 22 .i64 Try.underlying23 hi015 hsz15 A1 c1 l1 (ji8) (of_decide_eq_true (by first | (with_reducible assumption) | assumption)) (of_decide_eq_true (by first | (with_reducible assumption) | assumption)) HC1.out
          have HR503 := Aside0.mk (Kd.C_of_reads (h1 := fun _ => rfl) (hA15 _ (Kd.reads_of_C HR1.out)))
          have HC503 := Aside0.mk hC15
          clear hA15 hC15 hi015 hsz15
          have LNHR503 := Aside0.mk (show (l1.take ((ji8) : Int).toNat).length = (ji8).toNat from (by rw [List.length_take]; have h_ : ((ji8) : Int) ≤ (l1.length : Int) := of_decide_eq_true (by first | (with_reducible assumption) | assumption); omega))
          obtain ⟨i016, hi016, _, hsz16, _⟩ := info_parts info22
          obtain ⟨hcut16, hA16, hC16⟩ := print_take_of (P := Try.prog) (Value.int .u64) 0 23 22 .i64 Try.underlying23 hi016 hsz16 A2 c2 l2 (ji8) (of_decide_eq_true (by first | (with_reducible assumption) | assumption)) (of_decide_eq_true (by first | (with_reducible assumption) | assumption)) HC2.out
          have HR504 := Aside0.mk (Kd.C_of_reads (h1 := fun _ => rfl) (hA16 _ (Kd.reads_of_C HR2.out)))
          have HC504 := Aside0.mk hC16
          clear hA16 hC16 hi016 hsz16
          have LNHR504 := Aside0.mk (show (l2.take ((ji8) : Int).toNat).length = (ji8).toNat from (by rw [List.length_take]; have h_ : ((ji8) : Int) ≤ (l2.length : Int) := of_decide_eq_true (by first | (with_reducible assumption) | assumption); omega))
          go_upto_region 5 with (fail)
          repeat (go_quiet (fail); go_upto_region 5 with (fail))
          go_cut [45] (fun v45 wc => ∃ (kq : Nat) (x45_12 : Bool), v45 = .bool x45_12 ∧ Aside0 (affidavitlaw01_FieldDots.j0 kq a0 (l1.take ((ji8) : Int).toNat) (l2.take ((ji8) : Int).toNat) a3 ji8 x45_12 = some r) ∧ Aside0 (kq ≤ k) ∧ Aside0 (Below w.heap.size w wc))
          case first =>
            have H := HC13.out
            clear HC13
            replace H := Option.bind_eq_some_iff.mp H
            obtain ⟨t505, A170, H⟩ := H
            replace H : (if t505 = true then ((field_Has.f k a0 (l2.take ((ji8) : Int).toNat)).bind fun t506 => (affidavitlaw01_FieldDots.j0 k a0 (l1.take ((ji8) : Int).toNat) (l2.take ((ji8) : Int).toNat) a3 ji8 (!t506))) else (affidavitlaw01_FieldDots.j0 k a0 (l1.take ((ji8) : Int).toNat) (l2.take ((ji8) : Int).toNat) a3 ji8 true)) = some r := H
            have A17 := Aside0.mk A170
            clear A170
            by_cases c18 : t505 = true
            · subst c18
              have H1 : ((field_Has.f k a0 (l2.take ((ji8) : Int).toNat)).bind fun t506 => (affidavitlaw01_FieldDots.j0 k a0 (l1.take ((ji8) : Int).toNat) (l2.take ((ji8) : Int).toNat) a3 ji8 (!t506))) = some r := by rw [if_pos rfl] at H; exact H
              clear H
              have H := H1
              clear H1
              replace H := Option.bind_eq_some_iff.mp H
              obtain ⟨t506, A190, H⟩ := H
              replace H : (affidavitlaw01_FieldDots.j0 k a0 (l1.take ((ji8) : Int).toNat) (l2.take ((ji8) : Int).toNat) a3 ji8 (!t506)) = some r := H
              have A19 := Aside0.mk A190
              clear A190
              have H' := Aside0.mk H
              clear H
              go_wp2_with (first | (go_at_call 28; refine calls_of_args (args' := #[.int .u64 a0, .slice A1 (l1.take ((ji8) : Int).toNat).length c1]) (by first | (rw [show (l1.take ((ji8) : Int).toNat).length = (ji8).toNat from LNHR503.out] <;> rfl) | rfl | (simp only [List.length_drop, List.length_take]; done) | rfl) ?_; (with_reducible refine (field_Has.calls k a0 _ _ (l1.take ((ji8) : Int).toNat) true _ ?side1 ?side2 A17.out).mono ?_); (case side1 => repeat (first | exact (Kd.C_below HR503.out HB.out) | (with_reducible refine Kd.C_alloc ?_ _) | (with_reducible refine Kd.C_drewN ?_ _) | (with_reducible refine Kd.C_drew ?_))); (case side2 => exact HC503.out); rintro e w' ⟨rfl, ⟨nd, rfl⟩⟩; (try first | exact ⟨rfl, _, World.drewN_drewN _ _ _⟩ | exact ⟨rfl, _, Eq.trans (World.drewN_drewN _ _ _) (congrArg (World.drewN _) (Nat.add_assoc _ _ _))⟩)) | (go_at_call 28; refine calls_of_args (args' := #[.int .u64 a0, .slice A2 (l2.take ((ji8) : Int).toNat).length c2]) (by first | (rw [show (l2.take ((ji8) : Int).toNat).length = (ji8).toNat from LNHR504.out] <;> rfl) | rfl | (simp only [List.length_drop, List.length_take]; done) | rfl) ?_; (with_reducible refine (field_Has.calls k a0 _ _ (l2.take ((ji8) : Int).toNat) t506 _ ?side1 ?side2 A19.out).mono ?_); (case side1 => repeat (first | exact (Kd.C_below HR504.out (by repeat (first | (with_reducible first | exact HB.out | apply below_alloc | apply pw_below_drewN | apply below_drew1) | exact HB.out))) | (with_reducible refine Kd.C_alloc ?_ _) | (with_reducible refine Kd.C_drewN ?_ _) | (with_reducible refine Kd.C_drew ?_))); (case side2 => exact HC504.out); rintro e w' ⟨rfl, ⟨nd, rfl⟩⟩; (try first | exact ⟨rfl, _, World.drewN_drewN _ _ _⟩ | exact ⟨rfl, _, Eq.trans (World.drewN_drewN _ _ _) (congrArg (World.drewN _) (Nat.add_assoc _ _ _))⟩)))
              repeat (go_quiet (first | (go_at_call 28; refine calls_of_args (args' := #[.int .u64 a0, .slice A1 (l1.take ((ji8) : Int).toNat).length c1]) (by first | (rw [show (l1.take ((ji8) : Int).toNat).length = (ji8).toNat from LNHR503.out] <;> rfl) | rfl | (simp only [List.length_drop, List.length_take]; done) | rfl) ?_; (with_reducible refine (field_Has.calls k a0 _ _ (l1.take ((ji8) : Int).toNat) true _ ?side1 ?side2 A17.out).mono ?_); (case side1 => repeat (first | exact (Kd.C_below HR503.out HB.out) | (with_reducible refine Kd.C_alloc ?_ _) | (with_reducible refine Kd.C_drewN ?_ _) | (with_reducible refine Kd.C_drew ?_))); (case side2 => exact HC503.out); rintro e w' ⟨rfl, ⟨nd, rfl⟩⟩; (try first | exact ⟨rfl, _, World.drewN_drewN _ _ _⟩ | exact ⟨rfl, _, Eq.trans (World.drewN_drewN _ _ _) (congrArg (World.drewN _) (Nat.add_assoc _ _ _))⟩)) | (go_at_call 28; refine calls_of_args (args' := #[.int .u64 a0, .slice A2 (l2.take ((ji8) : Int).toNat).length c2]) (by first | (rw [show (l2.take ((ji8) : Int).toNat).length = (ji8).toNat from LNHR504.out] <;> rfl) | rfl | (simp only [List.length_drop, List.length_take]; done) | rfl) ?_; (with_reducible refine (field_Has.calls k a0 _ _ (l2.take ((ji8) : Int).toNat) t506 _ ?side1 ?side2 A19.out).mono ?_); (case side1 => repeat (first | exact (Kd.C_below HR504.out (by repeat (first | (with_reducible first | exact HB.out | apply below_alloc | apply pw_below_drewN | apply below_drew1) | exact HB.out))) | (with_reducible refine Kd.C_alloc ?_ _) | (with_reducible refine Kd.C_drewN ?_ _) | (with_reducible refine Kd.C_drew ?_))); (case side2 => exact HC504.out); rintro e w' ⟨rfl, ⟨nd, rfl⟩⟩; (try first | exact ⟨rfl, _, World.drewN_drewN _ _ _⟩ | exact ⟨rfl, _, Eq.trans (World.drewN_drewN _ _ _) (congrArg (World.drewN _) (Nat.add_assoc _ _ _))⟩))); try go_wp2_with (first | (go_at_call 28; refine calls_of_args (args' := #[.int .u64 a0, .slice A1 (l1.take ((ji8) : Int).toNat).length c1]) (by first | (rw [show (l1.take ((ji8) : Int).toNat).length = (ji8).toNat from LNHR503.out] <;> rfl) | rfl | (simp only [List.length_drop, List.length_take]; done) | rfl) ?_; (with_reducible refine (field_Has.calls k a0 _ _ (l1.take ((ji8) : Int).toNat) true _ ?side1 ?side2 A17.out).mono ?_); (case side1 => repeat (first | exact (Kd.C_below HR503.out HB.out) | (with_reducible refine Kd.C_alloc ?_ _) | (with_reducible refine Kd.C_drewN ?_ _) | (with_reducible refine Kd.C_drew ?_))); (case side2 => exact HC503.out); rintro e w' ⟨rfl, ⟨nd, rfl⟩⟩; (try first | exact ⟨rfl, _, World.drewN_drewN _ _ _⟩ | exact ⟨rfl, _, Eq.trans (World.drewN_drewN _ _ _) (congrArg (World.drewN _) (Nat.add_assoc _ _ _))⟩)) | (go_at_call 28; refine calls_of_args (args' := #[.int .u64 a0, .slice A2 (l2.take ((ji8) : Int).toNat).length c2]) (by first | (rw [show (l2.take ((ji8) : Int).toNat).length = (ji8).toNat from LNHR504.out] <;> rfl) | rfl | (simp only [List.length_drop, List.length_take]; done) | rfl) ?_; (with_reducible refine (field_Has.calls k a0 _ _ (l2.take ((ji8) : Int).toNat) t506 _ ?side1 ?side2 A19.out).mono ?_); (case side1 => repeat (first | exact (Kd.C_below HR504.out (by repeat (first | (with_reducible first | exact HB.out | apply below_alloc | apply pw_below_drewN | apply below_drew1) | exact HB.out))) | (with_reducible refine Kd.C_alloc ?_ _) | (with_reducible refine Kd.C_drewN ?_ _) | (with_reducible refine Kd.C_drew ?_))); (case side2 => exact HC504.out); rintro e w' ⟨rfl, ⟨nd, rfl⟩⟩; (try first | exact ⟨rfl, _, World.drewN_drewN _ _ _⟩ | exact ⟨rfl, _, Eq.trans (World.drewN_drewN _ _ _) (congrArg (World.drewN _) (Nat.add_assoc _ _ _))⟩))))
              go_meet
              case rel => exact ⟨_, (!t506), (by first | rfl | (simp; done) | (simp [*]; done)), H', ⟨by first | omega | exact Nat.le_refl _⟩, ⟨by repeat (first | (with_reducible first | exact HB.out | apply below_alloc | apply pw_below_drewN | apply below_drew1) | exact HB.out)⟩⟩
            · replace c18 := Bool.eq_false_iff.mpr c18
              subst c18
              have H1 : (affidavitlaw01_FieldDots.j0 k a0 (l1.take ((ji8) : Int).toNat) (l2.take ((ji8) : Int).toNat) a3 ji8 true) = some r := by rw [if_neg (show ¬ (false = true) by decide)] at H; exact H
              clear H
              have H := H1
              clear H1
              have H' := Aside0.mk H
              clear H
              go_wp2_with (first | (go_at_call 28; refine calls_of_args (args' := #[.int .u64 a0, .slice A1 (l1.take ((ji8) : Int).toNat).length c1]) (by first | (rw [show (l1.take ((ji8) : Int).toNat).length = (ji8).toNat from LNHR503.out] <;> rfl) | rfl | (simp only [List.length_drop, List.length_take]; done) | rfl) ?_; (with_reducible refine (field_Has.calls k a0 _ _ (l1.take ((ji8) : Int).toNat) false _ ?side1 ?side2 A17.out).mono ?_); (case side1 => repeat (first | exact (Kd.C_below HR503.out HB.out) | (with_reducible refine Kd.C_alloc ?_ _) | (with_reducible refine Kd.C_drewN ?_ _) | (with_reducible refine Kd.C_drew ?_))); (case side2 => exact HC503.out); rintro e w' ⟨rfl, ⟨nd, rfl⟩⟩; (try first | exact ⟨rfl, _, World.drewN_drewN _ _ _⟩ | exact ⟨rfl, _, Eq.trans (World.drewN_drewN _ _ _) (congrArg (World.drewN _) (Nat.add_assoc _ _ _))⟩)))
              repeat (go_quiet (first | (go_at_call 28; refine calls_of_args (args' := #[.int .u64 a0, .slice A1 (l1.take ((ji8) : Int).toNat).length c1]) (by first | (rw [show (l1.take ((ji8) : Int).toNat).length = (ji8).toNat from LNHR503.out] <;> rfl) | rfl | (simp only [List.length_drop, List.length_take]; done) | rfl) ?_; (with_reducible refine (field_Has.calls k a0 _ _ (l1.take ((ji8) : Int).toNat) false _ ?side1 ?side2 A17.out).mono ?_); (case side1 => repeat (first | exact (Kd.C_below HR503.out HB.out) | (with_reducible refine Kd.C_alloc ?_ _) | (with_reducible refine Kd.C_drewN ?_ _) | (with_reducible refine Kd.C_drew ?_))); (case side2 => exact HC503.out); rintro e w' ⟨rfl, ⟨nd, rfl⟩⟩; (try first | exact ⟨rfl, _, World.drewN_drewN _ _ _⟩ | exact ⟨rfl, _, Eq.trans (World.drewN_drewN _ _ _) (congrArg (World.drewN _) (Nat.add_assoc _ _ _))⟩))); try go_wp2_with (first | (go_at_call 28; refine calls_of_args (args' := #[.int .u64 a0, .slice A1 (l1.take ((ji8) : Int).toNat).length c1]) (by first | (rw [show (l1.take ((ji8) : Int).toNat).length = (ji8).toNat from LNHR503.out] <;> rfl) | rfl | (simp only [List.length_drop, List.length_take]; done) | rfl) ?_; (with_reducible refine (field_Has.calls k a0 _ _ (l1.take ((ji8) : Int).toNat) false _ ?side1 ?side2 A17.out).mono ?_); (case side1 => repeat (first | exact (Kd.C_below HR503.out HB.out) | (with_reducible refine Kd.C_alloc ?_ _) | (with_reducible refine Kd.C_drewN ?_ _) | (with_reducible refine Kd.C_drew ?_))); (case side2 => exact HC503.out); rintro e w' ⟨rfl, ⟨nd, rfl⟩⟩; (try first | exact ⟨rfl, _, World.drewN_drewN _ _ _⟩ | exact ⟨rfl, _, Eq.trans (World.drewN_drewN _ _ _) (congrArg (World.drewN _) (Nat.add_assoc _ _ _))⟩))))
              go_meet
              case rel => exact ⟨_, (true), (by first | rfl | (simp; done) | (simp [*]; done)), H', ⟨by first | omega | exact Nat.le_refl _⟩, ⟨by repeat (first | (with_reducible first | exact HB.out | apply below_alloc | apply pw_below_drewN | apply below_drew1) | exact HB.out)⟩⟩
          case rest =>
            clear HC13
            try clear c1
            try clear c2
            try clear p2
            try clear c6
            try clear c8
            try clear c9
            try clear c9b0
            try clear c9b1
            try clear c10
            try clear c10b0
            try clear c10b1
            try clear c11
            try clear c11b0
            try clear c12
            try clear c12b0
            try clear c12b1
            try clear c18
            obtain ⟨kq, x45_12, rfl, HA, HJ12, HB⟩ := hcut
            cases kq with
            | zero => exact absurd HA.out (by simp [affidavitlaw01_FieldDots.j0])
            | succ kj12 =>
              have H := HA.out
              clear HA
              simp only [affidavitlaw01_FieldDots.j0] at H
              by_cases c20 : x45_12 = true
              · subst c20
                have H1 : (some true) = some r := by rw [if_pos rfl] at H; exact H
                clear H
                have H := H1
                clear H1
                obtain rfl := Option.some.inj H
                go_wp2
                repeat (go_quiet (fail); try go_wp2)
                go_ret
                exact ⟨by first | rfl | (simp [errW_none, errW_some] <;> rfl) | (simp only [← hji7, ← hji8]; first | rfl | (simp [errW_none, errW_some] <;> rfl)) | (simp [*, errW_none, errW_some] <;> rfl), by repeat (first | (with_reducible first | exact HB.out | apply below_alloc | apply pw_below_drewN | apply below_drew1) | exact HB.out)⟩
              · replace c20 := Bool.eq_false_iff.mpr c20
                subst c20
                have H1 : (if (wrap64 (ji8 + 1)) = 0 then (none) else ((field_Dot.f kj12 a0 (l1.take ((ji8) : Int).toNat) (l2.take ((ji8) : Int).toNat)).bind fun bt507 => ((field_Dot.f kj12 a0 (l2.take ((ji8) : Int).toNat) (l1.take ((ji8) : Int).toNat)).bind fun bt509 => (if 0 ≤ (Int.tmod (wrap64 (a3)) (wrap64 (ji8 + 1))) then (if (Int.tmod (wrap64 (a3)) (wrap64 (ji8 + 1))) ≤ ((l1.take ((ji8) : Int).toNat).length : Int) then (if (Int.tmod (wrap64 (a3)) (wrap64 (ji8 + 1))) ≤ ((l2.take ((ji8) : Int).toNat).length : Int) then ((field_Dot.f kj12 a0 ((l1.take ((ji8) : Int).toNat).take ((Int.tmod (wrap64 (a3)) (wrap64 (ji8 + 1))) : Int).toNat) ((l2.take ((ji8) : Int).toNat).take ((Int.tmod (wrap64 (a3)) (wrap64 (ji8 + 1))) : Int).toNat)).bind fun bt513 => ((field_Dot.f kj12 a0 ((l1.take ((ji8) : Int).toNat).drop ((Int.tmod (wrap64 (a3)) (wrap64 (ji8 + 1))) : Int).toNat) ((l2.take ((ji8) : Int).toNat).drop ((Int.tmod (wrap64 (a3)) (wrap64 (ji8 + 1))) : Int).toNat)).bind fun bt517 => ((field_Add.f kj12 a0 bt513.1 bt517.1).bind fun bt519 => (if 0 ≤ ji8 then (if (ji8 : Int).toNat ≤ 35184372088832 then ((field_Dot.f kj12 a0 (l1.take ((ji8) : Int).toNat) (List.replicate (ji8 : Int).toNat 0)).bind fun bt524 => (if bt507.2 = 0 then (if bt509.2 = 0 then (if bt507.1 = bt509.1 then (if bt507.1 = bt519.1 then (some (bt524.1 == 0)) else (some false)) else (some false)) else (some false)) else (some false))) else (none)) else (none))))) else (none)) else (none)) else (none))))) = some r := by rw [if_neg (show ¬ (false = true) by decide)] at H; exact H
                clear H
                have H := H1
                clear H1
                by_cases c21 : (wrap64 (ji8 + 1)) = 0
                · rw [if_pos c21] at H
                  exact absurd H (by simp)
                · rw [if_neg c21] at H
                  have c21b0 : ((wrap64 (ji8 + 1)) == 0) = false := beq_eq_false_iff_ne.mpr c21
                  have c21b1 : ((wrap64 (ji8 + 1)) != 0) = true := bne_iff_ne.mpr c21
                  replace H := Option.bind_eq_some_iff.mp H
                  obtain ⟨⟨t507, t508⟩, A220, H⟩ := H
                  replace H : ((field_Dot.f kj12 a0 (l2.take ((ji8) : Int).toNat) (l1.take ((ji8) : Int).toNat)).bind fun bt509 => (if 0 ≤ (Int.tmod (wrap64 (a3)) (wrap64 (ji8 + 1))) then (if (Int.tmod (wrap64 (a3)) (wrap64 (ji8 + 1))) ≤ ((l1.take ((ji8) : Int).toNat).length : Int) then (if (Int.tmod (wrap64 (a3)) (wrap64 (ji8 + 1))) ≤ ((l2.take ((ji8) : Int).toNat).length : Int) then ((field_Dot.f kj12 a0 ((l1.take ((ji8) : Int).toNat).take ((Int.tmod (wrap64 (a3)) (wrap64 (ji8 + 1))) : Int).toNat) ((l2.take ((ji8) : Int).toNat).take ((Int.tmod (wrap64 (a3)) (wrap64 (ji8 + 1))) : Int).toNat)).bind fun bt513 => ((field_Dot.f kj12 a0 ((l1.take ((ji8) : Int).toNat).drop ((Int.tmod (wrap64 (a3)) (wrap64 (ji8 + 1))) : Int).toNat) ((l2.take ((ji8) : Int).toNat).drop ((Int.tmod (wrap64 (a3)) (wrap64 (ji8 + 1))) : Int).toNat)).bind fun bt517 => ((field_Add.f kj12 a0 bt513.1 bt517.1).bind fun bt519 => (if 0 ≤ ji8 then (if (ji8 : Int).toNat ≤ 35184372088832 then ((field_Dot.f kj12 a0 (l1.take ((ji8) : Int).toNat) (List.replicate (ji8 : Int).toNat 0)).bind fun bt524 => (if t508 = 0 then (if bt509.2 = 0 then (if t507 = bt509.1 then (if t507 = bt519.1 then (some (bt524.1 == 0)) else (some false)) else (some false)) else (some false)) else (some false))) else (none)) else (none))))) else (none)) else (none)) else (none))) = some r := H
                  have A22 := Aside0.mk A220
                  clear A220
                  replace H := Option.bind_eq_some_iff.mp H
                  obtain ⟨⟨t509, t510⟩, A230, H⟩ := H
                  replace H : (if 0 ≤ (Int.tmod (wrap64 (a3)) (wrap64 (ji8 + 1))) then (if (Int.tmod (wrap64 (a3)) (wrap64 (ji8 + 1))) ≤ ((l1.take ((ji8) : Int).toNat).length : Int) then (if (Int.tmod (wrap64 (a3)) (wrap64 (ji8 + 1))) ≤ ((l2.take ((ji8) : Int).toNat).length : Int) then ((field_Dot.f kj12 a0 ((l1.take ((ji8) : Int).toNat).take ((Int.tmod (wrap64 (a3)) (wrap64 (ji8 + 1))) : Int).toNat) ((l2.take ((ji8) : Int).toNat).take ((Int.tmod (wrap64 (a3)) (wrap64 (ji8 + 1))) : Int).toNat)).bind fun bt513 => ((field_Dot.f kj12 a0 ((l1.take ((ji8) : Int).toNat).drop ((Int.tmod (wrap64 (a3)) (wrap64 (ji8 + 1))) : Int).toNat) ((l2.take ((ji8) : Int).toNat).drop ((Int.tmod (wrap64 (a3)) (wrap64 (ji8 + 1))) : Int).toNat)).bind fun bt517 => ((field_Add.f kj12 a0 bt513.1 bt517.1).bind fun bt519 => (if 0 ≤ ji8 then (if (ji8 : Int).toNat ≤ 35184372088832 then ((field_Dot.f kj12 a0 (l1.take ((ji8) : Int).toNat) (List.replicate (ji8 : Int).toNat 0)).bind fun bt524 => (if t508 = 0 then (if t510 = 0 then (if t507 = t509 then (if t507 = bt519.1 then (some (bt524.1 == 0)) else (some false)) else (some false)) else (some false)) else (some false))) else (none)) else (none))))) else (none)) else (none)) else (none)) = some r := H
                  have A23 := Aside0.mk A230
                  clear A230
                  obtain ⟨ji24, hji24⟩ : ∃ j_ : Int, (Int.tmod (wrap64 (a3)) (wrap64 (ji8 + 1))) = j_ := ⟨_, rfl⟩
                  (try (have hji24u0 : (Int.tmod (a3) (wrap64 (ji8 + 1))) = ji24 := by have h_ := hji24; rw [show wrap64 (a3) = a3 from (by unfold wrap64; omega)] at h_; exact h_))
                  (try (have hji24u1 : (Int.tmod (wrap64 (a3)) (ji8 + 1)) = ji24 := by have h_ := hji24; rw [show wrap64 (ji8 + 1) = ji8 + 1 from (by unfold wrap64; omega)] at h_; exact h_))
                  replace H : (if 0 ≤ (ji24) then (if (ji24) ≤ ((l1.take ((ji8) : Int).toNat).length : Int) then (if (ji24) ≤ ((l2.take ((ji8) : Int).toNat).length : Int) then ((field_Dot.f kj12 a0 ((l1.take ((ji8) : Int).toNat).take ((ji24) : Int).toNat) ((l2.take ((ji8) : Int).toNat).take ((ji24) : Int).toNat)).bind fun bt513 => ((field_Dot.f kj12 a0 ((l1.take ((ji8) : Int).toNat).drop ((ji24) : Int).toNat) ((l2.take ((ji8) : Int).toNat).drop ((ji24) : Int).toNat)).bind fun bt517 => ((field_Add.f kj12 a0 bt513.1 bt517.1).bind fun bt519 => (if 0 ≤ ji8 then (if (ji8 : Int).toNat ≤ 35184372088832 then ((field_Dot.f kj12 a0 (l1.take ((ji8) : Int).toNat) (List.replicate (ji8 : Int).toNat 0)).bind fun bt524 => (if t508 = 0 then (if t510 = 0 then (if t507 = t509 then (if t507 = bt519.1 then (some (bt524.1 == 0)) else (some false)) else (some false)) else (some false)) else (some false))) else (none)) else (none))))) else (none)) else (none)) else (none)) = some r := by first | (rw [hji24] at H; exact H) | (simp only [hji24] at H ⊢; exact H)
                  (try rw [hji24] at A22)
                  (try rw [hji24] at A23)
                  by_cases c25 : 0 ≤ (ji24)
                  · rw [if_pos c25] at H
                    have c25b0 := eq_true c25
                    have c25b1 : decide (0 ≤ (ji24)) = true := decide_eq_true c25
                    clear c25
                    by_cases c26 : (ji24) ≤ ((l1.take ((ji8) : Int).toNat).length : Int)
                    · rw [if_pos c26] at H
                      have c26b0 := eq_true c26
                      have c26b1 : decide ((ji24) ≤ ((l1.take ((ji8) : Int).toNat).length : Int)) = true := decide_eq_true c26
                      clear c26
                      have c27b0 := eq_true (of_decide_eq_true (by first | (with_reducible assumption) | assumption) : 0 ≤ (ji24))
                      by_cases c28 : (ji24) ≤ ((l2.take ((ji8) : Int).toNat).length : Int)
                      · rw [if_pos c28] at H
                        have c28b0 := eq_true c28
                        have c28b1 : decide ((ji24) ≤ ((l2.take ((ji8) : Int).toNat).length : Int)) = true := decide_eq_true c28
                        clear c28
                        replace H := Option.bind_eq_some_iff.mp H
                        obtain ⟨⟨t513, t514⟩, A290, H⟩ := H
                        replace H : ((field_Dot.f kj12 a0 ((l1.take ((ji8) : Int).toNat).drop ((ji24) : Int).toNat) ((l2.take ((ji8) : Int).toNat).drop ((ji24) : Int).toNat)).bind fun bt517 => ((field_Add.f kj12 a0 t513 bt517.1).bind fun bt519 => (if 0 ≤ ji8 then (if (ji8 : Int).toNat ≤ 35184372088832 then ((field_Dot.f kj12 a0 (l1.take ((ji8) : Int).toNat) (List.replicate (ji8 : Int).toNat 0)).bind fun bt524 => (if t508 = 0 then (if t510 = 0 then (if t507 = t509 then (if t507 = bt519.1 then (some (bt524.1 == 0)) else (some false)) else (some false)) else (some false)) else (some false))) else (none)) else (none)))) = some r := H
                        have A29 := Aside0.mk A290
                        clear A290
                        have c30b0 := eq_true (of_decide_eq_true (by first | (with_reducible assumption) | assumption) : 0 ≤ (ji24))
                        have c31b0 := eq_true (of_decide_eq_true (by first | (with_reducible assumption) | assumption) : (ji24) ≤ ((l1.take ((ji8) : Int).toNat).length : Int))
                        have c32b0 := eq_true (of_decide_eq_true (by first | (with_reducible assumption) | assumption) : 0 ≤ (ji24))
                        have c33b0 := eq_true (of_decide_eq_true (by first | (with_reducible assumption) | assumption) : (ji24) ≤ ((l2.take ((ji8) : Int).toNat).length : Int))
                        replace H := Option.bind_eq_some_iff.mp H
                        obtain ⟨⟨t517, t518⟩, A340, H⟩ := H
                        replace H : ((field_Add.f kj12 a0 t513 t517).bind fun bt519 => (if 0 ≤ ji8 then (if (ji8 : Int).toNat ≤ 35184372088832 then ((field_Dot.f kj12 a0 (l1.take ((ji8) : Int).toNat) (List.replicate (ji8 : Int).toNat 0)).bind fun bt524 => (if t508 = 0 then (if t510 = 0 then (if t507 = t509 then (if t507 = bt519.1 then (some (bt524.1 == 0)) else (some false)) else (some false)) else (some false)) else (some false))) else (none)) else (none))) = some r := H
                        have A34 := Aside0.mk A340
                        clear A340
                        replace H := Option.bind_eq_some_iff.mp H
                        obtain ⟨⟨t519, t520⟩, A350, H⟩ := H
                        replace H : (if 0 ≤ ji8 then (if (ji8 : Int).toNat ≤ 35184372088832 then ((field_Dot.f kj12 a0 (l1.take ((ji8) : Int).toNat) (List.replicate (ji8 : Int).toNat 0)).bind fun bt524 => (if t508 = 0 then (if t510 = 0 then (if t507 = t509 then (if t507 = t519 then (some (bt524.1 == 0)) else (some false)) else (some false)) else (some false)) else (some false))) else (none)) else (none)) = some r := H
                        have A35 := Aside0.mk A350
                        clear A350
                        by_cases c36 : 0 ≤ ji8
                        · rw [if_pos c36] at H
                          have c36b0 := eq_true c36
                          have c36b1 : decide (0 ≤ ji8) = true := decide_eq_true c36
                          clear c36
                          by_cases c37 : (ji8 : Int).toNat ≤ 35184372088832
                          · rw [if_pos c37] at H
                            have c37b0 := eq_true c37
                            have c37b1 : decide ((ji8 : Int).toNat ≤ 35184372088832) = true := decide_eq_true c37
                            clear c37
                            obtain ⟨y521, hy521⟩ : ∃ y_ : List Int, y_ = (List.replicate (ji8 : Int).toNat 0) := ⟨_, rfl⟩
                            replace H : ((field_Dot.f kj12 a0 (l1.take ((ji8) : Int).toNat) y521).bind fun bt524 => (if t508 = 0 then (if t510 = 0 then (if t507 = t509 then (if t507 = t519 then (some (bt524.1 == 0)) else (some false)) else (some false)) else (some false)) else (some false))) = some r := by first | (rw [hy521]; with_reducible exact H) | (have H2_ := (Option.bind_some _ _).symm.trans H; rw [hy521]; with_reducible exact H2_) | (have H2_ := (Option.bind_some _ _).symm.trans H; with_reducible exact H2_) | with_reducible exact H | (rw [hy521]; exact H) | exact H
                            have Ny521 := Aside0.mk hy521
                            clear hy521
                            replace H := Option.bind_eq_some_iff.mp H
                            obtain ⟨⟨t524, t525⟩, A380, H⟩ := H
                            replace H : (if t508 = 0 then (if t510 = 0 then (if t507 = t509 then (if t507 = t519 then (some (t524 == 0)) else (some false)) else (some false)) else (some false)) else (some false)) = some r := H
                            have A38 := Aside0.mk A380
                            clear A380
                            by_cases c39 : t508 = 0
                            · rw [if_pos c39] at H
                              have c39b0 : (t508 == 0) = true := beq_iff_eq.mpr c39
                              have c39b1 : (t508 != 0) = false := bne_eq_false_iff_eq.mpr c39
                              clear c39
                              by_cases c40 : t510 = 0
                              · rw [if_pos c40] at H
                                have c40b0 : (t510 == 0) = true := beq_iff_eq.mpr c40
                                have c40b1 : (t510 != 0) = false := bne_eq_false_iff_eq.mpr c40
                                clear c40
                                by_cases c41 : t507 = t509
                                · rw [if_pos c41] at H
                                  have c41b0 : (t507 == t509) = true := beq_iff_eq.mpr c41
                                  have c41b1 : (t507 != t509) = false := bne_eq_false_iff_eq.mpr c41
                                  clear c41
                                  by_cases c42 : t507 = t519
                                  · rw [if_pos c42] at H
                                    have c42b0 : (t507 == t519) = true := beq_iff_eq.mpr c42
                                    have c42b1 : (t507 != t519) = false := bne_eq_false_iff_eq.mpr c42
                                    clear c42
                                    obtain rfl := Option.some.inj H
                                    go_wp2_with (first | (go_at_call 32; refine calls_of_args (args' := #[.int .u64 a0, .slice A1 (l1.take ((ji8) : Int).toNat).length c1, .slice A2 (l2.take ((ji8) : Int).toNat).length c2]) (by first | (rw [show (l1.take ((ji8) : Int).toNat).length = (ji8).toNat from LNHR503.out, show (l2.take ((ji8) : Int).toNat).length = (ji8).toNat from LNHR504.out] <;> rfl) | (rw [show (l1.take ((ji8) : Int).toNat).length = (ji8).toNat from LNHR503.out] <;> rfl) | (rw [show (l2.take ((ji8) : Int).toNat).length = (ji8).toNat from LNHR504.out] <;> rfl) | rfl | (simp only [List.length_drop, List.length_take]; done) | rfl) ?_; (with_reducible refine (field_Dot.calls kj12 a0 _ _ (l1.take ((ji8) : Int).toNat) _ _ (l2.take ((ji8) : Int).toNat) t507 t508 _ ?side1 ?side2 ?side3 ?side4 A22.out).mono ?_); (case side1 => repeat (first | exact (Kd.C_below HR503.out HB.out) | (with_reducible refine Kd.C_alloc ?_ _) | (with_reducible refine Kd.C_drewN ?_ _) | (with_reducible refine Kd.C_drew ?_))); (case side2 => exact HC503.out); (case side3 => repeat (first | exact (Kd.C_below HR504.out HB.out) | (with_reducible refine Kd.C_alloc ?_ _) | (with_reducible refine Kd.C_drewN ?_ _) | (with_reducible refine Kd.C_drew ?_))); (case side4 => exact HC504.out); rintro e w' ⟨rfl, ⟨nd, rfl⟩⟩; (try first | exact ⟨rfl, _, World.drewN_drewN _ _ _⟩ | exact ⟨rfl, _, Eq.trans (World.drewN_drewN _ _ _) (congrArg (World.drewN _) (Nat.add_assoc _ _ _))⟩)) | (go_at_call 32; refine calls_of_args (args' := #[.int .u64 a0, .slice A2 (l2.take ((ji8) : Int).toNat).length c2, .slice A1 (l1.take ((ji8) : Int).toNat).length c1]) (by first | (rw [show (l2.take ((ji8) : Int).toNat).length = (ji8).toNat from LNHR504.out, show (l1.take ((ji8) : Int).toNat).length = (ji8).toNat from LNHR503.out] <;> rfl) | (rw [show (l2.take ((ji8) : Int).toNat).length = (ji8).toNat from LNHR504.out] <;> rfl) | (rw [show (l1.take ((ji8) : Int).toNat).length = (ji8).toNat from LNHR503.out] <;> rfl) | rfl | (simp only [List.length_drop, List.length_take]; done) | rfl) ?_; (with_reducible refine (field_Dot.calls kj12 a0 _ _ (l2.take ((ji8) : Int).toNat) _ _ (l1.take ((ji8) : Int).toNat) t509 t510 _ ?side1 ?side2 ?side3 ?side4 A23.out).mono ?_); (case side1 => repeat (first | exact (Kd.C_below HR504.out (by repeat (first | (with_reducible first | exact HB.out | apply below_alloc | apply pw_below_drewN | apply below_drew1) | exact HB.out))) | (with_reducible refine Kd.C_alloc ?_ _) | (with_reducible refine Kd.C_drewN ?_ _) | (with_reducible refine Kd.C_drew ?_))); (case side2 => exact HC504.out); (case side3 => repeat (first | exact (Kd.C_below HR503.out (by repeat (first | (with_reducible first | exact HB.out | apply below_alloc | apply pw_below_drewN | apply below_drew1) | exact HB.out))) | (with_reducible refine Kd.C_alloc ?_ _) | (with_reducible refine Kd.C_drewN ?_ _) | (with_reducible refine Kd.C_drew ?_))); (case side4 => exact HC503.out); rintro e w' ⟨rfl, ⟨nd, rfl⟩⟩; (try first | exact ⟨rfl, _, World.drewN_drewN _ _ _⟩ | exact ⟨rfl, _, Eq.trans (World.drewN_drewN _ _ _) (congrArg (World.drewN _) (Nat.add_assoc _ _ _))⟩)))
                                    repeat (go_quiet (first | (go_at_call 32; refine calls_of_args (args' := #[.int .u64 a0, .slice A1 (l1.take ((ji8) : Int).toNat).length c1, .slice A2 (l2.take ((ji8) : Int).toNat).length c2]) (by first | (rw [show (l1.take ((ji8) : Int).toNat).length = (ji8).toNat from LNHR503.out, show (l2.take ((ji8) : Int).toNat).length = (ji8).toNat from LNHR504.out] <;> rfl) | (rw [show (l1.take ((ji8) : Int).toNat).length = (ji8).toNat from LNHR503.out] <;> rfl) | (rw [show (l2.take ((ji8) : Int).toNat).length = (ji8).toNat from LNHR504.out] <;> rfl) | rfl | (simp only [List.length_drop, List.length_take]; done) | rfl) ?_; (with_reducible refine (field_Dot.calls kj12 a0 _ _ (l1.take ((ji8) : Int).toNat) _ _ (l2.take ((ji8) : Int).toNat) t507 t508 _ ?side1 ?side2 ?side3 ?side4 A22.out).mono ?_); (case side1 => repeat (first | exact (Kd.C_below HR503.out HB.out) | (with_reducible refine Kd.C_alloc ?_ _) | (with_reducible refine Kd.C_drewN ?_ _) | (with_reducible refine Kd.C_drew ?_))); (case side2 => exact HC503.out); (case side3 => repeat (first | exact (Kd.C_below HR504.out HB.out) | (with_reducible refine Kd.C_alloc ?_ _) | (with_reducible refine Kd.C_drewN ?_ _) | (with_reducible refine Kd.C_drew ?_))); (case side4 => exact HC504.out); rintro e w' ⟨rfl, ⟨nd, rfl⟩⟩; (try first | exact ⟨rfl, _, World.drewN_drewN _ _ _⟩ | exact ⟨rfl, _, Eq.trans (World.drewN_drewN _ _ _) (congrArg (World.drewN _) (Nat.add_assoc _ _ _))⟩)) | (go_at_call 32; refine calls_of_args (args' := #[.int .u64 a0, .slice A2 (l2.take ((ji8) : Int).toNat).length c2, .slice A1 (l1.take ((ji8) : Int).toNat).length c1]) (by first | (rw [show (l2.take ((ji8) : Int).toNat).length = (ji8).toNat from LNHR504.out, show (l1.take ((ji8) : Int).toNat).length = (ji8).toNat from LNHR503.out] <;> rfl) | (rw [show (l2.take ((ji8) : Int).toNat).length = (ji8).toNat from LNHR504.out] <;> rfl) | (rw [show (l1.take ((ji8) : Int).toNat).length = (ji8).toNat from LNHR503.out] <;> rfl) | rfl | (simp only [List.length_drop, List.length_take]; done) | rfl) ?_; (with_reducible refine (field_Dot.calls kj12 a0 _ _ (l2.take ((ji8) : Int).toNat) _ _ (l1.take ((ji8) : Int).toNat) t509 t510 _ ?side1 ?side2 ?side3 ?side4 A23.out).mono ?_); (case side1 => repeat (first | exact (Kd.C_below HR504.out (by repeat (first | (with_reducible first | exact HB.out | apply below_alloc | apply pw_below_drewN | apply below_drew1) | exact HB.out))) | (with_reducible refine Kd.C_alloc ?_ _) | (with_reducible refine Kd.C_drewN ?_ _) | (with_reducible refine Kd.C_drew ?_))); (case side2 => exact HC504.out); (case side3 => repeat (first | exact (Kd.C_below HR503.out (by repeat (first | (with_reducible first | exact HB.out | apply below_alloc | apply pw_below_drewN | apply below_drew1) | exact HB.out))) | (with_reducible refine Kd.C_alloc ?_ _) | (with_reducible refine Kd.C_drewN ?_ _) | (with_reducible refine Kd.C_drew ?_))); (case side4 => exact HC503.out); rintro e w' ⟨rfl, ⟨nd, rfl⟩⟩; (try first | exact ⟨rfl, _, World.drewN_drewN _ _ _⟩ | exact ⟨rfl, _, Eq.trans (World.drewN_drewN _ _ _) (congrArg (World.drewN _) (Nat.add_assoc _ _ _))⟩))); try go_wp2_with (first | (go_at_call 32; refine calls_of_args (args' := #[.int .u64 a0, .slice A1 (l1.take ((ji8) : Int).toNat).length c1, .slice A2 (l2.take ((ji8) : Int).toNat).length c2]) (by first | (rw [show (l1.take ((ji8) : Int).toNat).length = (ji8).toNat from LNHR503.out, show (l2.take ((ji8) : Int).toNat).length = (ji8).toNat from LNHR504.out] <;> rfl) | (rw [show (l1.take ((ji8) : Int).toNat).length = (ji8).toNat from LNHR503.out] <;> rfl) | (rw [show (l2.take ((ji8) : Int).toNat).length = (ji8).toNat from LNHR504.out] <;> rfl) | rfl | (simp only [List.length_drop, List.length_take]; done) | rfl) ?_; (with_reducible refine (field_Dot.calls kj12 a0 _ _ (l1.take ((ji8) : Int).toNat) _ _ (l2.take ((ji8) : Int).toNat) t507 t508 _ ?side1 ?side2 ?side3 ?side4 A22.out).mono ?_); (case side1 => repeat (first | exact (Kd.C_below HR503.out HB.out) | (with_reducible refine Kd.C_alloc ?_ _) | (with_reducible refine Kd.C_drewN ?_ _) | (with_reducible refine Kd.C_drew ?_))); (case side2 => exact HC503.out); (case side3 => repeat (first | exact (Kd.C_below HR504.out HB.out) | (with_reducible refine Kd.C_alloc ?_ _) | (with_reducible refine Kd.C_drewN ?_ _) | (with_reducible refine Kd.C_drew ?_))); (case side4 => exact HC504.out); rintro e w' ⟨rfl, ⟨nd, rfl⟩⟩; (try first | exact ⟨rfl, _, World.drewN_drewN _ _ _⟩ | exact ⟨rfl, _, Eq.trans (World.drewN_drewN _ _ _) (congrArg (World.drewN _) (Nat.add_assoc _ _ _))⟩)) | (go_at_call 32; refine calls_of_args (args' := #[.int .u64 a0, .slice A2 (l2.take ((ji8) : Int).toNat).length c2, .slice A1 (l1.take ((ji8) : Int).toNat).length c1]) (by first | (rw [show (l2.take ((ji8) : Int).toNat).length = (ji8).toNat from LNHR504.out, show (l1.take ((ji8) : Int).toNat).length = (ji8).toNat from LNHR503.out] <;> rfl) | (rw [show (l2.take ((ji8) : Int).toNat).length = (ji8).toNat from LNHR504.out] <;> rfl) | (rw [show (l1.take ((ji8) : Int).toNat).length = (ji8).toNat from LNHR503.out] <;> rfl) | rfl | (simp only [List.length_drop, List.length_take]; done) | rfl) ?_; (with_reducible refine (field_Dot.calls kj12 a0 _ _ (l2.take ((ji8) : Int).toNat) _ _ (l1.take ((ji8) : Int).toNat) t509 t510 _ ?side1 ?side2 ?side3 ?side4 A23.out).mono ?_); (case side1 => repeat (first | exact (Kd.C_below HR504.out (by repeat (first | (with_reducible first | exact HB.out | apply below_alloc | apply pw_below_drewN | apply below_drew1) | exact HB.out))) | (with_reducible refine Kd.C_alloc ?_ _) | (with_reducible refine Kd.C_drewN ?_ _) | (with_reducible refine Kd.C_drew ?_))); (case side2 => exact HC504.out); (case side3 => repeat (first | exact (Kd.C_below HR503.out (by repeat (first | (with_reducible first | exact HB.out | apply below_alloc | apply pw_below_drewN | apply below_drew1) | exact HB.out))) | (with_reducible refine Kd.C_alloc ?_ _) | (with_reducible refine Kd.C_drewN ?_ _) | (with_reducible refine Kd.C_drew ?_))); (case side4 => exact HC503.out); rintro e w' ⟨rfl, ⟨nd, rfl⟩⟩; (try first | exact ⟨rfl, _, World.drewN_drewN _ _ _⟩ | exact ⟨rfl, _, Eq.trans (World.drewN_drewN _ _ _) (congrArg (World.drewN _) (Nat.add_assoc _ _ _))⟩))))
                                    obtain ⟨i043, hi043, _, hsz43, _⟩ := info_parts info22
                                    obtain ⟨hcut43, hA43, hC43⟩ := print_take_of (P := Try.prog) (Value.int .u64) 0 23 22 .i64 Try.underlying23 hi043 hsz43 A1 c1 (l1.take ((ji8) : Int).toNat) (ji24) (of_decide_eq_true (by first | (with_reducible assumption) | assumption)) (of_decide_eq_true (by first | (with_reducible assumption) | assumption)) HC503.out
                                    have HR511 := Aside0.mk (Kd.C_of_reads (h1 := fun _ => rfl) (hA43 _ (Kd.reads_of_C HR503.out)))
                                    have HC511 := Aside0.mk hC43
                                    clear hA43 hC43 hi043 hsz43
                                    have LNHR511 := Aside0.mk (show ((l1.take ((ji8) : Int).toNat).take ((ji24) : Int).toNat).length = (ji24).toNat from (by rw [List.length_take]; have h_ : ((ji24) : Int) ≤ ((l1.take ((ji8) : Int).toNat).length : Int) := of_decide_eq_true (by first | (with_reducible assumption) | assumption); omega))
                                    (try rw [LNHR503.out] at hcut43)
                                    obtain ⟨i044, hi044, _, hsz44, _⟩ := info_parts info22
                                    obtain ⟨hcut44, hA44, hC44⟩ := print_take_of (P := Try.prog) (Value.int .u64) 0 23 22 .i64 Try.underlying23 hi044 hsz44 A2 c2 (l2.take ((ji8) : Int).toNat) (ji24) (of_decide_eq_true (by first | (with_reducible assumption) | assumption)) (of_decide_eq_true (by first | (with_reducible assumption) | assumption)) HC504.out
                                    have HR512 := Aside0.mk (Kd.C_of_reads (h1 := fun _ => rfl) (hA44 _ (Kd.reads_of_C HR504.out)))
                                    have HC512 := Aside0.mk hC44
                                    clear hA44 hC44 hi044 hsz44
                                    have LNHR512 := Aside0.mk (show ((l2.take ((ji8) : Int).toNat).take ((ji24) : Int).toNat).length = (ji24).toNat from (by rw [List.length_take]; have h_ : ((ji24) : Int) ≤ ((l2.take ((ji8) : Int).toNat).length : Int) := of_decide_eq_true (by first | (with_reducible assumption) | assumption); omega))
                                    (try rw [LNHR504.out] at hcut44)
                                    go_wp2_with (first | (go_at_call 32; refine calls_of_args (args' := #[.int .u64 a0, .slice A1 ((l1.take ((ji8) : Int).toNat).take ((ji24) : Int).toNat).length c1, .slice A2 ((l2.take ((ji8) : Int).toNat).take ((ji24) : Int).toNat).length c2]) (by first | (rw [show ((l1.take ((ji8) : Int).toNat).take ((ji24) : Int).toNat).length = (ji24).toNat from LNHR511.out, show ((l2.take ((ji8) : Int).toNat).take ((ji24) : Int).toNat).length = (ji24).toNat from LNHR512.out] <;> rfl) | (rw [show ((l1.take ((ji8) : Int).toNat).take ((ji24) : Int).toNat).length = (ji24).toNat from LNHR511.out] <;> rfl) | (rw [show ((l2.take ((ji8) : Int).toNat).take ((ji24) : Int).toNat).length = (ji24).toNat from LNHR512.out] <;> rfl) | rfl | (simp only [List.length_drop, List.length_take]; done) | rfl) ?_; (with_reducible refine (field_Dot.calls kj12 a0 _ _ ((l1.take ((ji8) : Int).toNat).take ((ji24) : Int).toNat) _ _ ((l2.take ((ji8) : Int).toNat).take ((ji24) : Int).toNat) t513 t514 _ ?side1 ?side2 ?side3 ?side4 A29.out).mono ?_); (case side1 => repeat (first | exact (Kd.C_below HR511.out (by repeat (first | (with_reducible first | exact HB.out | apply below_alloc | apply pw_below_drewN | apply below_drew1) | exact HB.out))) | (with_reducible refine Kd.C_alloc ?_ _) | (with_reducible refine Kd.C_drewN ?_ _) | (with_reducible refine Kd.C_drew ?_))); (case side2 => exact HC511.out); (case side3 => repeat (first | exact (Kd.C_below HR512.out (by repeat (first | (with_reducible first | exact HB.out | apply below_alloc | apply pw_below_drewN | apply below_drew1) | exact HB.out))) | (with_reducible refine Kd.C_alloc ?_ _) | (with_reducible refine Kd.C_drewN ?_ _) | (with_reducible refine Kd.C_drew ?_))); (case side4 => exact HC512.out); rintro e w' ⟨rfl, ⟨nd, rfl⟩⟩; (try first | exact ⟨rfl, _, World.drewN_drewN _ _ _⟩ | exact ⟨rfl, _, Eq.trans (World.drewN_drewN _ _ _) (congrArg (World.drewN _) (Nat.add_assoc _ _ _))⟩)))
                                    repeat (go_quiet (first | (go_at_call 32; refine calls_of_args (args' := #[.int .u64 a0, .slice A1 ((l1.take ((ji8) : Int).toNat).take ((ji24) : Int).toNat).length c1, .slice A2 ((l2.take ((ji8) : Int).toNat).take ((ji24) : Int).toNat).length c2]) (by first | (rw [show ((l1.take ((ji8) : Int).toNat).take ((ji24) : Int).toNat).length = (ji24).toNat from LNHR511.out, show ((l2.take ((ji8) : Int).toNat).take ((ji24) : Int).toNat).length = (ji24).toNat from LNHR512.out] <;> rfl) | (rw [show ((l1.take ((ji8) : Int).toNat).take ((ji24) : Int).toNat).length = (ji24).toNat from LNHR511.out] <;> rfl) | (rw [show ((l2.take ((ji8) : Int).toNat).take ((ji24) : Int).toNat).length = (ji24).toNat from LNHR512.out] <;> rfl) | rfl | (simp only [List.length_drop, List.length_take]; done) | rfl) ?_; (with_reducible refine (field_Dot.calls kj12 a0 _ _ ((l1.take ((ji8) : Int).toNat).take ((ji24) : Int).toNat) _ _ ((l2.take ((ji8) : Int).toNat).take ((ji24) : Int).toNat) t513 t514 _ ?side1 ?side2 ?side3 ?side4 A29.out).mono ?_); (case side1 => repeat (first | exact (Kd.C_below HR511.out (by repeat (first | (with_reducible first | exact HB.out | apply below_alloc | apply pw_below_drewN | apply below_drew1) | exact HB.out))) | (with_reducible refine Kd.C_alloc ?_ _) | (with_reducible refine Kd.C_drewN ?_ _) | (with_reducible refine Kd.C_drew ?_))); (case side2 => exact HC511.out); (case side3 => repeat (first | exact (Kd.C_below HR512.out (by repeat (first | (with_reducible first | exact HB.out | apply below_alloc | apply pw_below_drewN | apply below_drew1) | exact HB.out))) | (with_reducible refine Kd.C_alloc ?_ _) | (with_reducible refine Kd.C_drewN ?_ _) | (with_reducible refine Kd.C_drew ?_))); (case side4 => exact HC512.out); rintro e w' ⟨rfl, ⟨nd, rfl⟩⟩; (try first | exact ⟨rfl, _, World.drewN_drewN _ _ _⟩ | exact ⟨rfl, _, Eq.trans (World.drewN_drewN _ _ _) (congrArg (World.drewN _) (Nat.add_assoc _ _ _))⟩))); try go_wp2_with (first | (go_at_call 32; refine calls_of_args (args' := #[.int .u64 a0, .slice A1 ((l1.take ((ji8) : Int).toNat).take ((ji24) : Int).toNat).length c1, .slice A2 ((l2.take ((ji8) : Int).toNat).take ((ji24) : Int).toNat).length c2]) (by first | (rw [show ((l1.take ((ji8) : Int).toNat).take ((ji24) : Int).toNat).length = (ji24).toNat from LNHR511.out, show ((l2.take ((ji8) : Int).toNat).take ((ji24) : Int).toNat).length = (ji24).toNat from LNHR512.out] <;> rfl) | (rw [show ((l1.take ((ji8) : Int).toNat).take ((ji24) : Int).toNat).length = (ji24).toNat from LNHR511.out] <;> rfl) | (rw [show ((l2.take ((ji8) : Int).toNat).take ((ji24) : Int).toNat).length = (ji24).toNat from LNHR512.out] <;> rfl) | rfl | (simp only [List.length_drop, List.length_take]; done) | rfl) ?_; (with_reducible refine (field_Dot.calls kj12 a0 _ _ ((l1.take ((ji8) : Int).toNat).take ((ji24) : Int).toNat) _ _ ((l2.take ((ji8) : Int).toNat).take ((ji24) : Int).toNat) t513 t514 _ ?side1 ?side2 ?side3 ?side4 A29.out).mono ?_); (case side1 => repeat (first | exact (Kd.C_below HR511.out (by repeat (first | (with_reducible first | exact HB.out | apply below_alloc | apply pw_below_drewN | apply below_drew1) | exact HB.out))) | (with_reducible refine Kd.C_alloc ?_ _) | (with_reducible refine Kd.C_drewN ?_ _) | (with_reducible refine Kd.C_drew ?_))); (case side2 => exact HC511.out); (case side3 => repeat (first | exact (Kd.C_below HR512.out (by repeat (first | (with_reducible first | exact HB.out | apply below_alloc | apply pw_below_drewN | apply below_drew1) | exact HB.out))) | (with_reducible refine Kd.C_alloc ?_ _) | (with_reducible refine Kd.C_drewN ?_ _) | (with_reducible refine Kd.C_drew ?_))); (case side4 => exact HC512.out); rintro e w' ⟨rfl, ⟨nd, rfl⟩⟩; (try first | exact ⟨rfl, _, World.drewN_drewN _ _ _⟩ | exact ⟨rfl, _, Eq.trans (World.drewN_drewN _ _ _) (congrArg (World.drewN _) (Nat.add_assoc _ _ _))⟩))))
                                    obtain ⟨i045, hi045, _, hsz45, _⟩ := info_parts info22
                                    obtain ⟨A45, hcut45, hA45, hC45⟩ := print_drop_of (P := Try.prog) (Value.int .u64) 0 23 22 .i64 Try.underlying23 hi045 hsz45 A1 c1 (l1.take ((ji8) : Int).toNat) (ji24) (of_decide_eq_true (by first | (with_reducible assumption) | assumption)) (of_decide_eq_true (by first | (with_reducible assumption) | assumption)) HC503.out
                                    have HR515 := Aside0.mk (Kd.C_of_reads (h1 := fun _ => rfl) (hA45 _ (Kd.reads_of_C HR503.out)))
                                    have HC515 := Aside0.mk hC45
                                    clear hA45 hC45 hi045 hsz45
                                    have LNHR515 := Aside0.mk (show ((l1.take ((ji8) : Int).toNat).drop ((ji24) : Int).toNat).length = ((l1.take ((ji8) : Int).toNat).length - (ji24).toNat) from List.length_drop)
                                    (try rw [LNHR503.out] at hcut45)
                                    obtain ⟨i046, hi046, _, hsz46, _⟩ := info_parts info22
                                    obtain ⟨A46, hcut46, hA46, hC46⟩ := print_drop_of (P := Try.prog) (Value.int .u64) 0 23 22 .i64 Try.underlying23 hi046 hsz46 A2 c2 (l2.take ((ji8) : Int).toNat) (ji24) (of_decide_eq_true (by first | (with_reducible assumption) | assumption)) (of_decide_eq_true (by first | (with_reducible assumption) | assumption)) HC504.out
                                    have HR516 := Aside0.mk (Kd.C_of_reads (h1 := fun _ => rfl) (hA46 _ (Kd.reads_of_C HR504.out)))
                                    have HC516 := Aside0.mk hC46
                                    clear hA46 hC46 hi046 hsz46
                                    have LNHR516 := Aside0.mk (show ((l2.take ((ji8) : Int).toNat).drop ((ji24) : Int).toNat).length = ((l2.take ((ji8) : Int).toNat).length - (ji24).toNat) from List.length_drop)
                                    (try rw [LNHR504.out] at hcut46)
                                    go_wp2_with (first | (go_at_call 32; refine calls_of_args (args' := #[.int .u64 a0, .slice A45 ((l1.take ((ji8) : Int).toNat).drop ((ji24) : Int).toNat).length (c1 - (ji24).toNat), .slice A46 ((l2.take ((ji8) : Int).toNat).drop ((ji24) : Int).toNat).length (c2 - (ji24).toNat)]) (by first | (rw [show ((l1.take ((ji8) : Int).toNat).drop ((ji24) : Int).toNat).length = ((l1.take ((ji8) : Int).toNat).length - (ji24).toNat) from LNHR515.out, show ((l2.take ((ji8) : Int).toNat).drop ((ji24) : Int).toNat).length = ((l2.take ((ji8) : Int).toNat).length - (ji24).toNat) from LNHR516.out] <;> rfl) | (rw [show ((l1.take ((ji8) : Int).toNat).drop ((ji24) : Int).toNat).length = ((l1.take ((ji8) : Int).toNat).length - (ji24).toNat) from LNHR515.out] <;> rfl) | (rw [show ((l2.take ((ji8) : Int).toNat).drop ((ji24) : Int).toNat).length = ((l2.take ((ji8) : Int).toNat).length - (ji24).toNat) from LNHR516.out] <;> rfl) | rfl | (simp only [List.length_drop, List.length_take]; done) | rfl) ?_; (with_reducible refine (field_Dot.calls kj12 a0 _ _ ((l1.take ((ji8) : Int).toNat).drop ((ji24) : Int).toNat) _ _ ((l2.take ((ji8) : Int).toNat).drop ((ji24) : Int).toNat) t517 t518 _ ?side1 ?side2 ?side3 ?side4 A34.out).mono ?_); (case side1 => repeat (first | exact (Kd.C_below HR515.out (by repeat (first | (with_reducible first | exact HB.out | apply below_alloc | apply pw_below_drewN | apply below_drew1) | exact HB.out))) | (with_reducible refine Kd.C_alloc ?_ _) | (with_reducible refine Kd.C_drewN ?_ _) | (with_reducible refine Kd.C_drew ?_))); (case side2 => exact HC515.out); (case side3 => repeat (first | exact (Kd.C_below HR516.out (by repeat (first | (with_reducible first | exact HB.out | apply below_alloc | apply pw_below_drewN | apply below_drew1) | exact HB.out))) | (with_reducible refine Kd.C_alloc ?_ _) | (with_reducible refine Kd.C_drewN ?_ _) | (with_reducible refine Kd.C_drew ?_))); (case side4 => exact HC516.out); rintro e w' ⟨rfl, ⟨nd, rfl⟩⟩; (try first | exact ⟨rfl, _, World.drewN_drewN _ _ _⟩ | exact ⟨rfl, _, Eq.trans (World.drewN_drewN _ _ _) (congrArg (World.drewN _) (Nat.add_assoc _ _ _))⟩)) | (go_at_call 33; (with_reducible refine (field_Add.calls kj12 a0 t513 t517 t519 t520 _ A35.out).mono ?_); rintro e w47 ⟨rfl, hb⟩; have n0_ := Aside0.mk (below_step (by repeat (first | (with_reducible first | exact HB.out | apply below_alloc | apply pw_below_drewN | apply below_drew1) | exact HB.out)) hb); clear HB; have HB := n0_; clear n0_; (try clear hb); (try clear hb2); (try clear hk); (try clear hi)) | ((with_reducible refine gate_dst (N := 98) rfl ?_); refine Kd.R_make (Kd.int .u64) _ 22 rfl (N := 98) rfl 23 _ _ rfl ji8 rfl rfl Try.underlying23 (.int .u64 0) 8 info22 rfl (by decide) (by omega) 0 (ok := fun _ => True) (okp := fun _ => True) rfl (fun _ hk => hk) trivial (of_decide_eq_true (by first | (with_reducible assumption) | assumption)) (Nat.le_trans (Nat.mul_le_mul_right _ (of_decide_eq_true (by first | (with_reducible assumption) | assumption) : ji8.toNat ≤ 35184372088832)) (by omega)) (Below.refl _ _) (Nat.le_refl _) ?_; intro v522 w48 ho49 hb hg_ hnew_; clear hg_ hnew_; (first | rw [← Ny521.out] at ho49 | (simp only [Int.reduceToNat] at ho49; rw [← Ny521.out] at ho49)); have n0_ := Aside0.mk (Kd.R_lower ho49 (below_size (by repeat (first | (with_reducible first | exact HB.out | apply below_alloc | apply pw_below_drewN | apply below_drew1) | exact HB.out)))); have n1_ := Aside0.mk (below_step (by repeat (first | (with_reducible first | exact HB.out | apply below_alloc | apply pw_below_drewN | apply below_drew1) | exact HB.out)) hb); clear HB; have HO523 := n0_; have HB := n1_; clear n0_ n1_; clear hb ho49; obtain ⟨Ao50, co50, eo50⟩ := Kd.R_slice HO523.out; subst eo50) | (go_at_call 32; refine calls_of_args (args' := #[.int .u64 a0, .slice A1 (l1.take ((ji8) : Int).toNat).length c1, .slice Ao50 y521.length co50]) (by first | (rw [show (l1.take ((ji8) : Int).toNat).length = (ji8).toNat from LNHR503.out] <;> rfl) | rfl | (simp only [List.length_drop, List.length_take]; done) | rfl) ?_; (with_reducible refine (field_Dot.calls kj12 a0 _ _ (l1.take ((ji8) : Int).toNat) _ _ y521 t524 t525 _ ?side1 ?side2 ?side3 ?side4 A38.out).mono ?_); (case side1 => repeat (first | exact (Kd.C_below HR503.out HB.out) | (with_reducible refine Kd.C_alloc ?_ _) | (with_reducible refine Kd.C_drewN ?_ _) | (with_reducible refine Kd.C_drew ?_))); (case side2 => exact HC503.out); (case side3 => repeat (first | exact (Kd.R_reads' HO523.out).2.2 | (with_reducible refine Kd.C_alloc ?_ _) | (with_reducible refine Kd.C_drewN ?_ _) | (with_reducible refine Kd.C_drew ?_))); (case side4 => exact (Kd.R_reads' HO523.out).2.1); rintro e w' ⟨rfl, ⟨nd, rfl⟩⟩; (try first | exact ⟨rfl, _, World.drewN_drewN _ _ _⟩ | exact ⟨rfl, _, Eq.trans (World.drewN_drewN _ _ _) (congrArg (World.drewN _) (Nat.add_assoc _ _ _))⟩)))
                                    repeat (go_quiet (first | (go_at_call 32; refine calls_of_args (args' := #[.int .u64 a0, .slice A45 ((l1.take ((ji8) : Int).toNat).drop ((ji24) : Int).toNat).length (c1 - (ji24).toNat), .slice A46 ((l2.take ((ji8) : Int).toNat).drop ((ji24) : Int).toNat).length (c2 - (ji24).toNat)]) (by first | (rw [show ((l1.take ((ji8) : Int).toNat).drop ((ji24) : Int).toNat).length = ((l1.take ((ji8) : Int).toNat).length - (ji24).toNat) from LNHR515.out, show ((l2.take ((ji8) : Int).toNat).drop ((ji24) : Int).toNat).length = ((l2.take ((ji8) : Int).toNat).length - (ji24).toNat) from LNHR516.out] <;> rfl) | (rw [show ((l1.take ((ji8) : Int).toNat).drop ((ji24) : Int).toNat).length = ((l1.take ((ji8) : Int).toNat).length - (ji24).toNat) from LNHR515.out] <;> rfl) | (rw [show ((l2.take ((ji8) : Int).toNat).drop ((ji24) : Int).toNat).length = ((l2.take ((ji8) : Int).toNat).length - (ji24).toNat) from LNHR516.out] <;> rfl) | rfl | (simp only [List.length_drop, List.length_take]; done) | rfl) ?_; (with_reducible refine (field_Dot.calls kj12 a0 _ _ ((l1.take ((ji8) : Int).toNat).drop ((ji24) : Int).toNat) _ _ ((l2.take ((ji8) : Int).toNat).drop ((ji24) : Int).toNat) t517 t518 _ ?side1 ?side2 ?side3 ?side4 A34.out).mono ?_); (case side1 => repeat (first | exact (Kd.C_below HR515.out (by repeat (first | (with_reducible first | exact HB.out | apply below_alloc | apply pw_below_drewN | apply below_drew1) | exact HB.out))) | (with_reducible refine Kd.C_alloc ?_ _) | (with_reducible refine Kd.C_drewN ?_ _) | (with_reducible refine Kd.C_drew ?_))); (case side2 => exact HC515.out); (case side3 => repeat (first | exact (Kd.C_below HR516.out (by repeat (first | (with_reducible first | exact HB.out | apply below_alloc | apply pw_below_drewN | apply below_drew1) | exact HB.out))) | (with_reducible refine Kd.C_alloc ?_ _) | (with_reducible refine Kd.C_drewN ?_ _) | (with_reducible refine Kd.C_drew ?_))); (case side4 => exact HC516.out); rintro e w' ⟨rfl, ⟨nd, rfl⟩⟩; (try first | exact ⟨rfl, _, World.drewN_drewN _ _ _⟩ | exact ⟨rfl, _, Eq.trans (World.drewN_drewN _ _ _) (congrArg (World.drewN _) (Nat.add_assoc _ _ _))⟩)) | (go_at_call 33; (with_reducible refine (field_Add.calls kj12 a0 t513 t517 t519 t520 _ A35.out).mono ?_); rintro e w47 ⟨rfl, hb⟩; have n0_ := Aside0.mk (below_step (by repeat (first | (with_reducible first | exact HB.out | apply below_alloc | apply pw_below_drewN | apply below_drew1) | exact HB.out)) hb); clear HB; have HB := n0_; clear n0_; (try clear hb); (try clear hb2); (try clear hk); (try clear hi)) | ((with_reducible refine gate_dst (N := 98) rfl ?_); refine Kd.R_make (Kd.int .u64) _ 22 rfl (N := 98) rfl 23 _ _ rfl ji8 rfl rfl Try.underlying23 (.int .u64 0) 8 info22 rfl (by decide) (by omega) 0 (ok := fun _ => True) (okp := fun _ => True) rfl (fun _ hk => hk) trivial (of_decide_eq_true (by first | (with_reducible assumption) | assumption)) (Nat.le_trans (Nat.mul_le_mul_right _ (of_decide_eq_true (by first | (with_reducible assumption) | assumption) : ji8.toNat ≤ 35184372088832)) (by omega)) (Below.refl _ _) (Nat.le_refl _) ?_; intro v522 w48 ho49 hb hg_ hnew_; clear hg_ hnew_; (first | rw [← Ny521.out] at ho49 | (simp only [Int.reduceToNat] at ho49; rw [← Ny521.out] at ho49)); have n0_ := Aside0.mk (Kd.R_lower ho49 (below_size (by repeat (first | (with_reducible first | exact HB.out | apply below_alloc | apply pw_below_drewN | apply below_drew1) | exact HB.out)))); have n1_ := Aside0.mk (below_step (by repeat (first | (with_reducible first | exact HB.out | apply below_alloc | apply pw_below_drewN | apply below_drew1) | exact HB.out)) hb); clear HB; have HO523 := n0_; have HB := n1_; clear n0_ n1_; clear hb ho49; obtain ⟨Ao50, co50, eo50⟩ := Kd.R_slice HO523.out; subst eo50) | (go_at_call 32; refine calls_of_args (args' := #[.int .u64 a0, .slice A1 (l1.take ((ji8) : Int).toNat).length c1, .slice Ao50 y521.length co50]) (by first | (rw [show (l1.take ((ji8) : Int).toNat).length = (ji8).toNat from LNHR503.out] <;> rfl) | rfl | (simp only [List.length_drop, List.length_take]; done) | rfl) ?_; (with_reducible refine (field_Dot.calls kj12 a0 _ _ (l1.take ((ji8) : Int).toNat) _ _ y521 t524 t525 _ ?side1 ?side2 ?side3 ?side4 A38.out).mono ?_); (case side1 => repeat (first | exact (Kd.C_below HR503.out HB.out) | (with_reducible refine Kd.C_alloc ?_ _) | (with_reducible refine Kd.C_drewN ?_ _) | (with_reducible refine Kd.C_drew ?_))); (case side2 => exact HC503.out); (case side3 => repeat (first | exact (Kd.R_reads' HO523.out).2.2 | (with_reducible refine Kd.C_alloc ?_ _) | (with_reducible refine Kd.C_drewN ?_ _) | (with_reducible refine Kd.C_drew ?_))); (case side4 => exact (Kd.R_reads' HO523.out).2.1); rintro e w' ⟨rfl, ⟨nd, rfl⟩⟩; (try first | exact ⟨rfl, _, World.drewN_drewN _ _ _⟩ | exact ⟨rfl, _, Eq.trans (World.drewN_drewN _ _ _) (congrArg (World.drewN _) (Nat.add_assoc _ _ _))⟩))); try go_wp2_with (first | (go_at_call 32; refine calls_of_args (args' := #[.int .u64 a0, .slice A45 ((l1.take ((ji8) : Int).toNat).drop ((ji24) : Int).toNat).length (c1 - (ji24).toNat), .slice A46 ((l2.take ((ji8) : Int).toNat).drop ((ji24) : Int).toNat).length (c2 - (ji24).toNat)]) (by first | (rw [show ((l1.take ((ji8) : Int).toNat).drop ((ji24) : Int).toNat).length = ((l1.take ((ji8) : Int).toNat).length - (ji24).toNat) from LNHR515.out, show ((l2.take ((ji8) : Int).toNat).drop ((ji24) : Int).toNat).length = ((l2.take ((ji8) : Int).toNat).length - (ji24).toNat) from LNHR516.out] <;> rfl) | (rw [show ((l1.take ((ji8) : Int).toNat).drop ((ji24) : Int).toNat).length = ((l1.take ((ji8) : Int).toNat).length - (ji24).toNat) from LNHR515.out] <;> rfl) | (rw [show ((l2.take ((ji8) : Int).toNat).drop ((ji24) : Int).toNat).length = ((l2.take ((ji8) : Int).toNat).length - (ji24).toNat) from LNHR516.out] <;> rfl) | rfl | (simp only [List.length_drop, List.length_take]; done) | rfl) ?_; (with_reducible refine (field_Dot.calls kj12 a0 _ _ ((l1.take ((ji8) : Int).toNat).drop ((ji24) : Int).toNat) _ _ ((l2.take ((ji8) : Int).toNat).drop ((ji24) : Int).toNat) t517 t518 _ ?side1 ?side2 ?side3 ?side4 A34.out).mono ?_); (case side1 => repeat (first | exact (Kd.C_below HR515.out (by repeat (first | (with_reducible first | exact HB.out | apply below_alloc | apply pw_below_drewN | apply below_drew1) | exact HB.out))) | (with_reducible refine Kd.C_alloc ?_ _) | (with_reducible refine Kd.C_drewN ?_ _) | (with_reducible refine Kd.C_drew ?_))); (case side2 => exact HC515.out); (case side3 => repeat (first | exact (Kd.C_below HR516.out (by repeat (first | (with_reducible first | exact HB.out | apply below_alloc | apply pw_below_drewN | apply below_drew1) | exact HB.out))) | (with_reducible refine Kd.C_alloc ?_ _) | (with_reducible refine Kd.C_drewN ?_ _) | (with_reducible refine Kd.C_drew ?_))); (case side4 => exact HC516.out); rintro e w' ⟨rfl, ⟨nd, rfl⟩⟩; (try first | exact ⟨rfl, _, World.drewN_drewN _ _ _⟩ | exact ⟨rfl, _, Eq.trans (World.drewN_drewN _ _ _) (congrArg (World.drewN _) (Nat.add_assoc _ _ _))⟩)) | (go_at_call 33; (with_reducible refine (field_Add.calls kj12 a0 t513 t517 t519 t520 _ A35.out).mono ?_); rintro e w47 ⟨rfl, hb⟩; have n0_ := Aside0.mk (below_step (by repeat (first | (with_reducible first | exact HB.out | apply below_alloc | apply pw_below_drewN | apply below_drew1) | exact HB.out)) hb); clear HB; have HB := n0_; clear n0_; (try clear hb); (try clear hb2); (try clear hk); (try clear hi)) | ((with_reducible refine gate_dst (N := 98) rfl ?_); refine Kd.R_make (Kd.int .u64) _ 22 rfl (N := 98) rfl 23 _ _ rfl ji8 rfl rfl Try.underlying23 (.int .u64 0) 8 info22 rfl (by decide) (by omega) 0 (ok := fun _ => True) (okp := fun _ => True) rfl (fun _ hk => hk) trivial (of_decide_eq_true (by first | (with_reducible assumption) | assumption)) (Nat.le_trans (Nat.mul_le_mul_right _ (of_decide_eq_true (by first | (with_reducible assumption) | assumption) : ji8.toNat ≤ 35184372088832)) (by omega)) (Below.refl _ _) (Nat.le_refl _) ?_; intro v522 w48 ho49 hb hg_ hnew_; clear hg_ hnew_; (first | rw [← Ny521.out] at ho49 | (simp only [Int.reduceToNat] at ho49; rw [← Ny521.out] at ho49)); have n0_ := Aside0.mk (Kd.R_lower ho49 (below_size (by repeat (first | (with_reducible first | exact HB.out | apply below_alloc | apply pw_below_drewN | apply below_drew1) | exact HB.out)))); have n1_ := Aside0.mk (below_step (by repeat (first | (with_reducible first | exact HB.out | apply below_alloc | apply pw_below_drewN | apply below_drew1) | exact HB.out)) hb); clear HB; have HO523 := n0_; have HB := n1_; clear n0_ n1_; clear hb ho49; obtain ⟨Ao50, co50, eo50⟩ := Kd.R_slice HO523.out; subst eo50) | (go_at_call 32; refine calls_of_args (args' := #[.int .u64 a0, .slice A1 (l1.take ((ji8) : Int).toNat).length c1, .slice Ao50 y521.length co50]) (by first | (rw [show (l1.take ((ji8) : Int).toNat).length = (ji8).toNat from LNHR503.out] <;> rfl) | rfl | (simp only [List.length_drop, List.length_take]; done) | rfl) ?_; (with_reducible refine (field_Dot.calls kj12 a0 _ _ (l1.take ((ji8) : Int).toNat) _ _ y521 t524 t525 _ ?side1 ?side2 ?side3 ?side4 A38.out).mono ?_); (case side1 => repeat (first | exact (Kd.C_below HR503.out HB.out) | (with_reducible refine Kd.C_alloc ?_ _) | (with_reducible refine Kd.C_drewN ?_ _) | (with_reducible refine Kd.C_drew ?_))); (case side2 => exact HC503.out); (case side3 => repeat (first | exact (Kd.R_reads' HO523.out).2.2 | (with_reducible refine Kd.C_alloc ?_ _) | (with_reducible refine Kd.C_drewN ?_ _) | (with_reducible refine Kd.C_drew ?_))); (case side4 => exact (Kd.R_reads' HO523.out).2.1); rintro e w' ⟨rfl, ⟨nd, rfl⟩⟩; (try first | exact ⟨rfl, _, World.drewN_drewN _ _ _⟩ | exact ⟨rfl, _, Eq.trans (World.drewN_drewN _ _ _) (congrArg (World.drewN _) (Nat.add_assoc _ _ _))⟩))))
                                    go_ret
                                    exact ⟨by first | rfl | (simp [errW_none, errW_some] <;> rfl) | (simp only [← hji7, ← hji8, ← hji24]; first | rfl | (simp [errW_none, errW_some] <;> rfl)) | (simp [*, errW_none, errW_some] <;> rfl), by repeat (first | (with_reducible first | exact HB.out | apply below_alloc | apply pw_below_drewN | apply below_drew1) | exact HB.out)⟩
                                  · rw [if_neg c42] at H
                                    have c42b0 : (t507 == t519) = false := beq_eq_false_iff_ne.mpr c42
                                    have c42b1 : (t507 != t519) = true := bne_iff_ne.mpr c42
                                    exact absurd ((Option.some.inj H).trans HT.out) (by decide)
                                · rw [if_neg c41] at H
                                  have c41b0 : (t507 == t509) = false := beq_eq_false_iff_ne.mpr c41
                                  have c41b1 : (t507 != t509) = true := bne_iff_ne.mpr c41
                                  exact absurd ((Option.some.inj H).trans HT.out) (by decide)
                              · rw [if_neg c40] at H
                                have c40b0 : (t510 == 0) = false := beq_eq_false_iff_ne.mpr c40
                                have c40b1 : (t510 != 0) = true := bne_iff_ne.mpr c40
                                exact absurd ((Option.some.inj H).trans HT.out) (by decide)
                            · rw [if_neg c39] at H
                              have c39b0 : (t508 == 0) = false := beq_eq_false_iff_ne.mpr c39
                              have c39b1 : (t508 != 0) = true := bne_iff_ne.mpr c39
                              exact absurd ((Option.some.inj H).trans HT.out) (by decide)
                          · rw [if_neg c37] at H
                            exact absurd H (by simp)
                        · rw [if_neg c36] at H
                          exact absurd H (by simp)
                      · rw [if_neg c28] at H
                        exact absurd H (by simp)
                    · rw [if_neg c26] at H
                      exact absurd H (by simp)
                  · rw [if_neg c25] at H
                    exact absurd H (by simp)
        · rw [if_neg c12] at H
          exact absurd H (by simp)
      · rw [if_neg c10] at H
        exact absurd H (by simp)
    · rw [if_neg c9] at H
      exact absurd H (by simp)
  · replace c6 := Bool.eq_false_iff.mpr c6
    subst c6
    have H1 : (some false) = some r := by rw [if_neg (show ¬ (false = true) by decide)] at H; exact H
    clear H
    have H := H1
    clear H1
    exact absurd ((Option.some.inj H).trans HT.out) (by decide)

/-- THE ONE PURE STATEMENT of affidavitlaw01_FieldDots. -/
def affidavitlaw01_FieldDots.Pure : Prop := ∀ (a0 : Int) (l1 : List Int) (l2 : List Int) (a3 : Int), (Lit.int .u64 a0).wf = true → (l1.length ≤ maxLen ∧ ∀ a_ ∈ l1, (Lit.int .u64 a_).wf = true) → (l2.length ≤ maxLen ∧ ∀ a_ ∈ l2, (Lit.int .u64 a_).wf = true) → (Lit.int .u8 a3).wf = true → ∃ k, affidavitlaw01_FieldDots.f k a0 l1 l2 a3 = some true
theorem affidavitlaw01_FieldDots.walkx (P : affidavitlaw01_FieldDots.Pure) (a0 : Int) (A1 : Option Addr) (c1 : Nat) (l1 : List Int) (A2 : Option Addr) (c2 : Nat) (l2 : List Int) (a3 : Int) (w : World) (hr1 : Kd.C (Kd.int .u64) w A1 l1.length l1) (hc1 : l1.length ≤ c1) (hr2 : Kd.C (Kd.int .u64) w A2 l2.length l2) (hc2 : l2.length ≤ c2) (hg0 : (Lit.int .u64 a0).wf = true) (hg1 : (l1.length ≤ maxLen ∧ ∀ a_ ∈ l1, (Lit.int .u64 a_).wf = true)) (hg2 : (l2.length ≤ maxLen ∧ ∀ a_ ∈ l2, (Lit.int .u64 a_).wf = true)) (hg3 : (Lit.int .u8 a3).wf = true) :
    Calls Try.prog 8 #[.int .u64 a0, .slice A1 l1.length c1, .slice A2 l2.length c2, .int .u8 a3] w fun e w' => e = .returned (.bool true) ∧ Below w.heap.size w w' := by
  obtain ⟨k, h⟩ := P a0 l1 l2 a3 hg0 hg1 hg2 hg3
  refine (affidavitlaw01_FieldDots.calls k a0 A1 c1 l1 A2 c2 l2 a3 true w hr1 hc1 hr2 hc2 h rfl).mono ?_
  rintro e w' ⟨rfl, hd⟩
  exact ⟨rfl, hd⟩

end Go.Proofs.Ytdfhkdddlfmceaa.X
