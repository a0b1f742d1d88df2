/- Walks of functions that the given law reaches: each comes to what its plain twin says. Written by xprint.py, a program of this claim's session; Lean checks it. -/
import Derived.Test.YtdfhkdddlfmceaaX0
import Derived.Test.YtdfhkdddlfmceaaX1
import Derived.Test.YtdfhkdddlfmceaaX2
import Derived.Test.YtdfhkdddlfmceaaX3
import Derived.Test.YtdfhkdddlfmceaaX4
namespace Go.Proofs.Ytdfhkdddlfmceaa.X
open Go.RowKit Go.Proofs.YtdfhkdddlfmceaaW.PrintWords Go.Proofs.YtdfhkdddlfmceaaW.PrintLast Go.Proofs.YtdfhkdddlfmceaaW.PrintMore
attribute [local go_sem] max2_int min2_int max_two min_two max_three min_three max_four min_four   -- for this text's walks alone
set_option linter.unusedVariables false
set_option linter.unusedSimpArgs false

/-! ### affidavitlaw10_TapeSame: function 5 -/
mutual
def affidavitlaw10_TapeSame.j0 : Nat → Int → List Int → List Int → Int → Bool → List Int → Int → Option (Bool)
  | 0, _, _, _, _, _, _, _ => none
  | k + 1, x0, x2, x3, x4, x49, x289000, x289001 => if x49 = true then (some true) else ((tape_Left.f k x0 x289000 x289001).bind fun t292 => (if (wrap64 (t292 + 1)) = 0 then (none) else ((tape_Many.f k x0 x289000 x289001 (Int.tmod (wrap64 (x4)) (wrap64 (t292 + 1)))).bind fun bt293 => ((some (([] : List Int) : List Int)).bind fun y302 => (if y302.length + x2.length < 17592186044416 then ((some (y302 ++ x2 : List Int)).bind fun y305 => (if 0 ≤ x289001 then (if x289001 ≤ (x289000.length : Int) then (if y305.length + (x289000.drop (x289001 : Int).toNat).length < 17592186044416 then ((some (y305 ++ (x289000.drop (x289001 : Int).toNat) : List Int)).bind fun y309 => (if y309.length + x3.length < 17592186044416 then ((tape_Many.f k x0 (y309 ++ x3) (x2.length : Int) (Int.tmod (wrap64 (x4)) (wrap64 (t292 + 1)))).bind fun bt315 => (if bt293.2.2.2 = 0 then (if bt315.2.2.2 = 0 then ((affidavitref01_Same.f k bt293.1 bt315.1).bind fun t324 => (if t324 = true then (affidavitlaw10_TapeSame.j1 k x0 (Int.tmod (wrap64 (x4)) (wrap64 (t292 + 1))) bt293.1 ((wrap64 (bt315.2.2.1 - (x2.length : Int))) != (wrap64 (bt293.2.2.1 - x289001))) x289000 x289001) else (affidavitlaw10_TapeSame.j1 k x0 (Int.tmod (wrap64 (x4)) (wrap64 (t292 + 1))) bt293.1 true x289000 x289001))) else (affidavitlaw10_TapeSame.j1 k x0 (Int.tmod (wrap64 (x4)) (wrap64 (t292 + 1))) bt293.1 true x289000 x289001)) else (affidavitlaw10_TapeSame.j1 k x0 (Int.tmod (wrap64 (x4)) (wrap64 (t292 + 1))) bt293.1 true x289000 x289001))) else (none))) else (none)) else (none)) else (none))) else (none))))))
def affidavitlaw10_TapeSame.j1 : Nat → Int → Int → List Int → Bool → List Int → Int → Option (Bool)
  | 0, _, _, _, _, _, _ => none
  | k + 1, x0, x11, x12, x111, x289000, x289001 => if x111 = true then (some false) else ((tape_Counts.f x0 18446744073709551615).bind fun t325 => (if t325 = true then (some true) else (affidavitlaw10_TapeSame.l0 k x0 x11 x12 ([] : List Int) x289001 x289000 x289001)))
def affidavitlaw10_TapeSame.l0 : Nat → Int → Int → List Int → List Int → Int → List Int → Int → Option (Bool)
  | 0, _, _, _, _, _, _, _ => none
  | k + 1, x0, x11, x12, x19, x20, x289000, x289001 => if x20 < (x289000.length : Int) then (if 0 ≤ x20 then ((some (([18446744073709551615, rd x289000 x20] : List Int) : List Int)).bind fun y327 => (if x19.length + y327.length < 17592186044416 then (affidavitlaw10_TapeSame.l0 k x0 x11 x12 (x19 ++ y327) (wrap64 (x20 + 1)) x289000 x289001) else (none))) else (none)) else ((tape_Many.f k x0 x19 0 x11).bind fun bt333 => (if bt333.2.2.2 = 0 then ((affidavitref01_Same.f k bt333.1 x12).bind fun t342 => (some t342)) else (some false)))
end
def affidavitlaw10_TapeSame.f (k : Nat) (a0 : Int) (l1_0 : List Int) (a1_1 : Int) (l2 : List Int) (l3 : List Int) (a4 : Int) : Option (Bool) := (affidavitlaw10_awake.f k).bind fun t289 => (if t289 = true then (if (l1_0.length : Int) > 60 then (affidavitlaw10_TapeSame.j0 k a0 l2 l3 a4 true l1_0 a1_1) else (if (l2.length : Int) > 60 then (affidavitlaw10_TapeSame.j0 k a0 l2 l3 a4 true l1_0 a1_1) else (if (l3.length : Int) > 60 then (affidavitlaw10_TapeSame.j0 k a0 l2 l3 a4 true l1_0 a1_1) else ((tape_Right.f l1_0 a1_1).bind fun t290 => (if t290 = true then ((field_Right.f a0).bind fun t291 => (affidavitlaw10_TapeSame.j0 k a0 l2 l3 a4 (!t291) l1_0 a1_1)) else (affidavitlaw10_TapeSame.j0 k a0 l2 l3 a4 true l1_0 a1_1)))))) else (some false))
theorem affidavitlaw10_TapeSame.mono_l : ∀ k, (∀ y0 y1 y2 y3 y4 y5 y6, LeO (affidavitlaw10_TapeSame.j0 k y0 y1 y2 y3 y4 y5 y6) (affidavitlaw10_TapeSame.j0 (k + 1) y0 y1 y2 y3 y4 y5 y6)) ∧ (∀ y0 y1 y2 y3 y4 y5, LeO (affidavitlaw10_TapeSame.j1 k y0 y1 y2 y3 y4 y5) (affidavitlaw10_TapeSame.j1 (k + 1) y0 y1 y2 y3 y4 y5)) ∧ (∀ y0 y1 y2 y3 y4 y5 y6, LeO (affidavitlaw10_TapeSame.l0 k y0 y1 y2 y3 y4 y5 y6) (affidavitlaw10_TapeSame.l0 (k + 1) y0 y1 y2 y3 y4 y5 y6))
  | 0 => ⟨fun _ _ _ _ _ _ _ r h => by simp [affidavitlaw10_TapeSame.j0] at h, fun _ _ _ _ _ _ r h => by simp [affidavitlaw10_TapeSame.j1] at h, fun _ _ _ _ _ _ _ r h => by simp [affidavitlaw10_TapeSame.l0] at h⟩
  | k + 1 => by
    obtain ⟨ih0, ih1, ih2⟩ := affidavitlaw10_TapeSame.mono_l k
    refine ⟨?_, ?_, ?_⟩
    · intro y0 y1 y2 y3 y4 y5 y6
      unfold affidavitlaw10_TapeSame.j0
      repeat' first
      | (with_reducible exact ih0 _ _ _ _ _ _ _)
      | (with_reducible exact ih1 _ _ _ _ _ _)
      | (with_reducible exact ih2 _ _ _ _ _ _ _)
      | (with_reducible exact affidavitlaw10_awake.mono _)
      | (with_reducible exact affidavitref01_Same.mono _ _ _)
      | (with_reducible exact tape_Left.mono _ _ _ _)
      | (with_reducible exact tape_Many.mono _ _ _ _ _)
      | (with_reducible exact LeO.refl _)
      | (with_reducible exact LeO.none _)
      | (with_reducible refine LeO.ite ?_ ?_)
      | (with_reducible refine LeO.bind ?_ (fun _ => ?_))
      | exact ih0 _ _ _ _ _ _ _
      | exact ih1 _ _ _ _ _ _
      | exact ih2 _ _ _ _ _ _ _
      | exact affidavitlaw10_awake.mono _
      | exact affidavitref01_Same.mono _ _ _
      | exact tape_Left.mono _ _ _ _
      | exact tape_Many.mono _ _ _ _ _
      | exact LeO.none _
      | refine LeO.ite ?_ ?_
      | refine LeO.bind ?_ (fun _ => ?_)
    · intro y0 y1 y2 y3 y4 y5
      unfold affidavitlaw10_TapeSame.j1
      repeat' first
      | (with_reducible exact ih0 _ _ _ _ _ _ _)
      | (with_reducible exact ih1 _ _ _ _ _ _)
      | (with_reducible exact ih2 _ _ _ _ _ _ _)
      | (with_reducible exact affidavitlaw10_awake.mono _)
      | (with_reducible exact affidavitref01_Same.mono _ _ _)
      | (with_reducible exact tape_Left.mono _ _ _ _)
      | (with_reducible exact tape_Many.mono _ _ _ _ _)
      | (with_reducible exact LeO.refl _)
      | (with_reducible exact LeO.none _)
      | (with_reducible refine LeO.ite ?_ ?_)
      | (with_reducible refine LeO.bind ?_ (fun _ => ?_))
      | exact ih0 _ _ _ _ _ _ _
      | exact ih1 _ _ _ _ _ _
      | exact ih2 _ _ _ _ _ _ _
      | exact affidavitlaw10_awake.mono _
      | exact affidavitref01_Same.mono _ _ _
      | exact tape_Left.mono _ _ _ _
      | exact tape_Many.mono _ _ _ _ _
      | exact LeO.none _
      | refine LeO.ite ?_ ?_
      | refine LeO.bind ?_ (fun _ => ?_)
    · intro y0 y1 y2 y3 y4 y5 y6
      unfold affidavitlaw10_TapeSame.l0
      repeat' first
      | (with_reducible exact ih0 _ _ _ _ _ _ _)
      | (with_reducible exact ih1 _ _ _ _ _ _)
      | (with_reducible exact ih2 _ _ _ _ _ _ _)
      | (with_reducible exact affidavitlaw10_awake.mono _)
      | (with_reducible exact affidavitref01_Same.mono _ _ _)
      | (with_reducible exact tape_Left.mono _ _ _ _)
      | (with_reducible exact tape_Many.mono _ _ _ _ _)
      | (with_reducible exact LeO.refl _)
      | (with_reducible exact LeO.none _)
      | (with_reducible refine LeO.ite ?_ ?_)
      | (with_reducible refine LeO.bind ?_ (fun _ => ?_))
      | exact ih0 _ _ _ _ _ _ _
      | exact ih1 _ _ _ _ _ _
      | exact ih2 _ _ _ _ _ _ _
      | exact affidavitlaw10_awake.mono _
      | exact affidavitref01_Same.mono _ _ _
      | exact tape_Left.mono _ _ _ _
      | exact tape_Many.mono _ _ _ _ _
      | exact LeO.none _
      | refine LeO.ite ?_ ?_
      | refine LeO.bind ?_ (fun _ => ?_)
theorem affidavitlaw10_TapeSame.mono : ∀ a0 a1 a2 a3 a4 a5 k, LeO (affidavitlaw10_TapeSame.f k a0 a1 a2 a3 a4 a5) (affidavitlaw10_TapeSame.f (k + 1) a0 a1 a2 a3 a4 a5) := by
  intro a0 a1 a2 a3 a4 a5 k
  obtain ⟨ih0, ih1, ih2⟩ := affidavitlaw10_TapeSame.mono_l k
  unfold affidavitlaw10_TapeSame.f
  repeat' first
      | (with_reducible exact ih0 _ _ _ _ _ _ _)
      | (with_reducible exact ih1 _ _ _ _ _ _)
      | (with_reducible exact ih2 _ _ _ _ _ _ _)
      | (with_reducible exact affidavitlaw10_awake.mono _)
      | (with_reducible exact affidavitref01_Same.mono _ _ _)
      | (with_reducible exact tape_Left.mono _ _ _ _)
      | (with_reducible exact tape_Many.mono _ _ _ _ _)
      | (with_reducible exact LeO.refl _)
      | (with_reducible exact LeO.none _)
      | (with_reducible refine LeO.ite ?_ ?_)
      | (with_reducible refine LeO.bind ?_ (fun _ => ?_))
      | exact ih0 _ _ _ _ _ _ _
      | exact ih1 _ _ _ _ _ _
      | exact ih2 _ _ _ _ _ _ _
      | exact affidavitlaw10_awake.mono _
      | exact affidavitref01_Same.mono _ _ _
      | exact tape_Left.mono _ _ _ _
      | exact tape_Many.mono _ _ _ _ _
      | exact LeO.none _
      | refine LeO.ite ?_ ?_
      | refine LeO.bind ?_ (fun _ => ?_)
def affidavitlaw10_TapeSame.T7 : Bool × List (List Nat × List Nat) := (true, [([], []), ([], []), ([0, 1], [0, 1]), ([], []), ([3], [3]), ([], []), ([5], [5]), ([4, 6], [4, 6]), ([2, 7, 2], [2, 7]), ([8, 8, 0, 1, 2, 3, 4, 5, 6, 7, 8], [8])])
def affidavitlaw10_TapeSame.B7 : List Nat := [0, 0, 3, 0, 8, 0, 32, 120, 255, 511]
theorem affidavitlaw10_TapeSame.tab7 : rtab .any (opsOf Try.f5 7) = affidavitlaw10_TapeSame.T7 := by kernel_rfl
theorem affidavitlaw10_TapeSame.bits7 : waitsOk affidavitlaw10_TapeSame.T7.2 affidavitlaw10_TapeSame.B7 = true := by kernel_rfl
set_option maxHeartbeats 8000000 in
set_option maxRecDepth 100000 in
theorem affidavitlaw10_TapeSame.calls (k : Nat) (a0 : Int) (A1_0 : Option Addr) (c1_0 : Nat) (l1_0 : List Int) (a1_1 : Int) (A2 : Option Addr) (c2 : Nat) (l2 : List Int) (A3 : Option Addr) (c3 : Nat) (l3 : List Int) (a4 : Int) (r : Bool) (w : World) (hr1_0 : Kd.C (Kd.int .u64) w A1_0 l1_0.length l1_0) (hc1_0 : l1_0.length ≤ c1_0) (hr2 : Kd.C (Kd.int .u64) w A2 l2.length l2) (hc2 : l2.length ≤ c2) (hr3 : Kd.C (Kd.int .u64) w A3 l3.length l3) (hc3 : l3.length ≤ c3) (h : affidavitlaw10_TapeSame.f k a0 l1_0 a1_1 l2 l3 a4 = some r) (ht : r = true) :
    Calls Try.prog 5 #[.int .u64 a0, .agg #[.slice A1_0 l1_0.length c1_0, .int .i64 a1_1], .slice A2 l2.length c2, .slice A3 l3.length c3, .int .u8 a4] w fun e w' => e = .returned (.bool r) ∧ Below w.heap.size w w' := by
  have hu25 := Try.underlying25
  have HR1_0 := Aside0.mk hr1_0
  have HC1_0 := Aside0.mk hc1_0
  clear hr1_0 hc1_0
  have HR2 := Aside0.mk hr2
  have HC2 := Aside0.mk hc2
  clear hr2 hc2
  have HR3 := Aside0.mk hr3
  have HC3 := Aside0.mk hc3
  clear hr3 hc3
  have HB := Aside0.mk (Below.refl w.heap.size w)
  have H : ((affidavitlaw10_awake.f k).bind fun t289 => (if t289 = true then (if (l1_0.length : Int) > 60 then (affidavitlaw10_TapeSame.j0 k a0 l2 l3 a4 true l1_0 a1_1) else (if (l2.length : Int) > 60 then (affidavitlaw10_TapeSame.j0 k a0 l2 l3 a4 true l1_0 a1_1) else (if (l3.length : Int) > 60 then (affidavitlaw10_TapeSame.j0 k a0 l2 l3 a4 true l1_0 a1_1) else ((tape_Right.f l1_0 a1_1).bind fun t290 => (if t290 = true then ((field_Right.f a0).bind fun t291 => (affidavitlaw10_TapeSame.j0 k a0 l2 l3 a4 (!t291) l1_0 a1_1)) else (affidavitlaw10_TapeSame.j0 k a0 l2 l3 a4 true l1_0 a1_1)))))) else (some false))) = some r := h
  clear h
  have HT := Aside0.mk ht
  clear ht
  replace H := Option.bind_eq_some_iff.mp H
  obtain ⟨t289, A60, H⟩ := H
  replace H : (if t289 = true then (if (l1_0.length : Int) > 60 then (affidavitlaw10_TapeSame.j0 k a0 l2 l3 a4 true l1_0 a1_1) else (if (l2.length : Int) > 60 then (affidavitlaw10_TapeSame.j0 k a0 l2 l3 a4 true l1_0 a1_1) else (if (l3.length : Int) > 60 then (affidavitlaw10_TapeSame.j0 k a0 l2 l3 a4 true l1_0 a1_1) else ((tape_Right.f l1_0 a1_1).bind fun t290 => (if t290 = true then ((field_Right.f a0).bind fun t291 => (affidavitlaw10_TapeSame.j0 k a0 l2 l3 a4 (!t291) l1_0 a1_1)) else (affidavitlaw10_TapeSame.j0 k a0 l2 l3 a4 true l1_0 a1_1)))))) else (some false)) = some r := H
  have A6 := Aside0.mk A60
  clear A60
  by_cases c7 : t289 = true
  · subst c7
    have H1 : (if (l1_0.length : Int) > 60 then (affidavitlaw10_TapeSame.j0 k a0 l2 l3 a4 true l1_0 a1_1) else (if (l2.length : Int) > 60 then (affidavitlaw10_TapeSame.j0 k a0 l2 l3 a4 true l1_0 a1_1) else (if (l3.length : Int) > 60 then (affidavitlaw10_TapeSame.j0 k a0 l2 l3 a4 true l1_0 a1_1) else ((tape_Right.f l1_0 a1_1).bind fun t290 => (if t290 = true then ((field_Right.f a0).bind fun t291 => (affidavitlaw10_TapeSame.j0 k a0 l2 l3 a4 (!t291) l1_0 a1_1)) else (affidavitlaw10_TapeSame.j0 k a0 l2 l3 a4 true l1_0 a1_1)))))) = some r := by rw [if_pos rfl] at H; exact H
    clear H
    have H := H1
    clear H1
    have HC8 := Aside0.mk H
    clear H
    go_enter Try.func5, Try.ntmps5
    go_upto_region 3 with (first | ((with_reducible refine gate_dst (N := 6) rfl ?_); (try (refine gate_guard (by rfl) ?_; dsimp only)); refine box_event ?hg (N := 6) ?hd (cs := #[.slice A1_0 l1_0.length c1_0, .int .i64 a1_1]) (t := 25) ?hr ?_; (case hd => rfl); (case hg => rfl); (case hr => first | (go_simp; done) | (go_simp; rfl)); intro gb288 hg w9 hbox hb; have n0_ := Aside0.mk (below_step (by repeat (first | (with_reducible first | exact HB.out | apply below_alloc | apply pw_below_drewN | apply below_drew1) | exact HB.out)) hb); have n1_ := Aside0.mk (hbox); have n2_ := Aside0.mk ((by rw [hg]; exact (below_size (by repeat (first | (with_reducible first | exact HB.out | apply below_alloc | apply pw_below_drewN | apply below_drew1) | exact HB.out))) : w.heap.size ≤ gb288)); have n3_ := Aside0.mk ((by rw [hg]; exact (below_size (by repeat (first | (with_reducible first | exact HB.out | apply below_alloc | apply pw_below_drewN | apply below_drew1) | exact HB.out))) : w.heap.size ≤ gb288)); clear HB; have HB := n0_; have BK288 := n1_; have GW288 := n2_; have GE288 := n3_; clear n0_ n1_ n2_ n3_; clear hb hbox hg) | ((with_reducible refine gate_callee (f := 13) rfl ?_); refine goesL_ (some 24) rfl rfl Try.func13 (by kernel_rfl) rfl #[] rfl (by (try simp only [List.map_toArray, List.map_cons, List.map_nil]); first | done | rfl | (simp only [List.length_drop, List.length_take]; rfl)) ?_; (with_reducible refine (affidavitlaw10_awake.calls k  true _ A6.out rfl).mono ?_); rintro e w10 ⟨rfl, hb⟩; refine ⟨_, rfl, ?_⟩; have n0_ := Aside0.mk (blk_below (g := gb288) (o := .cells #[.slice A1_0 l1_0.length c1_0, .int .i64 a1_1] 25 (0, 0)) (by (with_reducible repeat (first | refine blk_drewN ?_ _ | refine blk_drew ?_ | refine blk_alloc ?_ _)); exact BK288.out) hb); have n1_ := Aside0.mk (below_step (by repeat (first | (with_reducible first | exact HB.out | apply below_alloc | apply pw_below_drewN | apply below_drew1 | refine below_set ?_ GE288.out) | exact HB.out)) hb); clear BK288; clear HB; have BK288 := n0_; have HB := n1_; clear n0_ n1_; (try clear hb); (try clear hb2); (try clear hk); (try clear hi)))
    (try simp only [Act.put, List.setIfInBounds_toArray, List.set_cons_zero, List.set_cons_succ])
    go_cut [49] (fun v49 wc => ∃ (kq : Nat) (x49_7 : Bool), v49 = .bool x49_7 ∧ Aside0 (affidavitlaw10_TapeSame.j0 kq a0 l2 l3 a4 x49_7 l1_0 a1_1 = some r) ∧ Aside0 (kq ≤ k) ∧ Aside0 (wc.heap[gb288]? = some (.cells #[(.slice A1_0 l1_0.length c1_0), .int .i64 a1_1] 25 (0, 0))) ∧ Aside0 (Below w.heap.size w wc))
    case first =>
      have H := HC8.out
      clear HC8
      by_cases c11 : (l1_0.length : Int) > 60
      · rw [if_pos c11] at H
        have c11b0 : decide (60 < (l1_0.length : Int)) = true := decide_eq_true c11
        have c11b1 : decide (60 < l1_0.length) = true := decide_eq_true (by omega)
        clear c11
        (first | rw [c11b0] | (simp only [i64_w, i32_w]; rw [c11b0]) | skip)
        have H' := Aside0.mk H
        clear H
        have hcz12_0 : w10.cell? ⟨gb288, 0, none⟩ = some (.slice A1_0 l1_0.length c1_0) := (blk_cell BK288.out 0).trans rfl
        have hcz12_1 : w10.cell? ⟨gb288, 1, none⟩ = some (.int .i64 a1_1) := (blk_cell BK288.out 1).trans rfl
        have hfz12_0 := blk_frozen BK288.out 0
        have hfz12_1 := blk_frozen BK288.out 1
        go_wp2
        go_meet
        case rel => exact ⟨_, (true), (by first | rfl | (simp; done) | (simp [*]; done)), H', ⟨by first | omega | exact Nat.le_refl _⟩, ⟨by (with_reducible repeat (first | refine blk_drewN ?_ _ | refine blk_drew ?_ | refine blk_alloc ?_ _)); exact BK288.out⟩, ⟨by repeat (first | (with_reducible first | exact HB.out | apply below_alloc | apply pw_below_drewN | apply below_drew1 | refine below_set ?_ GE288.out) | exact HB.out)⟩⟩
      · rw [if_neg c11] at H
        have c11b0 : decide (60 < (l1_0.length : Int)) = false := decide_eq_false c11
        have c11b1 : decide (60 < l1_0.length) = false := decide_eq_false (by omega)
        clear c11
        (first | rw [c11b0] | (simp only [i64_w, i32_w]; rw [c11b0]) | skip)
        by_cases c13 : (l2.length : Int) > 60
        · rw [if_pos c13] at H
          have c13b0 : decide (60 < (l2.length : Int)) = true := decide_eq_true c13
          have c13b1 : decide (60 < l2.length) = true := decide_eq_true (by omega)
          clear c13
          have H' := Aside0.mk H
          clear H
          have hcz14_0 : w10.cell? ⟨gb288, 0, none⟩ = some (.slice A1_0 l1_0.length c1_0) := (blk_cell BK288.out 0).trans rfl
          have hcz14_1 : w10.cell? ⟨gb288, 1, none⟩ = some (.int .i64 a1_1) := (blk_cell BK288.out 1).trans rfl
          have hfz14_0 := blk_frozen BK288.out 0
          have hfz14_1 := blk_frozen BK288.out 1
          go_wp2
          go_meet
          case rel => exact ⟨_, (true), (by first | rfl | (simp; done) | (simp [*]; done)), H', ⟨by first | omega | exact Nat.le_refl _⟩, ⟨by (with_reducible repeat (first | refine blk_drewN ?_ _ | refine blk_drew ?_ | refine blk_alloc ?_ _)); exact BK288.out⟩, ⟨by repeat (first | (with_reducible first | exact HB.out | apply below_alloc | apply pw_below_drewN | apply below_drew1 | refine below_set ?_ GE288.out) | exact HB.out)⟩⟩
        · rw [if_neg c13] at H
          have c13b0 : decide (60 < (l2.length : Int)) = false := decide_eq_false c13
          have c13b1 : decide (60 < l2.length) = false := decide_eq_false (by omega)
          clear c13
          by_cases c15 : (l3.length : Int) > 60
          · rw [if_pos c15] at H
            have c15b0 : decide (60 < (l3.length : Int)) = true := decide_eq_true c15
            have c15b1 : decide (60 < l3.length) = true := decide_eq_true (by omega)
            clear c15
            have H' := Aside0.mk H
            clear H
            have hcz16_0 : w10.cell? ⟨gb288, 0, none⟩ = some (.slice A1_0 l1_0.length c1_0) := (blk_cell BK288.out 0).trans rfl
            have hcz16_1 : w10.cell? ⟨gb288, 1, none⟩ = some (.int .i64 a1_1) := (blk_cell BK288.out 1).trans rfl
            have hfz16_0 := blk_frozen BK288.out 0
            have hfz16_1 := blk_frozen BK288.out 1
            go_wp2
            go_meet
            case rel => exact ⟨_, (true), (by first | rfl | (simp; done) | (simp [*]; done)), H', ⟨by first | omega | exact Nat.le_refl _⟩, ⟨by (with_reducible repeat (first | refine blk_drewN ?_ _ | refine blk_drew ?_ | refine blk_alloc ?_ _)); exact BK288.out⟩, ⟨by repeat (first | (with_reducible first | exact HB.out | apply below_alloc | apply pw_below_drewN | apply below_drew1 | refine below_set ?_ GE288.out) | exact HB.out)⟩⟩
          · rw [if_neg c15] at H
            have c15b0 : decide (60 < (l3.length : Int)) = false := decide_eq_false c15
            have c15b1 : decide (60 < l3.length) = false := decide_eq_false (by omega)
            clear c15
            replace H := Option.bind_eq_some_iff.mp H
            obtain ⟨t290, A170, H⟩ := H
            replace H : (if t290 = true then ((field_Right.f a0).bind fun t291 => (affidavitlaw10_TapeSame.j0 k a0 l2 l3 a4 (!t291) l1_0 a1_1)) else (affidavitlaw10_TapeSame.j0 k a0 l2 l3 a4 true l1_0 a1_1)) = some r := H
            have A17 := Aside0.mk A170
            clear A170
            by_cases c18 : t290 = true
            · subst c18
              have H1 : ((field_Right.f a0).bind fun t291 => (affidavitlaw10_TapeSame.j0 k a0 l2 l3 a4 (!t291) l1_0 a1_1)) = some r := by rw [if_pos rfl] at H; exact H
              clear H
              have H := H1
              clear H1
              replace H := Option.bind_eq_some_iff.mp H
              obtain ⟨t291, A190, H⟩ := H
              replace H : (affidavitlaw10_TapeSame.j0 k a0 l2 l3 a4 (!t291) l1_0 a1_1) = some r := H
              have A19 := Aside0.mk A190
              clear A190
              have H' := Aside0.mk H
              clear H
              have hcz20_0 : w10.cell? ⟨gb288, 0, none⟩ = some (.slice A1_0 l1_0.length c1_0) := (blk_cell BK288.out 0).trans rfl
              have hcz20_1 : w10.cell? ⟨gb288, 1, none⟩ = some (.int .i64 a1_1) := (blk_cell BK288.out 1).trans rfl
              have hfz20_0 := blk_frozen BK288.out 0
              have hfz20_1 := blk_frozen BK288.out 1
              go_wp2_with (first | (go_at_call 18; (with_reducible refine (tape_Right.calls _ _ l1_0 a1_1 true _ ?side1 ?side2 A17.out).mono ?_); (case side1 => repeat (first | exact (Kd.C_below HR1_0.out HB.out) | (with_reducible refine Kd.C_alloc ?_ _) | (with_reducible refine Kd.C_drewN ?_ _) | (with_reducible refine Kd.C_drew ?_))); (case side2 => exact HC1_0.out); rintro e w21 ⟨rfl, hb⟩; have n0_ := Aside0.mk (blk_below (g := gb288) (o := .cells #[.slice A1_0 l1_0.length c1_0, .int .i64 a1_1] 25 (0, 0)) (by (with_reducible repeat (first | refine blk_drewN ?_ _ | refine blk_drew ?_ | refine blk_alloc ?_ _)); exact BK288.out) hb); have n1_ := Aside0.mk (below_step (by repeat (first | (with_reducible first | exact HB.out | apply below_alloc | apply pw_below_drewN | apply below_drew1 | refine below_set ?_ GE288.out) | exact HB.out)) hb); clear BK288; clear HB; have BK288 := n0_; have HB := n1_; clear n0_ n1_; (try clear hb); (try clear hb2); (try clear hk); (try clear hi)) | (go_at_call 27; (with_reducible refine (field_Right.calls a0 t291 _ A19.out).mono ?_); rintro e w' ⟨rfl, ⟨nd, rfl⟩⟩))
              go_meet
              case rel => exact ⟨_, (!t291), (by first | rfl | (simp; done) | (simp [*]; done)), H', ⟨by first | omega | exact Nat.le_refl _⟩, ⟨by (with_reducible repeat (first | refine blk_drewN ?_ _ | refine blk_drew ?_ | refine blk_alloc ?_ _)); exact BK288.out⟩, ⟨by repeat (first | (with_reducible first | exact HB.out | apply below_alloc | apply pw_below_drewN | apply below_drew1 | refine below_set ?_ GE288.out) | exact HB.out)⟩⟩
            · replace c18 := Bool.eq_false_iff.mpr c18
              subst c18
              have H1 : (affidavitlaw10_TapeSame.j0 k a0 l2 l3 a4 true l1_0 a1_1) = some r := by rw [if_neg (show ¬ (false = true) by decide)] at H; exact H
              clear H
              have H := H1
              clear H1
              have H' := Aside0.mk H
              clear H
              have hcz22_0 : w10.cell? ⟨gb288, 0, none⟩ = some (.slice A1_0 l1_0.length c1_0) := (blk_cell BK288.out 0).trans rfl
              have hcz22_1 : w10.cell? ⟨gb288, 1, none⟩ = some (.int .i64 a1_1) := (blk_cell BK288.out 1).trans rfl
              have hfz22_0 := blk_frozen BK288.out 0
              have hfz22_1 := blk_frozen BK288.out 1
              go_wp2_with (first | (go_at_call 18; (with_reducible refine (tape_Right.calls _ _ l1_0 a1_1 false _ ?side1 ?side2 A17.out).mono ?_); (case side1 => repeat (first | exact (Kd.C_below HR1_0.out HB.out) | (with_reducible refine Kd.C_alloc ?_ _) | (with_reducible refine Kd.C_drewN ?_ _) | (with_reducible refine Kd.C_drew ?_))); (case side2 => exact HC1_0.out); rintro e w23 ⟨rfl, hb⟩; have n0_ := Aside0.mk (blk_below (g := gb288) (o := .cells #[.slice A1_0 l1_0.length c1_0, .int .i64 a1_1] 25 (0, 0)) (by (with_reducible repeat (first | refine blk_drewN ?_ _ | refine blk_drew ?_ | refine blk_alloc ?_ _)); exact BK288.out) hb); have n1_ := Aside0.mk (below_step (by repeat (first | (with_reducible first | exact HB.out | apply below_alloc | apply pw_below_drewN | apply below_drew1 | refine below_set ?_ GE288.out) | exact HB.out)) hb); clear BK288; clear HB; have BK288 := n0_; have HB := n1_; clear n0_ n1_; (try clear hb); (try clear hb2); (try clear hk); (try clear hi)))
              go_meet
              case rel => exact ⟨_, (true), (by first | rfl | (simp; done) | (simp [*]; done)), H', ⟨by first | omega | exact Nat.le_refl _⟩, ⟨by (with_reducible repeat (first | refine blk_drewN ?_ _ | refine blk_drew ?_ | refine blk_alloc ?_ _)); exact BK288.out⟩, ⟨by repeat (first | (with_reducible first | exact HB.out | apply below_alloc | apply pw_below_drewN | apply below_drew1 | refine below_set ?_ GE288.out) | exact HB.out)⟩⟩
    case rest =>
      clear HC8
      try clear c1
      try clear c2
      try clear p2
      try clear c3
      try clear c5
      try clear c7
      try clear c11
      try clear c11b0
      try clear c11b1
      try clear c13
      try clear c13b0
      try clear c13b1
      try clear c15
      try clear c15b0
      try clear c15b1
      try clear c18
      try clear hcz12_0
      try clear hcz12_1
      try clear hcz14_0
      try clear hcz14_1
      try clear hcz16_0
      try clear hcz16_1
      try clear hcz20_0
      try clear hcz20_1
      try clear hcz22_0
      try clear hcz22_1
      try clear hfz12_0
      try clear hfz12_1
      try clear hfz14_0
      try clear hfz14_1
      try clear hfz16_0
      try clear hfz16_1
      try clear hfz20_0
      try clear hfz20_1
      try clear hfz22_0
      try clear hfz22_1
      obtain ⟨kq, x49_7, rfl, HA, HJ7, BK288, HB⟩ := hcut
      cases kq with
      | zero => exact absurd HA.out (by simp [affidavitlaw10_TapeSame.j0])
      | succ kj7 =>
        have H := HA.out
        clear HA
        simp only [affidavitlaw10_TapeSame.j0] at H
        by_cases c24 : x49_7 = true
        · subst c24
          have H1 : (some true) = some r := by rw [if_pos rfl] at H; exact H
          clear H
          have H := H1
          clear H1
          obtain rfl := Option.some.inj H
          go_wp2
          go_ret
          exact ⟨by first | rfl | (simp [errW_none, errW_some] <;> rfl) | (simp [*, errW_none, errW_some] <;> rfl), by repeat (first | (with_reducible first | exact HB.out | apply below_alloc | apply pw_below_drewN | apply below_drew1 | refine below_set ?_ GE288.out) | exact HB.out)⟩
        · replace c24 := Bool.eq_false_iff.mpr c24
          subst c24
          have H1 : ((tape_Left.f kj7 a0 l1_0 a1_1).bind fun t292 => (if (wrap64 (t292 + 1)) = 0 then (none) else ((tape_Many.f kj7 a0 l1_0 a1_1 (Int.tmod (wrap64 (a4)) (wrap64 (t292 + 1)))).bind fun bt293 => ((some (([] : List Int) : List Int)).bind fun y302 => (if y302.length + l2.length < 17592186044416 then ((some (y302 ++ l2 : List Int)).bind fun y305 => (if 0 ≤ a1_1 then (if a1_1 ≤ (l1_0.length : Int) then (if y305.length + (l1_0.drop (a1_1 : Int).toNat).length < 17592186044416 then ((some (y305 ++ (l1_0.drop (a1_1 : Int).toNat) : List Int)).bind fun y309 => (if y309.length + l3.length < 17592186044416 then ((tape_Many.f kj7 a0 (y309 ++ l3) (l2.length : Int) (Int.tmod (wrap64 (a4)) (wrap64 (t292 + 1)))).bind fun bt315 => (if bt293.2.2.2 = 0 then (if bt315.2.2.2 = 0 then ((affidavitref01_Same.f kj7 bt293.1 bt315.1).bind fun t324 => (if t324 = true then (affidavitlaw10_TapeSame.j1 kj7 a0 (Int.tmod (wrap64 (a4)) (wrap64 (t292 + 1))) bt293.1 ((wrap64 (bt315.2.2.1 - (l2.length : Int))) != (wrap64 (bt293.2.2.1 - a1_1))) l1_0 a1_1) else (affidavitlaw10_TapeSame.j1 kj7 a0 (Int.tmod (wrap64 (a4)) (wrap64 (t292 + 1))) bt293.1 true l1_0 a1_1))) else (affidavitlaw10_TapeSame.j1 kj7 a0 (Int.tmod (wrap64 (a4)) (wrap64 (t292 + 1))) bt293.1 true l1_0 a1_1)) else (affidavitlaw10_TapeSame.j1 kj7 a0 (Int.tmod (wrap64 (a4)) (wrap64 (t292 + 1))) bt293.1 true l1_0 a1_1))) else (none))) else (none)) else (none)) else (none))) else (none)))))) = some r := by rw [if_neg (show ¬ (false = true) by decide)] at H; exact H
          clear H
          have H := H1
          clear H1
          replace H := Option.bind_eq_some_iff.mp H
          obtain ⟨t292, A250, H⟩ := H
          replace H : (if (wrap64 (t292 + 1)) = 0 then (none) else ((tape_Many.f kj7 a0 l1_0 a1_1 (Int.tmod (wrap64 (a4)) (wrap64 (t292 + 1)))).bind fun bt293 => ((some (([] : List Int) : List Int)).bind fun y302 => (if y302.length + l2.length < 17592186044416 then ((some (y302 ++ l2 : List Int)).bind fun y305 => (if 0 ≤ a1_1 then (if a1_1 ≤ (l1_0.length : Int) then (if y305.length + (l1_0.drop (a1_1 : Int).toNat).length < 17592186044416 then ((some (y305 ++ (l1_0.drop (a1_1 : Int).toNat) : List Int)).bind fun y309 => (if y309.length + l3.length < 17592186044416 then ((tape_Many.f kj7 a0 (y309 ++ l3) (l2.length : Int) (Int.tmod (wrap64 (a4)) (wrap64 (t292 + 1)))).bind fun bt315 => (if bt293.2.2.2 = 0 then (if bt315.2.2.2 = 0 then ((affidavitref01_Same.f kj7 bt293.1 bt315.1).bind fun t324 => (if t324 = true then (affidavitlaw10_TapeSame.j1 kj7 a0 (Int.tmod (wrap64 (a4)) (wrap64 (t292 + 1))) bt293.1 ((wrap64 (bt315.2.2.1 - (l2.length : Int))) != (wrap64 (bt293.2.2.1 - a1_1))) l1_0 a1_1) else (affidavitlaw10_TapeSame.j1 kj7 a0 (Int.tmod (wrap64 (a4)) (wrap64 (t292 + 1))) bt293.1 true l1_0 a1_1))) else (affidavitlaw10_TapeSame.j1 kj7 a0 (Int.tmod (wrap64 (a4)) (wrap64 (t292 + 1))) bt293.1 true l1_0 a1_1)) else (affidavitlaw10_TapeSame.j1 kj7 a0 (Int.tmod (wrap64 (a4)) (wrap64 (t292 + 1))) bt293.1 true l1_0 a1_1))) else (none))) else (none)) else (none)) else (none))) else (none))))) = some r := H
          have A25 := Aside0.mk A250
          clear A250
          by_cases c26 : (wrap64 (t292 + 1)) = 0
          · rw [if_pos c26] at H
            exact absurd H (by simp)
          · rw [if_neg c26] at H
            have c26b0 : ((wrap64 (t292 + 1)) == 0) = false := beq_eq_false_iff_ne.mpr c26
            have c26b1 : ((wrap64 (t292 + 1)) != 0) = true := bne_iff_ne.mpr c26
            replace H := Option.bind_eq_some_iff.mp H
            obtain ⟨⟨t293, t296, t299, t300⟩, A270, H⟩ := H
            replace H : ((some (([] : List Int) : List Int)).bind fun y302 => (if y302.length + l2.length < 17592186044416 then ((some (y302 ++ l2 : List Int)).bind fun y305 => (if 0 ≤ a1_1 then (if a1_1 ≤ (l1_0.length : Int) then (if y305.length + (l1_0.drop (a1_1 : Int).toNat).length < 17592186044416 then ((some (y305 ++ (l1_0.drop (a1_1 : Int).toNat) : List Int)).bind fun y309 => (if y309.length + l3.length < 17592186044416 then ((tape_Many.f kj7 a0 (y309 ++ l3) (l2.length : Int) (Int.tmod (wrap64 (a4)) (wrap64 (t292 + 1)))).bind fun bt315 => (if t300 = 0 then (if bt315.2.2.2 = 0 then ((affidavitref01_Same.f kj7 t293 bt315.1).bind fun t324 => (if t324 = true then (affidavitlaw10_TapeSame.j1 kj7 a0 (Int.tmod (wrap64 (a4)) (wrap64 (t292 + 1))) t293 ((wrap64 (bt315.2.2.1 - (l2.length : Int))) != (wrap64 (t299 - a1_1))) l1_0 a1_1) else (affidavitlaw10_TapeSame.j1 kj7 a0 (Int.tmod (wrap64 (a4)) (wrap64 (t292 + 1))) t293 true l1_0 a1_1))) else (affidavitlaw10_TapeSame.j1 kj7 a0 (Int.tmod (wrap64 (a4)) (wrap64 (t292 + 1))) t293 true l1_0 a1_1)) else (affidavitlaw10_TapeSame.j1 kj7 a0 (Int.tmod (wrap64 (a4)) (wrap64 (t292 + 1))) t293 true l1_0 a1_1))) else (none))) else (none)) else (none)) else (none))) else (none))) = some r := H
            have A27 := Aside0.mk A270
            clear A270
            obtain ⟨y302, hy302⟩ : ∃ y_ : List Int, y_ = (([] : List Int)) := ⟨_, rfl⟩
            replace H : (if y302.length + l2.length < 17592186044416 then ((some (y302 ++ l2 : List Int)).bind fun y305 => (if 0 ≤ a1_1 then (if a1_1 ≤ (l1_0.length : Int) then (if y305.length + (l1_0.drop (a1_1 : Int).toNat).length < 17592186044416 then ((some (y305 ++ (l1_0.drop (a1_1 : Int).toNat) : List Int)).bind fun y309 => (if y309.length + l3.length < 17592186044416 then ((tape_Many.f kj7 a0 (y309 ++ l3) (l2.length : Int) (Int.tmod (wrap64 (a4)) (wrap64 (t292 + 1)))).bind fun bt315 => (if t300 = 0 then (if bt315.2.2.2 = 0 then ((affidavitref01_Same.f kj7 t293 bt315.1).bind fun t324 => (if t324 = true then (affidavitlaw10_TapeSame.j1 kj7 a0 (Int.tmod (wrap64 (a4)) (wrap64 (t292 + 1))) t293 ((wrap64 (bt315.2.2.1 - (l2.length : Int))) != (wrap64 (t299 - a1_1))) l1_0 a1_1) else (affidavitlaw10_TapeSame.j1 kj7 a0 (Int.tmod (wrap64 (a4)) (wrap64 (t292 + 1))) t293 true l1_0 a1_1))) else (affidavitlaw10_TapeSame.j1 kj7 a0 (Int.tmod (wrap64 (a4)) (wrap64 (t292 + 1))) t293 true l1_0 a1_1)) else (affidavitlaw10_TapeSame.j1 kj7 a0 (Int.tmod (wrap64 (a4)) (wrap64 (t292 + 1))) t293 true l1_0 a1_1))) else (none))) else (none)) else (none)) else (none))) else (none)) = some r := by first | (rw [hy302]; with_reducible exact H) | (have H2_ := (Option.bind_some _ _).symm.trans H; rw [hy302]; with_reducible exact H2_) | (have H2_ := (Option.bind_some _ _).symm.trans H; with_reducible exact H2_) | with_reducible exact H | (rw [hy302]; exact H) | exact H
            have Ny302 := Aside0.mk hy302
            clear hy302
            by_cases c28 : y302.length + l2.length < 17592186044416
            · rw [if_pos c28] at H
              have LMc28 := Aside0.mk c28
              clear c28
              obtain ⟨y305, hy305⟩ : ∃ y_ : List Int, y_ = (y302 ++ l2) := ⟨_, rfl⟩
              replace H : (if 0 ≤ a1_1 then (if a1_1 ≤ (l1_0.length : Int) then (if y305.length + (l1_0.drop (a1_1 : Int).toNat).length < 17592186044416 then ((some (y305 ++ (l1_0.drop (a1_1 : Int).toNat) : List Int)).bind fun y309 => (if y309.length + l3.length < 17592186044416 then ((tape_Many.f kj7 a0 (y309 ++ l3) (l2.length : Int) (Int.tmod (wrap64 (a4)) (wrap64 (t292 + 1)))).bind fun bt315 => (if t300 = 0 then (if bt315.2.2.2 = 0 then ((affidavitref01_Same.f kj7 t293 bt315.1).bind fun t324 => (if t324 = true then (affidavitlaw10_TapeSame.j1 kj7 a0 (Int.tmod (wrap64 (a4)) (wrap64 (t292 + 1))) t293 ((wrap64 (bt315.2.2.1 - (l2.length : Int))) != (wrap64 (t299 - a1_1))) l1_0 a1_1) else (affidavitlaw10_TapeSame.j1 kj7 a0 (Int.tmod (wrap64 (a4)) (wrap64 (t292 + 1))) t293 true l1_0 a1_1))) else (affidavitlaw10_TapeSame.j1 kj7 a0 (Int.tmod (wrap64 (a4)) (wrap64 (t292 + 1))) t293 true l1_0 a1_1)) else (affidavitlaw10_TapeSame.j1 kj7 a0 (Int.tmod (wrap64 (a4)) (wrap64 (t292 + 1))) t293 true l1_0 a1_1))) else (none))) else (none)) else (none)) else (none)) = some r := by first | (rw [hy305]; with_reducible exact H) | (have H2_ := (Option.bind_some _ _).symm.trans H; rw [hy305]; with_reducible exact H2_) | (have H2_ := (Option.bind_some _ _).symm.trans H; with_reducible exact H2_) | with_reducible exact H | (rw [hy305]; exact H) | exact H
              have Ny305 := Aside0.mk hy305
              clear hy305
              by_cases c29 : 0 ≤ a1_1
              · rw [if_pos c29] at H
                have c29b0 := eq_true c29
                have c29b1 : decide (0 ≤ a1_1) = true := decide_eq_true c29
                clear c29
                by_cases c30 : a1_1 ≤ (l1_0.length : Int)
                · rw [if_pos c30] at H
                  have c30b0 := eq_true c30
                  have c30b1 : decide (a1_1 ≤ (l1_0.length : Int)) = true := decide_eq_true c30
                  clear c30
                  by_cases c31 : y305.length + (l1_0.drop (a1_1 : Int).toNat).length < 17592186044416
                  · rw [if_pos c31] at H
                    have LMc31 := Aside0.mk c31
                    clear c31
                    obtain ⟨y309, hy309⟩ : ∃ y_ : List Int, y_ = (y305 ++ (l1_0.drop (a1_1 : Int).toNat)) := ⟨_, rfl⟩
                    replace H : (if y309.length + l3.length < 17592186044416 then ((tape_Many.f kj7 a0 (y309 ++ l3) (l2.length : Int) (Int.tmod (wrap64 (a4)) (wrap64 (t292 + 1)))).bind fun bt315 => (if t300 = 0 then (if bt315.2.2.2 = 0 then ((affidavitref01_Same.f kj7 t293 bt315.1).bind fun t324 => (if t324 = true then (affidavitlaw10_TapeSame.j1 kj7 a0 (Int.tmod (wrap64 (a4)) (wrap64 (t292 + 1))) t293 ((wrap64 (bt315.2.2.1 - (l2.length : Int))) != (wrap64 (t299 - a1_1))) l1_0 a1_1) else (affidavitlaw10_TapeSame.j1 kj7 a0 (Int.tmod (wrap64 (a4)) (wrap64 (t292 + 1))) t293 true l1_0 a1_1))) else (affidavitlaw10_TapeSame.j1 kj7 a0 (Int.tmod (wrap64 (a4)) (wrap64 (t292 + 1))) t293 true l1_0 a1_1)) else (affidavitlaw10_TapeSame.j1 kj7 a0 (Int.tmod (wrap64 (a4)) (wrap64 (t292 + 1))) t293 true l1_0 a1_1))) else (none)) = some r := by first | (rw [hy309]; with_reducible exact H) | (have H2_ := (Option.bind_some _ _).symm.trans H; rw [hy309]; with_reducible exact H2_) | (have H2_ := (Option.bind_some _ _).symm.trans H; with_reducible exact H2_) | with_reducible exact H | (rw [hy309]; exact H) | exact H
                    have Ny309 := Aside0.mk hy309
                    clear hy309
                    by_cases c32 : y309.length + l3.length < 17592186044416
                    · rw [if_pos c32] at H
                      have LMc32 := Aside0.mk c32
                      clear c32
                      obtain ⟨y312, hy312⟩ : ∃ y_ : List Int, y_ = (y309 ++ l3) := ⟨_, rfl⟩
                      replace H : ((tape_Many.f kj7 a0 y312 (l2.length : Int) (Int.tmod (wrap64 (a4)) (wrap64 (t292 + 1)))).bind fun bt315 => (if t300 = 0 then (if bt315.2.2.2 = 0 then ((affidavitref01_Same.f kj7 t293 bt315.1).bind fun t324 => (if t324 = true then (affidavitlaw10_TapeSame.j1 kj7 a0 (Int.tmod (wrap64 (a4)) (wrap64 (t292 + 1))) t293 ((wrap64 (bt315.2.2.1 - (l2.length : Int))) != (wrap64 (t299 - a1_1))) l1_0 a1_1) else (affidavitlaw10_TapeSame.j1 kj7 a0 (Int.tmod (wrap64 (a4)) (wrap64 (t292 + 1))) t293 true l1_0 a1_1))) else (affidavitlaw10_TapeSame.j1 kj7 a0 (Int.tmod (wrap64 (a4)) (wrap64 (t292 + 1))) t293 true l1_0 a1_1)) else (affidavitlaw10_TapeSame.j1 kj7 a0 (Int.tmod (wrap64 (a4)) (wrap64 (t292 + 1))) t293 true l1_0 a1_1))) = some r := by first | (rw [hy312]; with_reducible exact H) | (have H2_ := (Option.bind_some _ _).symm.trans H; rw [hy312]; with_reducible exact H2_) | (have H2_ := (Option.bind_some _ _).symm.trans H; with_reducible exact H2_) | with_reducible exact H | (rw [hy312]; exact H) | exact H
                      have Ny312 := Aside0.mk hy312
                      clear hy312
                      replace H := Option.bind_eq_some_iff.mp H
                      obtain ⟨⟨t315, t318, t321, t322⟩, A330, H⟩ := H
                      replace H : (if t300 = 0 then (if t322 = 0 then ((affidavitref01_Same.f kj7 t293 t315).bind fun t324 => (if t324 = true then (affidavitlaw10_TapeSame.j1 kj7 a0 (Int.tmod (wrap64 (a4)) (wrap64 (t292 + 1))) t293 ((wrap64 (t321 - (l2.length : Int))) != (wrap64 (t299 - a1_1))) l1_0 a1_1) else (affidavitlaw10_TapeSame.j1 kj7 a0 (Int.tmod (wrap64 (a4)) (wrap64 (t292 + 1))) t293 true l1_0 a1_1))) else (affidavitlaw10_TapeSame.j1 kj7 a0 (Int.tmod (wrap64 (a4)) (wrap64 (t292 + 1))) t293 true l1_0 a1_1)) else (affidavitlaw10_TapeSame.j1 kj7 a0 (Int.tmod (wrap64 (a4)) (wrap64 (t292 + 1))) t293 true l1_0 a1_1)) = some r := H
                      have A33 := Aside0.mk A330
                      clear A330
                      have HC34 := Aside0.mk H
                      clear H
                      have hcz35_0 : wc.cell? ⟨gb288, 0, none⟩ = some (.slice A1_0 l1_0.length c1_0) := (blk_cell BK288.out 0).trans rfl
                      have hcz35_1 : wc.cell? ⟨gb288, 1, none⟩ = some (.int .i64 a1_1) := (blk_cell BK288.out 1).trans rfl
                      have hfz35_0 := blk_frozen BK288.out 0
                      have hfz35_1 := blk_frozen BK288.out 1
                      try go_wp2_with (first | ((with_reducible refine gate_callee (f := 23) rfl ?_); refine goesL_ (some 54) rfl rfl Try.func23 (by kernel_rfl) rfl #[.int .u64 a0, .agg #[.slice A1_0 l1_0.length c1_0, .int .i64 a1_1]] rfl (by (try simp only [List.map_toArray, List.map_cons, List.map_nil]); first | done | rfl | (simp only [List.length_drop, List.length_take]; rfl)) ?_; (with_reducible refine (tape_Left.calls kj7 a0 _ _ l1_0 a1_1 t292 _ ?side1 ?side2 A25.out).mono ?_); (case side1 => repeat (first | exact (Kd.C_below HR1_0.out HB.out) | (with_reducible refine Kd.C_alloc ?_ _) | (with_reducible refine Kd.C_drewN ?_ _) | (with_reducible refine Kd.C_drew ?_))); (case side2 => exact HC1_0.out); rintro e w36 ⟨rfl, hb⟩; refine ⟨_, rfl, ?_⟩; have n0_ := Aside0.mk (blk_below (g := gb288) (o := .cells #[.slice A1_0 l1_0.length c1_0, .int .i64 a1_1] 25 (0, 0)) (by (with_reducible repeat (first | refine blk_drewN ?_ _ | refine blk_drew ?_ | refine blk_alloc ?_ _)); exact BK288.out) hb); have n1_ := Aside0.mk (below_step (by repeat (first | (with_reducible first | exact HB.out | apply below_alloc | apply pw_below_drewN | apply below_drew1 | refine below_set ?_ GE288.out) | exact HB.out)) hb); clear BK288; clear HB; have BK288 := n0_; have HB := n1_; clear n0_ n1_; (try clear hb); (try clear hb2); (try clear hk); (try clear hi); have hcz37_0 : w36.cell? ⟨gb288, 0, none⟩ = some (.slice A1_0 l1_0.length c1_0) := (blk_cell BK288.out 0).trans rfl; have hcz37_1 : w36.cell? ⟨gb288, 1, none⟩ = some (.int .i64 a1_1) := (blk_cell BK288.out 1).trans rfl; have hfz37_0 := blk_frozen BK288.out 0; have hfz37_1 := blk_frozen BK288.out 1) | ((with_reducible refine gate_callee (f := 16) rfl ?_); refine goesL_ (some 61) rfl rfl Try.func16 (by kernel_rfl) rfl #[.int .u64 a0, .agg #[.slice A1_0 l1_0.length c1_0, .int .i64 a1_1], .int .i64 (Int.tmod (wrap64 (a4)) (wrap64 (t292 + 1)))] rfl (by (try simp only [List.map_toArray, List.map_cons, List.map_nil]); first | done | rfl | (simp only [List.length_drop, List.length_take]; rfl)) ?_; (with_reducible refine (tape_Many.calls kj7 a0 (fun k_ => k_ < w.heap.size) _ _ l1_0 a1_1 (Int.tmod (wrap64 (a4)) (wrap64 (t292 + 1))) t293 t296 t299 t300 _ ?side1 A27.out).mono ?_); (case side1 => exact Kd.V_mk HC1_0.out (Kd.F_below (Kd.C_F (Kd.heap_int .u64) HR1_0.out) (by repeat (first | (with_reducible first | exact HB.out | apply below_alloc | apply pw_below_drewN | apply below_drew1 | refine below_set ?_ GE288.out) | exact HB.out)))); rintro e w38 ⟨v294, v297, rfl, ho0, ho1, hb⟩; refine ⟨_, rfl, ?_⟩; have n0_ := Aside0.mk (Kd.R_lower (Kd.R_mono (ok' := fun k_ => True) ho0 (fun _ hk_ => trivial)) (below_size (by repeat (first | (with_reducible first | exact HB.out | apply below_alloc | apply pw_below_drewN | apply below_drew1 | refine below_set ?_ GE288.out) | exact HB.out)))); have n1_ := Aside0.mk (Kd.V_lower (Kd.V_mono (ok' := fun k_ => some k_ ≠ (v294 : Value).ownBlock ∧ k_ ≠ gb288) ho1 (fun k_ hk_ => ⟨hk_.2, Or.elim hk_.1 (fun hs_ => fun e_ => Nat.not_le.2 hs_ (by rw [e_]; exact GW288.out)) (fun hn_ => (Kd.freshB (g := gb288) (o := .cells #[.slice A1_0 l1_0.length c1_0, .int .i64 a1_1] 25 (0, 0)) (by (with_reducible repeat (first | refine blk_drewN ?_ _ | refine blk_drew ?_ | refine blk_alloc ?_ _)); exact BK288.out) k_ hn_))⟩)) (below_size (by repeat (first | (with_reducible first | exact HB.out | apply below_alloc | apply pw_below_drewN | apply below_drew1 | refine below_set ?_ GE288.out) | exact HB.out)))); have n2_ := Aside0.mk (blk_below (g := gb288) (o := .cells #[.slice A1_0 l1_0.length c1_0, .int .i64 a1_1] 25 (0, 0)) (by (with_reducible repeat (first | refine blk_drewN ?_ _ | refine blk_drew ?_ | refine blk_alloc ?_ _)); exact BK288.out) hb); have n3_ := Aside0.mk (below_step (by repeat (first | (with_reducible first | exact HB.out | apply below_alloc | apply pw_below_drewN | apply below_drew1 | refine below_set ?_ GE288.out) | exact HB.out)) hb); clear BK288; clear HB; have HO295 := n0_; have HO298 := n1_; have BK288 := n2_; have HB := n3_; clear n0_ n1_ n2_ n3_; (try clear hb); (try clear hb2); (try clear hk); (try clear hi); (try clear ho0); (try clear ho1)) | ((with_reducible refine gate_dst (N := 13) rfl ?_); (try (refine gate_guard (by rfl) ?_; dsimp only)); refine box_event ?hg (N := 13) ?hd (cs := #[.slice none 0 0, .int .i64 0]) (t := 25) ?hr ?_; (case hd => rfl); (case hg => rfl); (case hr => first | (go_simp; done) | (go_simp; rfl)); intro gb301 hg w39 hbox hb; have n0_ := Aside0.mk (Kd.R_below (by (with_reducible repeat (first | apply Kd.R_alloc | apply Kd.R_drewN | apply Kd.R_drew)); exact HO295.out) hb); have n1_ := Aside0.mk (Kd.V_below (Kd.V_elderB (by (with_reducible repeat (first | apply Kd.V_alloc | apply Kd.V_drewN | apply Kd.V_drew)); exact HO298.out) gb301 (Nat.le_of_eq hg.symm)) hb); have n2_ := Aside0.mk (blk_below (g := gb288) (o := .cells #[.slice A1_0 l1_0.length c1_0, .int .i64 a1_1] 25 (0, 0)) (by (with_reducible repeat (first | refine blk_drewN ?_ _ | refine blk_drew ?_ | refine blk_alloc ?_ _)); exact BK288.out) hb); have n3_ := Aside0.mk (below_step (by repeat (first | (with_reducible first | exact HB.out | apply below_alloc | apply pw_below_drewN | apply below_drew1 | refine below_set ?_ GE288.out) | exact HB.out)) hb); have n4_ := Aside0.mk (hbox); have n5_ := Aside0.mk ((by rw [hg]; exact (below_size (by repeat (first | (with_reducible first | exact HB.out | apply below_alloc | apply pw_below_drewN | apply below_drew1 | refine below_set ?_ GE288.out) | exact HB.out))) : w.heap.size ≤ gb301)); have n6_ := Aside0.mk ((by rw [hg]; exact (below_size (by repeat (first | (with_reducible first | exact HB.out | apply below_alloc | apply pw_below_drewN | apply below_drew1 | refine below_set ?_ GE288.out) | exact HB.out))) : w.heap.size ≤ gb301)); have n7_ := Aside0.mk ((by rw [hg]; exact Nat.ne_of_lt (blk_lt (g := gb288) (o := .cells #[.slice A1_0 l1_0.length c1_0, .int .i64 a1_1] 25 (0, 0)) (by (with_reducible repeat (first | refine blk_drewN ?_ _ | refine blk_drew ?_ | refine blk_alloc ?_ _)); exact BK288.out)) : gb288 ≠ gb301)); have n8_ := Aside0.mk ((by rw [hg]; exact Nat.ne_of_gt (blk_lt (g := gb288) (o := .cells #[.slice A1_0 l1_0.length c1_0, .int .i64 a1_1] 25 (0, 0)) (by (with_reducible repeat (first | refine blk_drewN ?_ _ | refine blk_drew ?_ | refine blk_alloc ?_ _)); exact BK288.out)) : gb301 ≠ gb288)); clear HO295; clear HO298; clear BK288; clear HB; have HO295 := n0_; have HO298 := n1_; have BK288 := n2_; have HB := n3_; have BK301 := n4_; have GW301 := n5_; have GE301 := n6_; have NB288_301 := n7_; have NB301_288 := n8_; clear n0_ n1_ n2_ n3_ n4_ n5_ n6_ n7_ n8_; clear hb hbox hg; obtain ⟨Ao40, co40, eo40⟩ := Kd.V_slice HO298.out; subst eo40; have hnb41 := NB301_288.out; have hnc41 := NB288_301.out; have hcz42_0 : w39.cell? ⟨gb301, 0, none⟩ = some (.slice none 0 0) := (blk_cell BK301.out 0).trans rfl; have hcz42_1 : w39.cell? ⟨gb301, 1, none⟩ = some (.int .i64 0) := (blk_cell BK301.out 1).trans rfl; have hfz42_0 := blk_frozen BK301.out 0; have hfz42_1 := blk_frozen BK301.out 1))
                      have n0_ : Aside0 (Kd.R (Kd.int .u64) 22 ((w39.setCell ⟨gb301, 0, none⟩ (.slice Ao40 t296.length co40)).setCell ⟨gb301, 1, none⟩ (.int .i64 t299)) w.heap.size (fun _ => True) v294 t293) := ⟨by (with_reducible repeat (first | apply Kd.R_alloc | apply Kd.R_drewN | apply Kd.R_drew)); exact Kd.R_mono (Kd.R_far (p := ⟨gb301, 1, none⟩) (Kd.R_far (p := ⟨gb301, 0, none⟩) (Kd.R_types HO295.out BK301.out (by decide)) (fun _ hk => hk.2) (.slice Ao40 t296.length co40)) (fun _ hk => hk.2) (.int .i64 t299)) (fun _ hk => trivial)⟩
                      have n1_ : Aside0 (Kd.V (Kd.int .u64) 22 ((w39.setCell ⟨gb301, 0, none⟩ (.slice Ao40 t296.length co40)).setCell ⟨gb301, 1, none⟩ (.int .i64 t299)) w.heap.size (fun k_ => some k_ ≠ (v294 : Value).ownBlock ∧ k_ ≠ gb288 ∧ k_ ≠ gb301) (.slice Ao40 t296.length co40) t296) := ⟨by (with_reducible repeat (first | apply Kd.V_alloc | apply Kd.V_drewN | apply Kd.V_drew)); exact Kd.V_mono (Kd.V_far (p := ⟨gb301, 1, none⟩) (Kd.V_far (p := ⟨gb301, 0, none⟩) (Kd.V_mono HO298.out (fun k_ hk => (⟨hk, hk.2⟩ : _ ∧ k_ ≠ gb301))) (fun _ hk => hk.2) (.slice Ao40 t296.length co40)) (fun _ hk => hk.2) (.int .i64 t299)) (fun _ hk => ⟨hk.1.1.1, ⟨hk.1.1.2, hk.1.2⟩⟩)⟩
                      have n2_ : Aside0 (((w39.setCell ⟨gb301, 0, none⟩ (.slice Ao40 t296.length co40)).setCell ⟨gb301, 1, none⟩ (.int .i64 t299)).heap[gb288]? = some (.cells #[.slice A1_0 l1_0.length c1_0, .int .i64 a1_1] 25 (0, 0))) := ⟨by (with_reducible repeat (first | refine blk_drewN ?_ _ | refine blk_drew ?_ | refine blk_alloc ?_ _)); refine blk_far ?_ NB288_301.out _; (with_reducible repeat (first | refine blk_drewN ?_ _ | refine blk_drew ?_ | refine blk_alloc ?_ _)); refine blk_far ?_ NB288_301.out _; (with_reducible repeat (first | refine blk_drewN ?_ _ | refine blk_drew ?_ | refine blk_alloc ?_ _)); exact BK288.out⟩
                      have n3_ : Aside0 (((w39.setCell ⟨gb301, 0, none⟩ (.slice Ao40 t296.length co40)).setCell ⟨gb301, 1, none⟩ (.int .i64 t299)).heap[gb301]? = some (.cells #[.slice Ao40 t296.length co40, .int .i64 t299] 25 (0, 0))) := ⟨by (with_reducible repeat (first | refine blk_drewN ?_ _ | refine blk_drew ?_ | refine blk_alloc ?_ _)); refine blk_put (cs := #[.slice Ao40 t296.length co40, .int .i64 0]) ?_ 1 _ rfl; (with_reducible repeat (first | refine blk_drewN ?_ _ | refine blk_drew ?_ | refine blk_alloc ?_ _)); refine blk_put (cs := #[.slice none 0 0, .int .i64 0]) ?_ 0 _ rfl; (with_reducible repeat (first | refine blk_drewN ?_ _ | refine blk_drew ?_ | refine blk_alloc ?_ _)); exact BK301.out⟩
                      have n4_ : Aside0 (Below w.heap.size w ((w39.setCell ⟨gb301, 0, none⟩ (.slice Ao40 t296.length co40)).setCell ⟨gb301, 1, none⟩ (.int .i64 t299))) := ⟨by repeat (first | (with_reducible first | exact HB.out | apply below_alloc | apply pw_below_drewN | apply below_drew1 | refine below_set ?_ GE288.out | refine below_set ?_ GE301.out) | exact HB.out)⟩
                      (try clear HO295)
                      (try clear HO298)
                      (try clear BK288)
                      (try clear BK301)
                      (try clear HB)
                      generalize ((w39.setCell ⟨gb301, 0, none⟩ (.slice Ao40 t296.length co40)).setCell ⟨gb301, 1, none⟩ (.int .i64 t299)) = w43 at n0_ n1_ n2_ n3_ n4_ ⊢
                      have HO295 := n0_
                      have HO298 := n1_
                      have BK288 := n2_
                      have BK301 := n3_
                      have HB := n4_
                      clear n0_ n1_ n2_ n3_ n4_
                      have n0_ := Aside0.mk (Kd.R_drew HO295.out)
                      have n1_ := Aside0.mk (Kd.V_drew HO298.out)
                      have n2_ := Aside0.mk (blk_drew BK288.out)
                      have n3_ := Aside0.mk (blk_drew BK301.out)
                      have n4_ := Aside0.mk (below_drew1 HB.out)
                      clear HO295
                      clear HO298
                      clear BK288
                      clear BK301
                      clear HB
                      have HO295 := n0_
                      have HO298 := n1_
                      have BK288 := n2_
                      have BK301 := n3_
                      have HB := n4_
                      clear n0_ n1_ n2_ n3_ n4_
                      obtain ⟨i045, hi045, _, hsz45, _⟩ := info_parts info22
                      obtain ⟨A45, hcut45, hA45, hC45⟩ := print_drop_of (P := Try.prog) (Value.int .u64) 0 23 22 .i64 Try.underlying23 hi045 hsz45 A1_0 c1_0 l1_0 a1_1 (of_decide_eq_true (by first | (with_reducible assumption) | assumption)) (of_decide_eq_true (by first | (with_reducible assumption) | assumption)) HC1_0.out
                      have HR308 := Aside0.mk (Kd.C_of_reads (h1 := fun _ => rfl) (hA45 _ (Kd.reads_of_C HR1_0.out)))
                      have HC308 := Aside0.mk hC45
                      clear hA45 hC45 hi045 hsz45
                      have LNHR308 := Aside0.mk (show (l1_0.drop (a1_1 : Int).toNat).length = (l1_0.length - a1_1.toNat) from List.length_drop)
                      refine start_ (n := 10) (S := fun w' => w'.cell? ⟨gb288, 0, none⟩ = some (.slice A1_0 l1_0.length c1_0) ∧ w'.cell? ⟨gb288, 1, none⟩ = some (.int .i64 a1_1)) (ds := []) #[false, false, false, false, false, false, false, false, false, false] (by kernel_rfl) rfl rfl ⟨(blk_cell BK288.out 0).trans rfl, (blk_cell BK288.out 1).trans rfl⟩ (fun hHeld => ?_); refine with_tabW affidavitlaw10_TapeSame.tab7 affidavitlaw10_TapeSame.bits7 (fun HT_ HW_ => ?_)
                      generalize w43.drew = w44 at HO295 HO298 BK288 BK301 HB HR308 hHeld ⊢
                      refine pure_ (i := 1) (N := some 66) (v := ?_) (a' := ?_) #[false, true, false, false, false, false, false, false, false, false] rfl rfl (any_of HT_.out (by kernel_rfl)) (fun _ _ _ h => h) (Or.inl ⟨by rfl, ?_⟩) ?_ ?_
                      rotate_left
                      · intro w'
                        go_simp
                        with_reducible rfl
                      rotate_left
                      · simp only [Act.put, List.setIfInBounds_toArray, List.set_cons_zero, List.set_cons_succ, i64_w, i32_w]
                        rfl
                      refine pure_ (i := 3) (N := some 68) (v := ?_) (a' := ?_) #[false, true, false, true, false, false, false, false, false, false] rfl rfl (any_of HT_.out (by kernel_rfl)) (fun _ _ _ h => h) (Or.inl ⟨by rfl, ?_⟩) ?_ ?_
                      rotate_left
                      · intro w'
                        go_simp
                        with_reducible rfl
                      rotate_left
                      · simp only [Act.put, List.setIfInBounds_toArray, List.set_cons_zero, List.set_cons_succ, i64_w, i32_w]
                        rfl
                      refine pure_ (i := 5) (N := some 70) (v := ?_) (a' := ?_) #[false, true, false, true, false, true, false, false, false, false] rfl rfl (any_of HT_.out (by kernel_rfl)) (fun _ _ _ h => h) (Or.inl ⟨by rfl, ?_⟩) ?_ ?_
                      rotate_left
                      · intro w'
                        go_simp
                        with_reducible rfl
                      rotate_left
                      · simp only [Act.put, List.setIfInBounds_toArray, List.set_cons_zero, List.set_cons_succ, i64_w, i32_w]
                        rfl
                      refine take_ (i := 4) (N := some 69) (v := ?_) (a' := ?_) #[false, true, false, true, true, true, false, false, false, false] rfl rfl (take_ofW HT_.out HW_.out (by kernel_rfl)) (fun _ _ _ h => h) (Or.inl ⟨by rfl, ?_⟩) hHeld ?_ ?_
                      rotate_left
                      · rintro w' ⟨s0, s1⟩
                        go_simp
                        with_reducible rfl
                      rotate_left
                      · simp only [Act.put, List.setIfInBounds_toArray, List.set_cons_zero, List.set_cons_succ, i64_w, i32_w]
                        rfl
                      refine take_ (i := 6) (N := some 71) (v := ?_) (a' := ?_) #[false, true, false, true, true, true, true, false, false, false] rfl rfl (take_ofW HT_.out HW_.out (by kernel_rfl)) (fun _ _ _ h => h) (Or.inl ⟨by rfl, ?_⟩) hHeld ?_ ?_
                      rotate_left
                      · rintro w' ⟨s0, s1⟩
                        go_simp
                        with_reducible rfl
                      rotate_left
                      · simp only [Act.put, List.setIfInBounds_toArray, List.set_cons_zero, List.set_cons_succ, i64_w, i32_w]
                        rfl
                      refine pure_ (i := 7) (N := some 72) (v := ?_) (a' := ?_) #[false, true, false, true, true, true, true, true, false, false] rfl rfl (any_of HT_.out (by kernel_rfl)) (fun _ _ _ h => h) (Or.inl ⟨by rfl, ?_⟩) ?_ ?_
                      rotate_left
                      · intro w'
                        go_simp
                        with_reducible rfl
                      rotate_left
                      · simp only [Act.put, List.setIfInBounds_toArray, List.set_cons_zero, List.set_cons_succ, i64_w, i32_w]
                        rfl
                      refine one_ (i := 0) (N := some 65) #[true, true, false, true, true, true, true, true, false, false] rfl rfl (one_of HT_.out (by kernel_rfl)) (by decide) (fun K hK => ?_)
                      refine Kd.R_lit_step (Kd.int .u64) _ 22 ?hg (N := 65) ?hd (xs := ([] : List Int)) (inner := []) (ok := fun _ => True) (okp := fun _ => True) ?hr ?hp (fun _ hk => hk) trivial (Below.refl _ _) (Nat.le_refl _) (by simp) ?_; (case hd => rfl); (case hg => rfl); (case hr => first | (go_simp; done) | (go_simp; rfl)); (case hp => exact (Reps.none _ _))
                      intro v303 w46 ho47 hb hg_ hnew_
                      clear hg_ hnew_
                      (first | rw [← Ny302.out] at ho47 | (simp only [Int.reduceToNat] at ho47; rw [← Ny302.out] at ho47))
                      have n0_ := Aside0.mk (Kd.R_elder' (by (with_reducible repeat (first | apply Kd.R_alloc | apply Kd.R_drewN | apply Kd.R_drew)); exact HO295.out) (Kd.R_base ho47) hb)
                      have n1_ := Aside0.mk (Kd.V_elder' (by (with_reducible repeat (first | apply Kd.V_alloc | apply Kd.V_drewN | apply Kd.V_drew)); exact HO298.out) (Kd.R_base ho47) hb)
                      have n2_ := Aside0.mk (Kd.R_lower (Kd.R_new' ho47 (Kd.R_lt (by (with_reducible repeat (first | apply Kd.R_alloc | apply Kd.R_drewN | apply Kd.R_drew)); exact HO295.out))) (below_size (by repeat (first | (with_reducible first | exact HB.out | apply below_alloc | apply pw_below_drewN | apply below_drew1 | refine below_set ?_ GE288.out | refine below_set ?_ GE301.out) | exact HB.out))))
                      have n3_ := Aside0.mk (blk_below (g := gb288) (o := .cells #[.slice A1_0 l1_0.length c1_0, .int .i64 a1_1] 25 (0, 0)) (by (with_reducible repeat (first | refine blk_drewN ?_ _ | refine blk_drew ?_ | refine blk_alloc ?_ _)); exact BK288.out) hb)
                      have n4_ := Aside0.mk (blk_below (g := gb301) (o := .cells #[.slice Ao40 t296.length co40, .int .i64 t299] 25 (0, 0)) (by (with_reducible repeat (first | refine blk_drewN ?_ _ | refine blk_drew ?_ | refine blk_alloc ?_ _)); exact BK301.out) hb)
                      have n5_ := Aside0.mk (below_step (by repeat (first | (with_reducible first | exact HB.out | apply below_alloc | apply pw_below_drewN | apply below_drew1 | refine below_set ?_ GE288.out | refine below_set ?_ GE301.out) | exact HB.out)) hb)
                      clear HO295
                      clear HO298
                      clear BK288
                      clear BK301
                      clear HB
                      have HO295 := n0_
                      have HO298 := n1_
                      have HO304 := n2_
                      have BK288 := n3_
                      have BK301 := n4_
                      have HB := n5_
                      clear n0_ n1_ n2_ n3_ n4_ n5_
                      clear hb ho47
                      refine hK.out _ _ ⟨(blk_cell BK288.out 0).trans rfl, (blk_cell BK288.out 1).trans rfl⟩ (fun hHeld => ?_)
                      clear hK K
                      refine norm_ (a' := ?_) ?_ ?_
                      rotate_left
                      · show Act.put _ (some 65) _ = _
                        simp only [Act.put, List.setIfInBounds_toArray, List.set_cons_zero, List.set_cons_succ, i64_w, i32_w]
                        rfl
                      refine one_ (i := 2) (N := some 67) #[true, true, true, true, true, true, true, true, false, false] rfl rfl (one_of HT_.out (by kernel_rfl)) (by decide) (fun K hK => ?_)
                      refine Kd.R_append_rows_step (Kd.int .u64) (w0 := w) w.heap.size (by rfl) (.tmp 65) (.tmp 66) 23 22 (.int .u64 0) 8 rfl Try.underlying23 info22 rfl (by decide) (by omega) v303 y302 l2 _ _ _ (fun k_ => some k_ ≠ (v294 : Value).ownBlock) (fun _ => False) rfl rfl ?aO ?aR (fun _ _ h => h) (fun _ h => h.elim) ?aF ?aB ?aS ?aL ?_
                      (case aR => repeat (first | exact (Kd.C_below HR2.out HB.out) | (with_reducible refine Kd.C_alloc ?_ _) | (with_reducible refine Kd.C_drewN ?_ _) | (with_reducible refine Kd.C_drew ?_)))
                      (case aB => exact (by repeat (first | (with_reducible first | exact HB.out | apply below_alloc | apply pw_below_drewN | apply below_drew1 | refine below_set ?_ GE288.out | refine below_set ?_ GE301.out) | exact HB.out)))
                      (case aF => exact (fun k_ hk => Kd.fresh' (Kd.R_lt (by (with_reducible repeat (first | apply Kd.R_alloc | apply Kd.R_drewN | apply Kd.R_drew)); exact HO295.out)) k_ hk))
                      (case aO => exact (by (with_reducible repeat (first | apply Kd.R_alloc | apply Kd.R_drewN | apply Kd.R_drew)); exact Kd.R_mono HO304.out (fun _ hk => hk.2)))
                      (case aS => exact (below_size (by repeat (first | (with_reducible first | exact HB.out | apply below_alloc | apply pw_below_drewN | apply below_drew1 | refine below_set ?_ GE288.out | refine below_set ?_ GE301.out) | exact HB.out))))
                      (case aL => have := LMc28.out; omega)
                      intro v306 w48 ho hb hg hat
                      rw [← Ny305.out] at ho
                      have n0_ := Aside0.mk (blk_grown (g := gb288) (o := .cells #[.slice A1_0 l1_0.length c1_0, .int .i64 a1_1] 25 (0, 0)) (by (with_reducible repeat (first | refine blk_drewN ?_ _ | refine blk_drew ?_ | refine blk_alloc ?_ _)); exact BK288.out) hg (Kd.R_ne HO304.out BK288.out (by decide)))
                      have n1_ := Aside0.mk (Kd.R_after (ok := (fun _ => True)) (by (with_reducible repeat (first | apply Kd.R_alloc | apply Kd.R_drewN | apply Kd.R_drew)); exact HO295.out) hg hat)
                      have n2_ := Aside0.mk (Kd.V_afterv (ok := (fun k_ => some k_ ≠ (v294 : Value).ownBlock ∧ k_ ≠ gb288 ∧ k_ ≠ gb301)) (by (with_reducible repeat (first | apply Kd.V_alloc | apply Kd.V_drewN | apply Kd.V_drew)); exact HO298.out) hg hat)
                      have n3_ := Aside0.mk (blk_grown (g := gb301) (o := .cells #[.slice Ao40 t296.length co40, .int .i64 t299] 25 (0, 0)) (by (with_reducible repeat (first | refine blk_drewN ?_ _ | refine blk_drew ?_ | refine blk_alloc ?_ _)); exact BK301.out) hg (Kd.R_ne HO304.out BK301.out (by decide)))
                      have n4_ := Aside0.mk (hb)
                      have n5_ := Aside0.mk (ho)
                      clear BK288
                      clear HO295
                      clear HO298
                      clear BK301
                      clear HB
                      clear HO304
                      have BK288 := n0_
                      have HO295 := n1_
                      have HO298 := n2_
                      have BK301 := n3_
                      have HB := n4_
                      have HO307 := n5_
                      clear n0_ n1_ n2_ n3_ n4_ n5_
                      clear ho hb hg hat
                      refine hK.out _ _ ⟨(blk_cell BK288.out 0).trans rfl, (blk_cell BK288.out 1).trans rfl⟩ (fun hHeld => ?_)
                      clear hK K
                      refine norm_ (a' := ?_) ?_ ?_
                      rotate_left
                      · show Act.put _ (some 67) _ = _
                        simp only [Act.put, List.setIfInBounds_toArray, List.set_cons_zero, List.set_cons_succ, i64_w, i32_w]
                        rfl
                      refine one_ (i := 8) (N := some 73) #[true, true, true, true, true, true, true, true, true, false] rfl rfl (one_of HT_.out (by kernel_rfl)) (by decide) (fun K hK => ?_)
                      refine Kd.R_append_rows_step (Kd.int .u64) (w0 := w) w.heap.size (by rfl) (.tmp 67) (.tmp 72) 23 22 (.int .u64 0) 8 rfl Try.underlying23 info22 rfl (by decide) (by omega) v306 y305 (l1_0.drop (a1_1 : Int).toNat) _ _ _ (fun k_ => some k_ ≠ (v294 : Value).ownBlock) (fun _ => False) rfl rfl ?aO ?aR (fun _ _ h => h) (fun _ h => h.elim) ?aF ?aB ?aS ?aL ?_
                      (case aR => first | (rw [← show (l1_0.drop (a1_1 : Int).toNat).length = (l1_0.length - a1_1.toNat) from LNHR308.out]; repeat (first | exact (Kd.C_below HR308.out HB.out) | (with_reducible refine Kd.C_alloc ?_ _) | (with_reducible refine Kd.C_drewN ?_ _) | (with_reducible refine Kd.C_drew ?_))) | (repeat (first | exact (Kd.C_below HR308.out HB.out) | (with_reducible refine Kd.C_alloc ?_ _) | (with_reducible refine Kd.C_drewN ?_ _) | (with_reducible refine Kd.C_drew ?_))))
                      (case aB => exact (by repeat (first | (with_reducible first | exact HB.out | apply below_alloc | apply pw_below_drewN | apply below_drew1 | refine below_set ?_ GE288.out | refine below_set ?_ GE301.out) | exact HB.out)))
                      (case aF => exact (fun k_ hk => Kd.fresh' (Kd.R_lt (by (with_reducible repeat (first | apply Kd.R_alloc | apply Kd.R_drewN | apply Kd.R_drew)); exact HO295.out)) k_ hk))
                      (case aO => exact (by (with_reducible repeat (first | apply Kd.R_alloc | apply Kd.R_drewN | apply Kd.R_drew)); exact HO307.out))
                      (case aS => exact (below_size (by repeat (first | (with_reducible first | exact HB.out | apply below_alloc | apply pw_below_drewN | apply below_drew1 | refine below_set ?_ GE288.out | refine below_set ?_ GE301.out) | exact HB.out))))
                      (case aL => have := LMc31.out; have hlx_ := (show (l1_0.drop (a1_1 : Int).toNat).length = (l1_0.length - a1_1.toNat) from LNHR308.out); omega)
                      intro v310 w49 ho hb hg hat
                      rw [← Ny309.out] at ho
                      have n0_ := Aside0.mk (blk_grown (g := gb288) (o := .cells #[.slice A1_0 l1_0.length c1_0, .int .i64 a1_1] 25 (0, 0)) (by (with_reducible repeat (first | refine blk_drewN ?_ _ | refine blk_drew ?_ | refine blk_alloc ?_ _)); exact BK288.out) hg (Kd.R_ne HO307.out BK288.out (by decide)))
                      have n1_ := Aside0.mk (Kd.R_after (ok := (fun _ => True)) (by (with_reducible repeat (first | apply Kd.R_alloc | apply Kd.R_drewN | apply Kd.R_drew)); exact HO295.out) hg hat)
                      have n2_ := Aside0.mk (Kd.V_afterv (ok := (fun k_ => some k_ ≠ (v294 : Value).ownBlock ∧ k_ ≠ gb288 ∧ k_ ≠ gb301)) (by (with_reducible repeat (first | apply Kd.V_alloc | apply Kd.V_drewN | apply Kd.V_drew)); exact HO298.out) hg hat)
                      have n3_ := Aside0.mk (blk_grown (g := gb301) (o := .cells #[.slice Ao40 t296.length co40, .int .i64 t299] 25 (0, 0)) (by (with_reducible repeat (first | refine blk_drewN ?_ _ | refine blk_drew ?_ | refine blk_alloc ?_ _)); exact BK301.out) hg (Kd.R_ne HO307.out BK301.out (by decide)))
                      have n4_ := Aside0.mk (hb)
                      have n5_ := Aside0.mk (ho)
                      clear BK288
                      clear HO295
                      clear HO298
                      clear BK301
                      clear HB
                      clear HO307
                      have BK288 := n0_
                      have HO295 := n1_
                      have HO298 := n2_
                      have BK301 := n3_
                      have HB := n4_
                      have HO311 := n5_
                      clear n0_ n1_ n2_ n3_ n4_ n5_
                      clear ho hb hg hat
                      refine hK.out _ _ ⟨(blk_cell BK288.out 0).trans rfl, (blk_cell BK288.out 1).trans rfl⟩ (fun hHeld => ?_)
                      clear hK K
                      refine norm_ (a' := ?_) ?_ ?_
                      rotate_left
                      · show Act.put _ (some 73) _ = _
                        simp only [Act.put, List.setIfInBounds_toArray, List.set_cons_zero, List.set_cons_succ, i64_w, i32_w]
                        rfl
                      refine pure_ (i := 9) (N := some 15) (v := ?_) (a' := ?_) #[true, true, true, true, true, true, true, true, true, true] rfl rfl (any_of HT_.out (by kernel_rfl)) (fun _ _ _ h => h) (Or.inl ⟨by rfl, ?_⟩) ?_ ?_
                      rotate_left
                      · intro w'
                        go_simp
                        with_reducible rfl
                      rotate_left
                      · simp only [Act.put, List.setIfInBounds_toArray, List.set_cons_zero, List.set_cons_succ, i64_w, i32_w]
                        rfl
                      refine done_ (done_of HT_.out (by kernel_rfl)) ?_
                      go_upto_region 9 with (first | ((with_reducible refine gate_builtin (b := .append) (xs := #[.tmp 76, .tmp 77]) rfl ?_); (try (refine gate_guard (by rfl) ?_; dsimp only)); at_builtin; refine Kd.R_append_rows (Kd.int .u64) (w0 := w) w.heap.size rfl (.tmp 76) (.tmp 77) 23 22 (.int .u64 0) 8 rfl Try.underlying23 info22 rfl (by decide) (by omega) v310 y309 l3 _ _ _ (fun k_ => some k_ ≠ (v294 : Value).ownBlock) (fun _ => False) rfl rfl ?aO ?aR (fun _ _ h => h) (fun _ h => h.elim) ?aF ?aB ?aS ?aL ?_; (case aR => repeat (first | exact (Kd.C_below HR3.out HB.out) | (with_reducible refine Kd.C_alloc ?_ _) | (with_reducible refine Kd.C_drewN ?_ _) | (with_reducible refine Kd.C_drew ?_))); (case aB => exact (by repeat (first | (with_reducible first | exact HB.out | apply below_alloc | apply pw_below_drewN | apply below_drew1 | refine below_set ?_ GE288.out | refine below_set ?_ GE301.out) | exact HB.out))); (case aF => exact (fun k_ hk => Kd.fresh' (Kd.R_lt (by (with_reducible repeat (first | apply Kd.R_alloc | apply Kd.R_drewN | apply Kd.R_drew)); exact HO295.out)) k_ hk)); (case aO => exact (by (with_reducible repeat (first | apply Kd.R_alloc | apply Kd.R_drewN | apply Kd.R_drew)); exact HO311.out)); (case aS => exact (below_size (by repeat (first | (with_reducible first | exact HB.out | apply below_alloc | apply pw_below_drewN | apply below_drew1 | refine below_set ?_ GE288.out | refine below_set ?_ GE301.out) | exact HB.out)))); (case aL => have := LMc32.out; omega); intro v313 w50 ho hb hg hat; rw [← Ny312.out] at ho; have n0_ := Aside0.mk (blk_grown (g := gb288) (o := .cells #[.slice A1_0 l1_0.length c1_0, .int .i64 a1_1] 25 (0, 0)) (by (with_reducible repeat (first | refine blk_drewN ?_ _ | refine blk_drew ?_ | refine blk_alloc ?_ _)); exact BK288.out) hg (Kd.R_ne HO311.out BK288.out (by decide))); have n1_ := Aside0.mk (Kd.R_after (ok := (fun _ => True)) (by (with_reducible repeat (first | apply Kd.R_alloc | apply Kd.R_drewN | apply Kd.R_drew)); exact HO295.out) hg hat); have n2_ := Aside0.mk (Kd.V_afterv (ok := (fun k_ => some k_ ≠ (v294 : Value).ownBlock ∧ k_ ≠ gb288 ∧ k_ ≠ gb301)) (by (with_reducible repeat (first | apply Kd.V_alloc | apply Kd.V_drewN | apply Kd.V_drew)); exact HO298.out) hg hat); have n3_ := Aside0.mk (blk_grown (g := gb301) (o := .cells #[.slice Ao40 t296.length co40, .int .i64 t299] 25 (0, 0)) (by (with_reducible repeat (first | refine blk_drewN ?_ _ | refine blk_drew ?_ | refine blk_alloc ?_ _)); exact BK301.out) hg (Kd.R_ne HO311.out BK301.out (by decide))); have n4_ := Aside0.mk (hb); have n5_ := Aside0.mk (ho); clear BK288; clear HO295; clear HO298; clear BK301; clear HB; clear HO311; have BK288 := n0_; have HO295 := n1_; have HO298 := n2_; have BK301 := n3_; have HB := n4_; have HO314 := n5_; clear n0_ n1_ n2_ n3_ n4_ n5_; clear ho hb hg hat; obtain ⟨Ao51, co51, eo51⟩ := Kd.R_slice HO314.out; subst eo51) | ((with_reducible refine gate_callee (f := 16) rfl ?_); refine goesL_ (some 83) rfl rfl Try.func16 (by kernel_rfl) rfl #[.int .u64 a0, .agg #[.slice Ao51 y312.length co51, .int .i64 (l2.length : Int)], .int .i64 (Int.tmod (wrap64 (a4)) (wrap64 (t292 + 1)))] rfl (by (try simp only [List.map_toArray, List.map_cons, List.map_nil]); first | done | rfl | (simp only [List.length_drop, List.length_take]; rfl)) ?_; (with_reducible refine (tape_Many.calls kj7 a0 (fun k_ => some k_ = (.slice Ao51 y312.length co51 : Value).ownBlock) _ _ y312 (l2.length : Int) (Int.tmod (wrap64 (a4)) (wrap64 (t292 + 1))) t315 t318 t321 t322 _ ?side1 A33.out).mono ?_); (case side1 => exact Kd.R_V (Kd.R_tight rfl (Kd.R_types (Kd.R_types (HO314.out) BK288.out (by decide)) BK301.out (by decide)))); rintro e w52 ⟨v316, v319, rfl, ho0, ho1, hb⟩; refine ⟨_, rfl, ?_⟩; have n0_ := Aside0.mk (Kd.R_elder' (by (with_reducible repeat (first | apply Kd.R_alloc | apply Kd.R_drewN | apply Kd.R_drew)); exact HO295.out) (Kd.R_base ho0) hb); have n1_ := Aside0.mk (Kd.V_elder' (by (with_reducible repeat (first | apply Kd.V_alloc | apply Kd.V_drewN | apply Kd.V_drew)); exact HO298.out) (Kd.R_base ho0) hb); have n2_ := Aside0.mk (Kd.R_elder' (by (with_reducible repeat (first | apply Kd.R_alloc | apply Kd.R_drewN | apply Kd.R_drew)); exact HO314.out) (Kd.R_base ho0) hb); have n3_ := Aside0.mk (Kd.R_lower (Kd.R_new' (Kd.R_new' (Kd.R_mono (ok' := fun k_ => True) ho0 (fun _ hk_ => trivial)) (Kd.R_lt (by (with_reducible repeat (first | apply Kd.R_alloc | apply Kd.R_drewN | apply Kd.R_drew)); exact HO295.out))) (Kd.R_lt (by (with_reducible repeat (first | apply Kd.R_alloc | apply Kd.R_drewN | apply Kd.R_drew)); exact HO314.out))) (below_size (by repeat (first | (with_reducible first | exact HB.out | apply below_alloc | apply pw_below_drewN | apply below_drew1 | refine below_set ?_ GE288.out | refine below_set ?_ GE301.out) | exact HB.out)))); have n4_ := Aside0.mk (Kd.V_lower (Kd.V_mono (ok' := fun k_ => some k_ ≠ (v316 : Value).ownBlock ∧ some k_ ≠ (v294 : Value).ownBlock ∧ k_ ≠ gb288 ∧ k_ ≠ gb301) ho1 (fun k_ hk_ => ⟨hk_.2, Or.elim hk_.1 (fun hs_ => ((Kd.R_types (Kd.R_types (HO314.out) BK288.out (by decide)) BK301.out (by decide)).1 k_ hs_.symm).1.1) (fun hn_ => (Kd.fresh' (Kd.R_lt (by (with_reducible repeat (first | apply Kd.R_alloc | apply Kd.R_drewN | apply Kd.R_drew)); exact HO295.out)) k_ hn_)), Or.elim hk_.1 (fun hs_ => ((Kd.R_types (Kd.R_types (HO314.out) BK288.out (by decide)) BK301.out (by decide)).1 k_ hs_.symm).1.2) (fun hn_ => (Kd.freshB (g := gb288) (o := .cells #[.slice A1_0 l1_0.length c1_0, .int .i64 a1_1] 25 (0, 0)) (by (with_reducible repeat (first | refine blk_drewN ?_ _ | refine blk_drew ?_ | refine blk_alloc ?_ _)); exact BK288.out) k_ hn_)), Or.elim hk_.1 (fun hs_ => ((Kd.R_types (Kd.R_types (HO314.out) BK288.out (by decide)) BK301.out (by decide)).1 k_ hs_.symm).2) (fun hn_ => (Kd.freshB (g := gb301) (o := .cells #[.slice Ao40 t296.length co40, .int .i64 t299] 25 (0, 0)) (by (with_reducible repeat (first | refine blk_drewN ?_ _ | refine blk_drew ?_ | refine blk_alloc ?_ _)); exact BK301.out) k_ hn_))⟩)) (below_size (by repeat (first | (with_reducible first | exact HB.out | apply below_alloc | apply pw_below_drewN | apply below_drew1 | refine below_set ?_ GE288.out | refine below_set ?_ GE301.out) | exact HB.out)))); have n5_ := Aside0.mk (blk_below (g := gb288) (o := .cells #[.slice A1_0 l1_0.length c1_0, .int .i64 a1_1] 25 (0, 0)) (by (with_reducible repeat (first | refine blk_drewN ?_ _ | refine blk_drew ?_ | refine blk_alloc ?_ _)); exact BK288.out) hb); have n6_ := Aside0.mk (blk_below (g := gb301) (o := .cells #[.slice Ao40 t296.length co40, .int .i64 t299] 25 (0, 0)) (by (with_reducible repeat (first | refine blk_drewN ?_ _ | refine blk_drew ?_ | refine blk_alloc ?_ _)); exact BK301.out) hb); have n7_ := Aside0.mk (below_step (by repeat (first | (with_reducible first | exact HB.out | apply below_alloc | apply pw_below_drewN | apply below_drew1 | refine below_set ?_ GE288.out | refine below_set ?_ GE301.out) | exact HB.out)) hb); clear HO295; clear HO298; clear HO314; clear BK288; clear BK301; clear HB; have HO295 := n0_; have HO298 := n1_; have HO314 := n2_; have HO317 := n3_; have HO320 := n4_; have BK288 := n5_; have BK301 := n6_; have HB := n7_; clear n0_ n1_ n2_ n3_ n4_ n5_ n6_ n7_; (try clear hb); (try clear hb2); (try clear hk); (try clear hi); (try clear ho0); (try clear ho1)) | ((with_reducible refine gate_dst (N := 17) rfl ?_); (try (refine gate_guard (by rfl) ?_; dsimp only)); refine box_event ?hg (N := 17) ?hd (cs := #[.slice none 0 0, .int .i64 0]) (t := 25) ?hr ?_; (case hd => rfl); (case hg => rfl); (case hr => first | (go_simp; done) | (go_simp; rfl)); intro gb323 hg w53 hbox hb; have n0_ := Aside0.mk (Kd.R_below (by (with_reducible repeat (first | apply Kd.R_alloc | apply Kd.R_drewN | apply Kd.R_drew)); exact HO295.out) hb); have n1_ := Aside0.mk (Kd.V_below (Kd.V_elderB (by (with_reducible repeat (first | apply Kd.V_alloc | apply Kd.V_drewN | apply Kd.V_drew)); exact HO298.out) gb323 (Nat.le_of_eq hg.symm)) hb); have n2_ := Aside0.mk (Kd.R_below (by (with_reducible repeat (first | apply Kd.R_alloc | apply Kd.R_drewN | apply Kd.R_drew)); exact HO314.out) hb); have n3_ := Aside0.mk (Kd.R_below (by (with_reducible repeat (first | apply Kd.R_alloc | apply Kd.R_drewN | apply Kd.R_drew)); exact HO317.out) hb); have n4_ := Aside0.mk (Kd.V_below (Kd.V_elderB (by (with_reducible repeat (first | apply Kd.V_alloc | apply Kd.V_drewN | apply Kd.V_drew)); exact HO320.out) gb323 (Nat.le_of_eq hg.symm)) hb); have n5_ := Aside0.mk (blk_below (g := gb288) (o := .cells #[.slice A1_0 l1_0.length c1_0, .int .i64 a1_1] 25 (0, 0)) (by (with_reducible repeat (first | refine blk_drewN ?_ _ | refine blk_drew ?_ | refine blk_alloc ?_ _)); exact BK288.out) hb); have n6_ := Aside0.mk (blk_below (g := gb301) (o := .cells #[.slice Ao40 t296.length co40, .int .i64 t299] 25 (0, 0)) (by (with_reducible repeat (first | refine blk_drewN ?_ _ | refine blk_drew ?_ | refine blk_alloc ?_ _)); exact BK301.out) hb); have n7_ := Aside0.mk (below_step (by repeat (first | (with_reducible first | exact HB.out | apply below_alloc | apply pw_below_drewN | apply below_drew1 | refine below_set ?_ GE288.out | refine below_set ?_ GE301.out) | exact HB.out)) hb); have n8_ := Aside0.mk (hbox); have n9_ := Aside0.mk ((by rw [hg]; exact (below_size (by repeat (first | (with_reducible first | exact HB.out | apply below_alloc | apply pw_below_drewN | apply below_drew1 | refine below_set ?_ GE288.out | refine below_set ?_ GE301.out) | exact HB.out))) : w.heap.size ≤ gb323)); have n10_ := Aside0.mk ((by rw [hg]; exact (below_size (by repeat (first | (with_reducible first | exact HB.out | apply below_alloc | apply pw_below_drewN | apply below_drew1 | refine below_set ?_ GE288.out | refine below_set ?_ GE301.out) | exact HB.out))) : w.heap.size ≤ gb323)); have n11_ := Aside0.mk ((by rw [hg]; exact Nat.ne_of_lt (blk_lt (g := gb288) (o := .cells #[.slice A1_0 l1_0.length c1_0, .int .i64 a1_1] 25 (0, 0)) (by (with_reducible repeat (first | refine blk_drewN ?_ _ | refine blk_drew ?_ | refine blk_alloc ?_ _)); exact BK288.out)) : gb288 ≠ gb323)); have n12_ := Aside0.mk ((by rw [hg]; exact Nat.ne_of_gt (blk_lt (g := gb288) (o := .cells #[.slice A1_0 l1_0.length c1_0, .int .i64 a1_1] 25 (0, 0)) (by (with_reducible repeat (first | refine blk_drewN ?_ _ | refine blk_drew ?_ | refine blk_alloc ?_ _)); exact BK288.out)) : gb323 ≠ gb288)); have n13_ := Aside0.mk ((by rw [hg]; exact Nat.ne_of_lt (blk_lt (g := gb301) (o := .cells #[.slice Ao40 t296.length co40, .int .i64 t299] 25 (0, 0)) (by (with_reducible repeat (first | refine blk_drewN ?_ _ | refine blk_drew ?_ | refine blk_alloc ?_ _)); exact BK301.out)) : gb301 ≠ gb323)); have n14_ := Aside0.mk ((by rw [hg]; exact Nat.ne_of_gt (blk_lt (g := gb301) (o := .cells #[.slice Ao40 t296.length co40, .int .i64 t299] 25 (0, 0)) (by (with_reducible repeat (first | refine blk_drewN ?_ _ | refine blk_drew ?_ | refine blk_alloc ?_ _)); exact BK301.out)) : gb323 ≠ gb301)); clear HO295; clear HO298; clear HO314; clear HO317; clear HO320; clear BK288; clear BK301; clear HB; have HO295 := n0_; have HO298 := n1_; have HO314 := n2_; have HO317 := n3_; have HO320 := n4_; have BK288 := n5_; have BK301 := n6_; have HB := n7_; have BK323 := n8_; have GW323 := n9_; have GE323 := n10_; have NB288_323 := n11_; have NB323_288 := n12_; have NB301_323 := n13_; have NB323_301 := n14_; clear n0_ n1_ n2_ n3_ n4_ n5_ n6_ n7_ n8_ n9_ n10_ n11_ n12_ n13_ n14_; clear hb hbox hg; obtain ⟨Ao54, co54, eo54⟩ := Kd.V_slice HO320.out; subst eo54; have hnb55 := NB323_288.out; have hnc55 := NB288_323.out; have hnb56 := NB323_301.out; have hnc56 := NB301_323.out; have hcz57_0 : w53.cell? ⟨gb323, 0, none⟩ = some (.slice none 0 0) := (blk_cell BK323.out 0).trans rfl; have hcz57_1 : w53.cell? ⟨gb323, 1, none⟩ = some (.int .i64 0) := (blk_cell BK323.out 1).trans rfl; have hfz57_0 := blk_frozen BK323.out 0; have hfz57_1 := blk_frozen BK323.out 1))
                      (try simp only [Act.put, List.setIfInBounds_toArray, List.set_cons_zero, List.set_cons_succ])
                      go_cut [111] (fun v111 wc => ∃ (kq : Nat) (x111_33 : Bool), v111 = .bool x111_33 ∧ Aside0 (affidavitlaw10_TapeSame.j1 kq a0 (Int.tmod (wrap64 (a4)) (wrap64 (t292 + 1))) t293 x111_33 l1_0 a1_1 = some r) ∧ Aside0 (kq ≤ kj7) ∧ Aside0 (Kd.R (Kd.int .u64) 22 wc w.heap.size (fun _ => True) v294 t293) ∧ Aside0 (Kd.V (Kd.int .u64) 22 wc w.heap.size (fun k_ => some k_ ≠ (v294 : Value).ownBlock ∧ k_ ≠ gb288 ∧ k_ ≠ gb301 ∧ k_ ≠ gb323) (.slice Ao40 t296.length co40) t296) ∧ Aside0 (Kd.V (Kd.int .u64) 22 wc w.heap.size (fun k_ => some k_ ≠ (v294 : Value).ownBlock ∧ k_ ≠ gb288 ∧ k_ ≠ gb301 ∧ k_ ≠ gb323) (.slice Ao54 t318.length co54) t318) ∧ Aside0 (wc.heap[gb288]? = some (.cells #[(.slice A1_0 l1_0.length c1_0), .int .i64 a1_1] 25 (0, 0))) ∧ Aside0 (wc.heap[gb301]? = some (.cells #[(.slice Ao40 t296.length co40), .int .i64 t299] 25 (0, 0))) ∧ Aside0 (wc.heap[gb323]? = some (.cells #[(.slice Ao54 t318.length co54), .int .i64 t321] 25 (0, 0))) ∧ Aside0 (Below w.heap.size w wc))
                      case first =>
                        have H := HC34.out
                        clear HC34
                        by_cases c58 : t300 = 0
                        · rw [if_pos c58] at H
                          have c58b0 : (t300 == 0) = true := beq_iff_eq.mpr c58
                          have c58b1 : (t300 != 0) = false := bne_eq_false_iff_eq.mpr c58
                          clear c58
                          (first | rw [c58b0] | (simp only [i64_w, i32_w]; rw [c58b0]) | skip)
                          by_cases c59 : t322 = 0
                          · rw [if_pos c59] at H
                            have c59b0 : (t322 == 0) = true := beq_iff_eq.mpr c59
                            have c59b1 : (t322 != 0) = false := bne_eq_false_iff_eq.mpr c59
                            clear c59
                            replace H := Option.bind_eq_some_iff.mp H
                            obtain ⟨t324, A600, H⟩ := H
                            replace H : (if t324 = true then (affidavitlaw10_TapeSame.j1 kj7 a0 (Int.tmod (wrap64 (a4)) (wrap64 (t292 + 1))) t293 ((wrap64 (t321 - (l2.length : Int))) != (wrap64 (t299 - a1_1))) l1_0 a1_1) else (affidavitlaw10_TapeSame.j1 kj7 a0 (Int.tmod (wrap64 (a4)) (wrap64 (t292 + 1))) t293 true l1_0 a1_1)) = some r := H
                            have A60 := Aside0.mk A600
                            clear A600
                            by_cases c61 : t324 = true
                            · subst c61
                              have H1 : (affidavitlaw10_TapeSame.j1 kj7 a0 (Int.tmod (wrap64 (a4)) (wrap64 (t292 + 1))) t293 ((wrap64 (t321 - (l2.length : Int))) != (wrap64 (t299 - a1_1))) l1_0 a1_1) = some r := by rw [if_pos rfl] at H; exact H
                              clear H
                              have H := H1
                              clear H1
                              have H' := Aside0.mk H
                              clear H
                              obtain ⟨Ao62, co62, eo62⟩ := Kd.R_slice HO295.out
                              subst eo62
                              obtain ⟨Ao63, co63, eo63⟩ := Kd.R_slice HO317.out
                              subst eo63
                              go_wp2_with (first | (go_at_call 21; (with_reducible refine (affidavitref01_Same.calls kj7 _ _ t293 _ _ t315 true _ ?side1 ?side2 ?side3 ?side4 A60.out).mono ?_); (case side1 => refine (Kd.R_reads' (e := 22) (base := w.heap.size) (ok := fun k_ => ((True ∧ some k_ ≠ (.slice Ao51 y312.length co51 : Value).ownBlock) ∧ some k_ ≠ (.slice Ao63 t315.length co63 : Value).ownBlock)) (n := t293.length) (c := co62) ?_).2.2; exact (by (with_reducible repeat (first | apply Kd.R_alloc | apply Kd.R_drewN | apply Kd.R_drew)); exact (Kd.R_mono (Kd.R_far (p := ⟨gb323, 1, none⟩) (Kd.R_far (p := ⟨gb323, 0, none⟩) (Kd.R_types HO295.out BK323.out (by decide)) (fun _ hk => hk.2) (.slice Ao54 t318.length co54)) (fun _ hk => hk.2) (.int .i64 t321)) (fun _ h_ => h_.1)))); (case side2 => exact (Kd.R_reads' HO295.out).2.1); (case side3 => refine (Kd.R_reads' (e := 22) (base := w.heap.size) (ok := fun k_ => ((True ∧ some k_ ≠ (.slice Ao62 t293.length co62 : Value).ownBlock) ∧ some k_ ≠ (.slice Ao51 y312.length co51 : Value).ownBlock)) (n := t315.length) (c := co63) ?_).2.2; exact (by (with_reducible repeat (first | apply Kd.R_alloc | apply Kd.R_drewN | apply Kd.R_drew)); exact (Kd.R_mono (Kd.R_far (p := ⟨gb323, 1, none⟩) (Kd.R_far (p := ⟨gb323, 0, none⟩) (Kd.R_types HO317.out BK323.out (by decide)) (fun _ hk => hk.2) (.slice Ao54 t318.length co54)) (fun _ hk => hk.2) (.int .i64 t321)) (fun _ h_ => h_.1)))); (case side4 => exact (Kd.R_reads' HO317.out).2.1); rintro e w' ⟨rfl, ⟨nd, rfl⟩⟩; have hnb64 := NB323_288.out; have hnc64 := NB288_323.out; have hnb65 := NB323_301.out; have hnc65 := NB301_323.out; have hcz66_0 : w53.cell? ⟨gb323, 0, none⟩ = some (.slice none 0 0) := (blk_cell BK323.out 0).trans rfl; have hcz66_1 : w53.cell? ⟨gb323, 1, none⟩ = some (.int .i64 0) := (blk_cell BK323.out 1).trans rfl; have hfz66_0 := blk_frozen BK323.out 0; have hfz66_1 := blk_frozen BK323.out 1; have hnb67 := NB301_288.out; have hnc67 := NB288_301.out; have hcz68_0 : w53.cell? ⟨gb301, 0, none⟩ = some (.slice Ao40 t296.length co40) := (blk_cell BK301.out 0).trans rfl; have hcz68_1 : w53.cell? ⟨gb301, 1, none⟩ = some (.int .i64 t299) := (blk_cell BK301.out 1).trans rfl; have hfz68_0 := blk_frozen BK301.out 0; have hfz68_1 := blk_frozen BK301.out 1; have hcz69_0 : w53.cell? ⟨gb288, 0, none⟩ = some (.slice A1_0 l1_0.length c1_0) := (blk_cell BK288.out 0).trans rfl; have hcz69_1 : w53.cell? ⟨gb288, 1, none⟩ = some (.int .i64 a1_1) := (blk_cell BK288.out 1).trans rfl; have hfz69_0 := blk_frozen BK288.out 0; have hfz69_1 := blk_frozen BK288.out 1))
                              go_meet
                              case rel => exact ⟨_, (((wrap64 (t321 - (l2.length : Int))) != (wrap64 (t299 - a1_1)))), (by first | rfl | (simp; done) | (simp [*]; done)), H', ⟨by have := HJ7.out; first | omega | exact Nat.le_refl _⟩, ⟨by (with_reducible repeat (first | apply Kd.R_alloc | apply Kd.R_drewN | apply Kd.R_drew)); exact Kd.R_mono (Kd.R_far (p := ⟨gb323, 1, none⟩) (Kd.R_far (p := ⟨gb323, 0, none⟩) (Kd.R_types HO295.out BK323.out (by decide)) (fun _ hk => hk.2) (.slice Ao54 t318.length co54)) (fun _ hk => hk.2) (.int .i64 t321)) (fun _ hk => trivial)⟩, ⟨by (with_reducible repeat (first | apply Kd.V_alloc | apply Kd.V_drewN | apply Kd.V_drew)); exact Kd.V_mono (Kd.V_far (p := ⟨gb323, 1, none⟩) (Kd.V_far (p := ⟨gb323, 0, none⟩) (Kd.V_mono HO298.out (fun k_ hk => (⟨hk, hk.2⟩ : _ ∧ k_ ≠ gb323))) (fun _ hk => hk.2) (.slice Ao54 t318.length co54)) (fun _ hk => hk.2) (.int .i64 t321)) (fun _ hk => ⟨hk.1.1.1.1.1, ⟨hk.1.1.1.1.2.1, ⟨hk.1.1.1.1.2.2, hk.1.2⟩⟩⟩)⟩, ⟨by (with_reducible repeat (first | apply Kd.V_alloc | apply Kd.V_drewN | apply Kd.V_drew)); exact Kd.V_mono (Kd.V_far (p := ⟨gb323, 1, none⟩) (Kd.V_far (p := ⟨gb323, 0, none⟩) (Kd.V_mono HO320.out (fun k_ hk => (⟨hk, hk.2⟩ : _ ∧ k_ ≠ gb323))) (fun _ hk => hk.2) (.slice Ao54 t318.length co54)) (fun _ hk => hk.2) (.int .i64 t321)) (fun _ hk => ⟨hk.1.1.2.1, ⟨hk.1.1.2.2.1, ⟨hk.1.1.2.2.2, hk.1.2⟩⟩⟩)⟩, ⟨by (with_reducible repeat (first | refine blk_drewN ?_ _ | refine blk_drew ?_ | refine blk_alloc ?_ _)); refine blk_far ?_ NB288_323.out _; (with_reducible repeat (first | refine blk_drewN ?_ _ | refine blk_drew ?_ | refine blk_alloc ?_ _)); refine blk_far ?_ NB288_323.out _; (with_reducible repeat (first | refine blk_drewN ?_ _ | refine blk_drew ?_ | refine blk_alloc ?_ _)); exact BK288.out⟩, ⟨by (with_reducible repeat (first | refine blk_drewN ?_ _ | refine blk_drew ?_ | refine blk_alloc ?_ _)); refine blk_far ?_ NB301_323.out _; (with_reducible repeat (first | refine blk_drewN ?_ _ | refine blk_drew ?_ | refine blk_alloc ?_ _)); refine blk_far ?_ NB301_323.out _; (with_reducible repeat (first | refine blk_drewN ?_ _ | refine blk_drew ?_ | refine blk_alloc ?_ _)); exact BK301.out⟩, ⟨by (with_reducible repeat (first | refine blk_drewN ?_ _ | refine blk_drew ?_ | refine blk_alloc ?_ _)); refine blk_put (cs := #[.slice Ao54 t318.length co54, .int .i64 0]) ?_ 1 _ rfl; (with_reducible repeat (first | refine blk_drewN ?_ _ | refine blk_drew ?_ | refine blk_alloc ?_ _)); refine blk_put (cs := #[.slice none 0 0, .int .i64 0]) ?_ 0 _ rfl; (with_reducible repeat (first | refine blk_drewN ?_ _ | refine blk_drew ?_ | refine blk_alloc ?_ _)); exact BK323.out⟩, ⟨by repeat (first | (with_reducible first | exact HB.out | apply below_alloc | apply pw_below_drewN | apply below_drew1 | refine below_set ?_ GE288.out | refine below_set ?_ GE301.out | refine below_set ?_ GE323.out) | exact HB.out)⟩⟩
                            · replace c61 := Bool.eq_false_iff.mpr c61
                              subst c61
                              have H1 : (affidavitlaw10_TapeSame.j1 kj7 a0 (Int.tmod (wrap64 (a4)) (wrap64 (t292 + 1))) t293 true l1_0 a1_1) = some r := by rw [if_neg (show ¬ (false = true) by decide)] at H; exact H
                              clear H
                              have H := H1
                              clear H1
                              have H' := Aside0.mk H
                              clear H
                              obtain ⟨Ao70, co70, eo70⟩ := Kd.R_slice HO295.out
                              subst eo70
                              obtain ⟨Ao71, co71, eo71⟩ := Kd.R_slice HO317.out
                              subst eo71
                              go_wp2_with (first | (go_at_call 21; (with_reducible refine (affidavitref01_Same.calls kj7 _ _ t293 _ _ t315 false _ ?side1 ?side2 ?side3 ?side4 A60.out).mono ?_); (case side1 => refine (Kd.R_reads' (e := 22) (base := w.heap.size) (ok := fun k_ => ((True ∧ some k_ ≠ (.slice Ao51 y312.length co51 : Value).ownBlock) ∧ some k_ ≠ (.slice Ao71 t315.length co71 : Value).ownBlock)) (n := t293.length) (c := co70) ?_).2.2; exact (by (with_reducible repeat (first | apply Kd.R_alloc | apply Kd.R_drewN | apply Kd.R_drew)); exact (Kd.R_mono (Kd.R_far (p := ⟨gb323, 1, none⟩) (Kd.R_far (p := ⟨gb323, 0, none⟩) (Kd.R_types HO295.out BK323.out (by decide)) (fun _ hk => hk.2) (.slice Ao54 t318.length co54)) (fun _ hk => hk.2) (.int .i64 t321)) (fun _ h_ => h_.1)))); (case side2 => exact (Kd.R_reads' HO295.out).2.1); (case side3 => refine (Kd.R_reads' (e := 22) (base := w.heap.size) (ok := fun k_ => ((True ∧ some k_ ≠ (.slice Ao70 t293.length co70 : Value).ownBlock) ∧ some k_ ≠ (.slice Ao51 y312.length co51 : Value).ownBlock)) (n := t315.length) (c := co71) ?_).2.2; exact (by (with_reducible repeat (first | apply Kd.R_alloc | apply Kd.R_drewN | apply Kd.R_drew)); exact (Kd.R_mono (Kd.R_far (p := ⟨gb323, 1, none⟩) (Kd.R_far (p := ⟨gb323, 0, none⟩) (Kd.R_types HO317.out BK323.out (by decide)) (fun _ hk => hk.2) (.slice Ao54 t318.length co54)) (fun _ hk => hk.2) (.int .i64 t321)) (fun _ h_ => h_.1)))); (case side4 => exact (Kd.R_reads' HO317.out).2.1); rintro e w' ⟨rfl, ⟨nd, rfl⟩⟩))
                              go_meet
                              case rel => exact ⟨_, (true), (by first | rfl | (simp; done) | (simp [*]; done)), H', ⟨by have := HJ7.out; first | omega | exact Nat.le_refl _⟩, ⟨by (with_reducible repeat (first | apply Kd.R_alloc | apply Kd.R_drewN | apply Kd.R_drew)); exact Kd.R_mono (Kd.R_far (p := ⟨gb323, 1, none⟩) (Kd.R_far (p := ⟨gb323, 0, none⟩) (Kd.R_types HO295.out BK323.out (by decide)) (fun _ hk => hk.2) (.slice Ao54 t318.length co54)) (fun _ hk => hk.2) (.int .i64 t321)) (fun _ hk => trivial)⟩, ⟨by (with_reducible repeat (first | apply Kd.V_alloc | apply Kd.V_drewN | apply Kd.V_drew)); exact Kd.V_mono (Kd.V_far (p := ⟨gb323, 1, none⟩) (Kd.V_far (p := ⟨gb323, 0, none⟩) (Kd.V_mono HO298.out (fun k_ hk => (⟨hk, hk.2⟩ : _ ∧ k_ ≠ gb323))) (fun _ hk => hk.2) (.slice Ao54 t318.length co54)) (fun _ hk => hk.2) (.int .i64 t321)) (fun _ hk => ⟨hk.1.1.1.1.1, ⟨hk.1.1.1.1.2.1, ⟨hk.1.1.1.1.2.2, hk.1.2⟩⟩⟩)⟩, ⟨by (with_reducible repeat (first | apply Kd.V_alloc | apply Kd.V_drewN | apply Kd.V_drew)); exact Kd.V_mono (Kd.V_far (p := ⟨gb323, 1, none⟩) (Kd.V_far (p := ⟨gb323, 0, none⟩) (Kd.V_mono HO320.out (fun k_ hk => (⟨hk, hk.2⟩ : _ ∧ k_ ≠ gb323))) (fun _ hk => hk.2) (.slice Ao54 t318.length co54)) (fun _ hk => hk.2) (.int .i64 t321)) (fun _ hk => ⟨hk.1.1.2.1, ⟨hk.1.1.2.2.1, ⟨hk.1.1.2.2.2, hk.1.2⟩⟩⟩)⟩, ⟨by (with_reducible repeat (first | refine blk_drewN ?_ _ | refine blk_drew ?_ | refine blk_alloc ?_ _)); refine blk_far ?_ NB288_323.out _; (with_reducible repeat (first | refine blk_drewN ?_ _ | refine blk_drew ?_ | refine blk_alloc ?_ _)); refine blk_far ?_ NB288_323.out _; (with_reducible repeat (first | refine blk_drewN ?_ _ | refine blk_drew ?_ | refine blk_alloc ?_ _)); exact BK288.out⟩, ⟨by (with_reducible repeat (first | refine blk_drewN ?_ _ | refine blk_drew ?_ | refine blk_alloc ?_ _)); refine blk_far ?_ NB301_323.out _; (with_reducible repeat (first | refine blk_drewN ?_ _ | refine blk_drew ?_ | refine blk_alloc ?_ _)); refine blk_far ?_ NB301_323.out _; (with_reducible repeat (first | refine blk_drewN ?_ _ | refine blk_drew ?_ | refine blk_alloc ?_ _)); exact BK301.out⟩, ⟨by (with_reducible repeat (first | refine blk_drewN ?_ _ | refine blk_drew ?_ | refine blk_alloc ?_ _)); refine blk_put (cs := #[.slice Ao54 t318.length co54, .int .i64 0]) ?_ 1 _ rfl; (with_reducible repeat (first | refine blk_drewN ?_ _ | refine blk_drew ?_ | refine blk_alloc ?_ _)); refine blk_put (cs := #[.slice none 0 0, .int .i64 0]) ?_ 0 _ rfl; (with_reducible repeat (first | refine blk_drewN ?_ _ | refine blk_drew ?_ | refine blk_alloc ?_ _)); exact BK323.out⟩, ⟨by repeat (first | (with_reducible first | exact HB.out | apply below_alloc | apply pw_below_drewN | apply below_drew1 | refine below_set ?_ GE288.out | refine below_set ?_ GE301.out | refine below_set ?_ GE323.out) | exact HB.out)⟩⟩
                          · rw [if_neg c59] at H
                            have c59b0 : (t322 == 0) = false := beq_eq_false_iff_ne.mpr c59
                            have c59b1 : (t322 != 0) = true := bne_iff_ne.mpr c59
                            have H' := Aside0.mk H
                            clear H
                            go_wp2
                            go_meet
                            case rel => exact ⟨_, (true), (by first | rfl | (simp; done) | (simp [*]; done)), H', ⟨by have := HJ7.out; first | omega | exact Nat.le_refl _⟩, ⟨by (with_reducible repeat (first | apply Kd.R_alloc | apply Kd.R_drewN | apply Kd.R_drew)); exact Kd.R_mono (Kd.R_far (p := ⟨gb323, 1, none⟩) (Kd.R_far (p := ⟨gb323, 0, none⟩) (Kd.R_types HO295.out BK323.out (by decide)) (fun _ hk => hk.2) (.slice Ao54 t318.length co54)) (fun _ hk => hk.2) (.int .i64 t321)) (fun _ hk => trivial)⟩, ⟨by (with_reducible repeat (first | apply Kd.V_alloc | apply Kd.V_drewN | apply Kd.V_drew)); exact Kd.V_mono (Kd.V_far (p := ⟨gb323, 1, none⟩) (Kd.V_far (p := ⟨gb323, 0, none⟩) (Kd.V_mono HO298.out (fun k_ hk => (⟨hk, hk.2⟩ : _ ∧ k_ ≠ gb323))) (fun _ hk => hk.2) (.slice Ao54 t318.length co54)) (fun _ hk => hk.2) (.int .i64 t321)) (fun _ hk => ⟨hk.1.1.1.1.1, ⟨hk.1.1.1.1.2.1, ⟨hk.1.1.1.1.2.2, hk.1.2⟩⟩⟩)⟩, ⟨by (with_reducible repeat (first | apply Kd.V_alloc | apply Kd.V_drewN | apply Kd.V_drew)); exact Kd.V_mono (Kd.V_far (p := ⟨gb323, 1, none⟩) (Kd.V_far (p := ⟨gb323, 0, none⟩) (Kd.V_mono HO320.out (fun k_ hk => (⟨hk, hk.2⟩ : _ ∧ k_ ≠ gb323))) (fun _ hk => hk.2) (.slice Ao54 t318.length co54)) (fun _ hk => hk.2) (.int .i64 t321)) (fun _ hk => ⟨hk.1.1.2.1, ⟨hk.1.1.2.2.1, ⟨hk.1.1.2.2.2, hk.1.2⟩⟩⟩)⟩, ⟨by (with_reducible repeat (first | refine blk_drewN ?_ _ | refine blk_drew ?_ | refine blk_alloc ?_ _)); refine blk_far ?_ NB288_323.out _; (with_reducible repeat (first | refine blk_drewN ?_ _ | refine blk_drew ?_ | refine blk_alloc ?_ _)); refine blk_far ?_ NB288_323.out _; (with_reducible repeat (first | refine blk_drewN ?_ _ | refine blk_drew ?_ | refine blk_alloc ?_ _)); exact BK288.out⟩, ⟨by (with_reducible repeat (first | refine blk_drewN ?_ _ | refine blk_drew ?_ | refine blk_alloc ?_ _)); refine blk_far ?_ NB301_323.out _; (with_reducible repeat (first | refine blk_drewN ?_ _ | refine blk_drew ?_ | refine blk_alloc ?_ _)); refine blk_far ?_ NB301_323.out _; (with_reducible repeat (first | refine blk_drewN ?_ _ | refine blk_drew ?_ | refine blk_alloc ?_ _)); exact BK301.out⟩, ⟨by (with_reducible repeat (first | refine blk_drewN ?_ _ | refine blk_drew ?_ | refine blk_alloc ?_ _)); refine blk_put (cs := #[.slice Ao54 t318.length co54, .int .i64 0]) ?_ 1 _ rfl; (with_reducible repeat (first | refine blk_drewN ?_ _ | refine blk_drew ?_ | refine blk_alloc ?_ _)); refine blk_put (cs := #[.slice none 0 0, .int .i64 0]) ?_ 0 _ rfl; (with_reducible repeat (first | refine blk_drewN ?_ _ | refine blk_drew ?_ | refine blk_alloc ?_ _)); exact BK323.out⟩, ⟨by repeat (first | (with_reducible first | exact HB.out | apply below_alloc | apply pw_below_drewN | apply below_drew1 | refine below_set ?_ GE288.out | refine below_set ?_ GE301.out | refine below_set ?_ GE323.out) | exact HB.out)⟩⟩
                        · rw [if_neg c58] at H
                          have c58b0 : (t300 == 0) = false := beq_eq_false_iff_ne.mpr c58
                          have c58b1 : (t300 != 0) = true := bne_iff_ne.mpr c58
                          (first | rw [c58b0] | (simp only [i64_w, i32_w]; rw [c58b0]) | skip)
                          have H' := Aside0.mk H
                          clear H
                          go_wp2
                          go_meet
                          case rel => exact ⟨_, (true), (by first | rfl | (simp; done) | (simp [*]; done)), H', ⟨by have := HJ7.out; first | omega | exact Nat.le_refl _⟩, ⟨by (with_reducible repeat (first | apply Kd.R_alloc | apply Kd.R_drewN | apply Kd.R_drew)); exact Kd.R_mono (Kd.R_far (p := ⟨gb323, 1, none⟩) (Kd.R_far (p := ⟨gb323, 0, none⟩) (Kd.R_types HO295.out BK323.out (by decide)) (fun _ hk => hk.2) (.slice Ao54 t318.length co54)) (fun _ hk => hk.2) (.int .i64 t321)) (fun _ hk => trivial)⟩, ⟨by (with_reducible repeat (first | apply Kd.V_alloc | apply Kd.V_drewN | apply Kd.V_drew)); exact Kd.V_mono (Kd.V_far (p := ⟨gb323, 1, none⟩) (Kd.V_far (p := ⟨gb323, 0, none⟩) (Kd.V_mono HO298.out (fun k_ hk => (⟨hk, hk.2⟩ : _ ∧ k_ ≠ gb323))) (fun _ hk => hk.2) (.slice Ao54 t318.length co54)) (fun _ hk => hk.2) (.int .i64 t321)) (fun _ hk => ⟨hk.1.1.1.1.1, ⟨hk.1.1.1.1.2.1, ⟨hk.1.1.1.1.2.2, hk.1.2⟩⟩⟩)⟩, ⟨by (with_reducible repeat (first | apply Kd.V_alloc | apply Kd.V_drewN | apply Kd.V_drew)); exact Kd.V_mono (Kd.V_far (p := ⟨gb323, 1, none⟩) (Kd.V_far (p := ⟨gb323, 0, none⟩) (Kd.V_mono HO320.out (fun k_ hk => (⟨hk, hk.2⟩ : _ ∧ k_ ≠ gb323))) (fun _ hk => hk.2) (.slice Ao54 t318.length co54)) (fun _ hk => hk.2) (.int .i64 t321)) (fun _ hk => ⟨hk.1.1.2.1, ⟨hk.1.1.2.2.1, ⟨hk.1.1.2.2.2, hk.1.2⟩⟩⟩)⟩, ⟨by (with_reducible repeat (first | refine blk_drewN ?_ _ | refine blk_drew ?_ | refine blk_alloc ?_ _)); refine blk_far ?_ NB288_323.out _; (with_reducible repeat (first | refine blk_drewN ?_ _ | refine blk_drew ?_ | refine blk_alloc ?_ _)); refine blk_far ?_ NB288_323.out _; (with_reducible repeat (first | refine blk_drewN ?_ _ | refine blk_drew ?_ | refine blk_alloc ?_ _)); exact BK288.out⟩, ⟨by (with_reducible repeat (first | refine blk_drewN ?_ _ | refine blk_drew ?_ | refine blk_alloc ?_ _)); refine blk_far ?_ NB301_323.out _; (with_reducible repeat (first | refine blk_drewN ?_ _ | refine blk_drew ?_ | refine blk_alloc ?_ _)); refine blk_far ?_ NB301_323.out _; (with_reducible repeat (first | refine blk_drewN ?_ _ | refine blk_drew ?_ | refine blk_alloc ?_ _)); exact BK301.out⟩, ⟨by (with_reducible repeat (first | refine blk_drewN ?_ _ | refine blk_drew ?_ | refine blk_alloc ?_ _)); refine blk_put (cs := #[.slice Ao54 t318.length co54, .int .i64 0]) ?_ 1 _ rfl; (with_reducible repeat (first | refine blk_drewN ?_ _ | refine blk_drew ?_ | refine blk_alloc ?_ _)); refine blk_put (cs := #[.slice none 0 0, .int .i64 0]) ?_ 0 _ rfl; (with_reducible repeat (first | refine blk_drewN ?_ _ | refine blk_drew ?_ | refine blk_alloc ?_ _)); exact BK323.out⟩, ⟨by repeat (first | (with_reducible first | exact HB.out | apply below_alloc | apply pw_below_drewN | apply below_drew1 | refine below_set ?_ GE288.out | refine below_set ?_ GE301.out | refine below_set ?_ GE323.out) | exact HB.out)⟩⟩
                      case rest =>
                        clear HC34
                        try clear c1
                        try clear c2
                        try clear p2
                        try clear c3
                        try clear c4
                        try clear c5
                        try clear c6
                        try clear p6
                        try clear c7
                        try clear c11
                        try clear c11b0
                        try clear c11b1
                        try clear c13
                        try clear c13b0
                        try clear c13b1
                        try clear c15
                        try clear c15b0
                        try clear c15b1
                        try clear c16
                        try clear c18
                        try clear c23
                        try clear c24
                        try clear c26
                        try clear c26b0
                        try clear c26b1
                        try clear c28
                        try clear c29
                        try clear c29b0
                        try clear c29b1
                        try clear c30
                        try clear c30b0
                        try clear c30b1
                        try clear c31
                        try clear c32
                        try clear c41
                        try clear c55
                        try clear c56
                        try clear c58
                        try clear c58b0
                        try clear c58b1
                        try clear c59
                        try clear c59b0
                        try clear c59b1
                        try clear c61
                        try clear c64
                        try clear p64
                        try clear c65
                        try clear c67
                        try clear hcz12_0
                        try clear hcz12_1
                        try clear hcz14_0
                        try clear hcz14_1
                        try clear hcz16_0
                        try clear hcz16_1
                        try clear hcz20_0
                        try clear hcz20_1
                        try clear hcz22_0
                        try clear hcz22_1
                        try clear hcz35_0
                        try clear hcz35_1
                        try clear hcz37_0
                        try clear hcz37_1
                        try clear hcz42_0
                        try clear hcz42_1
                        try clear hcz57_0
                        try clear hcz57_1
                        try clear hcz66_0
                        try clear hcz66_1
                        try clear hcz68_0
                        try clear hcz68_1
                        try clear hcz69_0
                        try clear hcz69_1
                        try clear hfz12_0
                        try clear hfz12_1
                        try clear hfz14_0
                        try clear hfz14_1
                        try clear hfz16_0
                        try clear hfz16_1
                        try clear hfz20_0
                        try clear hfz20_1
                        try clear hfz22_0
                        try clear hfz22_1
                        try clear hfz35_0
                        try clear hfz35_1
                        try clear hfz37_0
                        try clear hfz37_1
                        try clear hfz42_0
                        try clear hfz42_1
                        try clear hfz57_0
                        try clear hfz57_1
                        try clear hfz66_0
                        try clear hfz66_1
                        try clear hfz68_0
                        try clear hfz68_1
                        try clear hfz69_0
                        try clear hfz69_1
                        try clear p2
                        obtain ⟨kq, x111_33, rfl, HA, HJ33, HO_12, HO_302000, HO_324000, BK288, BK301, BK323, HB⟩ := hcut
                        cases kq with
                        | zero => exact absurd HA.out (by simp [affidavitlaw10_TapeSame.j1])
                        | succ kj33 =>
                          have H := HA.out
                          clear HA
                          simp only [affidavitlaw10_TapeSame.j1] at H
                          by_cases c72 : x111_33 = true
                          · subst c72
                            have H1 : (some false) = some r := by rw [if_pos rfl] at H; exact H
                            clear H
                            have H := H1
                            clear H1
                            exact absurd ((Option.some.inj H).trans HT.out) (by decide)
                          · replace c72 := Bool.eq_false_iff.mpr c72
                            subst c72
                            have H1 : ((tape_Counts.f a0 18446744073709551615).bind fun t325 => (if t325 = true then (some true) else (affidavitlaw10_TapeSame.l0 kj33 a0 (Int.tmod (wrap64 (a4)) (wrap64 (t292 + 1))) t293 ([] : List Int) a1_1 l1_0 a1_1))) = some r := by rw [if_neg (show ¬ (false = true) by decide)] at H; exact H
                            clear H
                            have H := H1
                            clear H1
                            replace H := Option.bind_eq_some_iff.mp H
                            obtain ⟨t325, A730, H⟩ := H
                            replace H : (if t325 = true then (some true) else (affidavitlaw10_TapeSame.l0 kj33 a0 (Int.tmod (wrap64 (a4)) (wrap64 (t292 + 1))) t293 ([] : List Int) a1_1 l1_0 a1_1)) = some r := H
                            have A73 := Aside0.mk A730
                            clear A730
                            by_cases c74 : t325 = true
                            · subst c74
                              have H1 : (some true) = some r := by rw [if_pos rfl] at H; exact H
                              clear H
                              have H := H1
                              clear H1
                              obtain rfl := Option.some.inj H
                              go_wp2_with (first | ((with_reducible refine gate_callee (f := 19) rfl ?_); refine goesL_ (some 113) rfl rfl Try.func19 (by kernel_rfl) rfl #[.int .u64 a0, .int .u64 18446744073709551615] rfl (by (try simp only [List.map_toArray, List.map_cons, List.map_nil]); first | done | rfl | (simp only [List.length_drop, List.length_take]; rfl)) ?_; (with_reducible refine (tape_Counts.calls a0 18446744073709551615 true _ A73.out).mono ?_); rintro e w' ⟨rfl, ⟨nd, rfl⟩⟩; refine ⟨_, rfl, ?_⟩))
                              go_ret
                              exact ⟨by first | rfl | (simp [errW_none, errW_some] <;> rfl) | (simp [*, errW_none, errW_some] <;> rfl), by repeat (first | (with_reducible first | exact HB.out | apply below_alloc | apply pw_below_drewN | apply below_drew1 | refine below_set ?_ GE288.out | refine below_set ?_ GE301.out | refine below_set ?_ GE323.out) | exact HB.out)⟩
                            · replace c74 := Bool.eq_false_iff.mpr c74
                              subst c74
                              have H1 : (affidavitlaw10_TapeSame.l0 kj33 a0 (Int.tmod (wrap64 (a4)) (wrap64 (t292 + 1))) t293 ([] : List Int) a1_1 l1_0 a1_1) = some r := by rw [if_neg (show ¬ (false = true) by decide)] at H; exact H
                              clear H
                              have H := H1
                              clear H1
                              have H' := Aside0.mk H
                              clear H
                              go_wp2_with (first | ((with_reducible refine gate_callee (f := 19) rfl ?_); refine goesL_ (some 113) rfl rfl Try.func19 (by kernel_rfl) rfl #[.int .u64 a0, .int .u64 18446744073709551615] rfl (by (try simp only [List.map_toArray, List.map_cons, List.map_nil]); first | done | rfl | (simp only [List.length_drop, List.length_take]; rfl)) ?_; (with_reducible refine (tape_Counts.calls a0 18446744073709551615 false _ A73.out).mono ?_); rintro e w' ⟨rfl, ⟨nd, rfl⟩⟩; refine ⟨_, rfl, ?_⟩; have hnb75 := NB288_301.out; have hnc75 := NB301_288.out; have hnb76 := NB288_323.out; have hnc76 := NB323_288.out; have hcz77_0 : wc.cell? ⟨gb288, 0, none⟩ = some (.slice A1_0 l1_0.length c1_0) := (blk_cell BK288.out 0).trans rfl; have hcz77_1 : wc.cell? ⟨gb288, 1, none⟩ = some (.int .i64 a1_1) := (blk_cell BK288.out 1).trans rfl; have hfz77_0 := blk_frozen BK288.out 0; have hfz77_1 := blk_frozen BK288.out 1))
                              go_loopg [19, 20] kj33 (fun kq v19 v20 w' => ∃ (x19_3 : List Int) (x20_3 : Int), v20 = .int .i64 x20_3 ∧ Aside0 (affidavitlaw10_TapeSame.l0 kq a0 (Int.tmod (wrap64 (a4)) (wrap64 (t292 + 1))) t293 x19_3 x20_3 l1_0 a1_1 = some r) ∧ Aside0 (kq ≤ kj33) ∧ Aside0 (Kd.R (Kd.int .u64) 22 w' w.heap.size (fun k_ => some k_ ≠ (v19 : Value).ownBlock) v294 t293) ∧ Aside0 (Kd.R (Kd.int .u64) 22 w' w.heap.size (fun k_ => some k_ ≠ (v294 : Value).ownBlock) v19 x19_3) ∧ Aside0 (Kd.V (Kd.int .u64) 22 w' w.heap.size (fun k_ => some k_ ≠ (v294 : Value).ownBlock ∧ some k_ ≠ (v19 : Value).ownBlock ∧ k_ ≠ gb288 ∧ k_ ≠ gb301 ∧ k_ ≠ gb323) (.slice Ao40 t296.length co40) t296) ∧ Aside0 (Kd.V (Kd.int .u64) 22 w' w.heap.size (fun k_ => some k_ ≠ (v294 : Value).ownBlock ∧ some k_ ≠ (v19 : Value).ownBlock ∧ k_ ≠ gb288 ∧ k_ ≠ gb301 ∧ k_ ≠ gb323) (.slice Ao54 t318.length co54) t318) ∧ Aside0 (w'.heap[gb288]? = some (.cells #[(.slice A1_0 l1_0.length c1_0), .int .i64 a1_1] 25 (0, 0))) ∧ Aside0 (w'.heap[gb301]? = some (.cells #[(.slice Ao40 t296.length co40), .int .i64 t299] 25 (0, 0))) ∧ Aside0 (w'.heap[gb323]? = some (.cells #[(.slice Ao54 t318.length co54), .int .i64 t321] 25 (0, 0))) ∧ Aside0 (Below w.heap.size w w'))
                              case atStart => exact ⟨(([] : List Int)), (a1_1), (by first | rfl | (simp; done) | (simp [*]; done)), H', ⟨Nat.le_refl _⟩, ⟨by (with_reducible repeat (first | apply Kd.R_alloc | apply Kd.R_drewN | apply Kd.R_drew)); exact Kd.R_mono HO_12.out (fun _ hk => (by simp [Value.ownBlock]))⟩, ⟨by first | exact Kd.R_nil _ _ _ _ _ | exact Kd.N_nil _ _ _ _ _ | exact Kd.V_nil _ _ _ _ _ | exact Kd.Q_nil _ _ _ _ _ | exact Kd.S_nil _ _ _ _ _⟩, ⟨by (with_reducible repeat (first | apply Kd.V_alloc | apply Kd.V_drewN | apply Kd.V_drew)); exact Kd.V_mono HO_302000.out (fun _ hk => ⟨hk.1, ⟨(by simp [Value.ownBlock]), ⟨hk.2.1, ⟨hk.2.2.1, hk.2.2.2⟩⟩⟩⟩)⟩, ⟨by (with_reducible repeat (first | apply Kd.V_alloc | apply Kd.V_drewN | apply Kd.V_drew)); exact Kd.V_mono HO_324000.out (fun _ hk => ⟨hk.1, ⟨(by simp [Value.ownBlock]), ⟨hk.2.1, ⟨hk.2.2.1, hk.2.2.2⟩⟩⟩⟩)⟩, ⟨by (with_reducible repeat (first | refine blk_drewN ?_ _ | refine blk_drew ?_ | refine blk_alloc ?_ _)); exact BK288.out⟩, ⟨by (with_reducible repeat (first | refine blk_drewN ?_ _ | refine blk_drew ?_ | refine blk_alloc ?_ _)); exact BK301.out⟩, ⟨by (with_reducible repeat (first | refine blk_drewN ?_ _ | refine blk_drew ?_ | refine blk_alloc ?_ _)); exact BK323.out⟩, ⟨by repeat (first | (with_reducible first | exact HB.out | apply below_alloc | apply pw_below_drewN | apply below_drew1 | refine below_set ?_ GE288.out | refine below_set ?_ GE301.out | refine below_set ?_ GE323.out) | exact HB.out)⟩⟩
                              case round =>
                                clear H'
                                try clear c1
                                try clear c2
                                try clear p2
                                try clear c3
                                try clear c4
                                try clear c5
                                try clear c6
                                try clear p6
                                try clear c7
                                try clear c11
                                try clear c11b0
                                try clear c11b1
                                try clear c13
                                try clear c13b0
                                try clear c13b1
                                try clear c15
                                try clear c15b0
                                try clear c15b1
                                try clear c16
                                try clear c18
                                try clear c19
                                try clear c23
                                try clear c24
                                try clear c26
                                try clear c26b0
                                try clear c26b1
                                try clear c28
                                try clear c29
                                try clear c29b0
                                try clear c29b1
                                try clear c30
                                try clear c30b0
                                try clear c30b1
                                try clear c31
                                try clear c32
                                try clear c41
                                try clear c55
                                try clear c56
                                try clear c58
                                try clear c58b0
                                try clear c58b1
                                try clear c59
                                try clear c59b0
                                try clear c59b1
                                try clear c61
                                try clear c64
                                try clear p64
                                try clear c65
                                try clear c67
                                try clear c72
                                try clear c74
                                try clear c75
                                try clear c76
                                try clear hcz12_0
                                try clear hcz12_1
                                try clear hcz14_0
                                try clear hcz14_1
                                try clear hcz16_0
                                try clear hcz16_1
                                try clear hcz20_0
                                try clear hcz20_1
                                try clear hcz22_0
                                try clear hcz22_1
                                try clear hcz35_0
                                try clear hcz35_1
                                try clear hcz37_0
                                try clear hcz37_1
                                try clear hcz42_0
                                try clear hcz42_1
                                try clear hcz57_0
                                try clear hcz57_1
                                try clear hcz66_0
                                try clear hcz66_1
                                try clear hcz68_0
                                try clear hcz68_1
                                try clear hcz69_0
                                try clear hcz69_1
                                try clear hcz77_0
                                try clear hcz77_1
                                try clear hfz12_0
                                try clear hfz12_1
                                try clear hfz14_0
                                try clear hfz14_1
                                try clear hfz16_0
                                try clear hfz16_1
                                try clear hfz20_0
                                try clear hfz20_1
                                try clear hfz22_0
                                try clear hfz22_1
                                try clear hfz35_0
                                try clear hfz35_1
                                try clear hfz37_0
                                try clear hfz37_1
                                try clear hfz42_0
                                try clear hfz42_1
                                try clear hfz57_0
                                try clear hfz57_1
                                try clear hfz66_0
                                try clear hfz66_1
                                try clear hfz68_0
                                try clear hfz68_1
                                try clear hfz69_0
                                try clear hfz69_1
                                try clear hfz77_0
                                try clear hfz77_1
                                try clear p2
                                try clear p6
                                try clear p64
                                obtain ⟨x19_3, x20_3, rfl, HA, HK3, HO_12, HO_19, HO_302000, HO_324000, BK288, BK301, BK323, HB⟩ := hrel
                                cases gk with
                                | zero => exact absurd HA.out (by simp [affidavitlaw10_TapeSame.l0])
                                | succ k3 =>
                                  have H := HA.out
                                  clear HA
                                  simp only [affidavitlaw10_TapeSame.l0] at H
                                  by_cases c78 : x20_3 < (l1_0.length : Int)
                                  · rw [if_pos c78] at H
                                    have c78b0 : decide (x20_3 < (l1_0.length : Int)) = true := decide_eq_true c78
                                    clear c78
                                    by_cases c79 : 0 ≤ x20_3
                                    · rw [if_pos c79] at H
                                      have c79b0 : decide (0 ≤ x20_3) = true := decide_eq_true c79
                                      clear c79
                                      obtain ⟨y327, hy327⟩ : ∃ y_ : List Int, y_ = (([18446744073709551615, rd l1_0 x20_3] : List Int)) := ⟨_, rfl⟩
                                      replace H : (if x19_3.length + y327.length < 17592186044416 then (affidavitlaw10_TapeSame.l0 k3 a0 (Int.tmod (wrap64 (a4)) (wrap64 (t292 + 1))) t293 (x19_3 ++ y327) (wrap64 (x20_3 + 1)) l1_0 a1_1) else (none)) = some r := by first | (rw [hy327]; with_reducible exact H) | (have H2_ := (Option.bind_some _ _).symm.trans H; rw [hy327]; with_reducible exact H2_) | (have H2_ := (Option.bind_some _ _).symm.trans H; with_reducible exact H2_) | with_reducible exact H | (rw [hy327]; exact H) | exact H
                                      have Ny327 := Aside0.mk hy327
                                      clear hy327
                                      by_cases c80 : x19_3.length + y327.length < 17592186044416
                                      · rw [if_pos c80] at H
                                        have LMc80 := Aside0.mk c80
                                        clear c80
                                        obtain ⟨y330, hy330⟩ : ∃ y_ : List Int, y_ = (x19_3 ++ y327) := ⟨_, rfl⟩
                                        replace H : (affidavitlaw10_TapeSame.l0 k3 a0 (Int.tmod (wrap64 (a4)) (wrap64 (t292 + 1))) t293 y330 (wrap64 (x20_3 + 1)) l1_0 a1_1) = some r := by first | (rw [hy330]; with_reducible exact H) | (have H2_ := (Option.bind_some _ _).symm.trans H; rw [hy330]; with_reducible exact H2_) | (have H2_ := (Option.bind_some _ _).symm.trans H; with_reducible exact H2_) | with_reducible exact H | (rw [hy330]; exact H) | exact H
                                        have Ny330 := Aside0.mk hy330
                                        clear hy330
                                        have H' := Aside0.mk H
                                        clear H
                                        have hnb81 := NB288_301.out
                                        have hnc81 := NB301_288.out
                                        have hnb82 := NB288_323.out
                                        have hnc82 := NB323_288.out
                                        have hcz83_0 : wr.cell? ⟨gb288, 0, none⟩ = some (.slice A1_0 l1_0.length c1_0) := (blk_cell BK288.out 0).trans rfl
                                        have hcz83_1 : wr.cell? ⟨gb288, 1, none⟩ = some (.int .i64 a1_1) := (blk_cell BK288.out 1).trans rfl
                                        have hfz83_0 := blk_frozen BK288.out 0
                                        have hfz83_1 := blk_frozen BK288.out 1
                                        have p326 : 0 ≤ (x20_3 : Int) := of_decide_eq_true (by first | (with_reducible assumption) | assumption)
                                        have q326 : x20_3 < (l1_0.length : Int) := of_decide_eq_true (by first | (with_reducible assumption) | assumption)
                                        obtain ⟨ad326, e326, hx326_0⟩ := Kd.at_int HR1_0.out x20_3 p326 q326
                                        cases e326
                                        replace hx326_0 := (HB.out.cell (World.block_lt_of_cell? w _ hx326_0)).trans hx326_0
                                        replace p326 := eq_true p326
                                        replace q326 := eq_true q326
                                        go_wp2_with (first | ((with_reducible refine gate_dst (N := 129) rfl ?_); (try (refine gate_guard (by rfl) ?_; dsimp only)); refine Kd.R_lit (Kd.int .u64) _ 22 ?hg (N := 129) ?hd (xs := ([18446744073709551615, rd l1_0 x20_3] : List Int)) (inner := [.int .u64 18446744073709551615, .int .u64 (rd l1_0 x20_3)]) (ok := fun _ => True) (okp := fun _ => True) ?hr ?hp (fun _ hk => hk) trivial (Below.refl _ _) (Nat.le_refl _) (by simp) ?_; (case hd => rfl); (case hg => rfl); (case hr => first | (go_simp; done) | (go_simp; rfl)); (case hp => exact (Reps.one (show Kd.M (Kd.int .u64) _ _ _ 18446744073709551615 [.int .u64 18446744073709551615] from rfl) (Reps.one (show Kd.M (Kd.int .u64) _ _ _ (rd l1_0 x20_3) [.int .u64 (rd l1_0 x20_3)] from rfl) (Reps.none _ _)))); intro v328 w84 ho85 hb hg_ hnew_; clear hg_ hnew_; (first | rw [← Ny327.out] at ho85 | (simp only [Int.reduceToNat] at ho85; rw [← Ny327.out] at ho85)); have n0_ := Aside0.mk (Kd.R_elder' (by (with_reducible repeat (first | apply Kd.R_alloc | apply Kd.R_drewN | apply Kd.R_drew)); exact HO_12.out) (Kd.R_base ho85) hb); have n1_ := Aside0.mk (Kd.R_elder' (by (with_reducible repeat (first | apply Kd.R_alloc | apply Kd.R_drewN | apply Kd.R_drew)); exact HO_19.out) (Kd.R_base ho85) hb); have n2_ := Aside0.mk (Kd.V_elder' (by (with_reducible repeat (first | apply Kd.V_alloc | apply Kd.V_drewN | apply Kd.V_drew)); exact HO_302000.out) (Kd.R_base ho85) hb); have n3_ := Aside0.mk (Kd.V_elder' (by (with_reducible repeat (first | apply Kd.V_alloc | apply Kd.V_drewN | apply Kd.V_drew)); exact HO_324000.out) (Kd.R_base ho85) hb); have n4_ := Aside0.mk (Kd.R_lower (Kd.R_new' (Kd.R_new' ho85 (Kd.R_lt (by (with_reducible repeat (first | apply Kd.R_alloc | apply Kd.R_drewN | apply Kd.R_drew)); exact HO_12.out))) (Kd.R_lt (by (with_reducible repeat (first | apply Kd.R_alloc | apply Kd.R_drewN | apply Kd.R_drew)); exact HO_19.out))) (below_size (by repeat (first | (with_reducible first | exact HB.out | apply below_alloc | apply pw_below_drewN | apply below_drew1 | refine below_set ?_ GE288.out | refine below_set ?_ GE301.out | refine below_set ?_ GE323.out) | exact HB.out)))); have n5_ := Aside0.mk (blk_below (g := gb288) (o := .cells #[.slice (some ad326) l1_0.length c1_0, .int .i64 a1_1] 25 (0, 0)) (by (with_reducible repeat (first | refine blk_drewN ?_ _ | refine blk_drew ?_ | refine blk_alloc ?_ _)); exact BK288.out) hb); have n6_ := Aside0.mk (blk_below (g := gb301) (o := .cells #[.slice Ao40 t296.length co40, .int .i64 t299] 25 (0, 0)) (by (with_reducible repeat (first | refine blk_drewN ?_ _ | refine blk_drew ?_ | refine blk_alloc ?_ _)); exact BK301.out) hb); have n7_ := Aside0.mk (blk_below (g := gb323) (o := .cells #[.slice Ao54 t318.length co54, .int .i64 t321] 25 (0, 0)) (by (with_reducible repeat (first | refine blk_drewN ?_ _ | refine blk_drew ?_ | refine blk_alloc ?_ _)); exact BK323.out) hb); have n8_ := Aside0.mk (below_step (by repeat (first | (with_reducible first | exact HB.out | apply below_alloc | apply pw_below_drewN | apply below_drew1 | refine below_set ?_ GE288.out | refine below_set ?_ GE301.out | refine below_set ?_ GE323.out) | exact HB.out)) hb); clear HO_12; clear HO_19; clear HO_302000; clear HO_324000; clear BK288; clear BK301; clear BK323; clear HB; have HO_12 := n0_; have HO_19 := n1_; have HO_302000 := n2_; have HO_324000 := n3_; have HO329 := n4_; have BK288 := n5_; have BK301 := n6_; have BK323 := n7_; have HB := n8_; clear n0_ n1_ n2_ n3_ n4_ n5_ n6_ n7_ n8_; clear hb ho85; obtain ⟨Ao87, co87, eo87⟩ := Kd.R_slice HO329.out; subst eo87) | ((with_reducible refine gate_builtin (b := .append) (xs := #[.tmp 123, .tmp 129]) rfl ?_); (try (refine gate_guard (by rfl) ?_; dsimp only)); at_builtin; refine Kd.R_append_rows (Kd.int .u64) (w0 := w) w.heap.size rfl (.tmp 123) (.tmp 129) 23 22 (.int .u64 0) 8 rfl Try.underlying23 info22 rfl (by decide) (by omega) u19 x19_3 y327 _ _ _ (fun k_ => some k_ ≠ (v294 : Value).ownBlock ∧ some k_ ≠ (.slice Ao87 y327.length co87 : Value).ownBlock) (fun _ => False) rfl rfl ?aO ?aR (fun _ _ h => h) (fun _ h => h.elim) ?aF ?aB ?aS ?aL ?_; (case aR => repeat (first | exact (Kd.R_reads' HO329.out).2.2 | (with_reducible refine Kd.C_alloc ?_ _) | (with_reducible refine Kd.C_drewN ?_ _) | (with_reducible refine Kd.C_drew ?_))); (case aB => exact (by repeat (first | (with_reducible first | exact HB.out | apply below_alloc | apply pw_below_drewN | apply below_drew1 | refine below_set ?_ GE288.out | refine below_set ?_ GE301.out | refine below_set ?_ GE323.out) | exact HB.out))); (case aF => exact (fun k_ hk => ⟨Kd.fresh' (Kd.R_lt (by (with_reducible repeat (first | apply Kd.R_alloc | apply Kd.R_drewN | apply Kd.R_drew)); exact HO_12.out)) k_ hk, Kd.fresh' (Kd.R_lt (by (with_reducible repeat (first | apply Kd.R_alloc | apply Kd.R_drewN | apply Kd.R_drew)); exact HO329.out)) k_ hk⟩)); (case aO => exact (by (with_reducible repeat (first | apply Kd.R_alloc | apply Kd.R_drewN | apply Kd.R_drew)); exact HO_19.out)); (case aS => exact (below_size (by repeat (first | (with_reducible first | exact HB.out | apply below_alloc | apply pw_below_drewN | apply below_drew1 | refine below_set ?_ GE288.out | refine below_set ?_ GE301.out | refine below_set ?_ GE323.out) | exact HB.out)))); (case aL => have := LMc80.out; omega); intro v331 w86 ho hb hg hat; rw [← Ny330.out] at ho; have n0_ := Aside0.mk (Kd.R_after (ok := (fun k_ => some k_ ≠ (.slice Ao87 y327.length co87 : Value).ownBlock)) (by (with_reducible repeat (first | apply Kd.R_alloc | apply Kd.R_drewN | apply Kd.R_drew)); exact Kd.R_mono HO_12.out (fun _ hk => ⟨hk.2, hk.1⟩)) hg hat); have n1_ := Aside0.mk (Kd.V_afterv (ok := (fun k_ => some k_ ≠ (v294 : Value).ownBlock ∧ some k_ ≠ (.slice Ao87 y327.length co87 : Value).ownBlock ∧ k_ ≠ gb288 ∧ k_ ≠ gb301 ∧ k_ ≠ gb323)) (by (with_reducible repeat (first | apply Kd.V_alloc | apply Kd.V_drewN | apply Kd.V_drew)); exact Kd.V_mono HO_302000.out (fun _ hk => ⟨⟨hk.1.1, ⟨hk.2, ⟨hk.1.2.2.1, ⟨hk.1.2.2.2.1, hk.1.2.2.2.2⟩⟩⟩⟩, hk.1.2.1⟩)) hg hat); have n2_ := Aside0.mk (Kd.V_afterv (ok := (fun k_ => some k_ ≠ (v294 : Value).ownBlock ∧ some k_ ≠ (.slice Ao87 y327.length co87 : Value).ownBlock ∧ k_ ≠ gb288 ∧ k_ ≠ gb301 ∧ k_ ≠ gb323)) (by (with_reducible repeat (first | apply Kd.V_alloc | apply Kd.V_drewN | apply Kd.V_drew)); exact Kd.V_mono HO_324000.out (fun _ hk => ⟨⟨hk.1.1, ⟨hk.2, ⟨hk.1.2.2.1, ⟨hk.1.2.2.2.1, hk.1.2.2.2.2⟩⟩⟩⟩, hk.1.2.1⟩)) hg hat); have n3_ := Aside0.mk (blk_grown (g := gb288) (o := .cells #[.slice (some ad326) l1_0.length c1_0, .int .i64 a1_1] 25 (0, 0)) (by (with_reducible repeat (first | refine blk_drewN ?_ _ | refine blk_drew ?_ | refine blk_alloc ?_ _)); exact BK288.out) hg (Kd.R_ne HO_19.out BK288.out (by decide))); have n4_ := Aside0.mk (blk_grown (g := gb301) (o := .cells #[.slice Ao40 t296.length co40, .int .i64 t299] 25 (0, 0)) (by (with_reducible repeat (first | refine blk_drewN ?_ _ | refine blk_drew ?_ | refine blk_alloc ?_ _)); exact BK301.out) hg (Kd.R_ne HO_19.out BK301.out (by decide))); have n5_ := Aside0.mk (blk_grown (g := gb323) (o := .cells #[.slice Ao54 t318.length co54, .int .i64 t321] 25 (0, 0)) (by (with_reducible repeat (first | refine blk_drewN ?_ _ | refine blk_drew ?_ | refine blk_alloc ?_ _)); exact BK323.out) hg (Kd.R_ne HO_19.out BK323.out (by decide))); have n6_ := Aside0.mk (Kd.R_after (ok := (fun k_ => some k_ ≠ (v294 : Value).ownBlock)) (by (with_reducible repeat (first | apply Kd.R_alloc | apply Kd.R_drewN | apply Kd.R_drew)); exact Kd.R_mono HO329.out (fun _ hk => ⟨hk.1.2, hk.2⟩)) hg hat); have n7_ := Aside0.mk (hb); have n8_ := Aside0.mk (ho); clear HO_12; clear HO_302000; clear HO_324000; clear BK288; clear BK301; clear BK323; clear HO329; clear HB; clear HO_19; have HO_12 := n0_; have HO_302000 := n1_; have HO_324000 := n2_; have BK288 := n3_; have BK301 := n4_; have BK323 := n5_; have HO329 := n6_; have HB := n7_; have HO332 := n8_; clear n0_ n1_ n2_ n3_ n4_ n5_ n6_ n7_ n8_; clear ho hb hg hat))
                                        go_roundg k3
                                        case measure => have := HJ7.out; have := HJ33.out; have := HK3.out; omega
                                        case rel => exact ⟨(y330), (wrap64 (x20_3 + 1)), (by first | rfl | (simp; done) | (simp [*]; done)), H', ⟨by have := HJ7.out; have := HJ33.out; have := HK3.out; omega⟩, ⟨by (with_reducible repeat (first | apply Kd.R_alloc | apply Kd.R_drewN | apply Kd.R_drew)); exact Kd.R_mono HO_12.out (fun _ hk => hk.2)⟩, ⟨by (with_reducible repeat (first | apply Kd.R_alloc | apply Kd.R_drewN | apply Kd.R_drew)); exact Kd.R_mono HO332.out (fun _ hk => hk.1)⟩, ⟨by (with_reducible repeat (first | apply Kd.V_alloc | apply Kd.V_drewN | apply Kd.V_drew)); exact Kd.V_mono HO_302000.out (fun _ hk => ⟨hk.1.1, ⟨hk.2, ⟨hk.1.2.2.1, ⟨hk.1.2.2.2.1, hk.1.2.2.2.2⟩⟩⟩⟩)⟩, ⟨by (with_reducible repeat (first | apply Kd.V_alloc | apply Kd.V_drewN | apply Kd.V_drew)); exact Kd.V_mono HO_324000.out (fun _ hk => ⟨hk.1.1, ⟨hk.2, ⟨hk.1.2.2.1, ⟨hk.1.2.2.2.1, hk.1.2.2.2.2⟩⟩⟩⟩)⟩, ⟨by (with_reducible repeat (first | refine blk_drewN ?_ _ | refine blk_drew ?_ | refine blk_alloc ?_ _)); exact BK288.out⟩, ⟨by (with_reducible repeat (first | refine blk_drewN ?_ _ | refine blk_drew ?_ | refine blk_alloc ?_ _)); exact BK301.out⟩, ⟨by (with_reducible repeat (first | refine blk_drewN ?_ _ | refine blk_drew ?_ | refine blk_alloc ?_ _)); exact BK323.out⟩, ⟨by repeat (first | (with_reducible first | exact HB.out | apply below_alloc | apply pw_below_drewN | apply below_drew1 | refine below_set ?_ GE288.out | refine below_set ?_ GE301.out | refine below_set ?_ GE323.out) | exact HB.out)⟩⟩
                                      · rw [if_neg c80] at H
                                        exact absurd H (by simp)
                                    · rw [if_neg c79] at H
                                      exact absurd H (by simp)
                                  · rw [if_neg c78] at H
                                    have c78b0 : decide (x20_3 < (l1_0.length : Int)) = false := decide_eq_false c78
                                    clear c78
                                    replace H := Option.bind_eq_some_iff.mp H
                                    obtain ⟨⟨t333, t336, t339, t340⟩, A880, H⟩ := H
                                    replace H : (if t340 = 0 then ((affidavitref01_Same.f k3 t333 t293).bind fun t342 => (some t342)) else (some false)) = some r := H
                                    have A88 := Aside0.mk A880
                                    clear A880
                                    by_cases c89 : t340 = 0
                                    · rw [if_pos c89] at H
                                      have c89b0 : (t340 == 0) = true := beq_iff_eq.mpr c89
                                      have c89b1 : (t340 != 0) = false := bne_eq_false_iff_eq.mpr c89
                                      clear c89
                                      replace H := Option.bind_eq_some_iff.mp H
                                      obtain ⟨t342, A900, H⟩ := H
                                      replace H : (some t342) = some r := H
                                      have A90 := Aside0.mk A900
                                      clear A900
                                      obtain rfl := Option.some.inj H
                                      have hnb91 := NB288_301.out
                                      have hnc91 := NB301_288.out
                                      have hnb92 := NB288_323.out
                                      have hnc92 := NB323_288.out
                                      have hcz93_0 : wr.cell? ⟨gb288, 0, none⟩ = some (.slice A1_0 l1_0.length c1_0) := (blk_cell BK288.out 0).trans rfl
                                      have hcz93_1 : wr.cell? ⟨gb288, 1, none⟩ = some (.int .i64 a1_1) := (blk_cell BK288.out 1).trans rfl
                                      have hfz93_0 := blk_frozen BK288.out 0
                                      have hfz93_1 := blk_frozen BK288.out 1
                                      obtain ⟨Ao94, co94, eo94⟩ := Kd.R_slice HO_19.out
                                      subst eo94
                                      go_wp2_with (first | ((with_reducible refine gate_callee (f := 16) rfl ?_); refine goesL_ (some 136) rfl rfl Try.func16 (by kernel_rfl) rfl #[.int .u64 a0, .agg #[.slice Ao94 x19_3.length co94, .int .i64 0], .int .i64 (Int.tmod (wrap64 (a4)) (wrap64 (t292 + 1)))] rfl (by (try simp only [List.map_toArray, List.map_cons, List.map_nil]); first | done | rfl | (simp only [List.length_drop, List.length_take]; rfl)) ?_; (with_reducible refine (tape_Many.calls k3 a0 (fun k_ => some k_ = (.slice Ao94 x19_3.length co94 : Value).ownBlock) _ _ x19_3 0 (Int.tmod (wrap64 (a4)) (wrap64 (t292 + 1))) t333 t336 t339 t340 _ ?side1 A88.out).mono ?_); (case side1 => exact Kd.R_V (Kd.R_tight rfl (Kd.R_types (Kd.R_types (Kd.R_types (HO_19.out) BK288.out (by decide)) BK301.out (by decide)) BK323.out (by decide)))); rintro e w95 ⟨v334, v337, rfl, ho0, ho1, hb⟩; refine ⟨_, rfl, ?_⟩; have n0_ := Aside0.mk (Kd.R_elder' (by (with_reducible repeat (first | apply Kd.R_alloc | apply Kd.R_drewN | apply Kd.R_drew)); exact HO_12.out) (Kd.R_base ho0) hb); have n1_ := Aside0.mk (Kd.R_elder' (by (with_reducible repeat (first | apply Kd.R_alloc | apply Kd.R_drewN | apply Kd.R_drew)); exact HO_19.out) (Kd.R_base ho0) hb); have n2_ := Aside0.mk (Kd.V_elder' (by (with_reducible repeat (first | apply Kd.V_alloc | apply Kd.V_drewN | apply Kd.V_drew)); exact HO_302000.out) (Kd.R_base ho0) hb); have n3_ := Aside0.mk (Kd.V_elder' (by (with_reducible repeat (first | apply Kd.V_alloc | apply Kd.V_drewN | apply Kd.V_drew)); exact HO_324000.out) (Kd.R_base ho0) hb); have n4_ := Aside0.mk (Kd.R_lower (Kd.R_new' (Kd.R_new' (Kd.R_mono (ok' := fun k_ => True) ho0 (fun _ hk_ => trivial)) (Kd.R_lt (by (with_reducible repeat (first | apply Kd.R_alloc | apply Kd.R_drewN | apply Kd.R_drew)); exact HO_12.out))) (Kd.R_lt (by (with_reducible repeat (first | apply Kd.R_alloc | apply Kd.R_drewN | apply Kd.R_drew)); exact HO_19.out))) (below_size (by repeat (first | (with_reducible first | exact HB.out | apply below_alloc | apply pw_below_drewN | apply below_drew1 | refine below_set ?_ GE288.out | refine below_set ?_ GE301.out | refine below_set ?_ GE323.out) | exact HB.out)))); have n5_ := Aside0.mk (Kd.V_lower (Kd.V_mono (ok' := fun k_ => some k_ ≠ (v334 : Value).ownBlock ∧ some k_ ≠ (v294 : Value).ownBlock ∧ k_ ≠ gb288 ∧ k_ ≠ gb301 ∧ k_ ≠ gb323) ho1 (fun k_ hk_ => ⟨hk_.2, Or.elim hk_.1 (fun hs_ => ((Kd.R_types (Kd.R_types (Kd.R_types (HO_19.out) BK288.out (by decide)) BK301.out (by decide)) BK323.out (by decide)).1 k_ hs_.symm).1.1.1) (fun hn_ => (Kd.fresh' (Kd.R_lt (by (with_reducible repeat (first | apply Kd.R_alloc | apply Kd.R_drewN | apply Kd.R_drew)); exact HO_12.out)) k_ hn_)), Or.elim hk_.1 (fun hs_ => ((Kd.R_types (Kd.R_types (Kd.R_types (HO_19.out) BK288.out (by decide)) BK301.out (by decide)) BK323.out (by decide)).1 k_ hs_.symm).1.1.2) (fun hn_ => (Kd.freshB (g := gb288) (o := .cells #[.slice A1_0 l1_0.length c1_0, .int .i64 a1_1] 25 (0, 0)) (by (with_reducible repeat (first | refine blk_drewN ?_ _ | refine blk_drew ?_ | refine blk_alloc ?_ _)); exact BK288.out) k_ hn_)), Or.elim hk_.1 (fun hs_ => ((Kd.R_types (Kd.R_types (Kd.R_types (HO_19.out) BK288.out (by decide)) BK301.out (by decide)) BK323.out (by decide)).1 k_ hs_.symm).1.2) (fun hn_ => (Kd.freshB (g := gb301) (o := .cells #[.slice Ao40 t296.length co40, .int .i64 t299] 25 (0, 0)) (by (with_reducible repeat (first | refine blk_drewN ?_ _ | refine blk_drew ?_ | refine blk_alloc ?_ _)); exact BK301.out) k_ hn_)), Or.elim hk_.1 (fun hs_ => ((Kd.R_types (Kd.R_types (Kd.R_types (HO_19.out) BK288.out (by decide)) BK301.out (by decide)) BK323.out (by decide)).1 k_ hs_.symm).2) (fun hn_ => (Kd.freshB (g := gb323) (o := .cells #[.slice Ao54 t318.length co54, .int .i64 t321] 25 (0, 0)) (by (with_reducible repeat (first | refine blk_drewN ?_ _ | refine blk_drew ?_ | refine blk_alloc ?_ _)); exact BK323.out) k_ hn_))⟩)) (below_size (by repeat (first | (with_reducible first | exact HB.out | apply below_alloc | apply pw_below_drewN | apply below_drew1 | refine below_set ?_ GE288.out | refine below_set ?_ GE301.out | refine below_set ?_ GE323.out) | exact HB.out)))); have n6_ := Aside0.mk (blk_below (g := gb288) (o := .cells #[.slice A1_0 l1_0.length c1_0, .int .i64 a1_1] 25 (0, 0)) (by (with_reducible repeat (first | refine blk_drewN ?_ _ | refine blk_drew ?_ | refine blk_alloc ?_ _)); exact BK288.out) hb); have n7_ := Aside0.mk (blk_below (g := gb301) (o := .cells #[.slice Ao40 t296.length co40, .int .i64 t299] 25 (0, 0)) (by (with_reducible repeat (first | refine blk_drewN ?_ _ | refine blk_drew ?_ | refine blk_alloc ?_ _)); exact BK301.out) hb); have n8_ := Aside0.mk (blk_below (g := gb323) (o := .cells #[.slice Ao54 t318.length co54, .int .i64 t321] 25 (0, 0)) (by (with_reducible repeat (first | refine blk_drewN ?_ _ | refine blk_drew ?_ | refine blk_alloc ?_ _)); exact BK323.out) hb); have n9_ := Aside0.mk (below_step (by repeat (first | (with_reducible first | exact HB.out | apply below_alloc | apply pw_below_drewN | apply below_drew1 | refine below_set ?_ GE288.out | refine below_set ?_ GE301.out | refine below_set ?_ GE323.out) | exact HB.out)) hb); clear HO_12; clear HO_19; clear HO_302000; clear HO_324000; clear BK288; clear BK301; clear BK323; clear HB; have HO_12 := n0_; have HO_19 := n1_; have HO_302000 := n2_; have HO_324000 := n3_; have HO335 := n4_; have HO338 := n5_; have BK288 := n6_; have BK301 := n7_; have BK323 := n8_; have HB := n9_; clear n0_ n1_ n2_ n3_ n4_ n5_ n6_ n7_ n8_ n9_; (try clear hb); (try clear hb2); (try clear hk); (try clear hi); (try clear ho0); (try clear ho1)) | ((with_reducible refine gate_dst (N := 22) rfl ?_); (try (refine gate_guard (by rfl) ?_; dsimp only)); refine box_event ?hg (N := 22) ?hd (cs := #[.slice none 0 0, .int .i64 0]) (t := 25) ?hr ?_; (case hd => rfl); (case hg => rfl); (case hr => first | (go_simp; done) | (go_simp; rfl)); intro gb341 hg w96 hbox hb; have n0_ := Aside0.mk (Kd.R_below (by (with_reducible repeat (first | apply Kd.R_alloc | apply Kd.R_drewN | apply Kd.R_drew)); exact HO_12.out) hb); have n1_ := Aside0.mk (Kd.R_below (by (with_reducible repeat (first | apply Kd.R_alloc | apply Kd.R_drewN | apply Kd.R_drew)); exact HO_19.out) hb); have n2_ := Aside0.mk (Kd.V_below (Kd.V_elderB (by (with_reducible repeat (first | apply Kd.V_alloc | apply Kd.V_drewN | apply Kd.V_drew)); exact HO_302000.out) gb341 (Nat.le_of_eq hg.symm)) hb); have n3_ := Aside0.mk (Kd.V_below (Kd.V_elderB (by (with_reducible repeat (first | apply Kd.V_alloc | apply Kd.V_drewN | apply Kd.V_drew)); exact HO_324000.out) gb341 (Nat.le_of_eq hg.symm)) hb); have n4_ := Aside0.mk (Kd.R_below (by (with_reducible repeat (first | apply Kd.R_alloc | apply Kd.R_drewN | apply Kd.R_drew)); exact HO335.out) hb); have n5_ := Aside0.mk (Kd.V_below (Kd.V_elderB (by (with_reducible repeat (first | apply Kd.V_alloc | apply Kd.V_drewN | apply Kd.V_drew)); exact HO338.out) gb341 (Nat.le_of_eq hg.symm)) hb); have n6_ := Aside0.mk (blk_below (g := gb288) (o := .cells #[.slice A1_0 l1_0.length c1_0, .int .i64 a1_1] 25 (0, 0)) (by (with_reducible repeat (first | refine blk_drewN ?_ _ | refine blk_drew ?_ | refine blk_alloc ?_ _)); exact BK288.out) hb); have n7_ := Aside0.mk (blk_below (g := gb301) (o := .cells #[.slice Ao40 t296.length co40, .int .i64 t299] 25 (0, 0)) (by (with_reducible repeat (first | refine blk_drewN ?_ _ | refine blk_drew ?_ | refine blk_alloc ?_ _)); exact BK301.out) hb); have n8_ := Aside0.mk (blk_below (g := gb323) (o := .cells #[.slice Ao54 t318.length co54, .int .i64 t321] 25 (0, 0)) (by (with_reducible repeat (first | refine blk_drewN ?_ _ | refine blk_drew ?_ | refine blk_alloc ?_ _)); exact BK323.out) hb); have n9_ := Aside0.mk (below_step (by repeat (first | (with_reducible first | exact HB.out | apply below_alloc | apply pw_below_drewN | apply below_drew1 | refine below_set ?_ GE288.out | refine below_set ?_ GE301.out | refine below_set ?_ GE323.out) | exact HB.out)) hb); have n10_ := Aside0.mk (hbox); have n11_ := Aside0.mk ((by rw [hg]; exact (below_size (by repeat (first | (with_reducible first | exact HB.out | apply below_alloc | apply pw_below_drewN | apply below_drew1 | refine below_set ?_ GE288.out | refine below_set ?_ GE301.out | refine below_set ?_ GE323.out) | exact HB.out))) : w.heap.size ≤ gb341)); have n12_ := Aside0.mk ((by rw [hg]; exact (below_size (by repeat (first | (with_reducible first | exact HB.out | apply below_alloc | apply pw_below_drewN | apply below_drew1 | refine below_set ?_ GE288.out | refine below_set ?_ GE301.out | refine below_set ?_ GE323.out) | exact HB.out))) : w.heap.size ≤ gb341)); have n13_ := Aside0.mk ((by rw [hg]; exact Nat.ne_of_lt (blk_lt (g := gb288) (o := .cells #[.slice A1_0 l1_0.length c1_0, .int .i64 a1_1] 25 (0, 0)) (by (with_reducible repeat (first | refine blk_drewN ?_ _ | refine blk_drew ?_ | refine blk_alloc ?_ _)); exact BK288.out)) : gb288 ≠ gb341)); have n14_ := Aside0.mk ((by rw [hg]; exact Nat.ne_of_gt (blk_lt (g := gb288) (o := .cells #[.slice A1_0 l1_0.length c1_0, .int .i64 a1_1] 25 (0, 0)) (by (with_reducible repeat (first | refine blk_drewN ?_ _ | refine blk_drew ?_ | refine blk_alloc ?_ _)); exact BK288.out)) : gb341 ≠ gb288)); have n15_ := Aside0.mk ((by rw [hg]; exact Nat.ne_of_lt (blk_lt (g := gb301) (o := .cells #[.slice Ao40 t296.length co40, .int .i64 t299] 25 (0, 0)) (by (with_reducible repeat (first | refine blk_drewN ?_ _ | refine blk_drew ?_ | refine blk_alloc ?_ _)); exact BK301.out)) : gb301 ≠ gb341)); have n16_ := Aside0.mk ((by rw [hg]; exact Nat.ne_of_gt (blk_lt (g := gb301) (o := .cells #[.slice Ao40 t296.length co40, .int .i64 t299] 25 (0, 0)) (by (with_reducible repeat (first | refine blk_drewN ?_ _ | refine blk_drew ?_ | refine blk_alloc ?_ _)); exact BK301.out)) : gb341 ≠ gb301)); have n17_ := Aside0.mk ((by rw [hg]; exact Nat.ne_of_lt (blk_lt (g := gb323) (o := .cells #[.slice Ao54 t318.length co54, .int .i64 t321] 25 (0, 0)) (by (with_reducible repeat (first | refine blk_drewN ?_ _ | refine blk_drew ?_ | refine blk_alloc ?_ _)); exact BK323.out)) : gb323 ≠ gb341)); have n18_ := Aside0.mk ((by rw [hg]; exact Nat.ne_of_gt (blk_lt (g := gb323) (o := .cells #[.slice Ao54 t318.length co54, .int .i64 t321] 25 (0, 0)) (by (with_reducible repeat (first | refine blk_drewN ?_ _ | refine blk_drew ?_ | refine blk_alloc ?_ _)); exact BK323.out)) : gb341 ≠ gb323)); clear HO_12; clear HO_19; clear HO_302000; clear HO_324000; clear HO335; clear HO338; clear BK288; clear BK301; clear BK323; clear HB; have HO_12 := n0_; have HO_19 := n1_; have HO_302000 := n2_; have HO_324000 := n3_; have HO335 := n4_; have HO338 := n5_; have BK288 := n6_; have BK301 := n7_; have BK323 := n8_; have HB := n9_; have BK341 := n10_; have GW341 := n11_; have GE341 := n12_; have NB288_341 := n13_; have NB341_288 := n14_; have NB301_341 := n15_; have NB341_301 := n16_; have NB323_341 := n17_; have NB341_323 := n18_; clear n0_ n1_ n2_ n3_ n4_ n5_ n6_ n7_ n8_ n9_ n10_ n11_ n12_ n13_ n14_ n15_ n16_ n17_ n18_; clear hb hbox hg; obtain ⟨Ao97, co97, eo97⟩ := Kd.V_slice HO338.out; subst eo97; have hnb98 := NB341_288.out; have hnc98 := NB288_341.out; have hnb99 := NB341_301.out; have hnc99 := NB301_341.out; have hnb100 := NB341_323.out; have hnc100 := NB323_341.out; have hcz101_0 : w96.cell? ⟨gb341, 0, none⟩ = some (.slice none 0 0) := (blk_cell BK341.out 0).trans rfl; have hcz101_1 : w96.cell? ⟨gb341, 1, none⟩ = some (.int .i64 0) := (blk_cell BK341.out 1).trans rfl; have hfz101_0 := blk_frozen BK341.out 0; have hfz101_1 := blk_frozen BK341.out 1; obtain ⟨Ao102, co102, eo102⟩ := Kd.R_slice HO335.out; subst eo102; obtain ⟨Ao103, co103, eo103⟩ := Kd.R_slice HO_12.out; subst eo103) | (go_at_call 21; (with_reducible refine (affidavitref01_Same.calls k3 _ _ t333 _ _ t293 t342 _ ?side1 ?side2 ?side3 ?side4 A90.out).mono ?_); (case side1 => refine (Kd.R_reads' (e := 22) (base := w.heap.size) (ok := fun k_ => ((True ∧ some k_ ≠ (.slice Ao103 t293.length co103 : Value).ownBlock) ∧ some k_ ≠ (.slice Ao94 x19_3.length co94 : Value).ownBlock)) (n := t333.length) (c := co102) ?_).2.2; exact (by (with_reducible repeat (first | apply Kd.R_alloc | apply Kd.R_drewN | apply Kd.R_drew)); exact (Kd.R_mono (Kd.R_far (p := ⟨gb341, 1, none⟩) (Kd.R_far (p := ⟨gb341, 0, none⟩) (Kd.R_types HO335.out BK341.out (by decide)) (fun _ hk => hk.2) (.slice Ao97 t336.length co97)) (fun _ hk => hk.2) (.int .i64 t339)) (fun _ h_ => h_.1)))); (case side2 => exact (Kd.R_reads' HO335.out).2.1); (case side3 => refine (Kd.R_reads' (e := 22) (base := w.heap.size) (ok := fun k_ => (some k_ ≠ (.slice Ao94 x19_3.length co94 : Value).ownBlock ∧ some k_ ≠ (.slice Ao102 t333.length co102 : Value).ownBlock)) (n := t293.length) (c := co103) ?_).2.2; exact (by (with_reducible repeat (first | apply Kd.R_alloc | apply Kd.R_drewN | apply Kd.R_drew)); exact (Kd.R_mono (Kd.R_far (p := ⟨gb341, 1, none⟩) (Kd.R_far (p := ⟨gb341, 0, none⟩) (Kd.R_types HO_12.out BK341.out (by decide)) (fun _ hk => hk.2) (.slice Ao97 t336.length co97)) (fun _ hk => hk.2) (.int .i64 t339)) (fun _ h_ => h_.1)))); (case side4 => exact (Kd.R_reads' HO_12.out).2.1); rintro e w' ⟨rfl, ⟨nd, rfl⟩⟩))
                                      go_ret
                                      exact ⟨by first | rfl | (simp [errW_none, errW_some] <;> rfl) | (simp [*, errW_none, errW_some] <;> rfl), by repeat (first | (with_reducible first | exact HB.out | apply below_alloc | apply pw_below_drewN | apply below_drew1 | refine below_set ?_ GE288.out | refine below_set ?_ GE301.out | refine below_set ?_ GE323.out | refine below_set ?_ GE341.out) | exact HB.out)⟩
                                    · rw [if_neg c89] at H
                                      have c89b0 : (t340 == 0) = false := beq_eq_false_iff_ne.mpr c89
                                      have c89b1 : (t340 != 0) = true := bne_iff_ne.mpr c89
                                      exact absurd ((Option.some.inj H).trans HT.out) (by decide)
                    · rw [if_neg c32] at H
                      exact absurd H (by simp)
                  · rw [if_neg c31] at H
                    exact absurd H (by simp)
                · rw [if_neg c30] at H
                  exact absurd H (by simp)
              · rw [if_neg c29] at H
                exact absurd H (by simp)
            · rw [if_neg c28] at H
              exact absurd H (by simp)
  · replace c7 := Bool.eq_false_iff.mpr c7
    subst c7
    have H1 : (some false) = some r := by rw [if_neg (show ¬ (false = true) by decide)] at H; exact H
    clear H
    have H := H1
    clear H1
    exact absurd ((Option.some.inj H).trans HT.out) (by decide)

/-- THE ONE PURE STATEMENT of affidavitlaw10_TapeSame. -/
def affidavitlaw10_TapeSame.Pure : Prop := ∀ (a0 : Int) (l1_0 : List Int) (a1_1 : Int) (l2 : List Int) (l3 : List Int) (a4 : Int), (Lit.int .u64 a0).wf = true → (l1_0.length ≤ maxLen ∧ ∀ a_ ∈ l1_0, (Lit.int .u64 a_).wf = true) → (Lit.int .i64 a1_1).wf = true → (l2.length ≤ maxLen ∧ ∀ a_ ∈ l2, (Lit.int .u64 a_).wf = true) → (l3.length ≤ maxLen ∧ ∀ a_ ∈ l3, (Lit.int .u64 a_).wf = true) → (Lit.int .u8 a4).wf = true → ∃ k, affidavitlaw10_TapeSame.f k a0 l1_0 a1_1 l2 l3 a4 = some true
theorem affidavitlaw10_TapeSame.walkx (P : affidavitlaw10_TapeSame.Pure) (a0 : Int) (A1_0 : Option Addr) (c1_0 : Nat) (l1_0 : List Int) (a1_1 : Int) (A2 : Option Addr) (c2 : Nat) (l2 : List Int) (A3 : Option Addr) (c3 : Nat) (l3 : List Int) (a4 : Int) (w : World) (hr1_0 : Kd.C (Kd.int .u64) w A1_0 l1_0.length l1_0) (hc1_0 : l1_0.length ≤ c1_0) (hr2 : Kd.C (Kd.int .u64) w A2 l2.length l2) (hc2 : l2.length ≤ c2) (hr3 : Kd.C (Kd.int .u64) w A3 l3.length l3) (hc3 : l3.length ≤ c3) (hg0 : (Lit.int .u64 a0).wf = true) (hg1_0 : (l1_0.length ≤ maxLen ∧ ∀ a_ ∈ l1_0, (Lit.int .u64 a_).wf = true)) (hg1_1 : (Lit.int .i64 a1_1).wf = true) (hg2 : (l2.length ≤ maxLen ∧ ∀ a_ ∈ l2, (Lit.int .u64 a_).wf = true)) (hg3 : (l3.length ≤ maxLen ∧ ∀ a_ ∈ l3, (Lit.int .u64 a_).wf = true)) (hg4 : (Lit.int .u8 a4).wf = true) :
    Calls Try.prog 5 #[.int .u64 a0, .agg #[.slice A1_0 l1_0.length c1_0, .int .i64 a1_1], .slice A2 l2.length c2, .slice A3 l3.length c3, .int .u8 a4] w fun e w' => e = .returned (.bool true) ∧ Below w.heap.size w w' := by
  obtain ⟨k, h⟩ := P a0 l1_0 a1_1 l2 l3 a4 hg0 hg1_0 hg1_1 hg2 hg3 hg4
  refine (affidavitlaw10_TapeSame.calls k a0 A1_0 c1_0 l1_0 a1_1 A2 c2 l2 A3 c3 l3 a4 true w hr1_0 hc1_0 hr2 hc2 hr3 hc3 h rfl).mono ?_
  rintro e w' ⟨rfl, hd⟩
  exact ⟨rfl, hd⟩

end Go.Proofs.Ytdfhkdddlfmceaa.X
