/- Walks of functions that the given law reaches: each comes to what its plain twin says. Written by xprint.py, a program of this claim's session; Lean checks it. -/
import Derived.Test.YtdfhkdddlfmceaaX0
import Derived.Test.YtdfhkdddlfmceaaX1
namespace Go.Proofs.Ytdfhkdddlfmceaa.X
open Go.RowKit Go.Proofs.YtdfhkdddlfmceaaW.PrintWords Go.Proofs.YtdfhkdddlfmceaaW.PrintLast Go.Proofs.YtdfhkdddlfmceaaW.PrintMore
attribute [local go_sem] max2_int min2_int max_two min_two max_three min_three max_four min_four   -- for this text's walks alone
set_option linter.unusedVariables false
set_option linter.unusedSimpArgs false

/-! ### tape_several_all: function 49 -/
mutual
def tape_several_all.j0 : Nat → Int → Int → Bool → List Int → Int → Option (List Int × List Int × Int × Int)
  | 0, _, _, _, _, _ => none
  | k + 1, x0, x2, x26, x118000, x118001 => if x26 = true then (some (([] : List Int), x118000, x118001, 1)) else (tape_several_all.l0 k x0 ([] : List Int) x2 0 x118000 x118001)
def tape_several_all.l0 : Nat → Int → List Int → Int → Int → List Int → Int → Option (List Int × List Int × Int × Int)
  | 0, _, _, _, _, _, _ => none
  | k + 1, x0, x11, x28, x29, x118000, x118001 => if x29 < x28 then ((tape_next_all.f k x0 x118000 x118001).bind fun bt120 => (if bt120.2.2 = true then (if x11.length < 17592186044416 then (tape_several_all.l0 k x0 (x11 ++ [bt120.1]) x28 (wrap64 (x29 + 1)) x118000 bt120.2.1) else (none)) else (some (([] : List Int), x118000, bt120.2.1, 9)))) else (some (x11, x118000, x118001, 0))
end
def tape_several_all.f (k : Nat) (a0 : Int) (l1_0 : List Int) (a1_1 : Int) (a2 : Int)  : Option (List Int × List Int × Int × Int) := (tape_may.f a0 l1_0 a1_1).bind fun t119 => (if t119 = true then (if a2 < 0 then (tape_several_all.j0 k a0 a2 true l1_0 a1_1) else (tape_several_all.j0 k a0 a2 (decide (a2 > 8192)) l1_0 a1_1)) else (tape_several_all.j0 k a0 a2 true l1_0 a1_1))
theorem tape_several_all.mono_l : ∀ k, (∀ y0 y1 y2 y3 y4, LeO (tape_several_all.j0 k y0 y1 y2 y3 y4) (tape_several_all.j0 (k + 1) y0 y1 y2 y3 y4)) ∧ (∀ y0 y1 y2 y3 y4 y5, LeO (tape_several_all.l0 k y0 y1 y2 y3 y4 y5) (tape_several_all.l0 (k + 1) y0 y1 y2 y3 y4 y5))
  | 0 => ⟨fun _ _ _ _ _ r h => by simp [tape_several_all.j0] at h, fun _ _ _ _ _ _ r h => by simp [tape_several_all.l0] at h⟩
  | k + 1 => by
    obtain ⟨ih0, ih1⟩ := tape_several_all.mono_l k
    refine ⟨?_, ?_⟩
    · intro y0 y1 y2 y3 y4
      unfold tape_several_all.j0
      repeat' first
      | (with_reducible exact ih0 _ _ _ _ _)
      | (with_reducible exact ih1 _ _ _ _ _ _)
      | (with_reducible exact tape_next_all.mono _ _ _ _)
      | (with_reducible exact LeO.refl _)
      | (with_reducible exact LeO.none _)
      | (with_reducible refine LeO.ite ?_ ?_)
      | (with_reducible refine LeO.bind ?_ (fun _ => ?_))
      | exact ih0 _ _ _ _ _
      | exact ih1 _ _ _ _ _ _
      | exact tape_next_all.mono _ _ _ _
      | exact LeO.none _
      | refine LeO.ite ?_ ?_
      | refine LeO.bind ?_ (fun _ => ?_)
    · intro y0 y1 y2 y3 y4 y5
      unfold tape_several_all.l0
      repeat' first
      | (with_reducible exact ih0 _ _ _ _ _)
      | (with_reducible exact ih1 _ _ _ _ _ _)
      | (with_reducible exact tape_next_all.mono _ _ _ _)
      | (with_reducible exact LeO.refl _)
      | (with_reducible exact LeO.none _)
      | (with_reducible refine LeO.ite ?_ ?_)
      | (with_reducible refine LeO.bind ?_ (fun _ => ?_))
      | exact ih0 _ _ _ _ _
      | exact ih1 _ _ _ _ _ _
      | exact tape_next_all.mono _ _ _ _
      | exact LeO.none _
      | refine LeO.ite ?_ ?_
      | refine LeO.bind ?_ (fun _ => ?_)
theorem tape_several_all.mono : ∀ a0 a1 a2 a3 k, LeO (tape_several_all.f k a0 a1 a2 a3) (tape_several_all.f (k + 1) a0 a1 a2 a3) := by
  intro a0 a1 a2 a3 k
  obtain ⟨ih0, ih1⟩ := tape_several_all.mono_l k
  unfold tape_several_all.f
  repeat' first
      | (with_reducible exact ih0 _ _ _ _ _)
      | (with_reducible exact ih1 _ _ _ _ _ _)
      | (with_reducible exact tape_next_all.mono _ _ _ _)
      | (with_reducible exact LeO.refl _)
      | (with_reducible exact LeO.none _)
      | (with_reducible refine LeO.ite ?_ ?_)
      | (with_reducible refine LeO.bind ?_ (fun _ => ?_))
      | exact ih0 _ _ _ _ _
      | exact ih1 _ _ _ _ _ _
      | exact tape_next_all.mono _ _ _ _
      | exact LeO.none _
      | refine LeO.ite ?_ ?_
      | refine LeO.bind ?_ (fun _ => ?_)
set_option maxHeartbeats 8000000 in
set_option maxRecDepth 100000 in
theorem tape_several_all.calls (k : Nat) (a0 : Int) (P1_0_ : Nat → Prop) (A1_0 : Option Addr) (c1_0 : Nat) (l1_0 : List Int) (a1_1 : Int) (a2 : Int)  (r1 : List Int) (r2 : List Int) (r3 : Int) (r4 : Int) (w : World) (hs1_0 : Kd.V (Kd.int .u64) 22 w w.heap.size (fun k_ => P1_0_ k_) (.slice A1_0 l1_0.length c1_0) l1_0) (h : tape_several_all.f k a0 l1_0 a1_1 a2 = some (r1, r2, r3, r4)) :
    Calls Try.prog 49 #[.int .u64 a0, .agg #[.slice A1_0 l1_0.length c1_0, .int .i64 a1_1], .int .i64 a2, .func (.func 48) #[] #[]] w fun e w' => ∃ v0_ v1_ : Value, e = .returned (.tuple #[v0_, .agg #[v1_, .int .i64 r3], .int .i64 r4]) ∧ Kd.R (Kd.int .u64) 22 w' w.heap.size (fun k_ => (w.heap.size ≤ k_)) v0_ r1 ∧ Kd.V (Kd.int .u64) 22 w' w.heap.size (fun k_ => (P1_0_ k_ ∨ w.heap.size ≤ k_) ∧ some k_ ≠ (v0_ : Value).ownBlock) v1_ r2 ∧ Below w.heap.size w w' := by
  have hu25 := Try.underlying25
  have HO1_0 := Aside0.mk (show Kd.V (Kd.int .u64) 22 w w.heap.size (fun k_ => (P1_0_ k_ ∨ w.heap.size ≤ k_)) (.slice A1_0 l1_0.length c1_0) l1_0 from Kd.V_mono hs1_0 (fun k_ hk => .inl hk))
  have HB := Aside0.mk (Below.refl w.heap.size w)
  have H : ((tape_may.f a0 l1_0 a1_1).bind fun t119 => (if t119 = true then (if a2 < 0 then (tape_several_all.j0 k a0 a2 true l1_0 a1_1) else (tape_several_all.j0 k a0 a2 (decide (a2 > 8192)) l1_0 a1_1)) else (tape_several_all.j0 k a0 a2 true l1_0 a1_1))) = some (r1, r2, r3, r4) := h
  clear h
  have HC5 := Aside0.mk H
  clear H
  go_enter Try.func49, Try.ntmps49
  go_upto_region 1 with (first | ((with_reducible refine gate_dst (N := 5) rfl ?_); refine box_event ?hg (N := 5) ?hd (cs := #[.slice A1_0 l1_0.length c1_0, .int .i64 a1_1]) (t := 25) ?hr ?_; (case hd => rfl); (case hg => rfl); (case hr => first | (go_simp; done) | (go_simp; rfl)); intro gb117 hg w6 hbox hb; have n0_ := Aside0.mk (Kd.V_below (Kd.V_elderB (by (with_reducible repeat (first | apply Kd.V_alloc | apply Kd.V_drewN | apply Kd.V_drew)); exact HO1_0.out) gb117 (Nat.le_of_eq hg.symm)) hb); have n1_ := Aside0.mk (below_step (by repeat (first | (with_reducible first | exact HB.out | apply below_alloc | apply pw_below_drewN | apply below_drew1) | exact HB.out)) hb); have n2_ := Aside0.mk (hbox); have n3_ := Aside0.mk ((by rw [hg]; exact (below_size (by repeat (first | (with_reducible first | exact HB.out | apply below_alloc | apply pw_below_drewN | apply below_drew1) | exact HB.out))) : w.heap.size ≤ gb117)); have n4_ := Aside0.mk ((by rw [hg]; exact (below_size (by repeat (first | (with_reducible first | exact HB.out | apply below_alloc | apply pw_below_drewN | apply below_drew1) | exact HB.out))) : w.heap.size ≤ gb117)); clear HO1_0; clear HB; have HO1_0 := n0_; have HB := n1_; have BK117 := n2_; have GW117 := n3_; have GE117 := n4_; clear n0_ n1_ n2_ n3_ n4_; clear hb hbox hg) | ((with_reducible refine gate_dst (N := 9) rfl ?_); refine box_event ?hg (N := 9) ?hd (cs := #[.slice none 0 0, .int .i64 0]) (t := 25) ?hr ?_; (case hd => rfl); (case hg => rfl); (case hr => first | (go_simp; done) | (go_simp; rfl)); intro gb118 hg w7 hbox hb; have n0_ := Aside0.mk (Kd.V_below (Kd.V_elderB (by (with_reducible repeat (first | apply Kd.V_alloc | apply Kd.V_drewN | apply Kd.V_drew)); exact HO1_0.out) gb118 (Nat.le_of_eq hg.symm)) hb); have n1_ := Aside0.mk (blk_below (g := gb117) (o := .cells #[.slice A1_0 l1_0.length c1_0, .int .i64 a1_1] 25 (0, 0)) (by (with_reducible repeat (first | refine blk_drewN ?_ _ | refine blk_drew ?_ | refine blk_alloc ?_ _)); exact BK117.out) hb); have n2_ := Aside0.mk (below_step (by repeat (first | (with_reducible first | exact HB.out | apply below_alloc | apply pw_below_drewN | apply below_drew1 | refine below_set ?_ GE117.out) | exact HB.out)) hb); have n3_ := Aside0.mk (hbox); have n4_ := Aside0.mk ((by rw [hg]; exact (below_size (by repeat (first | (with_reducible first | exact HB.out | apply below_alloc | apply pw_below_drewN | apply below_drew1 | refine below_set ?_ GE117.out) | exact HB.out))) : w.heap.size ≤ gb118)); have n5_ := Aside0.mk ((by rw [hg]; exact (below_size (by repeat (first | (with_reducible first | exact HB.out | apply below_alloc | apply pw_below_drewN | apply below_drew1 | refine below_set ?_ GE117.out) | exact HB.out))) : w.heap.size ≤ gb118)); have n6_ := Aside0.mk ((by rw [hg]; exact Nat.ne_of_lt (blk_lt (g := gb117) (o := .cells #[.slice A1_0 l1_0.length c1_0, .int .i64 a1_1] 25 (0, 0)) (by (with_reducible repeat (first | refine blk_drewN ?_ _ | refine blk_drew ?_ | refine blk_alloc ?_ _)); exact BK117.out)) : gb117 ≠ gb118)); have n7_ := Aside0.mk ((by rw [hg]; exact Nat.ne_of_gt (blk_lt (g := gb117) (o := .cells #[.slice A1_0 l1_0.length c1_0, .int .i64 a1_1] 25 (0, 0)) (by (with_reducible repeat (first | refine blk_drewN ?_ _ | refine blk_drew ?_ | refine blk_alloc ?_ _)); exact BK117.out)) : gb118 ≠ gb117)); clear HO1_0; clear BK117; clear HB; have HO1_0 := n0_; have BK117 := n1_; have HB := n2_; have BK118 := n3_; have GW118 := n4_; have GE118 := n5_; have NB117_118 := n6_; have NB118_117 := n7_; clear n0_ n1_ n2_ n3_ n4_ n5_ n6_ n7_; clear hb hbox hg))
  (try simp only [Act.put, List.setIfInBounds_toArray, List.set_cons_zero, List.set_cons_succ])
  go_cut [26] (fun v26 wc => ∃ (kq : Nat) (x26_4 : Bool), v26 = .bool x26_4 ∧ Aside0 (tape_several_all.j0 kq a0 a2 x26_4 l1_0 a1_1 = some (r1, r2, r3, r4)) ∧ Aside0 (kq ≤ k) ∧ Aside0 (Kd.V (Kd.int .u64) 22 wc w.heap.size (fun k_ => (P1_0_ k_ ∨ w.heap.size ≤ k_) ∧ k_ ≠ gb117 ∧ k_ ≠ gb118) (.slice A1_0 l1_0.length c1_0) l1_0) ∧ Aside0 (wc.heap[gb117]? = some (.cells #[(.slice A1_0 l1_0.length c1_0), .int .i64 a1_1] 25 (0, 0))) ∧ Aside0 (wc.heap[gb118]? = some (.cells #[(.slice none 0 0), .int .i64 0] 25 (0, 0))) ∧ Aside0 (Below w.heap.size w wc))
  case first =>
    have H := HC5.out
    clear HC5
    replace H := Option.bind_eq_some_iff.mp H
    obtain ⟨t119, A80, H⟩ := H
    replace H : (if t119 = true then (if a2 < 0 then (tape_several_all.j0 k a0 a2 true l1_0 a1_1) else (tape_several_all.j0 k a0 a2 (decide (a2 > 8192)) l1_0 a1_1)) else (tape_several_all.j0 k a0 a2 true l1_0 a1_1)) = some (r1, r2, r3, r4) := H
    have A8 := Aside0.mk A80
    clear A80
    by_cases c9 : t119 = true
    · subst c9
      have H1 : (if a2 < 0 then (tape_several_all.j0 k a0 a2 true l1_0 a1_1) else (tape_several_all.j0 k a0 a2 (decide (a2 > 8192)) l1_0 a1_1)) = some (r1, r2, r3, r4) := by rw [if_pos rfl] at H; exact H
      clear H
      have H := H1
      clear H1
      by_cases c10 : a2 < 0
      · rw [if_pos c10] at H
        have c10b0 : decide (a2 < 0) = true := decide_eq_true c10
        clear c10
        (first | rw [c10b0] | (simp only [i64_w, i32_w]; rw [c10b0]) | skip)
        have H' := Aside0.mk H
        clear H
        have hnb11 := NB117_118.out
        have hnc11 := NB118_117.out
        have hcz12_0 : w7.cell? ⟨gb117, 0, none⟩ = some (.slice A1_0 l1_0.length c1_0) := (blk_cell BK117.out 0).trans rfl
        have hcz12_1 : w7.cell? ⟨gb117, 1, none⟩ = some (.int .i64 a1_1) := (blk_cell BK117.out 1).trans rfl
        have hfz12_0 := blk_frozen BK117.out 0
        have hfz12_1 := blk_frozen BK117.out 1
        go_wp2_with (first | ((with_reducible refine gate_callee (f := 46) rfl ?_); refine goesL_ (some 17) rfl rfl Try.func46 (by kernel_rfl) rfl #[.int .u64 a0, .agg #[.slice A1_0 l1_0.length c1_0, .int .i64 a1_1]] rfl (by (try simp only [List.map_toArray, List.map_cons, List.map_nil]); first | done | rfl | (simp only [List.length_drop, List.length_take]; rfl)) ?_; (with_reducible refine (tape_may.calls a0 _ _ l1_0 a1_1 true _ ?side1 ?side2 A8.out).mono ?_); (case side1 => repeat (first | exact (Kd.V_reads' HO1_0.out).2.2 | (with_reducible refine Kd.C_alloc ?_ _) | (with_reducible refine Kd.C_drewN ?_ _) | (with_reducible refine Kd.C_drew ?_))); (case side2 => exact (Kd.V_reads' HO1_0.out).2.1); rintro e w13 ⟨rfl, hb⟩; refine ⟨_, rfl, ?_⟩; have n0_ := Aside0.mk (Kd.V_below (by (with_reducible repeat (first | apply Kd.V_alloc | apply Kd.V_drewN | apply Kd.V_drew)); exact HO1_0.out) hb); have n1_ := Aside0.mk (blk_below (g := gb117) (o := .cells #[.slice A1_0 l1_0.length c1_0, .int .i64 a1_1] 25 (0, 0)) (by (with_reducible repeat (first | refine blk_drewN ?_ _ | refine blk_drew ?_ | refine blk_alloc ?_ _)); exact BK117.out) hb); have n2_ := Aside0.mk (blk_below (g := gb118) (o := .cells #[.slice none 0 0, .int .i64 0] 25 (0, 0)) (by (with_reducible repeat (first | refine blk_drewN ?_ _ | refine blk_drew ?_ | refine blk_alloc ?_ _)); exact BK118.out) hb); have n3_ := Aside0.mk (below_step (by repeat (first | (with_reducible first | exact HB.out | apply below_alloc | apply pw_below_drewN | apply below_drew1 | refine below_set ?_ GE117.out | refine below_set ?_ GE118.out) | exact HB.out)) hb); clear HO1_0; clear BK117; clear BK118; clear HB; have HO1_0 := n0_; have BK117 := n1_; have BK118 := n2_; have HB := n3_; clear n0_ n1_ n2_ n3_; (try clear hb); (try clear hb2); (try clear hk); (try clear hi)))
        go_meet
        case rel => exact ⟨_, (true), (by first | rfl | (simp; done) | (simp [*]; done)), H', ⟨by first | omega | exact Nat.le_refl _⟩, ⟨by (with_reducible repeat (first | apply Kd.V_alloc | apply Kd.V_drewN | apply Kd.V_drew)); exact Kd.V_mono HO1_0.out (fun _ hk => ⟨hk.1.1, ⟨hk.1.2, hk.2⟩⟩)⟩, ⟨by (with_reducible repeat (first | refine blk_drewN ?_ _ | refine blk_drew ?_ | refine blk_alloc ?_ _)); exact BK117.out⟩, ⟨by (with_reducible repeat (first | refine blk_drewN ?_ _ | refine blk_drew ?_ | refine blk_alloc ?_ _)); exact BK118.out⟩, ⟨by repeat (first | (with_reducible first | exact HB.out | apply below_alloc | apply pw_below_drewN | apply below_drew1 | refine below_set ?_ GE117.out | refine below_set ?_ GE118.out) | exact HB.out)⟩⟩
      · rw [if_neg c10] at H
        have c10b0 : decide (a2 < 0) = false := decide_eq_false c10
        clear c10
        (first | rw [c10b0] | (simp only [i64_w, i32_w]; rw [c10b0]) | skip)
        have H' := Aside0.mk H
        clear H
        have hnb14 := NB117_118.out
        have hnc14 := NB118_117.out
        have hcz15_0 : w7.cell? ⟨gb117, 0, none⟩ = some (.slice A1_0 l1_0.length c1_0) := (blk_cell BK117.out 0).trans rfl
        have hcz15_1 : w7.cell? ⟨gb117, 1, none⟩ = some (.int .i64 a1_1) := (blk_cell BK117.out 1).trans rfl
        have hfz15_0 := blk_frozen BK117.out 0
        have hfz15_1 := blk_frozen BK117.out 1
        go_wp2_with (first | ((with_reducible refine gate_callee (f := 46) rfl ?_); refine goesL_ (some 17) rfl rfl Try.func46 (by kernel_rfl) rfl #[.int .u64 a0, .agg #[.slice A1_0 l1_0.length c1_0, .int .i64 a1_1]] rfl (by (try simp only [List.map_toArray, List.map_cons, List.map_nil]); first | done | rfl | (simp only [List.length_drop, List.length_take]; rfl)) ?_; (with_reducible refine (tape_may.calls a0 _ _ l1_0 a1_1 true _ ?side1 ?side2 A8.out).mono ?_); (case side1 => repeat (first | exact (Kd.V_reads' HO1_0.out).2.2 | (with_reducible refine Kd.C_alloc ?_ _) | (with_reducible refine Kd.C_drewN ?_ _) | (with_reducible refine Kd.C_drew ?_))); (case side2 => exact (Kd.V_reads' HO1_0.out).2.1); rintro e w16 ⟨rfl, hb⟩; refine ⟨_, rfl, ?_⟩; have n0_ := Aside0.mk (Kd.V_below (by (with_reducible repeat (first | apply Kd.V_alloc | apply Kd.V_drewN | apply Kd.V_drew)); exact HO1_0.out) hb); have n1_ := Aside0.mk (blk_below (g := gb117) (o := .cells #[.slice A1_0 l1_0.length c1_0, .int .i64 a1_1] 25 (0, 0)) (by (with_reducible repeat (first | refine blk_drewN ?_ _ | refine blk_drew ?_ | refine blk_alloc ?_ _)); exact BK117.out) hb); have n2_ := Aside0.mk (blk_below (g := gb118) (o := .cells #[.slice none 0 0, .int .i64 0] 25 (0, 0)) (by (with_reducible repeat (first | refine blk_drewN ?_ _ | refine blk_drew ?_ | refine blk_alloc ?_ _)); exact BK118.out) hb); have n3_ := Aside0.mk (below_step (by repeat (first | (with_reducible first | exact HB.out | apply below_alloc | apply pw_below_drewN | apply below_drew1 | refine below_set ?_ GE117.out | refine below_set ?_ GE118.out) | exact HB.out)) hb); clear HO1_0; clear BK117; clear BK118; clear HB; have HO1_0 := n0_; have BK117 := n1_; have BK118 := n2_; have HB := n3_; clear n0_ n1_ n2_ n3_; (try clear hb); (try clear hb2); (try clear hk); (try clear hi)))
        go_meet
        case rel => exact ⟨_, (decide (a2 > 8192)), (by first | rfl | (simp; done) | (simp [*]; done)), H', ⟨by first | omega | exact Nat.le_refl _⟩, ⟨by (with_reducible repeat (first | apply Kd.V_alloc | apply Kd.V_drewN | apply Kd.V_drew)); exact Kd.V_mono HO1_0.out (fun _ hk => ⟨hk.1.1, ⟨hk.1.2, hk.2⟩⟩)⟩, ⟨by (with_reducible repeat (first | refine blk_drewN ?_ _ | refine blk_drew ?_ | refine blk_alloc ?_ _)); exact BK117.out⟩, ⟨by (with_reducible repeat (first | refine blk_drewN ?_ _ | refine blk_drew ?_ | refine blk_alloc ?_ _)); exact BK118.out⟩, ⟨by repeat (first | (with_reducible first | exact HB.out | apply below_alloc | apply pw_below_drewN | apply below_drew1 | refine below_set ?_ GE117.out | refine below_set ?_ GE118.out) | exact HB.out)⟩⟩
    · replace c9 := Bool.eq_false_iff.mpr c9
      subst c9
      have H1 : (tape_several_all.j0 k a0 a2 true l1_0 a1_1) = some (r1, r2, r3, r4) := by rw [if_neg (show ¬ (false = true) by decide)] at H; exact H
      clear H
      have H := H1
      clear H1
      have H' := Aside0.mk H
      clear H
      have hnb17 := NB117_118.out
      have hnc17 := NB118_117.out
      have hcz18_0 : w7.cell? ⟨gb117, 0, none⟩ = some (.slice A1_0 l1_0.length c1_0) := (blk_cell BK117.out 0).trans rfl
      have hcz18_1 : w7.cell? ⟨gb117, 1, none⟩ = some (.int .i64 a1_1) := (blk_cell BK117.out 1).trans rfl
      have hfz18_0 := blk_frozen BK117.out 0
      have hfz18_1 := blk_frozen BK117.out 1
      go_wp2_with (first | ((with_reducible refine gate_callee (f := 46) rfl ?_); refine goesL_ (some 17) rfl rfl Try.func46 (by kernel_rfl) rfl #[.int .u64 a0, .agg #[.slice A1_0 l1_0.length c1_0, .int .i64 a1_1]] rfl (by (try simp only [List.map_toArray, List.map_cons, List.map_nil]); first | done | rfl | (simp only [List.length_drop, List.length_take]; rfl)) ?_; (with_reducible refine (tape_may.calls a0 _ _ l1_0 a1_1 false _ ?side1 ?side2 A8.out).mono ?_); (case side1 => repeat (first | exact (Kd.V_reads' HO1_0.out).2.2 | (with_reducible refine Kd.C_alloc ?_ _) | (with_reducible refine Kd.C_drewN ?_ _) | (with_reducible refine Kd.C_drew ?_))); (case side2 => exact (Kd.V_reads' HO1_0.out).2.1); rintro e w19 ⟨rfl, hb⟩; refine ⟨_, rfl, ?_⟩; have n0_ := Aside0.mk (Kd.V_below (by (with_reducible repeat (first | apply Kd.V_alloc | apply Kd.V_drewN | apply Kd.V_drew)); exact HO1_0.out) hb); have n1_ := Aside0.mk (blk_below (g := gb117) (o := .cells #[.slice A1_0 l1_0.length c1_0, .int .i64 a1_1] 25 (0, 0)) (by (with_reducible repeat (first | refine blk_drewN ?_ _ | refine blk_drew ?_ | refine blk_alloc ?_ _)); exact BK117.out) hb); have n2_ := Aside0.mk (blk_below (g := gb118) (o := .cells #[.slice none 0 0, .int .i64 0] 25 (0, 0)) (by (with_reducible repeat (first | refine blk_drewN ?_ _ | refine blk_drew ?_ | refine blk_alloc ?_ _)); exact BK118.out) hb); have n3_ := Aside0.mk (below_step (by repeat (first | (with_reducible first | exact HB.out | apply below_alloc | apply pw_below_drewN | apply below_drew1 | refine below_set ?_ GE117.out | refine below_set ?_ GE118.out) | exact HB.out)) hb); clear HO1_0; clear BK117; clear BK118; clear HB; have HO1_0 := n0_; have BK117 := n1_; have BK118 := n2_; have HB := n3_; clear n0_ n1_ n2_ n3_; (try clear hb); (try clear hb2); (try clear hk); (try clear hi)))
      go_meet
      case rel => exact ⟨_, (true), (by first | rfl | (simp; done) | (simp [*]; done)), H', ⟨by first | omega | exact Nat.le_refl _⟩, ⟨by (with_reducible repeat (first | apply Kd.V_alloc | apply Kd.V_drewN | apply Kd.V_drew)); exact Kd.V_mono HO1_0.out (fun _ hk => ⟨hk.1.1, ⟨hk.1.2, hk.2⟩⟩)⟩, ⟨by (with_reducible repeat (first | refine blk_drewN ?_ _ | refine blk_drew ?_ | refine blk_alloc ?_ _)); exact BK117.out⟩, ⟨by (with_reducible repeat (first | refine blk_drewN ?_ _ | refine blk_drew ?_ | refine blk_alloc ?_ _)); exact BK118.out⟩, ⟨by repeat (first | (with_reducible first | exact HB.out | apply below_alloc | apply pw_below_drewN | apply below_drew1 | refine below_set ?_ GE117.out | refine below_set ?_ GE118.out) | exact HB.out)⟩⟩
  case rest =>
    clear HC5
    try clear c1
    try clear p2
    try clear c4
    try clear c9
    try clear c10
    try clear c10b0
    try clear c11
    try clear c14
    try clear c17
    try clear hcz12_0
    try clear hcz12_1
    try clear hcz15_0
    try clear hcz15_1
    try clear hcz18_0
    try clear hcz18_1
    try clear hfz12_0
    try clear hfz12_1
    try clear hfz15_0
    try clear hfz15_1
    try clear hfz18_0
    try clear hfz18_1
    obtain ⟨kq, x26_4, rfl, HA, HJ4, HO_118000, BK117, BK118, HB⟩ := hcut
    cases kq with
    | zero => exact absurd HA.out (by simp [tape_several_all.j0])
    | succ kj4 =>
      have H := HA.out
      clear HA
      simp only [tape_several_all.j0] at H
      by_cases c20 : x26_4 = true
      · subst c20
        have H1 : (some (([] : List Int), l1_0, a1_1, 1)) = some (r1, r2, r3, r4) := by rw [if_pos rfl] at H; exact H
        clear H
        have H := H1
        clear H1
        simp only [Option.some.injEq, Prod.mk.injEq] at H
        obtain ⟨rfl, rfl, rfl, rfl⟩ := H
        try go_wp2
        have n0_ := Aside0.mk (Kd.V_drew HO_118000.out)
        have n1_ := Aside0.mk (blk_drew BK117.out)
        have n2_ := Aside0.mk (blk_drew BK118.out)
        have n3_ := Aside0.mk (below_drew1 HB.out)
        clear HO_118000
        clear BK117
        clear BK118
        clear HB
        have HO_118000 := n0_
        have BK117 := n1_
        have BK118 := n2_
        have HB := n3_
        clear n0_ n1_ n2_ n3_
        refine start_ (n := 4) (S := fun w' => w'.cell? ⟨gb117, 0, none⟩ = some (.slice A1_0 l1_0.length c1_0) ∧ w'.cell? ⟨gb117, 1, none⟩ = some (.int .i64 a1_1)) (ds := []) #[false, false, false, false] (by kernel_rfl) rfl rfl ⟨(blk_cell BK117.out 0).trans rfl, (blk_cell BK117.out 1).trans rfl⟩ (fun hHeld => ?_)
        generalize wc.drew = w21 at HO_118000 BK117 BK118 HB hHeld ⊢
        refine pure_ (i := 1) (N := some 8) (v := ?_) (a' := ?_) #[false, true, false, false] rfl rfl (by kernel_rfl) (fun _ _ _ h => h) (Or.inl ⟨by rfl, ?_⟩) ?_ ?_
        rotate_left
        · intro w'
          go_simp
          with_reducible rfl
        rotate_left
        · simp only [Act.put, List.setIfInBounds_toArray, List.set_cons_zero, List.set_cons_succ, i64_w, i32_w]
          rfl
        refine take_ (i := 0) (N := some 27) (v := ?_) (a' := ?_) #[true, true, false, false] rfl rfl (by kernel_rfl) (fun _ _ _ h => h) (Or.inl ⟨by rfl, ?_⟩) hHeld ?_ ?_
        rotate_left
        · rintro w' ⟨s0, s1⟩
          go_simp
          with_reducible rfl
        rotate_left
        · simp only [Act.put, List.setIfInBounds_toArray, List.set_cons_zero, List.set_cons_succ, i64_w, i32_w]
          rfl
        refine one_ (i := 2) (N := none) #[true, true, true, false] rfl rfl (by kernel_rfl) (by decide) (fun K hK => ?_)
        have hs22 : w21.cell? ⟨gb118, 0, none⟩ = some (.slice none 0 0) := (blk_cell BK118.out 0).trans rfl
        have hfs22 := blk_frozen BK118.out 0
        have hns22_0 := NB117_118.out
        have hms22_0 := NB118_117.out
        have hs23 : w21.cell? ⟨gb118, 1, none⟩ = some (.int .i64 0) := (blk_cell BK118.out 1).trans rfl
        have hfs23 := blk_frozen BK118.out 1
        have hns23_0 := NB117_118.out
        have hms23_0 := NB118_117.out
        refine skip_ (w1 := ?_) (by rfl) rfl ?_ ?_
        rotate_left
        · go_simp
          rfl
        refine hK.out _ _ ⟨((cell_far (p := ⟨gb118, _, none⟩) NB117_118.out _).trans (((cell_far (p := ⟨gb118, _, none⟩) NB117_118.out _).trans (hHeld.1)))), ((cell_far (p := ⟨gb118, _, none⟩) NB117_118.out _).trans (((cell_far (p := ⟨gb118, _, none⟩) NB117_118.out _).trans (hHeld.2))))⟩ (fun hHeld => ?_)
        clear hK K
        refine pure_ (i := 3) (N := some 10) (v := ?_) (a' := ?_) #[true, true, true, true] rfl rfl (by kernel_rfl) (fun _ _ _ h => h) (Or.inl ⟨by rfl, ?_⟩) ?_ ?_
        rotate_left
        · intro w'
          go_simp
          with_reducible rfl
        rotate_left
        · simp only [Act.put, List.setIfInBounds_toArray, List.set_cons_zero, List.set_cons_succ, i64_w, i32_w]
          rfl
        refine done_ (by kernel_rfl) ?_
        try go_wp2
        refine bodyPost_ret (results_list (rs := [.tmp 8, .cell 9 25, .tmp 10]) rfl (by simp) (.tmp (.cell gb118 25 #[.slice A1_0 l1_0.length c1_0, .int .i64 a1_1] (0, 0) _ rfl (by (with_reducible repeat (first | refine blk_drewN ?_ _ | refine blk_drew ?_ | refine blk_alloc ?_ _)); refine blk_put (cs := #[.slice A1_0 l1_0.length c1_0, .int .i64 0]) ?_ 1 _ rfl; (with_reducible repeat (first | refine blk_drewN ?_ _ | refine blk_drew ?_ | refine blk_alloc ?_ _)); refine blk_put (cs := #[.slice none 0 0, .int .i64 0]) ?_ 0 _ rfl; (with_reducible repeat (first | refine blk_drewN ?_ _ | refine blk_drew ?_ | refine blk_alloc ?_ _)); exact BK118.out) Try.underlying25 rfl (by kernel_rfl) (.tmp .nil)))) rfl ?_
        exact ⟨_, _, by first | rfl | (simp [errW_none, errW_some] <;> rfl) | (simp [*, errW_none, errW_some] <;> rfl), by first | exact Kd.R_nil _ _ _ _ _ | exact Kd.N_nil _ _ _ _ _ | exact Kd.V_nil _ _ _ _ _ | exact Kd.Q_nil _ _ _ _ _ | exact Kd.S_nil _ _ _ _ _, by (with_reducible repeat (first | apply Kd.V_alloc | apply Kd.V_drewN | apply Kd.V_drew)); exact Kd.V_mono (Kd.V_far (p := ⟨gb118, 1, none⟩) (Kd.V_far (p := ⟨gb118, 0, none⟩) (Kd.V_mono HO_118000.out (fun k_ hk => (⟨hk, hk.2.2⟩ : _ ∧ k_ ≠ gb118))) (fun _ hk => hk.2) (.slice A1_0 l1_0.length c1_0)) (fun _ hk => hk.2) (.int .i64 a1_1)) (fun _ hk => ⟨hk.1.1, (by simp [Value.ownBlock])⟩), by repeat (first | (with_reducible first | exact HB.out | apply below_alloc | apply pw_below_drewN | apply below_drew1 | refine below_set ?_ GE117.out | refine below_set ?_ GE118.out) | exact HB.out)⟩
      · replace c20 := Bool.eq_false_iff.mpr c20
        subst c20
        have H1 : (tape_several_all.l0 kj4 a0 ([] : List Int) a2 0 l1_0 a1_1) = some (r1, r2, r3, r4) := by rw [if_neg (show ¬ (false = true) by decide)] at H; exact H
        clear H
        have H := H1
        clear H1
        have H' := Aside0.mk H
        clear H
        go_wp2
        go_loopg [11, 29] kj4 (fun kq v11 v29 w' => ∃ (x11_2 : List Int) (x29_2 : Int) (x118001_2 : Int) (x119001_2 : Int), v29 = .int .i64 x29_2 ∧ Aside0 (tape_several_all.l0 kq a0 x11_2 a2 x29_2 l1_0 x118001_2 = some (r1, r2, r3, r4)) ∧ Aside0 (kq ≤ kj4) ∧ Aside0 (Kd.R (Kd.int .u64) 22 w' w.heap.size (fun k_ => (w.heap.size ≤ k_)) v11 x11_2) ∧ Aside0 (Kd.V (Kd.int .u64) 22 w' w.heap.size (fun k_ => (P1_0_ k_ ∨ w.heap.size ≤ k_) ∧ some k_ ≠ (v11 : Value).ownBlock ∧ k_ ≠ gb117 ∧ k_ ≠ gb118) (.slice A1_0 l1_0.length c1_0) l1_0) ∧ Aside0 (w'.heap[gb117]? = some (.cells #[(.slice A1_0 l1_0.length c1_0), .int .i64 x118001_2] 25 (0, 0))) ∧ Aside0 (w'.heap[gb118]? = some (.cells #[(.slice none 0 0), .int .i64 x119001_2] 25 (0, 0))) ∧ Aside0 (Below w.heap.size w w'))
        case atStart => exact ⟨(([] : List Int)), (0), (a1_1), (0), (by first | rfl | (simp; done) | (simp [*]; done)), H', ⟨Nat.le_refl _⟩, ⟨by first | exact Kd.R_nil _ _ _ _ _ | exact Kd.N_nil _ _ _ _ _ | exact Kd.V_nil _ _ _ _ _ | exact Kd.Q_nil _ _ _ _ _ | exact Kd.S_nil _ _ _ _ _⟩, ⟨by (with_reducible repeat (first | apply Kd.V_alloc | apply Kd.V_drewN | apply Kd.V_drew)); exact Kd.V_mono HO_118000.out (fun _ hk => ⟨hk.1, ⟨(by simp [Value.ownBlock]), ⟨hk.2.1, hk.2.2⟩⟩⟩)⟩, ⟨by (with_reducible repeat (first | refine blk_drewN ?_ _ | refine blk_drew ?_ | refine blk_alloc ?_ _)); exact BK117.out⟩, ⟨by (with_reducible repeat (first | refine blk_drewN ?_ _ | refine blk_drew ?_ | refine blk_alloc ?_ _)); exact BK118.out⟩, ⟨by repeat (first | (with_reducible first | exact HB.out | apply below_alloc | apply pw_below_drewN | apply below_drew1 | refine below_set ?_ GE117.out | refine below_set ?_ GE118.out) | exact HB.out)⟩⟩
        case round =>
          clear H'
          try clear c1
          try clear c2
          try clear p2
          try clear c4
          try clear c9
          try clear c10
          try clear c10b0
          try clear c11
          try clear c14
          try clear c17
          try clear c20
          try clear hcz12_0
          try clear hcz12_1
          try clear hcz15_0
          try clear hcz15_1
          try clear hcz18_0
          try clear hcz18_1
          try clear hfz12_0
          try clear hfz12_1
          try clear hfz15_0
          try clear hfz15_1
          try clear hfz18_0
          try clear hfz18_1
          try clear p2
          obtain ⟨x11_2, x29_2, x118001_2, x119001_2, rfl, HA, HK2, HO_11, HO_118000, BK117, BK118, HB⟩ := hrel
          cases gk with
          | zero => exact absurd HA.out (by simp [tape_several_all.l0])
          | succ k2 =>
            have H := HA.out
            clear HA
            simp only [tape_several_all.l0] at H
            by_cases c24 : x29_2 < a2
            · rw [if_pos c24] at H
              have c24b0 : decide (x29_2 < a2) = true := decide_eq_true c24
              clear c24
              replace H := Option.bind_eq_some_iff.mp H
              obtain ⟨⟨t120, t121, t122⟩, A250, H⟩ := H
              replace H : (if t122 = true then (if x11_2.length < 17592186044416 then (tape_several_all.l0 k2 a0 (x11_2 ++ [t120]) a2 (wrap64 (x29_2 + 1)) l1_0 t121) else (none)) else (some (([] : List Int), l1_0, t121, 9))) = some (r1, r2, r3, r4) := H
              have A25 := Aside0.mk A250
              clear A250
              by_cases c26 : t122 = true
              · subst c26
                have H1 : (if x11_2.length < 17592186044416 then (tape_several_all.l0 k2 a0 (x11_2 ++ [t120]) a2 (wrap64 (x29_2 + 1)) l1_0 t121) else (none)) = some (r1, r2, r3, r4) := by rw [if_pos rfl] at H; exact H
                clear H
                have H := H1
                clear H1
                by_cases c27 : x11_2.length < 17592186044416
                · rw [if_pos c27] at H
                  have LMc27 := Aside0.mk c27
                  clear c27
                  obtain ⟨y123, hy123⟩ : ∃ y_ : List Int, y_ = (x11_2 ++ [t120]) := ⟨_, rfl⟩
                  replace H : (tape_several_all.l0 k2 a0 y123 a2 (wrap64 (x29_2 + 1)) l1_0 t121) = some (r1, r2, r3, r4) := by first | (rw [hy123]; with_reducible exact H) | (have H2_ := (Option.bind_some _ _).symm.trans H; rw [hy123]; with_reducible exact H2_) | (have H2_ := (Option.bind_some _ _).symm.trans H; with_reducible exact H2_) | with_reducible exact H | (rw [hy123]; exact H) | exact H
                  have Ny123 := Aside0.mk hy123
                  clear hy123
                  have H' := Aside0.mk H
                  clear H
                  have hnb28 := NB117_118.out
                  have hnc28 := NB118_117.out
                  have hcz29_0 : wr.cell? ⟨gb117, 0, none⟩ = some (.slice A1_0 l1_0.length c1_0) := (blk_cell BK117.out 0).trans rfl
                  have hcz29_1 : wr.cell? ⟨gb117, 1, none⟩ = some (.int .i64 x118001_2) := (blk_cell BK117.out 1).trans rfl
                  have hfz29_0 := blk_frozen BK117.out 0
                  have hfz29_1 := blk_frozen BK117.out 1
                  go_wp2_with (first | ((with_reducible refine gate_callee (f := 47) rfl ?_); refine goesL_ (some 35) rfl rfl Try.func47 (by kernel_rfl) rfl #[.int .u64 a0, .agg #[.slice A1_0 l1_0.length c1_0, .int .i64 x118001_2], .func (.func 48) #[] #[]] rfl (by (try simp only [List.map_toArray, List.map_cons, List.map_nil]); first | done | rfl | (simp only [List.length_drop, List.length_take]; rfl)) ?_; (with_reducible refine (tape_next_all.calls k2 a0 _ _ l1_0 x118001_2 t120 t121 true _ ?side1 ?side2 A25.out).mono ?_); (case side1 => repeat (first | exact (Kd.V_reads' HO_118000.out).2.2 | (with_reducible refine Kd.C_alloc ?_ _) | (with_reducible refine Kd.C_drewN ?_ _) | (with_reducible refine Kd.C_drew ?_))); (case side2 => exact (Kd.V_reads' HO_118000.out).2.1); rintro e w30 ⟨rfl, hb⟩; refine ⟨_, rfl, ?_⟩; have n0_ := Aside0.mk (Kd.R_below (by (with_reducible repeat (first | apply Kd.R_alloc | apply Kd.R_drewN | apply Kd.R_drew)); exact HO_11.out) hb); have n1_ := Aside0.mk (Kd.V_below (by (with_reducible repeat (first | apply Kd.V_alloc | apply Kd.V_drewN | apply Kd.V_drew)); exact HO_118000.out) hb); have n2_ := Aside0.mk (blk_below (g := gb117) (o := .cells #[.slice A1_0 l1_0.length c1_0, .int .i64 x118001_2] 25 (0, 0)) (by (with_reducible repeat (first | refine blk_drewN ?_ _ | refine blk_drew ?_ | refine blk_alloc ?_ _)); exact BK117.out) hb); have n3_ := Aside0.mk (blk_below (g := gb118) (o := .cells #[.slice none 0 0, .int .i64 x119001_2] 25 (0, 0)) (by (with_reducible repeat (first | refine blk_drewN ?_ _ | refine blk_drew ?_ | refine blk_alloc ?_ _)); exact BK118.out) hb); have n4_ := Aside0.mk (below_step (by repeat (first | (with_reducible first | exact HB.out | apply below_alloc | apply pw_below_drewN | apply below_drew1 | refine below_set ?_ GE117.out | refine below_set ?_ GE118.out) | exact HB.out)) hb); clear HO_11; clear HO_118000; clear BK117; clear BK118; clear HB; have HO_11 := n0_; have HO_118000 := n1_; have BK117 := n2_; have BK118 := n3_; have HB := n4_; clear n0_ n1_ n2_ n3_ n4_; (try clear hb); (try clear hb2); (try clear hk); (try clear hi); have hcz31_0 : w30.cell? ⟨gb117, 0, none⟩ = some (.slice A1_0 l1_0.length c1_0) := (blk_cell BK117.out 0).trans rfl; have hcz31_1 : w30.cell? ⟨gb117, 1, none⟩ = some (.int .i64 x118001_2) := (blk_cell BK117.out 1).trans rfl; have hfz31_0 := blk_frozen BK117.out 0; have hfz31_1 := blk_frozen BK117.out 1) | ((with_reducible refine gate_builtin (b := .append) (xs := #[.tmp 44, .tmp 46]) rfl ?_); at_builtin; refine Kd.R_append (Kd.int .u64) (w0 := w) w.heap.size rfl (.tmp 44) (.tmp 46) 23 22 (.int .u64 0) 8 rfl Try.underlying23 info22 rfl (by decide) (by omega) u11 x11_2 t120 [.int .u64 t120] (fun k_ => (w.heap.size ≤ k_)) (fun _ => False) rfl (by first | (go_simp; done) | (go_simp; rfl)) ?aP (fun _ hk => hk.elim) ?aF ?aO ?aB ?aS ?aL ?_; (case aP => exact rfl); (case aB => exact (by repeat (first | (with_reducible first | exact HB.out | apply below_alloc | apply pw_below_drewN | apply below_drew1 | refine below_set ?_ GE117.out | refine below_set ?_ GE118.out) | exact HB.out))); (case aF => exact (fun k_ hk => (Nat.le_trans (below_size (by repeat (first | (with_reducible first | exact HB.out | apply below_alloc | apply pw_below_drewN | apply below_drew1 | refine below_set ?_ GE117.out | refine below_set ?_ GE118.out) | exact HB.out))) hk))); (case aO => exact (by (with_reducible repeat (first | apply Kd.R_alloc | apply Kd.R_drewN | apply Kd.R_drew)); exact Kd.R_mono (Kd.R_far (p := ⟨gb117, 1, none⟩) (Kd.R_types HO_11.out BK117.out (by decide)) (fun _ hk => hk.2) (.int .i64 t121)) (fun _ hk => hk.1))); (case aS => exact (below_size (by repeat (first | (with_reducible first | exact HB.out | apply below_alloc | apply pw_below_drewN | apply below_drew1 | refine below_set ?_ GE117.out | refine below_set ?_ GE118.out) | exact HB.out)))); (case aL => have := LMc27.out; omega); intro v124 w32 ho hb hg hat; rw [← Ny123.out] at ho; have n0_ := Aside0.mk (Kd.V_afterv (ok := (fun k_ => (P1_0_ k_ ∨ w.heap.size ≤ k_) ∧ k_ ≠ gb117 ∧ k_ ≠ gb118)) (by (with_reducible repeat (first | apply Kd.V_alloc | apply Kd.V_drewN | apply Kd.V_drew)); exact Kd.V_mono (Kd.V_far (p := ⟨gb117, 1, none⟩) (Kd.V_mono HO_118000.out (fun k_ hk => (⟨hk, hk.2.2.1⟩ : _ ∧ k_ ≠ gb117))) (fun _ hk => hk.2) (.int .i64 t121)) (fun _ hk => ⟨⟨hk.1.1, ⟨hk.1.2.2.1, hk.1.2.2.2⟩⟩, hk.1.2.1⟩)) hg hat); have n1_ := Aside0.mk (blk_grown (g := gb117) (o := .cells #[.slice A1_0 l1_0.length c1_0, .int .i64 t121] 25 (0, 0)) (by (with_reducible repeat (first | refine blk_drewN ?_ _ | refine blk_drew ?_ | refine blk_alloc ?_ _)); refine blk_put (cs := #[.slice A1_0 l1_0.length c1_0, .int .i64 x118001_2]) ?_ 1 _ rfl; (with_reducible repeat (first | refine blk_drewN ?_ _ | refine blk_drew ?_ | refine blk_alloc ?_ _)); exact BK117.out) hg (Kd.R_ne HO_11.out BK117.out (by decide))); have n2_ := Aside0.mk (blk_grown (g := gb118) (o := .cells #[.slice none 0 0, .int .i64 x119001_2] 25 (0, 0)) (by (with_reducible repeat (first | refine blk_drewN ?_ _ | refine blk_drew ?_ | refine blk_alloc ?_ _)); refine blk_far ?_ NB118_117.out _; (with_reducible repeat (first | refine blk_drewN ?_ _ | refine blk_drew ?_ | refine blk_alloc ?_ _)); exact BK118.out) hg (Kd.R_ne HO_11.out BK118.out (by decide))); have n3_ := Aside0.mk (hb); have n4_ := Aside0.mk (ho); clear HO_118000; clear BK117; clear BK118; clear HB; clear HO_11; have HO_118000 := n0_; have BK117 := n1_; have BK118 := n2_; have HB := n3_; have HO125 := n4_; clear n0_ n1_ n2_ n3_ n4_; clear ho hb hg hat))
                  go_roundg k2
                  case measure => have := HJ4.out; have := HK2.out; omega
                  case rel => exact ⟨(y123), (wrap64 (x29_2 + 1)), (t121), (x119001_2), (by first | rfl | (simp; done) | (simp [*]; done)), H', ⟨by have := HJ4.out; have := HK2.out; omega⟩, ⟨by (with_reducible repeat (first | apply Kd.R_alloc | apply Kd.R_drewN | apply Kd.R_drew)); exact HO125.out⟩, ⟨by (with_reducible repeat (first | apply Kd.V_alloc | apply Kd.V_drewN | apply Kd.V_drew)); exact Kd.V_mono HO_118000.out (fun _ hk => ⟨hk.1.1, ⟨hk.2, ⟨hk.1.2.1, hk.1.2.2⟩⟩⟩)⟩, ⟨by (with_reducible repeat (first | refine blk_drewN ?_ _ | refine blk_drew ?_ | refine blk_alloc ?_ _)); exact BK117.out⟩, ⟨by (with_reducible repeat (first | refine blk_drewN ?_ _ | refine blk_drew ?_ | refine blk_alloc ?_ _)); exact BK118.out⟩, ⟨by repeat (first | (with_reducible first | exact HB.out | apply below_alloc | apply pw_below_drewN | apply below_drew1 | refine below_set ?_ GE117.out | refine below_set ?_ GE118.out) | exact HB.out)⟩⟩
                · rw [if_neg c27] at H
                  exact absurd H (by simp)
              · replace c26 := Bool.eq_false_iff.mpr c26
                subst c26
                have H1 : (some (([] : List Int), l1_0, t121, 9)) = some (r1, r2, r3, r4) := by rw [if_neg (show ¬ (false = true) by decide)] at H; exact H
                clear H
                have H := H1
                clear H1
                simp only [Option.some.injEq, Prod.mk.injEq] at H
                obtain ⟨rfl, rfl, rfl, rfl⟩ := H
                have hnb33 := NB117_118.out
                have hnc33 := NB118_117.out
                have hcz34_0 : wr.cell? ⟨gb117, 0, none⟩ = some (.slice A1_0 l1_0.length c1_0) := (blk_cell BK117.out 0).trans rfl
                have hcz34_1 : wr.cell? ⟨gb117, 1, none⟩ = some (.int .i64 x118001_2) := (blk_cell BK117.out 1).trans rfl
                have hfz34_0 := blk_frozen BK117.out 0
                have hfz34_1 := blk_frozen BK117.out 1
                try go_wp2_with (first | ((with_reducible refine gate_callee (f := 47) rfl ?_); refine goesL_ (some 35) rfl rfl Try.func47 (by kernel_rfl) rfl #[.int .u64 a0, .agg #[.slice A1_0 l1_0.length c1_0, .int .i64 x118001_2], .func (.func 48) #[] #[]] rfl (by (try simp only [List.map_toArray, List.map_cons, List.map_nil]); first | done | rfl | (simp only [List.length_drop, List.length_take]; rfl)) ?_; (with_reducible refine (tape_next_all.calls k2 a0 _ _ l1_0 x118001_2 t120 t121 false _ ?side1 ?side2 A25.out).mono ?_); (case side1 => repeat (first | exact (Kd.V_reads' HO_118000.out).2.2 | (with_reducible refine Kd.C_alloc ?_ _) | (with_reducible refine Kd.C_drewN ?_ _) | (with_reducible refine Kd.C_drew ?_))); (case side2 => exact (Kd.V_reads' HO_118000.out).2.1); rintro e w35 ⟨rfl, hb⟩; refine ⟨_, rfl, ?_⟩; have n0_ := Aside0.mk (Kd.R_below (by (with_reducible repeat (first | apply Kd.R_alloc | apply Kd.R_drewN | apply Kd.R_drew)); exact HO_11.out) hb); have n1_ := Aside0.mk (Kd.V_below (by (with_reducible repeat (first | apply Kd.V_alloc | apply Kd.V_drewN | apply Kd.V_drew)); exact HO_118000.out) hb); have n2_ := Aside0.mk (blk_below (g := gb117) (o := .cells #[.slice A1_0 l1_0.length c1_0, .int .i64 x118001_2] 25 (0, 0)) (by (with_reducible repeat (first | refine blk_drewN ?_ _ | refine blk_drew ?_ | refine blk_alloc ?_ _)); exact BK117.out) hb); have n3_ := Aside0.mk (blk_below (g := gb118) (o := .cells #[.slice none 0 0, .int .i64 x119001_2] 25 (0, 0)) (by (with_reducible repeat (first | refine blk_drewN ?_ _ | refine blk_drew ?_ | refine blk_alloc ?_ _)); exact BK118.out) hb); have n4_ := Aside0.mk (below_step (by repeat (first | (with_reducible first | exact HB.out | apply below_alloc | apply pw_below_drewN | apply below_drew1 | refine below_set ?_ GE117.out | refine below_set ?_ GE118.out) | exact HB.out)) hb); clear HO_11; clear HO_118000; clear BK117; clear BK118; clear HB; have HO_11 := n0_; have HO_118000 := n1_; have BK117 := n2_; have BK118 := n3_; have HB := n4_; clear n0_ n1_ n2_ n3_ n4_; (try clear hb); (try clear hb2); (try clear hk); (try clear hi); have hcz36_0 : w35.cell? ⟨gb117, 0, none⟩ = some (.slice A1_0 l1_0.length c1_0) := (blk_cell BK117.out 0).trans rfl; have hcz36_1 : w35.cell? ⟨gb117, 1, none⟩ = some (.int .i64 x118001_2) := (blk_cell BK117.out 1).trans rfl; have hfz36_0 := blk_frozen BK117.out 0; have hfz36_1 := blk_frozen BK117.out 1))
                have n0_ : Aside0 (Kd.R (Kd.int .u64) 22 (w35.setCell ⟨gb117, 1, none⟩ (.int .i64 t121)) w.heap.size (fun k_ => (w.heap.size ≤ k_)) u11 x11_2) := ⟨by (with_reducible repeat (first | apply Kd.R_alloc | apply Kd.R_drewN | apply Kd.R_drew)); exact Kd.R_mono (Kd.R_far (p := ⟨gb117, 1, none⟩) (Kd.R_types HO_11.out BK117.out (by decide)) (fun _ hk => hk.2) (.int .i64 t121)) (fun _ hk => hk.1)⟩
                have n1_ : Aside0 (Kd.V (Kd.int .u64) 22 (w35.setCell ⟨gb117, 1, none⟩ (.int .i64 t121)) w.heap.size (fun k_ => (P1_0_ k_ ∨ w.heap.size ≤ k_) ∧ some k_ ≠ (u11 : Value).ownBlock ∧ k_ ≠ gb117 ∧ k_ ≠ gb118) (.slice A1_0 l1_0.length c1_0) l1_0) := ⟨by (with_reducible repeat (first | apply Kd.V_alloc | apply Kd.V_drewN | apply Kd.V_drew)); exact Kd.V_mono (Kd.V_far (p := ⟨gb117, 1, none⟩) (Kd.V_mono HO_118000.out (fun k_ hk => (⟨hk, hk.2.2.1⟩ : _ ∧ k_ ≠ gb117))) (fun _ hk => hk.2) (.int .i64 t121)) (fun _ hk => ⟨hk.1.1, ⟨hk.1.2.1, ⟨hk.1.2.2.1, hk.1.2.2.2⟩⟩⟩)⟩
                have n2_ : Aside0 ((w35.setCell ⟨gb117, 1, none⟩ (.int .i64 t121)).heap[gb117]? = some (.cells #[.slice A1_0 l1_0.length c1_0, .int .i64 t121] 25 (0, 0))) := ⟨by (with_reducible repeat (first | refine blk_drewN ?_ _ | refine blk_drew ?_ | refine blk_alloc ?_ _)); refine blk_put (cs := #[.slice A1_0 l1_0.length c1_0, .int .i64 x118001_2]) ?_ 1 _ rfl; (with_reducible repeat (first | refine blk_drewN ?_ _ | refine blk_drew ?_ | refine blk_alloc ?_ _)); exact BK117.out⟩
                have n3_ : Aside0 ((w35.setCell ⟨gb117, 1, none⟩ (.int .i64 t121)).heap[gb118]? = some (.cells #[.slice none 0 0, .int .i64 x119001_2] 25 (0, 0))) := ⟨by (with_reducible repeat (first | refine blk_drewN ?_ _ | refine blk_drew ?_ | refine blk_alloc ?_ _)); refine blk_far ?_ NB118_117.out _; (with_reducible repeat (first | refine blk_drewN ?_ _ | refine blk_drew ?_ | refine blk_alloc ?_ _)); exact BK118.out⟩
                have n4_ : Aside0 (Below w.heap.size w (w35.setCell ⟨gb117, 1, none⟩ (.int .i64 t121))) := ⟨by repeat (first | (with_reducible first | exact HB.out | apply below_alloc | apply pw_below_drewN | apply below_drew1 | refine below_set ?_ GE117.out | refine below_set ?_ GE118.out) | exact HB.out)⟩
                (try clear HO_11)
                (try clear HO_118000)
                (try clear BK117)
                (try clear BK118)
                (try clear HB)
                generalize (w35.setCell ⟨gb117, 1, none⟩ (.int .i64 t121)) = w37 at n0_ n1_ n2_ n3_ n4_ ⊢
                have HO_11 := n0_
                have HO_118000 := n1_
                have BK117 := n2_
                have BK118 := n3_
                have HB := n4_
                clear n0_ n1_ n2_ n3_ n4_
                have n0_ := Aside0.mk (Kd.R_drew HO_11.out)
                have n1_ := Aside0.mk (Kd.V_drew HO_118000.out)
                have n2_ := Aside0.mk (blk_drew BK117.out)
                have n3_ := Aside0.mk (blk_drew BK118.out)
                have n4_ := Aside0.mk (below_drew1 HB.out)
                clear HO_11
                clear HO_118000
                clear BK117
                clear BK118
                clear HB
                have HO_11 := n0_
                have HO_118000 := n1_
                have BK117 := n2_
                have BK118 := n3_
                have HB := n4_
                clear n0_ n1_ n2_ n3_ n4_
                refine start_ (n := 4) (S := fun w' => w'.cell? ⟨gb117, 0, none⟩ = some (.slice A1_0 l1_0.length c1_0) ∧ w'.cell? ⟨gb117, 1, none⟩ = some (.int .i64 t121)) (ds := []) #[false, false, false, false] (by kernel_rfl) rfl rfl ⟨(blk_cell BK117.out 0).trans rfl, (blk_cell BK117.out 1).trans rfl⟩ (fun hHeld => ?_)
                generalize w37.drew = w38 at HO_11 HO_118000 BK117 BK118 HB hHeld ⊢
                refine pure_ (i := 1) (N := some 8) (v := ?_) (a' := ?_) #[false, true, false, false] rfl rfl (by kernel_rfl) (fun _ _ _ h => h) (Or.inl ⟨by rfl, ?_⟩) ?_ ?_
                rotate_left
                · intro w'
                  go_simp
                  with_reducible rfl
                rotate_left
                · simp only [Act.put, List.setIfInBounds_toArray, List.set_cons_zero, List.set_cons_succ, i64_w, i32_w]
                  rfl
                refine take_ (i := 0) (N := some 43) (v := ?_) (a' := ?_) #[true, true, false, false] rfl rfl (by kernel_rfl) (fun _ _ _ h => h) (Or.inl ⟨by rfl, ?_⟩) hHeld ?_ ?_
                rotate_left
                · rintro w' ⟨s0, s1⟩
                  go_simp
                  with_reducible rfl
                rotate_left
                · simp only [Act.put, List.setIfInBounds_toArray, List.set_cons_zero, List.set_cons_succ, i64_w, i32_w]
                  rfl
                refine one_ (i := 2) (N := none) #[true, true, true, false] rfl rfl (by kernel_rfl) (by decide) (fun K hK => ?_)
                have hs39 : w38.cell? ⟨gb118, 0, none⟩ = some (.slice none 0 0) := (blk_cell BK118.out 0).trans rfl
                have hfs39 := blk_frozen BK118.out 0
                have hns39_0 := NB117_118.out
                have hms39_0 := NB118_117.out
                have hs40 : w38.cell? ⟨gb118, 1, none⟩ = some (.int .i64 x119001_2) := (blk_cell BK118.out 1).trans rfl
                have hfs40 := blk_frozen BK118.out 1
                have hns40_0 := NB117_118.out
                have hms40_0 := NB118_117.out
                refine skip_ (w1 := ?_) (by rfl) rfl ?_ ?_
                rotate_left
                · go_simp
                  rfl
                refine hK.out _ _ ⟨((cell_far (p := ⟨gb118, _, none⟩) NB117_118.out _).trans (((cell_far (p := ⟨gb118, _, none⟩) NB117_118.out _).trans (hHeld.1)))), ((cell_far (p := ⟨gb118, _, none⟩) NB117_118.out _).trans (((cell_far (p := ⟨gb118, _, none⟩) NB117_118.out _).trans (hHeld.2))))⟩ (fun hHeld => ?_)
                clear hK K
                refine pure_ (i := 3) (N := some 10) (v := ?_) (a' := ?_) #[true, true, true, true] rfl rfl (by kernel_rfl) (fun _ _ _ h => h) (Or.inl ⟨by rfl, ?_⟩) ?_ ?_
                rotate_left
                · intro w'
                  go_simp
                  with_reducible rfl
                rotate_left
                · simp only [Act.put, List.setIfInBounds_toArray, List.set_cons_zero, List.set_cons_succ, i64_w, i32_w]
                  rfl
                refine done_ (by kernel_rfl) ?_
                try go_wp2
                refine bodyPost_ret (results_list (rs := [.tmp 8, .cell 9 25, .tmp 10]) rfl (by simp) (.tmp (.cell gb118 25 #[.slice A1_0 l1_0.length c1_0, .int .i64 t121] (0, 0) _ rfl (by (with_reducible repeat (first | refine blk_drewN ?_ _ | refine blk_drew ?_ | refine blk_alloc ?_ _)); refine blk_put (cs := #[.slice A1_0 l1_0.length c1_0, .int .i64 x119001_2]) ?_ 1 _ rfl; (with_reducible repeat (first | refine blk_drewN ?_ _ | refine blk_drew ?_ | refine blk_alloc ?_ _)); refine blk_put (cs := #[.slice none 0 0, .int .i64 x119001_2]) ?_ 0 _ rfl; (with_reducible repeat (first | refine blk_drewN ?_ _ | refine blk_drew ?_ | refine blk_alloc ?_ _)); exact BK118.out) Try.underlying25 rfl (by kernel_rfl) (.tmp .nil)))) rfl ?_
                exact ⟨_, _, by first | rfl | (simp [errW_none, errW_some] <;> rfl) | (simp [*, errW_none, errW_some] <;> rfl), by first | exact Kd.R_nil _ _ _ _ _ | exact Kd.N_nil _ _ _ _ _ | exact Kd.V_nil _ _ _ _ _ | exact Kd.Q_nil _ _ _ _ _ | exact Kd.S_nil _ _ _ _ _, by (with_reducible repeat (first | apply Kd.V_alloc | apply Kd.V_drewN | apply Kd.V_drew)); exact Kd.V_mono (Kd.V_far (p := ⟨gb118, 1, none⟩) (Kd.V_far (p := ⟨gb118, 0, none⟩) (Kd.V_mono HO_118000.out (fun k_ hk => (⟨hk, hk.2.2.2⟩ : _ ∧ k_ ≠ gb118))) (fun _ hk => hk.2) (.slice A1_0 l1_0.length c1_0)) (fun _ hk => hk.2) (.int .i64 t121)) (fun _ hk => ⟨hk.1.1, (by simp [Value.ownBlock])⟩), by repeat (first | (with_reducible first | exact HB.out | apply below_alloc | apply pw_below_drewN | apply below_drew1 | refine below_set ?_ GE117.out | refine below_set ?_ GE118.out) | exact HB.out)⟩
            · rw [if_neg c24] at H
              have c24b0 : decide (x29_2 < a2) = false := decide_eq_false c24
              clear c24
              simp only [Option.some.injEq, Prod.mk.injEq] at H
              obtain ⟨rfl, rfl, rfl, rfl⟩ := H
              try go_wp2
              have n0_ := Aside0.mk (Kd.R_drew HO_11.out)
              have n1_ := Aside0.mk (Kd.V_drew HO_118000.out)
              have n2_ := Aside0.mk (blk_drew BK117.out)
              have n3_ := Aside0.mk (blk_drew BK118.out)
              have n4_ := Aside0.mk (below_drew1 HB.out)
              clear HO_11
              clear HO_118000
              clear BK117
              clear BK118
              clear HB
              have HO_11 := n0_
              have HO_118000 := n1_
              have BK117 := n2_
              have BK118 := n3_
              have HB := n4_
              clear n0_ n1_ n2_ n3_ n4_
              refine start_ (n := 5) (S := fun w' => w'.cell? ⟨gb117, 0, none⟩ = some (.slice A1_0 l1_0.length c1_0) ∧ w'.cell? ⟨gb117, 1, none⟩ = some (.int .i64 x118001_2)) (ds := []) #[false, false, false, false, false] (by kernel_rfl) rfl rfl ⟨(blk_cell BK117.out 0).trans rfl, (blk_cell BK117.out 1).trans rfl⟩ (fun hHeld => ?_)
              generalize wr.drew = w41 at HO_11 HO_118000 BK117 BK118 HB hHeld ⊢
              refine pure_ (i := 0) (N := some 49) (v := ?_) (a' := ?_) #[true, false, false, false, false] rfl rfl (by kernel_rfl) (fun _ _ _ h => h) (Or.inl ⟨by rfl, ?_⟩) ?_ ?_
              rotate_left
              · intro w'
                go_simp
                with_reducible rfl
              rotate_left
              · simp only [Act.put, List.setIfInBounds_toArray, List.set_cons_zero, List.set_cons_succ, i64_w, i32_w]
                rfl
              refine pure_ (i := 2) (N := some 8) (v := ?_) (a' := ?_) #[true, false, true, false, false] rfl rfl (by kernel_rfl) (fun _ _ _ h => h) (Or.inl ⟨by rfl, ?_⟩) ?_ ?_
              rotate_left
              · intro w'
                go_simp
                with_reducible rfl
              rotate_left
              · simp only [Act.put, List.setIfInBounds_toArray, List.set_cons_zero, List.set_cons_succ, i64_w, i32_w]
                rfl
              refine take_ (i := 1) (N := some 50) (v := ?_) (a' := ?_) #[true, true, true, false, false] rfl rfl (by kernel_rfl) (fun _ _ _ h => h) (Or.inl ⟨by rfl, ?_⟩) hHeld ?_ ?_
              rotate_left
              · rintro w' ⟨s0, s1⟩
                go_simp
                with_reducible rfl
              rotate_left
              · simp only [Act.put, List.setIfInBounds_toArray, List.set_cons_zero, List.set_cons_succ, i64_w, i32_w]
                rfl
              refine one_ (i := 3) (N := none) #[true, true, true, true, false] rfl rfl (by kernel_rfl) (by decide) (fun K hK => ?_)
              have hs42 : w41.cell? ⟨gb118, 0, none⟩ = some (.slice none 0 0) := (blk_cell BK118.out 0).trans rfl
              have hfs42 := blk_frozen BK118.out 0
              have hns42_0 := NB117_118.out
              have hms42_0 := NB118_117.out
              have hs43 : w41.cell? ⟨gb118, 1, none⟩ = some (.int .i64 x119001_2) := (blk_cell BK118.out 1).trans rfl
              have hfs43 := blk_frozen BK118.out 1
              have hns43_0 := NB117_118.out
              have hms43_0 := NB118_117.out
              refine skip_ (w1 := ?_) (by rfl) rfl ?_ ?_
              rotate_left
              · go_simp
                rfl
              refine hK.out _ _ ⟨((cell_far (p := ⟨gb118, _, none⟩) NB117_118.out _).trans (((cell_far (p := ⟨gb118, _, none⟩) NB117_118.out _).trans (hHeld.1)))), ((cell_far (p := ⟨gb118, _, none⟩) NB117_118.out _).trans (((cell_far (p := ⟨gb118, _, none⟩) NB117_118.out _).trans (hHeld.2))))⟩ (fun hHeld => ?_)
              clear hK K
              refine pure_ (i := 4) (N := some 10) (v := ?_) (a' := ?_) #[true, true, true, true, true] rfl rfl (by kernel_rfl) (fun _ _ _ h => h) (Or.inl ⟨by rfl, ?_⟩) ?_ ?_
              rotate_left
              · intro w'
                go_simp
                with_reducible rfl
              rotate_left
              · simp only [Act.put, List.setIfInBounds_toArray, List.set_cons_zero, List.set_cons_succ, i64_w, i32_w]
                rfl
              refine done_ (by kernel_rfl) ?_
              try go_wp2
              refine bodyPost_ret (results_list (rs := [.tmp 8, .cell 9 25, .tmp 10]) rfl (by simp) (.tmp (.cell gb118 25 #[.slice A1_0 l1_0.length c1_0, .int .i64 x118001_2] (0, 0) _ rfl (by (with_reducible repeat (first | refine blk_drewN ?_ _ | refine blk_drew ?_ | refine blk_alloc ?_ _)); refine blk_put (cs := #[.slice A1_0 l1_0.length c1_0, .int .i64 x119001_2]) ?_ 1 _ rfl; (with_reducible repeat (first | refine blk_drewN ?_ _ | refine blk_drew ?_ | refine blk_alloc ?_ _)); refine blk_put (cs := #[.slice none 0 0, .int .i64 x119001_2]) ?_ 0 _ rfl; (with_reducible repeat (first | refine blk_drewN ?_ _ | refine blk_drew ?_ | refine blk_alloc ?_ _)); exact BK118.out) Try.underlying25 rfl (by kernel_rfl) (.tmp .nil)))) rfl ?_
              exact ⟨_, _, by first | rfl | (simp [errW_none, errW_some] <;> rfl) | (simp [*, errW_none, errW_some] <;> rfl), by (with_reducible repeat (first | apply Kd.R_alloc | apply Kd.R_drewN | apply Kd.R_drew)); exact Kd.R_mono (Kd.R_far (p := ⟨gb118, 1, none⟩) (Kd.R_far (p := ⟨gb118, 0, none⟩) (Kd.R_types HO_11.out BK118.out (by decide)) (fun _ hk => hk.2) (.slice A1_0 l1_0.length c1_0)) (fun _ hk => hk.2) (.int .i64 x118001_2)) (fun _ hk => hk.1), by (with_reducible repeat (first | apply Kd.V_alloc | apply Kd.V_drewN | apply Kd.V_drew)); exact Kd.V_mono (Kd.V_far (p := ⟨gb118, 1, none⟩) (Kd.V_far (p := ⟨gb118, 0, none⟩) (Kd.V_mono HO_118000.out (fun k_ hk => (⟨hk, hk.2.2.2⟩ : _ ∧ k_ ≠ gb118))) (fun _ hk => hk.2) (.slice A1_0 l1_0.length c1_0)) (fun _ hk => hk.2) (.int .i64 x118001_2)) (fun _ hk => ⟨hk.1.1, hk.1.2.1⟩), by repeat (first | (with_reducible first | exact HB.out | apply below_alloc | apply pw_below_drewN | apply below_drew1 | refine below_set ?_ GE117.out | refine below_set ?_ GE118.out) | exact HB.out)⟩

/-! ### tape_Many: function 16 -/
def tape_Many.f (k : Nat) (a0 : Int) (l1_0 : List Int) (a1_1 : Int) (a2 : Int) : Option (List Int × List Int × Int × Int) := (tape_several_all.f k a0 l1_0 a1_1 a2).bind fun bt128 => (some (bt128.1, bt128.2.1, bt128.2.2.1, bt128.2.2.2))
theorem tape_Many.mono : ∀ a0 a1 a2 a3 k, LeO (tape_Many.f k a0 a1 a2 a3) (tape_Many.f (k + 1) a0 a1 a2 a3) := by
  intro a0 a1 a2 a3 k
  unfold tape_Many.f
  repeat' first
      | (with_reducible exact tape_several_all.mono _ _ _ _ _)
      | (with_reducible exact LeO.refl _)
      | (with_reducible exact LeO.none _)
      | (with_reducible refine LeO.ite ?_ ?_)
      | (with_reducible refine LeO.bind ?_ (fun _ => ?_))
      | exact tape_several_all.mono _ _ _ _ _
      | exact LeO.none _
      | refine LeO.ite ?_ ?_
      | refine LeO.bind ?_ (fun _ => ?_)
set_option maxHeartbeats 8000000 in
set_option maxRecDepth 100000 in
theorem tape_Many.calls (k : Nat) (a0 : Int) (P1_0_ : Nat → Prop) (A1_0 : Option Addr) (c1_0 : Nat) (l1_0 : List Int) (a1_1 : Int) (a2 : Int) (r1 : List Int) (r2 : List Int) (r3 : Int) (r4 : Int) (w : World) (hs1_0 : Kd.V (Kd.int .u64) 22 w w.heap.size (fun k_ => P1_0_ k_) (.slice A1_0 l1_0.length c1_0) l1_0) (h : tape_Many.f k a0 l1_0 a1_1 a2 = some (r1, r2, r3, r4)) :
    Calls Try.prog 16 #[.int .u64 a0, .agg #[.slice A1_0 l1_0.length c1_0, .int .i64 a1_1], .int .i64 a2] w fun e w' => ∃ v0_ v1_ : Value, e = .returned (.tuple #[v0_, .agg #[v1_, .int .i64 r3], .int .i64 r4]) ∧ Kd.R (Kd.int .u64) 22 w' w.heap.size (fun k_ => (w.heap.size ≤ k_)) v0_ r1 ∧ Kd.V (Kd.int .u64) 22 w' w.heap.size (fun k_ => (P1_0_ k_ ∨ w.heap.size ≤ k_) ∧ some k_ ≠ (v0_ : Value).ownBlock) v1_ r2 ∧ Below w.heap.size w w' := by
  have hu25 := Try.underlying25
  have HO1_0 := Aside0.mk (show Kd.V (Kd.int .u64) 22 w w.heap.size (fun k_ => (P1_0_ k_ ∨ w.heap.size ≤ k_)) (.slice A1_0 l1_0.length c1_0) l1_0 from Kd.V_mono hs1_0 (fun k_ hk => .inl hk))
  have HB := Aside0.mk (Below.refl w.heap.size w)
  have H : ((tape_several_all.f k a0 l1_0 a1_1 a2).bind fun bt128 => (some (bt128.1, bt128.2.1, bt128.2.2.1, bt128.2.2.2))) = some (r1, r2, r3, r4) := h
  clear h
  replace H := Option.bind_eq_some_iff.mp H
  obtain ⟨⟨t128, t131, t134, t135⟩, A40, H⟩ := H
  replace H : (some (t128, t131, t134, t135)) = some (r1, r2, r3, r4) := H
  have A4 := Aside0.mk A40
  clear A40
  simp only [Option.some.injEq, Prod.mk.injEq] at H
  obtain ⟨rfl, rfl, rfl, rfl⟩ := H
  go_enter Try.func16, Try.ntmps16
  go_wp2_with (first | ((with_reducible refine gate_dst (N := 4) rfl ?_); refine box_event ?hg (N := 4) ?hd (cs := #[.slice A1_0 l1_0.length c1_0, .int .i64 a1_1]) (t := 25) ?hr ?_; (case hd => rfl); (case hg => rfl); (case hr => first | (go_simp; done) | (go_simp; rfl)); intro gb126 hg w5 hbox hb; have n0_ := Aside0.mk (Kd.V_below (Kd.V_elderB (by (with_reducible repeat (first | apply Kd.V_alloc | apply Kd.V_drewN | apply Kd.V_drew)); exact HO1_0.out) gb126 (Nat.le_of_eq hg.symm)) hb); have n1_ := Aside0.mk (below_step (by repeat (first | (with_reducible first | exact HB.out | apply below_alloc | apply pw_below_drewN | apply below_drew1) | exact HB.out)) hb); have n2_ := Aside0.mk (hbox); have n3_ := Aside0.mk ((by rw [hg]; exact (below_size (by repeat (first | (with_reducible first | exact HB.out | apply below_alloc | apply pw_below_drewN | apply below_drew1) | exact HB.out))) : w.heap.size ≤ gb126)); have n4_ := Aside0.mk ((by rw [hg]; exact (below_size (by repeat (first | (with_reducible first | exact HB.out | apply below_alloc | apply pw_below_drewN | apply below_drew1) | exact HB.out))) : w.heap.size ≤ gb126)); clear HO1_0; clear HB; have HO1_0 := n0_; have HB := n1_; have BK126 := n2_; have GW126 := n3_; have GE126 := n4_; clear n0_ n1_ n2_ n3_ n4_; clear hb hbox hg) | ((with_reducible refine gate_dst (N := 7) rfl ?_); refine box_event ?hg (N := 7) ?hd (cs := #[.slice none 0 0, .int .i64 0]) (t := 25) ?hr ?_; (case hd => rfl); (case hg => rfl); (case hr => first | (go_simp; done) | (go_simp; rfl)); intro gb127 hg w6 hbox hb; have n0_ := Aside0.mk (Kd.V_below (Kd.V_elderB (by (with_reducible repeat (first | apply Kd.V_alloc | apply Kd.V_drewN | apply Kd.V_drew)); exact HO1_0.out) gb127 (Nat.le_of_eq hg.symm)) hb); have n1_ := Aside0.mk (blk_below (g := gb126) (o := .cells #[.slice A1_0 l1_0.length c1_0, .int .i64 a1_1] 25 (0, 0)) (by (with_reducible repeat (first | refine blk_drewN ?_ _ | refine blk_drew ?_ | refine blk_alloc ?_ _)); exact BK126.out) hb); have n2_ := Aside0.mk (below_step (by repeat (first | (with_reducible first | exact HB.out | apply below_alloc | apply pw_below_drewN | apply below_drew1 | refine below_set ?_ GE126.out) | exact HB.out)) hb); have n3_ := Aside0.mk (hbox); have n4_ := Aside0.mk ((by rw [hg]; exact (below_size (by repeat (first | (with_reducible first | exact HB.out | apply below_alloc | apply pw_below_drewN | apply below_drew1 | refine below_set ?_ GE126.out) | exact HB.out))) : w.heap.size ≤ gb127)); have n5_ := Aside0.mk ((by rw [hg]; exact (below_size (by repeat (first | (with_reducible first | exact HB.out | apply below_alloc | apply pw_below_drewN | apply below_drew1 | refine below_set ?_ GE126.out) | exact HB.out))) : w.heap.size ≤ gb127)); have n6_ := Aside0.mk ((by rw [hg]; exact Nat.ne_of_lt (blk_lt (g := gb126) (o := .cells #[.slice A1_0 l1_0.length c1_0, .int .i64 a1_1] 25 (0, 0)) (by (with_reducible repeat (first | refine blk_drewN ?_ _ | refine blk_drew ?_ | refine blk_alloc ?_ _)); exact BK126.out)) : gb126 ≠ gb127)); have n7_ := Aside0.mk ((by rw [hg]; exact Nat.ne_of_gt (blk_lt (g := gb126) (o := .cells #[.slice A1_0 l1_0.length c1_0, .int .i64 a1_1] 25 (0, 0)) (by (with_reducible repeat (first | refine blk_drewN ?_ _ | refine blk_drew ?_ | refine blk_alloc ?_ _)); exact BK126.out)) : gb127 ≠ gb126)); clear HO1_0; clear BK126; clear HB; have HO1_0 := n0_; have BK126 := n1_; have HB := n2_; have BK127 := n3_; have GW127 := n4_; have GE127 := n5_; have NB126_127 := n6_; have NB127_126 := n7_; clear n0_ n1_ n2_ n3_ n4_ n5_ n6_ n7_; clear hb hbox hg; have hnb7 := NB126_127.out; have hnc7 := NB127_126.out; have hcz8_0 : w6.cell? ⟨gb126, 0, none⟩ = some (.slice A1_0 l1_0.length c1_0) := (blk_cell BK126.out 0).trans rfl; have hcz8_1 : w6.cell? ⟨gb126, 1, none⟩ = some (.int .i64 a1_1) := (blk_cell BK126.out 1).trans rfl; have hfz8_0 := blk_frozen BK126.out 0; have hfz8_1 := blk_frozen BK126.out 1) | ((with_reducible refine gate_callee (f := 49) rfl ?_); refine goesL_ (some 12) rfl rfl Try.func49 (by kernel_rfl) rfl #[.int .u64 a0, .agg #[.slice A1_0 l1_0.length c1_0, .int .i64 a1_1], .int .i64 a2, .func (.func 48) #[] #[]] rfl (by (try simp only [List.map_toArray, List.map_cons, List.map_nil]); first | done | rfl | (simp only [List.length_drop, List.length_take]; rfl)) ?_; (with_reducible refine (tape_several_all.calls k a0 (fun k_ => (((P1_0_ k_ ∨ w.heap.size ≤ k_) ∧ k_ ≠ gb126) ∧ k_ ≠ gb127)) _ _ l1_0 a1_1 a2 t128 t131 t134 t135 _ ?side1 A4.out).mono ?_); (case side1 => exact HO1_0.out); rintro e w9 ⟨v129, v132, rfl, ho0, ho1, hb⟩; refine ⟨_, rfl, ?_⟩; have n0_ := Aside0.mk (Kd.V_elder' (by (with_reducible repeat (first | apply Kd.V_alloc | apply Kd.V_drewN | apply Kd.V_drew)); exact HO1_0.out) (Kd.R_base ho0) hb); have n1_ := Aside0.mk (Kd.R_lower (Kd.R_newM (M := fun k_ => (w.heap.size ≤ k_)) (Kd.R_mono (ok' := fun k_ => True) ho0 (fun _ hk_ => trivial)) (below_size (by repeat (first | (with_reducible first | exact HB.out | apply below_alloc | apply pw_below_drewN | apply below_drew1 | refine below_set ?_ GE126.out | refine below_set ?_ GE127.out) | exact HB.out))) (fun k_ h_ => h_)) (below_size (by repeat (first | (with_reducible first | exact HB.out | apply below_alloc | apply pw_below_drewN | apply below_drew1 | refine below_set ?_ GE126.out | refine below_set ?_ GE127.out) | exact HB.out)))); have n2_ := Aside0.mk (Kd.V_lower (Kd.V_mono (ok' := fun k_ => (P1_0_ k_ ∨ w.heap.size ≤ k_) ∧ some k_ ≠ (v129 : Value).ownBlock ∧ k_ ≠ gb126 ∧ k_ ≠ gb127) ho1 (fun k_ hk_ => ⟨Or.elim hk_.1 (fun hs_ => hs_.1.1) (fun hn_ => (.inr (Nat.le_trans (below_size (by repeat (first | (with_reducible first | exact HB.out | apply below_alloc | apply pw_below_drewN | apply below_drew1 | refine below_set ?_ GE126.out | refine below_set ?_ GE127.out) | exact HB.out))) hn_))), hk_.2, Or.elim hk_.1 (fun hs_ => hs_.1.2) (fun hn_ => (Kd.freshB (g := gb126) (o := .cells #[.slice A1_0 l1_0.length c1_0, .int .i64 a1_1] 25 (0, 0)) (by (with_reducible repeat (first | refine blk_drewN ?_ _ | refine blk_drew ?_ | refine blk_alloc ?_ _)); exact BK126.out) k_ hn_)), Or.elim hk_.1 (fun hs_ => hs_.2) (fun hn_ => (Kd.freshB (g := gb127) (o := .cells #[.slice none 0 0, .int .i64 0] 25 (0, 0)) (by (with_reducible repeat (first | refine blk_drewN ?_ _ | refine blk_drew ?_ | refine blk_alloc ?_ _)); exact BK127.out) k_ hn_))⟩)) (below_size (by repeat (first | (with_reducible first | exact HB.out | apply below_alloc | apply pw_below_drewN | apply below_drew1 | refine below_set ?_ GE126.out | refine below_set ?_ GE127.out) | exact HB.out)))); have n3_ := Aside0.mk (blk_below (g := gb126) (o := .cells #[.slice A1_0 l1_0.length c1_0, .int .i64 a1_1] 25 (0, 0)) (by (with_reducible repeat (first | refine blk_drewN ?_ _ | refine blk_drew ?_ | refine blk_alloc ?_ _)); exact BK126.out) hb); have n4_ := Aside0.mk (blk_below (g := gb127) (o := .cells #[.slice none 0 0, .int .i64 0] 25 (0, 0)) (by (with_reducible repeat (first | refine blk_drewN ?_ _ | refine blk_drew ?_ | refine blk_alloc ?_ _)); exact BK127.out) hb); have n5_ := Aside0.mk (below_step (by repeat (first | (with_reducible first | exact HB.out | apply below_alloc | apply pw_below_drewN | apply below_drew1 | refine below_set ?_ GE126.out | refine below_set ?_ GE127.out) | exact HB.out)) hb); clear HO1_0; clear BK126; clear BK127; clear HB; have HO1_0 := n0_; have HO130 := n1_; have HO133 := n2_; have BK126 := n3_; have BK127 := n4_; have HB := n5_; clear n0_ n1_ n2_ n3_ n4_ n5_; (try clear hb); (try clear hb2); (try clear hk); (try clear hi); (try clear ho0); (try clear ho1); obtain ⟨Ao10, co10, eo10⟩ := Kd.V_slice HO133.out; subst eo10; have hcz11_0 : w9.cell? ⟨gb127, 0, none⟩ = some (.slice none 0 0) := (blk_cell BK127.out 0).trans rfl; have hcz11_1 : w9.cell? ⟨gb127, 1, none⟩ = some (.int .i64 0) := (blk_cell BK127.out 1).trans rfl; have hfz11_0 := blk_frozen BK127.out 0; have hfz11_1 := blk_frozen BK127.out 1))
  refine bodyPost_ret (results_list (rs := [.tmp 6, .cell 7 25, .tmp 8]) rfl (by simp) (.tmp (.cell gb127 25 #[.slice Ao10 t131.length co10, .int .i64 t134] (0, 0) _ rfl (by (with_reducible repeat (first | refine blk_drewN ?_ _ | refine blk_drew ?_ | refine blk_alloc ?_ _)); refine blk_put (cs := #[.slice Ao10 t131.length co10, .int .i64 0]) ?_ 1 _ rfl; (with_reducible repeat (first | refine blk_drewN ?_ _ | refine blk_drew ?_ | refine blk_alloc ?_ _)); refine blk_put (cs := #[.slice none 0 0, .int .i64 0]) ?_ 0 _ rfl; (with_reducible repeat (first | refine blk_drewN ?_ _ | refine blk_drew ?_ | refine blk_alloc ?_ _)); exact BK127.out) Try.underlying25 rfl (by kernel_rfl) (.tmp .nil)))) rfl ?_
  exact ⟨_, _, by first | rfl | (simp [errW_none, errW_some] <;> rfl) | (simp [*, errW_none, errW_some] <;> rfl), by (with_reducible repeat (first | apply Kd.R_alloc | apply Kd.R_drewN | apply Kd.R_drew)); exact Kd.R_mono (Kd.R_far (p := ⟨gb127, 1, none⟩) (Kd.R_far (p := ⟨gb127, 0, none⟩) (Kd.R_types HO130.out BK127.out (by decide)) (fun _ hk => hk.2) (.slice Ao10 t131.length co10)) (fun _ hk => hk.2) (.int .i64 t134)) (fun _ hk => hk.1.1), by (with_reducible repeat (first | apply Kd.V_alloc | apply Kd.V_drewN | apply Kd.V_drew)); exact Kd.V_mono (Kd.V_far (p := ⟨gb127, 1, none⟩) (Kd.V_far (p := ⟨gb127, 0, none⟩) (Kd.V_mono HO133.out (fun k_ hk => (⟨hk, hk.2.2.2⟩ : _ ∧ k_ ≠ gb127))) (fun _ hk => hk.2) (.slice Ao10 t131.length co10)) (fun _ hk => hk.2) (.int .i64 t134)) (fun _ hk => ⟨hk.1.1, hk.1.2.1⟩), by repeat (first | (with_reducible first | exact HB.out | apply below_alloc | apply pw_below_drewN | apply below_drew1 | refine below_set ?_ GE126.out | refine below_set ?_ GE127.out) | exact HB.out)⟩

/-! ### tape_some: function 50 -/
def tape_some.f (a0 : Int) : Option (Bool) := some (a0 != 0)
set_option maxHeartbeats 8000000 in
set_option maxRecDepth 100000 in
theorem tape_some.calls (a0 : Int) (r : Bool) (w : World) (h : tape_some.f a0 = some r) :
    Calls Try.prog 50 #[.int .u64 a0] w fun e w' => e = .returned (.bool r) ∧ Drawn0 w w' := by
  have H : (some (a0 != 0)) = some r := h
  clear h
  obtain rfl := Option.some.inj H
  go_enter Try.func50, Try.ntmps50
  go_wp2
  go_ret
  exact ⟨by first | rfl | (simp; done) | (simp [*]; done), by repeat (first | exact Drawn0.refl _ | apply Drawn0.step)⟩

/-! ### tape_next_some: function 47 -/
def tape_next_some.l0 : Nat → Int → Int → List Int → Int → Option (Int × Int × Bool)
  | 0, _, _, _, _ => none
  | k + 1, x0, x9, x137000, x137001 => if x9 < (x137000.length : Int) then (if 0 ≤ x9 then ((tape_Counts.f x0 (rd x137000 x9)).bind fun t138 => (if t138 = true then (if x0 = 0 then (none) else ((tape_some.f (Int.tmod (rd x137000 x9) x0)).bind fun t139 => (if t139 = true then (some (Int.tmod (rd x137000 x9) x0, wrap64 (x9 + 1), true)) else (tape_next_some.l0 k x0 (wrap64 (x9 + 1)) x137000 x137001)))) else (tape_next_some.l0 k x0 (wrap64 (x9 + 1)) x137000 x137001))) else (none)) else (some (0, (x137000.length : Int), false))
def tape_next_some.f (k : Nat) (a0 : Int) (l1_0 : List Int) (a1_1 : Int)  : Option (Int × Int × Bool) := tape_next_some.l0 k a0 a1_1 l1_0 a1_1
theorem tape_next_some.mono_l : ∀ k, (∀ y0 y1 y2 y3, LeO (tape_next_some.l0 k y0 y1 y2 y3) (tape_next_some.l0 (k + 1) y0 y1 y2 y3))
  | 0 => fun _ _ _ _ r h => by simp [tape_next_some.l0] at h
  | k + 1 => by
    have ih0 := tape_next_some.mono_l k
    · intro y0 y1 y2 y3
      unfold tape_next_some.l0
      repeat' first
      | (with_reducible exact ih0 _ _ _ _)
      | (with_reducible exact LeO.refl _)
      | (with_reducible exact LeO.none _)
      | (with_reducible refine LeO.ite ?_ ?_)
      | (with_reducible refine LeO.bind ?_ (fun _ => ?_))
      | exact ih0 _ _ _ _
      | exact LeO.none _
      | refine LeO.ite ?_ ?_
      | refine LeO.bind ?_ (fun _ => ?_)
theorem tape_next_some.mono : ∀ a0 a1 a2 k, LeO (tape_next_some.f k a0 a1 a2) (tape_next_some.f (k + 1) a0 a1 a2) := by
  intro a0 a1 a2 k
  have ih0 := tape_next_some.mono_l k
  unfold tape_next_some.f
  repeat' first
      | (with_reducible exact ih0 _ _ _ _)
      | (with_reducible exact LeO.refl _)
      | (with_reducible exact LeO.none _)
      | (with_reducible refine LeO.ite ?_ ?_)
      | (with_reducible refine LeO.bind ?_ (fun _ => ?_))
      | exact ih0 _ _ _ _
      | exact LeO.none _
      | refine LeO.ite ?_ ?_
      | refine LeO.bind ?_ (fun _ => ?_)
set_option maxHeartbeats 8000000 in
set_option maxRecDepth 100000 in
theorem tape_next_some.calls (k : Nat) (a0 : Int) (A1_0 : Option Addr) (c1_0 : Nat) (l1_0 : List Int) (a1_1 : Int)  (r1 : Int) (r2 : Int) (r3 : Bool) (w : World) (hr1_0 : Kd.C (Kd.int .u64) w A1_0 l1_0.length l1_0) (hc1_0 : l1_0.length ≤ c1_0) (h : tape_next_some.f k a0 l1_0 a1_1 = some (r1, r2, r3)) :
    Calls Try.prog 47 #[.int .u64 a0, .agg #[.slice A1_0 l1_0.length c1_0, .int .i64 a1_1], .func (.func 50) #[] #[]] w fun e w' => e = .returned (.tuple #[.int .u64 r1, .int .i64 r2, .bool r3]) ∧ Below w.heap.size w w' := by
  have hu25 := Try.underlying25
  have HR1_0 := Aside0.mk hr1_0
  have HC1_0 := Aside0.mk hc1_0
  clear hr1_0 hc1_0
  have HB := Aside0.mk (Below.refl w.heap.size w)
  have H : (tape_next_some.l0 k a0 a1_1 l1_0 a1_1) = some (r1, r2, r3) := h
  clear h
  have H' := Aside0.mk H
  clear H
  go_enter Try.func47, Try.ntmps47
  go_wp2_with (first | ((with_reducible refine gate_dst (N := 4) rfl ?_); refine box_event ?hg (N := 4) ?hd (cs := #[.slice A1_0 l1_0.length c1_0, .int .i64 a1_1]) (t := 25) ?hr ?_; (case hd => rfl); (case hg => rfl); (case hr => first | (go_simp; done) | (go_simp; rfl)); intro gb136 hg w4 hbox hb; have n0_ := Aside0.mk (below_step (by repeat (first | (with_reducible first | exact HB.out | apply below_alloc | apply pw_below_drewN | apply below_drew1) | exact HB.out)) hb); have n1_ := Aside0.mk (hbox); have n2_ := Aside0.mk ((by rw [hg]; exact (below_size (by repeat (first | (with_reducible first | exact HB.out | apply below_alloc | apply pw_below_drewN | apply below_drew1) | exact HB.out))) : w.heap.size ≤ gb136)); have n3_ := Aside0.mk ((by rw [hg]; exact (below_size (by repeat (first | (with_reducible first | exact HB.out | apply below_alloc | apply pw_below_drewN | apply below_drew1) | exact HB.out))) : w.heap.size ≤ gb136)); clear HB; have HB := n0_; have BK136 := n1_; have GW136 := n2_; have GE136 := n3_; clear n0_ n1_ n2_ n3_; clear hb hbox hg; have hcz5_0 : w4.cell? ⟨gb136, 0, none⟩ = some (.slice A1_0 l1_0.length c1_0) := (blk_cell BK136.out 0).trans rfl; have hcz5_1 : w4.cell? ⟨gb136, 1, none⟩ = some (.int .i64 a1_1) := (blk_cell BK136.out 1).trans rfl; have hfz5_0 := blk_frozen BK136.out 0; have hfz5_1 := blk_frozen BK136.out 1))
  repeat (go_quiet (first | ((with_reducible refine gate_dst (N := 4) rfl ?_); refine box_event ?hg (N := 4) ?hd (cs := #[.slice A1_0 l1_0.length c1_0, .int .i64 a1_1]) (t := 25) ?hr ?_; (case hd => rfl); (case hg => rfl); (case hr => first | (go_simp; done) | (go_simp; rfl)); intro gb136 hg w4 hbox hb; have n0_ := Aside0.mk (below_step (by repeat (first | (with_reducible first | exact HB.out | apply below_alloc | apply pw_below_drewN | apply below_drew1) | exact HB.out)) hb); have n1_ := Aside0.mk (hbox); have n2_ := Aside0.mk ((by rw [hg]; exact (below_size (by repeat (first | (with_reducible first | exact HB.out | apply below_alloc | apply pw_below_drewN | apply below_drew1) | exact HB.out))) : w.heap.size ≤ gb136)); have n3_ := Aside0.mk ((by rw [hg]; exact (below_size (by repeat (first | (with_reducible first | exact HB.out | apply below_alloc | apply pw_below_drewN | apply below_drew1) | exact HB.out))) : w.heap.size ≤ gb136)); clear HB; have HB := n0_; have BK136 := n1_; have GW136 := n2_; have GE136 := n3_; clear n0_ n1_ n2_ n3_; clear hb hbox hg; have hcz5_0 : w4.cell? ⟨gb136, 0, none⟩ = some (.slice A1_0 l1_0.length c1_0) := (blk_cell BK136.out 0).trans rfl; have hcz5_1 : w4.cell? ⟨gb136, 1, none⟩ = some (.int .i64 a1_1) := (blk_cell BK136.out 1).trans rfl; have hfz5_0 := blk_frozen BK136.out 0; have hfz5_1 := blk_frozen BK136.out 1)); try go_wp2_with (first | ((with_reducible refine gate_dst (N := 4) rfl ?_); refine box_event ?hg (N := 4) ?hd (cs := #[.slice A1_0 l1_0.length c1_0, .int .i64 a1_1]) (t := 25) ?hr ?_; (case hd => rfl); (case hg => rfl); (case hr => first | (go_simp; done) | (go_simp; rfl)); intro gb136 hg w4 hbox hb; have n0_ := Aside0.mk (below_step (by repeat (first | (with_reducible first | exact HB.out | apply below_alloc | apply pw_below_drewN | apply below_drew1) | exact HB.out)) hb); have n1_ := Aside0.mk (hbox); have n2_ := Aside0.mk ((by rw [hg]; exact (below_size (by repeat (first | (with_reducible first | exact HB.out | apply below_alloc | apply pw_below_drewN | apply below_drew1) | exact HB.out))) : w.heap.size ≤ gb136)); have n3_ := Aside0.mk ((by rw [hg]; exact (below_size (by repeat (first | (with_reducible first | exact HB.out | apply below_alloc | apply pw_below_drewN | apply below_drew1) | exact HB.out))) : w.heap.size ≤ gb136)); clear HB; have HB := n0_; have BK136 := n1_; have GW136 := n2_; have GE136 := n3_; clear n0_ n1_ n2_ n3_; clear hb hbox hg; have hcz5_0 : w4.cell? ⟨gb136, 0, none⟩ = some (.slice A1_0 l1_0.length c1_0) := (blk_cell BK136.out 0).trans rfl; have hcz5_1 : w4.cell? ⟨gb136, 1, none⟩ = some (.int .i64 a1_1) := (blk_cell BK136.out 1).trans rfl; have hfz5_0 := blk_frozen BK136.out 0; have hfz5_1 := blk_frozen BK136.out 1)))
  go_loopg [9] k (fun kq v9 w' => ∃ (x9_1 : Int), v9 = .int .i64 x9_1 ∧ Aside0 (tape_next_some.l0 kq a0 x9_1 l1_0 a1_1 = some (r1, r2, r3)) ∧ Aside0 (kq ≤ k) ∧ Aside0 (w'.heap[gb136]? = some (.cells #[(.slice A1_0 l1_0.length c1_0), .int .i64 a1_1] 25 (0, 0))) ∧ Aside0 (Below w.heap.size w w'))
  case atStart => exact ⟨(a1_1), (by first | rfl | (simp; done) | (simp [*]; done)), H', ⟨Nat.le_refl _⟩, ⟨by (with_reducible repeat (first | refine blk_drewN ?_ _ | refine blk_drew ?_ | refine blk_alloc ?_ _)); exact BK136.out⟩, ⟨by repeat (first | (with_reducible first | exact HB.out | apply below_alloc | apply pw_below_drewN | apply below_drew1 | refine below_set ?_ GE136.out) | exact HB.out)⟩⟩
  case round =>
    clear H'
    try clear c1
    try clear p2
    try clear hcz5_0
    try clear hcz5_1
    try clear hfz5_0
    try clear hfz5_1
    obtain ⟨x9_1, rfl, HA, HK1, BK136, HB⟩ := hrel
    cases gk with
    | zero => exact absurd HA.out (by simp [tape_next_some.l0])
    | succ k1 =>
      have H := HA.out
      clear HA
      simp only [tape_next_some.l0] at H
      by_cases c6 : x9_1 < (l1_0.length : Int)
      · rw [if_pos c6] at H
        have c6b0 : decide (x9_1 < (l1_0.length : Int)) = true := decide_eq_true c6
        clear c6
        by_cases c7 : 0 ≤ x9_1
        · rw [if_pos c7] at H
          have c7b0 : decide (0 ≤ x9_1) = true := decide_eq_true c7
          clear c7
          replace H := Option.bind_eq_some_iff.mp H
          obtain ⟨t138, A80, H⟩ := H
          replace H : (if t138 = true then (if a0 = 0 then (none) else ((tape_some.f (Int.tmod (rd l1_0 x9_1) a0)).bind fun t139 => (if t139 = true then (some (Int.tmod (rd l1_0 x9_1) a0, wrap64 (x9_1 + 1), true)) else (tape_next_some.l0 k1 a0 (wrap64 (x9_1 + 1)) l1_0 a1_1)))) else (tape_next_some.l0 k1 a0 (wrap64 (x9_1 + 1)) l1_0 a1_1)) = some (r1, r2, r3) := H
          have A8 := Aside0.mk A80
          clear A80
          by_cases c9 : t138 = true
          · subst c9
            have H1 : (if a0 = 0 then (none) else ((tape_some.f (Int.tmod (rd l1_0 x9_1) a0)).bind fun t139 => (if t139 = true then (some (Int.tmod (rd l1_0 x9_1) a0, wrap64 (x9_1 + 1), true)) else (tape_next_some.l0 k1 a0 (wrap64 (x9_1 + 1)) l1_0 a1_1)))) = some (r1, r2, r3) := by rw [if_pos rfl] at H; exact H
            clear H
            have H := H1
            clear H1
            by_cases c10 : a0 = 0
            · rw [if_pos c10] at H
              exact absurd H (by simp)
            · rw [if_neg c10] at H
              have c10b0 : (a0 == 0) = false := beq_eq_false_iff_ne.mpr c10
              have c10b1 : (a0 != 0) = true := bne_iff_ne.mpr c10
              replace H := Option.bind_eq_some_iff.mp H
              obtain ⟨t139, A110, H⟩ := H
              replace H : (if t139 = true then (some (Int.tmod (rd l1_0 x9_1) a0, wrap64 (x9_1 + 1), true)) else (tape_next_some.l0 k1 a0 (wrap64 (x9_1 + 1)) l1_0 a1_1)) = some (r1, r2, r3) := H
              have A11 := Aside0.mk A110
              clear A110
              by_cases c12 : t139 = true
              · subst c12
                have H1 : (some (Int.tmod (rd l1_0 x9_1) a0, wrap64 (x9_1 + 1), true)) = some (r1, r2, r3) := by rw [if_pos rfl] at H; exact H
                clear H
                have H := H1
                clear H1
                simp only [Option.some.injEq, Prod.mk.injEq] at H
                obtain ⟨rfl, rfl, rfl⟩ := H
                have hcz13_0 : wr.cell? ⟨gb136, 0, none⟩ = some (.slice A1_0 l1_0.length c1_0) := (blk_cell BK136.out 0).trans rfl
                have hcz13_1 : wr.cell? ⟨gb136, 1, none⟩ = some (.int .i64 a1_1) := (blk_cell BK136.out 1).trans rfl
                have hfz13_0 := blk_frozen BK136.out 0
                have hfz13_1 := blk_frozen BK136.out 1
                have p137 : 0 ≤ (x9_1 : Int) := of_decide_eq_true (by first | (with_reducible assumption) | assumption)
                have q137 : x9_1 < (l1_0.length : Int) := of_decide_eq_true (by first | (with_reducible assumption) | assumption)
                obtain ⟨ad137, e137, hx137_0⟩ := Kd.at_int HR1_0.out x9_1 p137 q137
                cases e137
                replace hx137_0 := (HB.out.cell (World.block_lt_of_cell? w _ hx137_0)).trans hx137_0
                replace p137 := eq_true p137
                replace q137 := eq_true q137
                go_wp2_with (first | (go_at_call 19; (with_reducible refine (tape_Counts.calls a0 (rd l1_0 x9_1) true _ A8.out).mono ?_); rintro e w' ⟨rfl, ⟨nd, rfl⟩⟩; (try first | exact ⟨rfl, _, World.drewN_drewN _ _ _⟩ | exact ⟨rfl, _, Eq.trans (World.drewN_drewN _ _ _) (congrArg (World.drewN _) (Nat.add_assoc _ _ _))⟩)) | (go_at_call 50; (with_reducible refine (tape_some.calls (Int.tmod (rd l1_0 x9_1) a0) true _ A11.out).mono ?_); rintro e w' ⟨rfl, ⟨nd, rfl⟩⟩; (try first | exact ⟨rfl, _, World.drewN_drewN _ _ _⟩ | exact ⟨rfl, _, Eq.trans (World.drewN_drewN _ _ _) (congrArg (World.drewN _) (Nat.add_assoc _ _ _))⟩)))
                repeat (go_quiet (first | (go_at_call 19; (with_reducible refine (tape_Counts.calls a0 (rd l1_0 x9_1) true _ A8.out).mono ?_); rintro e w' ⟨rfl, ⟨nd, rfl⟩⟩; (try first | exact ⟨rfl, _, World.drewN_drewN _ _ _⟩ | exact ⟨rfl, _, Eq.trans (World.drewN_drewN _ _ _) (congrArg (World.drewN _) (Nat.add_assoc _ _ _))⟩)) | (go_at_call 50; (with_reducible refine (tape_some.calls (Int.tmod (rd l1_0 x9_1) a0) true _ A11.out).mono ?_); rintro e w' ⟨rfl, ⟨nd, rfl⟩⟩; (try first | exact ⟨rfl, _, World.drewN_drewN _ _ _⟩ | exact ⟨rfl, _, Eq.trans (World.drewN_drewN _ _ _) (congrArg (World.drewN _) (Nat.add_assoc _ _ _))⟩))); try go_wp2_with (first | (go_at_call 19; (with_reducible refine (tape_Counts.calls a0 (rd l1_0 x9_1) true _ A8.out).mono ?_); rintro e w' ⟨rfl, ⟨nd, rfl⟩⟩; (try first | exact ⟨rfl, _, World.drewN_drewN _ _ _⟩ | exact ⟨rfl, _, Eq.trans (World.drewN_drewN _ _ _) (congrArg (World.drewN _) (Nat.add_assoc _ _ _))⟩)) | (go_at_call 50; (with_reducible refine (tape_some.calls (Int.tmod (rd l1_0 x9_1) a0) true _ A11.out).mono ?_); rintro e w' ⟨rfl, ⟨nd, rfl⟩⟩; (try first | exact ⟨rfl, _, World.drewN_drewN _ _ _⟩ | exact ⟨rfl, _, Eq.trans (World.drewN_drewN _ _ _) (congrArg (World.drewN _) (Nat.add_assoc _ _ _))⟩))))
                go_ret3
                exact ⟨by first | rfl | (simp [errW_none, errW_some] <;> rfl) | (simp [*, errW_none, errW_some] <;> rfl), by repeat (first | (with_reducible first | exact HB.out | apply below_alloc | apply pw_below_drewN | apply below_drew1 | refine below_set ?_ GE136.out) | exact HB.out)⟩
              · replace c12 := Bool.eq_false_iff.mpr c12
                subst c12
                have H1 : (tape_next_some.l0 k1 a0 (wrap64 (x9_1 + 1)) l1_0 a1_1) = some (r1, r2, r3) := by rw [if_neg (show ¬ (false = true) by decide)] at H; exact H
                clear H
                have H := H1
                clear H1
                have H' := Aside0.mk H
                clear H
                have hcz14_0 : wr.cell? ⟨gb136, 0, none⟩ = some (.slice A1_0 l1_0.length c1_0) := (blk_cell BK136.out 0).trans rfl
                have hcz14_1 : wr.cell? ⟨gb136, 1, none⟩ = some (.int .i64 a1_1) := (blk_cell BK136.out 1).trans rfl
                have hfz14_0 := blk_frozen BK136.out 0
                have hfz14_1 := blk_frozen BK136.out 1
                have p137 : 0 ≤ (x9_1 : Int) := of_decide_eq_true (by first | (with_reducible assumption) | assumption)
                have q137 : x9_1 < (l1_0.length : Int) := of_decide_eq_true (by first | (with_reducible assumption) | assumption)
                obtain ⟨ad137, e137, hx137_0⟩ := Kd.at_int HR1_0.out x9_1 p137 q137
                cases e137
                replace hx137_0 := (HB.out.cell (World.block_lt_of_cell? w _ hx137_0)).trans hx137_0
                replace p137 := eq_true p137
                replace q137 := eq_true q137
                go_wp2_with (first | (go_at_call 19; (with_reducible refine (tape_Counts.calls a0 (rd l1_0 x9_1) true _ A8.out).mono ?_); rintro e w' ⟨rfl, ⟨nd, rfl⟩⟩; (try first | exact ⟨rfl, _, World.drewN_drewN _ _ _⟩ | exact ⟨rfl, _, Eq.trans (World.drewN_drewN _ _ _) (congrArg (World.drewN _) (Nat.add_assoc _ _ _))⟩)) | (go_at_call 50; (with_reducible refine (tape_some.calls (Int.tmod (rd l1_0 x9_1) a0) false _ A11.out).mono ?_); rintro e w' ⟨rfl, ⟨nd, rfl⟩⟩; (try first | exact ⟨rfl, _, World.drewN_drewN _ _ _⟩ | exact ⟨rfl, _, Eq.trans (World.drewN_drewN _ _ _) (congrArg (World.drewN _) (Nat.add_assoc _ _ _))⟩)))
                repeat (go_quiet (first | (go_at_call 19; (with_reducible refine (tape_Counts.calls a0 (rd l1_0 x9_1) true _ A8.out).mono ?_); rintro e w' ⟨rfl, ⟨nd, rfl⟩⟩; (try first | exact ⟨rfl, _, World.drewN_drewN _ _ _⟩ | exact ⟨rfl, _, Eq.trans (World.drewN_drewN _ _ _) (congrArg (World.drewN _) (Nat.add_assoc _ _ _))⟩)) | (go_at_call 50; (with_reducible refine (tape_some.calls (Int.tmod (rd l1_0 x9_1) a0) false _ A11.out).mono ?_); rintro e w' ⟨rfl, ⟨nd, rfl⟩⟩; (try first | exact ⟨rfl, _, World.drewN_drewN _ _ _⟩ | exact ⟨rfl, _, Eq.trans (World.drewN_drewN _ _ _) (congrArg (World.drewN _) (Nat.add_assoc _ _ _))⟩))); try go_wp2_with (first | (go_at_call 19; (with_reducible refine (tape_Counts.calls a0 (rd l1_0 x9_1) true _ A8.out).mono ?_); rintro e w' ⟨rfl, ⟨nd, rfl⟩⟩; (try first | exact ⟨rfl, _, World.drewN_drewN _ _ _⟩ | exact ⟨rfl, _, Eq.trans (World.drewN_drewN _ _ _) (congrArg (World.drewN _) (Nat.add_assoc _ _ _))⟩)) | (go_at_call 50; (with_reducible refine (tape_some.calls (Int.tmod (rd l1_0 x9_1) a0) false _ A11.out).mono ?_); rintro e w' ⟨rfl, ⟨nd, rfl⟩⟩; (try first | exact ⟨rfl, _, World.drewN_drewN _ _ _⟩ | exact ⟨rfl, _, Eq.trans (World.drewN_drewN _ _ _) (congrArg (World.drewN _) (Nat.add_assoc _ _ _))⟩))))
                go_roundg k1
                case measure => have := HK1.out; omega
                case rel => exact ⟨(wrap64 (x9_1 + 1)), (by first | rfl | (simp; done) | (simp [*]; done)), H', ⟨by have := HK1.out; omega⟩, ⟨by (with_reducible repeat (first | refine blk_drewN ?_ _ | refine blk_drew ?_ | refine blk_alloc ?_ _)); exact BK136.out⟩, ⟨by repeat (first | (with_reducible first | exact HB.out | apply below_alloc | apply pw_below_drewN | apply below_drew1 | refine below_set ?_ GE136.out) | exact HB.out)⟩⟩
          · replace c9 := Bool.eq_false_iff.mpr c9
            subst c9
            have H1 : (tape_next_some.l0 k1 a0 (wrap64 (x9_1 + 1)) l1_0 a1_1) = some (r1, r2, r3) := by rw [if_neg (show ¬ (false = true) by decide)] at H; exact H
            clear H
            have H := H1
            clear H1
            have H' := Aside0.mk H
            clear H
            have hcz15_0 : wr.cell? ⟨gb136, 0, none⟩ = some (.slice A1_0 l1_0.length c1_0) := (blk_cell BK136.out 0).trans rfl
            have hcz15_1 : wr.cell? ⟨gb136, 1, none⟩ = some (.int .i64 a1_1) := (blk_cell BK136.out 1).trans rfl
            have hfz15_0 := blk_frozen BK136.out 0
            have hfz15_1 := blk_frozen BK136.out 1
            have p137 : 0 ≤ (x9_1 : Int) := of_decide_eq_true (by first | (with_reducible assumption) | assumption)
            have q137 : x9_1 < (l1_0.length : Int) := of_decide_eq_true (by first | (with_reducible assumption) | assumption)
            obtain ⟨ad137, e137, hx137_0⟩ := Kd.at_int HR1_0.out x9_1 p137 q137
            cases e137
            replace hx137_0 := (HB.out.cell (World.block_lt_of_cell? w _ hx137_0)).trans hx137_0
            replace p137 := eq_true p137
            replace q137 := eq_true q137
            go_wp2_with (first | (go_at_call 19; (with_reducible refine (tape_Counts.calls a0 (rd l1_0 x9_1) false _ A8.out).mono ?_); rintro e w' ⟨rfl, ⟨nd, rfl⟩⟩; (try first | exact ⟨rfl, _, World.drewN_drewN _ _ _⟩ | exact ⟨rfl, _, Eq.trans (World.drewN_drewN _ _ _) (congrArg (World.drewN _) (Nat.add_assoc _ _ _))⟩)))
            repeat (go_quiet (first | (go_at_call 19; (with_reducible refine (tape_Counts.calls a0 (rd l1_0 x9_1) false _ A8.out).mono ?_); rintro e w' ⟨rfl, ⟨nd, rfl⟩⟩; (try first | exact ⟨rfl, _, World.drewN_drewN _ _ _⟩ | exact ⟨rfl, _, Eq.trans (World.drewN_drewN _ _ _) (congrArg (World.drewN _) (Nat.add_assoc _ _ _))⟩))); try go_wp2_with (first | (go_at_call 19; (with_reducible refine (tape_Counts.calls a0 (rd l1_0 x9_1) false _ A8.out).mono ?_); rintro e w' ⟨rfl, ⟨nd, rfl⟩⟩; (try first | exact ⟨rfl, _, World.drewN_drewN _ _ _⟩ | exact ⟨rfl, _, Eq.trans (World.drewN_drewN _ _ _) (congrArg (World.drewN _) (Nat.add_assoc _ _ _))⟩))))
            go_roundg k1
            case measure => have := HK1.out; omega
            case rel => exact ⟨(wrap64 (x9_1 + 1)), (by first | rfl | (simp; done) | (simp [*]; done)), H', ⟨by have := HK1.out; omega⟩, ⟨by (with_reducible repeat (first | refine blk_drewN ?_ _ | refine blk_drew ?_ | refine blk_alloc ?_ _)); exact BK136.out⟩, ⟨by repeat (first | (with_reducible first | exact HB.out | apply below_alloc | apply pw_below_drewN | apply below_drew1 | refine below_set ?_ GE136.out) | exact HB.out)⟩⟩
        · rw [if_neg c7] at H
          exact absurd H (by simp)
      · rw [if_neg c6] at H
        have c6b0 : decide (x9_1 < (l1_0.length : Int)) = false := decide_eq_false c6
        clear c6
        simp only [Option.some.injEq, Prod.mk.injEq] at H
        obtain ⟨rfl, rfl, rfl⟩ := H
        have hcz16_0 : wr.cell? ⟨gb136, 0, none⟩ = some (.slice A1_0 l1_0.length c1_0) := (blk_cell BK136.out 0).trans rfl
        have hcz16_1 : wr.cell? ⟨gb136, 1, none⟩ = some (.int .i64 a1_1) := (blk_cell BK136.out 1).trans rfl
        have hfz16_0 := blk_frozen BK136.out 0
        have hfz16_1 := blk_frozen BK136.out 1
        go_wp2
        repeat (go_quiet (fail); try go_wp2)
        go_ret3
        exact ⟨by first | rfl | (simp [errW_none, errW_some] <;> rfl) | (simp [*, errW_none, errW_some] <;> rfl), by repeat (first | (with_reducible first | exact HB.out | apply below_alloc | apply pw_below_drewN | apply below_drew1 | refine below_set ?_ GE136.out) | exact HB.out)⟩

end Go.Proofs.Ytdfhkdddlfmceaa.X
