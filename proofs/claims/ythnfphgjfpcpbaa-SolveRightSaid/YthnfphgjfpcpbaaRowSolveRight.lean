/- The given law SolveRight answers true for every input, and its arguments read behind the call as before. No condition. -/
import Derived.Test.YthnfphgjfpcpbaaRows
import Derived.Test.YthnfphgjfpcpbaaSSolveRight10
import Derived.WalkKit
import Derived.ProofKit
import Derived.OpenShut
import Derived.ShutString
import Derived.ChangeOld
import Derived.Below
import Derived.SizedLaws
namespace Go.Proofs.Ythnfphgjfpcpbaa.solveRight
open Go.ChangeShapes Go.WideShapes Go.ChangeAt Go.RowKit Go.Proofs.Ythnfphgjfpcpbaa.TM
open Go.ChangeMaps (open_string shut_string)
set_option linter.unusedVariables false
set_option linter.defProp false
theorem own : ownKnob Try.prog.godebug = none := by kernel_rfl
theorem laidOut : laidOutB Try.prog = true := by kernel_rfl
theorem len_zero {α : Type} {l : List α} (h : l.length = 0) : l = [] := List.eq_nil_of_length_eq_zero h
theorem len_succ {α : Type} {l : List α} {n : Nat} (h : l.length = n + 1) : ∃ a t, l = a :: t ∧ t.length = n := by cases l with | nil => cases h | cons a t => exact ⟨a, t, rfl, Nat.succ.inj h⟩
theorem oT25 {H : Type} {enc : TypeId × Value → H} : OpensI enc Try.prog 25 (fun a : Int × Int × List Int => [IV.v (.int .i64 a.1), IV.v (.int .i64 a.2.1), IV.l a.2.2.length (a.2.2.map fun y => IV.v (.int .u64 y))]) (fun a => ((Lit.int .i64 a.1).wf = true ∧ (Lit.int .i64 a.2.1).wf = true ∧ (a.2.2.length ≤ maxLen ∧ ∀ e23_ ∈ a.2.2, (Lit.int .u64 e23_).wf = true))) := by
  intro W base spare held fuel cs x h
  obtain ⟨xs, n, _, _, hl, hlen, hf⟩ := DataW.trod_struct Try.underlying25 h
  rw [show Try.prog.cellsOf 25 = 3 from by kernel_rfl] at hl
  have hx : xs.length = 3 := hlen
  obtain ⟨v0, cs0, rfl, hl0⟩ := len_succ hl
  obtain ⟨v1, cs1, rfl, hl1⟩ := len_succ hl0
  obtain ⟨v2, cs2, rfl, hl2⟩ := len_succ hl1
  obtain rfl := len_zero hl2
  obtain ⟨y0, xs0, rfl, hx0⟩ := len_succ hx
  obtain ⟨y1, xs1, rfl, hx1⟩ := len_succ hx0
  obtain ⟨y2, xs2, rfl, hx2⟩ := len_succ hx1
  obtain rfl := len_zero hx2
  have g0 : DataW.trod enc Try.prog W base spare held n 3 (([v0, v1, v2].drop 0).take (Try.prog.cellsOf 3)) = some y0 := hf 0 _ rfl
  rw [show Try.prog.cellsOf 3 = 1 from by kernel_rfl] at g0
  change DataW.trod enc Try.prog W base spare held n 3 [v0] = some y0 at g0
  obtain ⟨b0, q0, r0⟩ := (opens_int Try.underlying3) W base spare held n _ _ g0
  have g1 : DataW.trod enc Try.prog W base spare held n 3 (([v0, v1, v2].drop 1).take (Try.prog.cellsOf 3)) = some y1 := hf 1 _ rfl
  rw [show Try.prog.cellsOf 3 = 1 from by kernel_rfl] at g1
  change DataW.trod enc Try.prog W base spare held n 3 [v1] = some y1 at g1
  obtain ⟨b1, q1, r1⟩ := (opens_int Try.underlying3) W base spare held n _ _ g1
  have g2 : DataW.trod enc Try.prog W base spare held n 23 (([v0, v1, v2].drop 2).take (Try.prog.cellsOf 23)) = some y2 := hf 2 _ rfl
  rw [show Try.prog.cellsOf 23 = 1 from by kernel_rfl] at g2
  change DataW.trod enc Try.prog W base spare held n 23 [v2] = some y2 at g2
  obtain ⟨b2, q2, r2⟩ := (opens_slice1 Try.underlying23 (opens_int Try.underlying22) (by kernel_rfl)) W base spare held n _ _ g2
  exact ⟨(b0, b1, b2), ⟨q0, q1, q2⟩, (RepL.append (RepL.append r0 r1) r2)⟩
set_option maxRecDepth 100000 in
theorem lifted (os : Os) (started : os.Started) (H : Type) (enc : TypeId × Value → H) :
    ReturnsInHanded {} Try.checked os 3 .any (Rows.solveRightSpec.pre6 enc Try.prog Try.f3 Rows.solveRightRow.domain false) (Rows.solveRightSpec.post enc Try.prog Try.f3 false true false false) := by
  refine returnsInHanded_of_change_sized (C := Try.checked) own started (by kernel_rfl) Try.func3
    (ChangeSpec.witness6 (enc := enc) (C := Try.checked) false ⟨#[], #[.int .u64 0, .agg #[.int .i64 0, .int .i64 0, .slice none 0 0], .slice none 0 0, .int .i64 0], []⟩ 8 (by kernel_rfl) (by kernel_rfl) (by kernel_rfl) (by kernel_rfl)) ?_
  intro W base args ds gs before hval0 hW hcnd hsz0 _
  have hval : ∀ (j : Nat) t v, Try.f3.params[j]? = some t → args[j]? = some v → Value.okWide Try.prog W .any base t v := hval0
  have hW' := hW
  obtain ⟨p, q, hA0, hV, rfl, hfz, hnd⟩ := hW
  have hA : DataW.TrodAll enc Try.prog W 0 (fun _ => true) true Try.f3.params.toList args.toList ds p := hA0
  rw [Try.params3] at hA hval
  obtain ⟨v0, vs0, d0, ds0, p0, q0, hargs, rfl, rfl, h0, r0⟩ := trodAll_cons hA
  obtain ⟨v1, vs1, d1, ds1, p1, q1, rfl, rfl, rfl, h1, r1⟩ := trodAll_cons r0
  obtain ⟨v2, vs2, d2, ds2, p2, q2, rfl, rfl, rfl, h2, r2⟩ := trodAll_cons r1
  obtain ⟨v3, vs3, d3, ds3, p3, q3, rfl, rfl, rfl, h3, r3⟩ := trodAll_cons r2
  obtain ⟨rfl, rfl, rfl⟩ := trodAll_nil r3
  obtain rfl : args = #[v0, v1, v2, v3] := by cases args; simp_all
  obtain ⟨rfl, rfl⟩ := trodVars_none hV
  obtain ⟨a0, rfl, rfl, rfl, w0⟩ := open_int Try.underlying22 (hval 0 22 v0 rfl rfl) h0
  obtain ⟨cs1, rfl, hz1⟩ := okWide_struct Try.underlying25 (hval 1 25 v1 rfl rfl)
  have k1 := h1
  have lt1 : ∀ x ∈ p1, x.block < W.heap.size := by obtain ⟨m, hm⟩ := k1; exact DataW.trod_lt m _ _ _ hm
  obtain ⟨fuel1, hf1⟩ := h1
  obtain ⟨a1, w1, hr1⟩ := oT25 W _ _ _ fuel1 _ _ hf1
  obtain ⟨A2, len2, cap2, rfl⟩ := okWide_slice Try.underlying23 (hval 2 23 v2 rfl rfl)
  have k2 := h2
  have lt2 : ∀ x ∈ p2, x.block < W.heap.size := by obtain ⟨m, hm⟩ := k2; exact DataW.trod_lt m _ _ _ hm
  obtain ⟨fuel2, hf2⟩ := h2
  obtain ⟨a2, w2, hr2⟩ := (opens_slice1 Try.underlying23 (opens_int Try.underlying22) (by kernel_rfl)) W _ _ _ fuel2 _ _ hf2
  obtain ⟨a3, rfl, rfl, rfl, w3⟩ := open_int Try.underlying3 (hval 3 3 v3 rfl rfl) h3
  clear hA0 hval0 hsz0
  refine (CallsP.calls mixed (solveRight_true a0 a1 a2 a3 w0 w1 w2 w3) (repsL_reps (repsL_cons (rep_v _) (repsL_cons (rep_agg hr1) (repsL_cons (rep_one hr2) (repsL_cons (rep_v _) (repsL_nil))))))).mono fun e W' ⟨he, bel⟩ => ?_
  subst he
  exact ⟨_, rfl, _, _, _, [], _, [], hW', trodAll_mk1 (shut_bool Try.underlying4 _), (trodAll_cons_mk (shut_int Try.underlying22 w0) (trodAll_cons_mk (Below.trod laidOut (by kernel_rfl) (of_decide_eq_true (by kernel_rfl)) k1 bel lt1) (trodAll_cons_mk (Below.trod laidOut (by kernel_rfl) (of_decide_eq_true (by kernel_rfl)) k2 bel lt2) (trodAll_cons_mk (shut_int Try.underlying3 w3) trodAll_mk0)))), rfl, bel.frame _, fun h => by cases h⟩
theorem over : Rows.solveRightRow.holds Try.pinned (OpenSpec.ofChange Rows.solveRightSpec) :=
  OpenClaim.holds_of_wide 3 Try.f3 rfl rfl rfl rfl rfl rfl rfl ⟨rfl, rfl, rfl, rfl, rfl⟩ rfl rfl rfl rfl rfl (by kernel_rfl) Try.func3 (by kernel_rfl)
    (of_decide_eq_true (by kernel_rfl)) (by unfold Func.isWrapper; first | (rw [if_pos (by decide +kernel)]; kernel_rfl) | (rw [if_neg (by decide +kernel)]; exact ⟨rfl, rfl⟩))
    (fun os started H enc _ => lifted os started H enc)
theorem proved : Rows.SolveRightSaid := over
#print axioms proved
end Go.Proofs.Ythnfphgjfpcpbaa.solveRight
namespace Go.Proofs.Ythnfphgjfpcpbaa
/-- The row, under a short name, for the claim. -/
theorem solveRight_holds : Rows.SolveRightSaid := solveRight.proved
end Go.Proofs.Ythnfphgjfpcpbaa
