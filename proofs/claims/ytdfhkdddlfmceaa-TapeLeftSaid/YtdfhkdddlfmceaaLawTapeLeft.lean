/- The given law TapeLeft answers true for every input, and its arguments read behind the call as before. No condition. -/
import Derived.Test.YtdfhkdddlfmceaaRows
import Derived.Test.YtdfhkdddlfmceaaX8
import Derived.Test.YtdfhkdddlfmceaaPureTapeLeft
import Derived.Test.YtdfhkdddlfmceaaOpens
import Derived.WalkKit
import Derived.ProofKit
import Derived.OpenShut
import Derived.ShutString
import Derived.ChangeOld
import Derived.Below
import Derived.SizedLaws
namespace Go.Proofs.Ytdfhkdddlfmceaa.tapeLeft
open Go.ChangeShapes Go.WideShapes Go.ChangeAt Go.RowKit Go.Proofs.Ytdfhkdddlfmceaa.X Go.Proofs.Ytdfhkdddlfmceaa.Opens Go.Proofs.YtdfhkdddlfmceaaW.PrintWords
open Go.ChangeMaps (open_string shut_string)
set_option linter.unusedVariables false
theorem own : ownKnob Try.prog.godebug = none := by kernel_rfl
theorem laidOut : laidOutB Try.prog = true := by kernel_rfl
theorem openT25 {H : Type} {enc : TypeId × Value → H} (W : World) (base : Nat) (spare : Nat → Bool) (held : Bool) (fuel : Nat) (cs : List Value) (x : DataW H × List MemPlace) (h : DataW.trod enc Try.prog W base spare held fuel 25 cs = some x) :
    ∃ (A0 : Option Addr) (c0 : Nat) (l0 : List Int) (a1 : Int), cs = [.slice A0 l0.length c0, .int .i64 a1] ∧ (Kd.C (Kd.int .u64) W A0 l0.length l0 ∧ l0.length ≤ c0 ∧ (l0.length ≤ maxLen ∧ ∀ a_ ∈ l0, (Lit.int .u64 a_).wf = true)) ∧ (Lit.int .i64 a1).wf = true := by
  obtain ⟨xs, n, _, _, hl, hlen, hf⟩ := DataW.trod_struct Try.underlying25 h
  rw [show Try.prog.cellsOf 25 = 2 from by kernel_rfl] at hl
  match cs, hl, xs, hlen with
  | [v0, v1], _, [y0, y1], _ =>
    have g0 : DataW.trod enc Try.prog W base spare held n 23 (([v0, v1].drop 0).take (Try.prog.cellsOf 23)) = some y0 := hf 0 _ rfl
    rw [show Try.prog.cellsOf 23 = 1 from by kernel_rfl] at g0
    change DataW.trod enc Try.prog W base spare held n 23 [v0] = some y0 at g0
    have g1 : DataW.trod enc Try.prog W base spare held n 3 (([v0, v1].drop 1).take (Try.prog.cellsOf 3)) = some y1 := hf 1 _ rfl
    rw [show Try.prog.cellsOf 3 = 1 from by kernel_rfl] at g1
    change DataW.trod enc Try.prog W base spare held n 3 [v1] = some y1 at g1
    obtain ⟨l0, ⟨A0, c0, e0, hc0, hr0⟩, hg0⟩ := (opens_slice Try.underlying23 (opens_int Try.underlying22) (by kernel_rfl)) W base spare held n _ _ g0
    have p0 := And.intro hr0 (And.intro hc0 hg0)
    simp only [List.cons.injEq, and_true] at e0
    subst e0
    obtain ⟨a1, e1, p1⟩ := (opens_int Try.underlying3) W base spare held n _ _ g1
    replace e1 : [v1] = [.int .i64 a1] := e1
    simp only [List.cons.injEq, and_true] at e1
    subst e1
    exact ⟨A0, c0, l0, a1, rfl, p0, p1⟩
set_option maxRecDepth 100000 in
theorem lifted (os : Os) (started : os.Started) (H : Type) (enc : TypeId × Value → H) :
    ReturnsInHanded {} Try.checked os 6 .any (Rows.tapeLeftSpec.pre6 enc Try.prog Try.f6 Rows.tapeLeftRow.domain false) (Rows.tapeLeftSpec.post enc Try.prog Try.f6 false true false false) := by
  refine returnsInHanded_of_change_sized (C := Try.checked) own started (by kernel_rfl) Try.func6
    (ChangeSpec.witness6 (enc := enc) (C := Try.checked) false ⟨#[], #[.int .u64 0, .agg #[.slice none 0 0, .int .i64 0], .int .u8 0], []⟩ 8 (by kernel_rfl) (by kernel_rfl) (by kernel_rfl) (by kernel_rfl)) ?_
  intro W base args ds gs before hval0 hW hcnd hsz0 _
  have hval : ∀ (j : Nat) t v, Try.f6.params[j]? = some t → args[j]? = some v → Value.okWide Try.prog W .any base t v := hval0
  have hW' := hW
  obtain ⟨p, q, hA0, hV, rfl, hfz, hnd⟩ := hW
  have hA : DataW.TrodAll enc Try.prog W 0 (fun _ => true) true Try.f6.params.toList args.toList ds p := hA0
  rw [Try.params6] at hA hval
  obtain ⟨v0, vs0, d0, ds0, p0, q0, hargs, rfl, rfl, h0, r0⟩ := trodAll_cons hA
  obtain ⟨v1, vs1, d1, ds1, p1, q1, rfl, rfl, rfl, h1, r1⟩ := trodAll_cons r0
  obtain ⟨v2, vs2, d2, ds2, p2, q2, rfl, rfl, rfl, h2, r2⟩ := trodAll_cons r1
  obtain ⟨rfl, rfl, rfl⟩ := trodAll_nil r2
  obtain rfl : args = #[v0, v1, v2] := by cases args; simp_all
  obtain ⟨rfl, rfl⟩ := trodVars_none hV
  obtain ⟨a0, rfl, rfl, rfl, w0⟩ := open_int Try.underlying22 (hval 0 22 v0 rfl rfl) h0
  obtain ⟨cs1, rfl, hz1⟩ := okWide_struct Try.underlying25 (hval 1 25 v1 rfl rfl)
  have k1 := h1
  have lt1 : ∀ x ∈ p1, x.block < W.heap.size := by obtain ⟨m, hm⟩ := k1; exact DataW.trod_lt m _ _ _ hm
  obtain ⟨fuel1, hf1⟩ := h1
  obtain ⟨A1_0, c1_0, l1_0, a1_1, e1, p1_0, p1_1⟩ := openT25 W _ _ _ fuel1 cs1.toList _ hf1
  obtain rfl : cs1 = #[.slice A1_0 l1_0.length c1_0, .int .i64 a1_1] := by cases cs1; simpa using e1
  obtain ⟨a2, rfl, rfl, rfl, w2⟩ := open_int Try.underlying5 (hval 2 5 v2 rfl rfl) h2
  clear hA0 hval0 hsz0
  refine (X.affidavitlaw10_TapeLeft.walkx Pure.TapeLeft a0 A1_0 c1_0 l1_0 a1_1 a2 W p1_0.1 p1_0.2.1 w0 p1_0.2.2 p1_1 w2).mono fun e W' ⟨he, bel⟩ => ?_
  subst he
  exact ⟨_, rfl, _, _, _, [], _, [], hW', trodAll_mk1 (shut_bool Try.underlying4 _), (trodAll_cons_mk (shut_int Try.underlying22 w0) (trodAll_cons_mk (Below.trod laidOut (by kernel_rfl) (of_decide_eq_true (by kernel_rfl)) k1 bel lt1) (trodAll_cons_mk (shut_int Try.underlying5 w2) trodAll_mk0))), rfl, bel.frame _, fun h => by cases h⟩
theorem over : Rows.tapeLeftRow.holds Try.pinned (OpenSpec.ofChange Rows.tapeLeftSpec) :=
  OpenClaim.holds_of_wide 6 Try.f6 rfl rfl rfl rfl rfl rfl rfl ⟨rfl, rfl, rfl, rfl, rfl⟩ rfl rfl rfl rfl rfl (by kernel_rfl) Try.func6 (by kernel_rfl)
    (of_decide_eq_true (by kernel_rfl)) (by unfold Func.isWrapper; first | (rw [if_pos (by decide +kernel)]; kernel_rfl) | (rw [if_neg (by decide +kernel)]; exact ⟨rfl, rfl⟩))
    (fun os started H enc _ => lifted os started H enc)
theorem proved : Rows.TapeLeftSaid := over
#print axioms proved
end Go.Proofs.Ytdfhkdddlfmceaa.tapeLeft
namespace Go.Proofs.Ytdfhkdddlfmceaa
/-- The row, under a short name, for the claim. -/
theorem tapeLeft_holds : Rows.TapeLeftSaid := tapeLeft.proved
end Go.Proofs.Ytdfhkdddlfmceaa
