/- TM and the rows: more of what the form's reading tells, and a law's arguments one by one. Conditions: none; lemmas. -/
import Derived.Test.YtnnkoghmglpnmaaTmU
namespace Go.Proofs.Ytnnkoghmglpnmaa.TM
open Go Go.RowKit Go.ChangeShapes Go.WideShapes Go.ChangeAt
set_option linter.unusedVariables false
set_option linter.defProp false

theorem flatMap_one {α β : Type} (f : α → β) : ∀ l : List α, (l.flatMap fun a => [f a]) = l.map f
  | [] => rfl
  | a :: l => by rw [List.flatMap_cons, flatMap_one f l]; rfl
theorem opens_slice1 {H : Type} {enc : TypeId × Value → H} {P : Program} {α : Type} {t e : TypeId} {f : α → IV} {good : α → Prop} (ht : P.underlying t = some (.slice e)) (ho : OpensI enc P e (fun a => [f a]) good) (hz : P.cellsOf e = 1) :
    OpensI enc P t (fun l : List α => [IV.l l.length (l.map f)]) (fun l => l.length ≤ maxLen ∧ ∀ a ∈ l, good a) := by
  intro W base spare held fuel cs x h
  obtain ⟨l, hg, hr⟩ := opens_slice ht ho hz (fun a => rfl) W base spare held fuel cs x h
  replace hr : RepL (RC W) [IV.l l.length (l.flatMap fun a => [f a])] cs := hr
  rw [flatMap_one] at hr
  exact ⟨l, hg, hr⟩
/-- A law's arguments. -/
def RepsL (W : World) : List PV → List Value → Prop
  | [], [] => True
  | p :: ps, v :: vs => Rep ⟨fun _ => 0, fun _ => False⟩ Heap.none W p v ∧ RepsL W ps vs
  | _, _ => False
theorem repsL_nil {W : World} : RepsL W [] [] := trivial
theorem repsL_cons {W : World} {p : PV} {v : Value} {ps : List PV} {vs : List Value} (h : Rep ⟨fun _ => 0, fun _ => False⟩ Heap.none W p v) (hs : RepsL W ps vs) : RepsL W (p :: ps) (v :: vs) := ⟨h, hs⟩
theorem repsL_of {W : World} : ∀ {ps : List PV} {vs : List Value}, RepsL W ps vs → ps.length = vs.length ∧ ∀ (j : Nat) (p : PV) (v : Value), ps[j]? = some p → vs[j]? = some v → Rep ⟨fun _ => 0, fun _ => False⟩ Heap.none W p v
  | [], [], _ => ⟨rfl, fun j p v h => by simp at h⟩
  | p :: ps, v :: vs, h => by
    obtain ⟨h1, h2⟩ := repsL_of h.2
    refine ⟨by simp [h1], fun j q u hq hu => ?_⟩
    cases j with
    | zero => simp at hq hu; subst hq; subst hu; exact h.1
    | succ j => simp at hq hu; exact h2 j q u hq hu
theorem repsL_reps {W : World} {ps : List PV} {vs : List Value} (h : RepsL W ps vs) : Reps ⟨fun _ => 0, fun _ => False⟩ Heap.none W ps vs.toArray :=
  reps_of ps vs (repsL_of h).1 (repsL_of h).2
theorem rep_v {W : World} (v : Value) : Rep ⟨fun _ => 0, fun _ => False⟩ Heap.none W (.i (.v v)) v := rep_data (.v v)
theorem rep_one {W : World} {x : IV} {v : Value} (h : RepL (RC W) [x] [v]) : Rep ⟨fun _ => 0, fun _ => False⟩ Heap.none W (.i x) v := rep_data (h.rep 0 x v rfl rfl)
end Go.Proofs.Ytnnkoghmglpnmaa.TM
