/- TM: cuts behind which the heap is one of many. Conditions: none; lemmas. -/
import Derived.Test.YtnnkoghmglpnmaaWWords
namespace Go.Proofs.Ytnnkoghmglpnmaa.TM
open Go
set_option linter.unusedVariables false
set_option linter.defProp false
set_option linter.unusedSimpArgs false
section
variable {P : Program} {C : CallRel} {h0 : Heap} {base : Name}
variable (P C h0 base) in
def CutP (Qf : Ex → List PV → Heap → Prop) (k : List It) (n : Nat) (L : List Nat) (f : Nat → PV) (Hp : Heap → Prop) : Ex → List PV → Heap → Prop
  | .normal, t', h' => ∃ g, t' = toL n g ∧ EqF L g f ∧ Hp h'
  | e, t', h' => K P C h0 base Qf k e t' h'
variable {Qf : Ex → List PV → Heap → Prop} {k : List It} {n : Nat} {L : List Nat} {f : Nat → PV} {h : Heap} {Hp : Heap → Prop}
theorem CutP_normal (g : Nat → PV) (h' : Heap) (he : EqF L g f ∧ Hp h') : CutP P C h0 base Qf k n L f Hp .normal (toL n g) h' := ⟨g, rfl, he.1, he.2⟩
theorem CutP_exit (id : Nat) (t' : List PV) (h' : Heap) : CutP P C h0 base Qf k n L f Hp (.exit id) t' h' = K P C h0 base Qf k (.exit id) t' h' := rfl
theorem CutP_ret (t' : List PV) (h' : Heap) : CutP P C h0 base Qf k n L f Hp .ret t' h' = K P C h0 base Qf k .ret t' h' := rfl
theorem cutP_mono (hx : ∀ g h, Hp h → K P C h0 base Qf k .normal (toL n (updl g (pickL L f))) h) : ∀ e t' h', LkQ (CutP P C h0 base Qf k n L f Hp) .mk e t' h' → K P C h0 base Qf k e t' h' := by
  intro e t' h' hq
  cases e with
  | normal =>
    obtain ⟨g, rfl, h1, h2⟩ := hq
    have := hx g h' h2
    rw [updl_own L g f h1] at this
    exact this
  | ret => exact hq
  | exit id => exact hq
theorem cutPK (it : It) (l : List It) {e : Ex} {t' : List PV} {h' : Heap} (hx : ∀ g h, Hp h → K P C h0 base Qf k .normal (toL n (updl g (pickL L f))) h) (ha : K P C h0 base (LkQ (CutP P C h0 base Qf k n L f Hp) .mk) (it :: l) e t' h') : K P C h0 base Qf (it :: (l ++ k)) e t' h' := by
  rw [← List.cons_append, K_app]
  exact K_monoL (cutP_mono hx) _ _ _ _ ha
theorem X_cutPg (L : List Nat) (Hp : Heap → Prop) {g : Option Bool} {d : Option Tmp} {p : Op} {nm : Name} {R Rc it : It} (ha : Xg P C h0 base (LkQ (CutP P C h0 base Qf k n L f Hp) .mk) g d p nm R Rc [it] (toL n f) h) (hx : ∀ g h, Hp h → K P C h0 base Qf k .normal (toL n (updl g (pickL L f))) h) : Xg P C h0 base Qf g d p nm R Rc (it :: k) (toL n f) h := by
  unfold Xg at ha ⊢
  cases g with
  | none => exact ha
  | some g =>
    cases g with
    | false => simp only [Bool.false_eq_true, if_false] at ha ⊢; exact cutPK R [it] hx ha
    | true =>
      simp only [if_true] at ha ⊢
      by_cases c : callB p = true
      · rw [if_pos c] at ha ⊢; exact cutPK Rc [it] hx ha
      · rw [if_neg c] at ha ⊢
        cases hs : stepOp P h nm (St.opnd (toL n f)) p with
        | none => rw [hs] at ha; exact ha
        | some out => rw [hs] at ha; exact cutPK R [it] hx ha
end
end Go.Proofs.Ytnnkoghmglpnmaa.TM
