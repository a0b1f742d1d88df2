/- Layer 1, FieldNorm: of any numbers and modulus, what is left of sums and products is that of what is left. No condition. -/
import Derived.Test.YtdfhkdddlfmceaaX7
import Derived.Test.YtdfhkdddlfmceaaX10
import Derived.Test.YtdfhkdddlfmceaaX13
import Derived.Test.YtdfhkdddlfmceaaX15
import Derived.Test.YtdfhkdddlfmceaaX16
import Derived.Test.YtdfhkdddlfmceaaPfE
namespace Go.Proofs.Ytdfhkdddlfmceaa.Pure
open Go.RowKit Go.Proofs.YtdfhkdddlfmceaaW.PrintWords Go.Proofs.YtdfhkdddlfmceaaW.PrintLast Go.Proofs.YtdfhkdddlfmceaaW.PrintMore Go.Proofs.Ytdfhkdddlfmceaa.X Go.Proofs.Ytdfhkdddlfmceaa.PfA Go.Proofs.Ytdfhkdddlfmceaa.PfB Go.Proofs.Ytdfhkdddlfmceaa.PfC Go.Proofs.Ytdfhkdddlfmceaa.PfD Go.Proofs.Ytdfhkdddlfmceaa.PfE
set_option linter.unusedVariables false
set_option linter.unusedSimpArgs false
theorem norm_ev (p a b : Int) (l : List Int) (ha : 0 ≤ a ∧ a < 4294967296) (hb : 0 ≤ b ∧ b < 4294967296) (hl : ∀ x ∈ l, W64 x) (hm : l.length ≤ maxLen) : Ev (fun k => affidavitlaw01_FieldNorm.f k p a b l) true := by
  refine Ev.bind ev_awake ?_
  simp only [if_true, right_f, Option.bind_some]
  have bad : Ev (fun k => affidavitlaw01_FieldNorm.j0 k p a b l true) true := Ev.step (f := fun _ => some true) (fun k => by rw [affidavitlaw01_FieldNorm.j0, if_pos rfl]) (Ev.now _)
  cases h : RightB p with
  | false => simpa using bad
  | true =>
    simp only [if_true]
    obtain ⟨h1, h2⟩ := (right_iff p).1 h
    by_cases c : (l.length : Int) > 60
    · rw [decide_eq_true c]; exact bad
    · rw [decide_eq_false c]
      have z : ∀ x, In p (x % p) := fun x => emod_in x (by omega)
      have hmul := mul_bd (a := a) (b := b) (m := 4294967295) (n := 4294967295) ha.1 hb.1 (by omega) (by omega)
      have nm : ∀ x, 0 ≤ x → field_Norm.f p x = some (x % p, 0) := by
        intro x hx
        unfold field_Norm.f
        rw [right_f, h]
        simp only [Option.bind_some, if_true]
        rw [if_neg (by omega), tmod_nn hx]
      -- the loop: Has asks of each number for itself
      have key : ∀ (d i : Nat) (q : Bool), l.length - i = d → i ≤ l.length → (q && HasB p (l.drop i)) = HasB p l →
          Ev (fun k => affidavitlaw01_FieldNorm.l0 k p l ((a + b) % p) (a * b % p) ((a + b) % p) 0 (a * b % p) 0 q (i : Int)) true := by
        intro d
        induction d with
        | zero =>
          intro i q hd hi hq
          rw [List.drop_of_length_le (by omega), hasB_nil, h, Bool.and_true] at hq
          refine Ev.step (f := fun k => (field_Has.f k p l).bind fun t => if (t == q) = true then (field_Has.f k p []).bind fun u => some u else some false) (fun k => ?_) ?_
          · rw [affidavitlaw01_FieldNorm.l0, if_neg (by omega), if_pos rfl, if_pos rfl, if_pos rfl, if_pos rfl]
          · refine Ev.bind (ev_has p l hm) ?_
            simp only [hq, beq_self_eq_true, if_true]
            have := ev_has p [] (by simp)
            rw [hasB_nil, h] at this
            exact Ev.bind this (Ev.now _)
        | succ d ih =>
          intro i q hd hi hq
          have hlt : i < l.length := by omega
          rw [drop_at l i hlt, hasB_cons] at hq
          cases q with
          | false =>
            refine Ev.step (f := fun k => affidavitlaw01_FieldNorm.l0 k p l ((a + b) % p) (a * b % p) ((a + b) % p) 0 (a * b % p) 0 false ((i + 1 : Nat) : Int)) (fun k => ?_) (ih (i + 1) false (by omega) (by omega) (by simpa using hq))
            rw [affidavitlaw01_FieldNorm.l0, if_pos (by omega), if_neg (by decide), wadd (n := l.length) (by omega) (by omega) (by have := mx_len; omega)]
            rfl
          | true =>
            refine Ev.step (f := fun k => (field_Has.f k p [l[i]]).bind fun t => affidavitlaw01_FieldNorm.l0 k p l ((a + b) % p) (a * b % p) ((a + b) % p) 0 (a * b % p) 0 t ((i + 1 : Nat) : Int)) (fun k => ?_) ?_
            · rw [affidavitlaw01_FieldNorm.l0, if_pos (by omega), if_pos rfl, if_pos (by omega), rd_at l i hlt, wadd (n := l.length) (by omega) (by omega) (by have := mx_len; omega)]
              rfl
            · refine Ev.bind (ev_has p [l[i]] (by rw [mx_len]; simp)) (ih (i + 1) _ (by omega) (by omega) ?_)
              rw [hasB_cons, hasB_nil, h, Bool.and_true]
              simpa using hq
      refine Ev.step (f := fun k => (field_Add.f k p (a % p) (b % p)).bind fun s => (field_Mul.f k p (a % p) (b % p)).bind fun m => affidavitlaw01_FieldNorm.l0 k p l ((a + b) % p) (a * b % p) s.1 s.2 m.1 m.2 true 0) (fun k => ?_) ?_
      · rw [affidavitlaw01_FieldNorm.j0, if_neg (by decide), uw_of (n := a) (by omega) (by omega), uw_of (n := b) (by omega) (by omega), uw_of (n := a + b) (by omega) (by omega), uw_of (n := a * b) (by omega) (by omega), nm a ha.1, nm b hb.1, nm (a + b) (by omega), nm (a * b) hmul.1]
        rfl
      · refine Ev.bind (ev_Add' h1 h2 (z _) (z _)) (Ev.bind (ev_Mul' h1 h2 (z _) (z _)) ?_)
        rw [am_l, am_r, mm_l, mm_r]
        exact key l.length 0 true (by omega) (by omega) (by simp)
theorem FieldNorm : affidavitlaw01_FieldNorm.Pure := fun p a b l hp ha hb hl => (norm_ev p a b l (u32_of ha) (u32_of hb) (w64_all hl.2) hl.1).rounds
end Go.Proofs.Ytdfhkdddlfmceaa.Pure
