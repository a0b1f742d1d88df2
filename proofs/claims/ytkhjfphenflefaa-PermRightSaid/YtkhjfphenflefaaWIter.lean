/- The library's iterators: what they hand over. -/
import Derived.RangeFuncNested
import Derived.RangeFuncBound
import Derived.RangeFuncCalls
import Derived.RangeFuncLeaves
import Derived.Shelf.Abstract
import Derived.WalkKit
import Derived.OwnWalkIn
import Derived.TacticsInMore
import Derived.LoopNIn
import Derived.LoopIn
import Derived.BigRegionIn
import Derived.Test.YtkhjfphenflefaaTy
namespace Go.Proofs.Ytkhjfphenflefaa.TM
open Go Go.RowKit Go.Shelf
set_option linter.unusedVariables false
set_option linter.defProp false
set_option linter.unusedSimpArgs false
attribute [local go_sem] Oper.semAt_some


set_option maxRecDepth 100000 in
set_option maxHeartbeats 2000000 in
theorem chunkU_in (F : Fence) (n : Nat) (h7 : F.fn 68) (hro : F.round = none) (hn : 1 ≤ n) (l Bs os Bn on b off N q cap : Nat) (ad : Option Addr) (hq : 1 ≤ q) (had : 1 ≤ N → ad = some ⟨b, off, none⟩) {α : Type} (idx : α → Nat) (encs : α → Array Value)
    (he : ∀ k, k < N → ∃ x, idx x = k ∧ encs x = #[.slice (some ⟨b, off + k * q, none⟩) q q]) (hcap : N * q ≤ cap) (hreach : N * q ≤ 17592186043904) (J Jx : List α → World → Prop) (hJ : ∀ s W W', J s W → W.grownBy W' none → J s W')
    (hY : ∀ pre x W, J pre W → pre.length < N → YieldAt F (n - 1) Try.prog l (encs x) W fun e W' =>
      (e = .returned (.bool true) ∧ J (pre ++ [x]) W' ∧ (W.cell? ⟨Bs, os, none⟩ = some (.slice ad (N * q) cap) → W'.cell? ⟨Bs, os, none⟩ = some (.slice ad (N * q) cap)) ∧ (W.cell? ⟨Bn, on, none⟩ = some (.int .i64 q) → W'.cell? ⟨Bn, on, none⟩ = some (.int .i64 q))) ∨ (e = .returned (.bool false) ∧ Jx (pre ++ [x]) W'))
    (W : World) (hBs : W.cell? ⟨Bs, os, none⟩ = some (.slice ad (N * q) cap)) (hBn : W.cell? ⟨Bn, on, none⟩ = some (.int .i64 q)) (h0 : J [] W) :
    CallsIn F n Try.prog 68 #[.func (.yield l) #[] #[], .pointer (some ⟨Bs, os, none⟩), .pointer (some ⟨Bn, on, none⟩)] W fun e W' => (∃ v, e = .returned v) ∧
      ((∃ ys, ys.map idx = List.range N ∧ J ys W') ∨ (∃ pre, True ∧ Jx pre W')) := by
  refine callsIn_of_wp Try.func68 rfl h7 ?_ hro
  simp only [Try.ntmps68, List.size_toArray, List.length_cons, List.length_nil, Nat.reduceAdd, Nat.reduceSub, Array.replicate_succ, Array.replicate_zero, List.push_toArray, List.append_toArray, List.nil_append, List.cons_append]
  gi_wp2
  gi_loopw [4] (fun i wr => ∃ (k : Nat) (ys : List α), k ≤ N ∧ i = .int .i64 ((k * q : Nat) : Int) ∧ ys.map idx = List.range k ∧ J ys wr ∧ wr.cell? ⟨Bs, os, none⟩ = some (.slice ad (N * q) cap) ∧ wr.cell? ⟨Bn, on, none⟩ = some (.int .i64 q))
    (fun i _ => N * q - (intOf i).toNat)
  case atStart => exact ⟨0, [], Nat.zero_le _, by simp, rfl, h0, hBs, hBn⟩
  case round =>
    obtain ⟨k, ys, hk, rfl, hys, hJs, hs, hn'⟩ := hrel
    by_cases hlt : k < N
    · obtain rfl := had (by omega)
      have hsd : wr.drew.cell? ⟨Bs, os, none⟩ = some (.slice (some ⟨b, off, none⟩) (N * q) cap) := hs
      have hnd : wr.drew.cell? ⟨Bn, on, none⟩ = some (.int .i64 q) := hn'
      obtain ⟨x, hxi, hxe⟩ := he k hlt
      have hyl : ys.length = k := by have := congrArg List.length hys; simpa using this
      obtain ⟨fn, tmps, assign, body, hy, hR⟩ := hY ys x wr.drew (hJ _ _ _ hJs ⟨rfl, rfl, rfl, Nat.le_refl _, fun _ _ _ => rfl⟩) (by omega)
      rw [hxe] at hy
      have m1 : k * q + q ≤ N * q := by have := Nat.mul_le_mul_right q hlt; rw [Nat.succ_mul] at this; exact this
      have m2 : (if N * q - k * q < q then ((N * q - k * q : Nat) : Int) else (q : Int)) = q := if_neg (by omega)
      have m3 : (k + 1) * q = k * q + q := Nat.succ_mul k q
      have m4 : (ys ++ [x]).map idx = List.range (k + 1) := by rw [List.map_append, hys, List.range_succ, List.map_cons, hxi]; rfl
      clear he hxe hxi hys hyl
      generalize k * q = kq at *
      generalize N * q = Nq at *
      gi_wp2
      gi_region
      all_goals (
        gi_wp2
        refine hR.mono ?_
        rintro e W3 (⟨rfl, hJ3, hk1, hk2⟩ | ⟨rfl, hJx3⟩)
        · have c1 := hk1 hsd
          have c2 := hk2 hnd
          gi_wp2
          go_roundw
          case rel => exact ⟨k + 1, ys ++ [x], by omega, by rw [m3]; simp, m4, hJ3, c1, c2⟩
          case measure => simp [intOf]; omega
        · gi_wp2
          refine bodyPost_ret (results_none rfl _ _ _) rfl ?_
          exact ⟨⟨_, rfl⟩, .inr ⟨_, trivial, hJx3⟩⟩)
    · obtain rfl : k = N := by omega
      clear he had
      generalize k * q = kq at *
      gi_wp2
      go_end0
      exact ⟨⟨_, rfl⟩, .inl ⟨ys, hys, hJs⟩⟩
end Go.Proofs.Ytkhjfphenflefaa.TM
