/- TM: slots as functions: walks of long functions go faster so. Conditions: none; lemmas. -/
import Derived.Test.YtnnkoghmglpnmaaTmV
namespace Go.Proofs.Ytnnkoghmglpnmaa.TM
open Go
set_option linter.unusedVariables false
set_option linter.defProp false
set_option linter.unusedSimpArgs false

/-- n slots. -/
def toL (n : Nat) (f : Nat → PV) : List PV := (List.range n).map f
def upd (f : Nat → PV) (k : Nat) (v : PV) : Nat → PV := fun j => if j = k then v else f j
def argsF (args : List PV) : Nat → PV := fun i => args.getD i undefP
def deadF : Nat → PV := fun _ => .dead
def updl (f : Nat → PV) : List (Nat × PV) → Nat → PV
  | [] => f
  | (i, v) :: r => updl (upd f i v) r
def pickF : List Nat → (Nat → PV) → Nat → PV
  | [], _ => deadF
  | i :: L, f => upd (pickF L f) i (f i)
theorem toL_len (n : Nat) (f : Nat → PV) : (toL n f).length = n := by simp [toL]
theorem toL_get? (n : Nat) (f : Nat → PV) (k : Nat) : (toL n f)[k]? = if k < n then some (f k) else none := by
  unfold toL
  rw [List.getElem?_map]
  by_cases h : k < n
  · rw [if_pos h, List.getElem?_range h]; rfl
  · rw [if_neg h, List.getElem?_eq_none (by simp; omega)]; rfl
theorem toL_getD (n : Nat) (f : Nat → PV) (k : Nat) (u : PV) : (toL n f).getD k u = if k < n then f k else u := by
  rw [List.getD_eq_getElem?_getD, toL_get?]; split <;> rfl
theorem toL_ext {n : Nat} {f g : Nat → PV} (h : ∀ i, i < n → f i = g i) : toL n f = toL n g := by
  unfold toL
  exact List.map_congr_left fun i hi => h i (List.mem_range.1 hi)
theorem list_toL {n : Nat} {l : List PV} (hl : l.length = n) (f : Nat → PV) (h : ∀ i, i < n → l.getD i undefP = f i) : l = toL n f := by
  apply List.ext_getElem?
  intro i
  rw [toL_get?]
  by_cases hi : i < n
  · rw [if_pos hi, ← h i hi, List.getElem?_eq_getElem (by omega), List.getD_eq_getElem?_getD, List.getElem?_eq_getElem (by omega)]; rfl
  · rw [if_neg hi, List.getElem?_eq_none (by omega)]
theorem toL_set (n : Nat) (f : Nat → PV) (k : Nat) (v : PV) : (toL n f).set k v = toL n (upd f k v) := by
  apply List.ext_getElem?
  intro i
  rw [List.getElem?_set, toL_get?, toL_get?, toL_len]
  unfold upd
  by_cases hk : k = i
  · subst hk
    rw [if_pos rfl]
    by_cases hn : k < n
    · simp [hn]
    · simp [hn]
  · rw [if_neg hk, if_neg (show ¬ i = k from fun h => hk h.symm)]
theorem upd_at (f : Nat → PV) (k j : Nat) (v : PV) : upd f k v j = if j = k then v else f j := rfl
theorem argsF_at (args : List PV) (i : Nat) : argsF args i = args.getD i undefP := rfl
theorem deadF_at (i : Nat) : deadF i = .dead := rfl
theorem updl_nil (f : Nat → PV) : updl f [] = f := rfl
theorem updl_cons (f : Nat → PV) (i : Nat) (v : PV) (r : List (Nat × PV)) : updl f ((i, v) :: r) = updl (upd f i v) r := rfl
theorem pickF_nil (f : Nat → PV) : pickF [] f = deadF := rfl
theorem pickF_cons (i : Nat) (L : List Nat) (f : Nat → PV) : pickF (i :: L) f = upd (pickF L f) i (f i) := rfl
theorem pickF_eq (f : Nat → PV) (i : Nat) : ∀ L : List Nat, pickF L f i = if i ∈ L then f i else .dead
  | [] => rfl
  | k :: L => by
    rw [pickF_cons, upd_at, pickF_eq f i L]
    by_cases h : i = k
    · subst h; simp
    · simp [h]
theorem toL_start (args : List PV) {n m : Nat} (hm : args.length = m) (h : m ≤ n) : args ++ List.replicate (n - m) undefP = toL n (argsF args) := by
  subst hm
  refine list_toL (by simp; omega) _ fun i hi => ?_
  unfold argsF
  rw [List.getD_eq_getElem?_getD, List.getElem?_append]
  split
  · rw [List.getD_eq_getElem?_getD]
  · rename_i h2
    rw [List.getElem?_replicate, List.getD_eq_getElem?_getD, List.getElem?_eq_none (by omega)]
    split <;> rfl
theorem CallsP.startF {P : Program} {f : FuncId} {fn : Func} {c : Code} {args : List PV} {v : PV} {n m : Nat} {rs : List ResultVar} (hf : P.funcs[f]? = some fn) (hb : fn.body = some c) (hn : fn.ntmps = n) (hrs : fn.results.toList = rs) (hm : args.length = m) (hmn : m ≤ n)
    (hw : ∀ base, K P (CallR P) Heap.none base (fun e t hh => (e = .normal ∨ e = .ret) ∧ (resB P rs t hh).bind (lowerT hh) = some v) [.code c] .normal (toL n (argsF args)) Heap.none) : CallsP P f args v :=
  CallsP.start hf hb hn hrs fun base => by rw [toL_start args rfl (by omega)]; exact hw base
theorem CallR.startF {P : Program} {base : Name} {f : FuncId} {fn : Func} {c : Code} {args : List PV} {h : Heap} {v : PV} {h' : Heap} {n m : Nat} {rs : List ResultVar} (hf : P.funcs[f]? = some fn) (hb : fn.body = some c) (hn : fn.ntmps = n) (hrs : fn.results.toList = rs) (hm : args.length = m) (hmn : m ≤ n)
    (hw : K P (CallR P) h base (fun e t hh => (e = .normal ∨ e = .ret) ∧ resB P rs t hh = some v ∧ hh = h') [.code c] .normal (toL n (argsF args)) h) : CallR P base f args h v h' :=
  CallR.start hf hb hn hrs (by rw [toL_start args rfl (by omega)]; exact hw)

/-! ### loops -/
def ksOf (n : Nat) (L : List Nat) : List Bool := (List.range n).map fun i => decide (i ∈ L)
theorem keepT_eq : ∀ (ks : List Bool) (t : List PV), ks.length = t.length → ∀ i : Nat, (keepT ks t)[i]? = if ks[i]? = some true then t[i]? else (t[i]?).map fun _ => PV.dead
  | [], [], _, i => by simp [keepT_nil]
  | k :: ks, x :: xs, h, i => by
    cases i with
    | zero => cases k <;> simp [keepT_t, keepT_f]
    | succ i => cases k <;> simp [keepT_t, keepT_f] <;> exact keepT_eq ks xs (by simpa using h) i
  | [], _ :: _, h, _ => by simp at h
  | _ :: _, [], h, _ => by simp at h
theorem keep_toL {n : Nat} {L : List Nat} {t : List PV} (hl : t.length = n) {g : Nat → PV} (he : ∀ i ∈ L, t.getD i undefP = g i) : keepT (ksOf n L) t = toL n (pickF L g) := by
  apply List.ext_getElem?
  intro i
  rw [keepT_eq _ _ (by simp [ksOf, hl]), toL_get?]
  by_cases hi : i < n
  · have h1 : t[i]? = some t[i] := List.getElem?_eq_getElem (by omega)
    have h2 : (ksOf n L)[i]? = some (decide (i ∈ L)) := by unfold ksOf; rw [List.getElem?_map, List.getElem?_range hi]; rfl
    rw [if_pos hi, h1, h2, pickF_eq]
    by_cases hL : i ∈ L
    · rw [if_pos (by simp [hL]), if_pos hL, ← he i hL, List.getD_eq_getElem?_getD, h1]; rfl
    · rw [if_neg (by simp [hL]), if_neg hL]; rfl
  · rw [if_neg hi, List.getElem?_eq_none (show t.length ≤ i by omega)]
    split <;> rfl
/-- What is forgotten may be: told by slots. -/
def FgT (h0 : Heap) (bs : List Name) (L : List Nat) (t : List PV) (h : Heap) : Prop := ∀ b ∈ bs, h0 b = none ∧ (∀ i ∈ L, b ∉ refsP (t.getD i undefP)) ∧ noVar b h
def EqT (L : List Nat) (t : List PV) (g : Nat → PV) : Prop := ∀ i ∈ L, t.getD i undefP = g i
theorem EqT_nil (t : List PV) (g : Nat → PV) : EqT [] t g = True := by simp [EqT]
theorem EqT_cons (i : Nat) (L : List Nat) (t : List PV) (g : Nat → PV) : EqT (i :: L) t g = (t.getD i undefP = g i ∧ EqT L t g) := by simp [EqT]
theorem fgt_nil {h0 : Heap} {L : List Nat} {t : List PV} {h : Heap} : FgT h0 [] L t h := fun b hb => by simp at hb
def NotIn (b : Name) (L : List Nat) (t : List PV) : Prop := ∀ i ∈ L, b ∉ refsP (t.getD i undefP)
theorem notIn_nil (b : Name) (t : List PV) : NotIn b [] t = True := by simp [NotIn]
theorem notIn_cons (b : Name) (i : Nat) (L : List Nat) (t : List PV) : NotIn b (i :: L) t = (b ∉ refsP (t.getD i undefP) ∧ NotIn b L t) := by simp [NotIn]
theorem fgt_cons {h0 : Heap} {b : Name} {bs : List Name} {L : List Nat} {t : List PV} {h : Heap} (h1 : h0 b = none) (h2 : NotIn b L t) (h3 : noVar b h) (h4 : FgT h0 bs L t h) : FgT h0 (b :: bs) L t h := fun c hc => by
  rcases List.mem_cons.1 hc with rfl | hc
  · exact ⟨h1, h2, h3⟩
  · exact h4 c hc
theorem of_refsL {b : Name} : ∀ {ps : List PV}, b ∈ refsL ps → ∃ p ∈ ps, b ∈ refsP p
  | [], h => by simp [refsL] at h
  | p :: ps, h => by
    rw [refsL_cons', List.mem_append] at h
    rcases h with h | h
    · exact ⟨p, by simp, h⟩
    · obtain ⟨q, h1, h2⟩ := of_refsL h; exact ⟨q, by simp [h1], h2⟩
theorem fgt_forget {h0 : Heap} {n : Nat} {bs : List Name} {L : List Nat} {t : List PV} {h : Heap} (hl : t.length = n) (hf : FgT h0 bs L t h) : Forget h0 t h (ksOf n L) bs := by
  refine forget_of (by simp [ksOf, hl]) fun b hb => ⟨(hf b hb).1, fun hm => ?_, (hf b hb).2.2⟩
  rw [keep_toL (g := fun i => t.getD i undefP) hl (fun i _ => rfl)] at hm
  obtain ⟨p, h1, h2⟩ := of_refsL hm
  unfold toL at h1
  obtain ⟨i, hi, rfl⟩ := List.mem_map.1 h1
  rw [pickF_eq] at h2
  split at h2
  · rename_i hL; exact (hf b hb).2.1 i hL h2
  · simp [refsP] at h2
section
variable {P : Program} {C : CallRel} {h0 : Heap} {base : Name} {Qf : Ex → List PV → Heap → Prop} {k : List It} {h : Heap}
def RoundH (P : Program) (C : CallRel) (h0 : Heap) (base : Name) (Qf : Ex → List PV → Heap → Prop) (k : List It) (n : Nat) (L : List Nat) (bs : List Name) (m : Nat) (Φ : Nat → Prop) (F : Nat → Nat → PV) (hh : Nat → Heap) (j : Nat) : Ex → List PV → Heap → Prop
  | .normal, t, h => t.length = n ∧ LtN j m ∧ FgT h0 bs L t h ∧ Φ (j + 1) ∧ EqT L t (F (j + 1)) ∧ h.drop bs = hh (j + 1)
  | e, t, h => K P C h0 base Qf k e t h
variable {n : Nat} {L : List Nat} {bs : List Name} {m : Nat} {Φ : Nat → Prop} {F : Nat → Nat → PV} {hh : Nat → Heap} {j : Nat} {t : List PV}
theorem RoundH_normal {g : Nat → PV} : RoundH P C h0 base Qf k n L bs m Φ F hh j .normal (toL n g) h = (LtN j m ∧ FgT h0 bs L (toL n g) h ∧ Φ (j + 1) ∧ EqT L (toL n g) (F (j + 1)) ∧ h.drop bs = hh (j + 1)) := by
  show ((toL n g).length = n ∧ _) = _
  rw [toL_len]; simp
theorem RoundH_exit {id : Nat} : RoundH P C h0 base Qf k n L bs m Φ F hh j (.exit id) t h = K P C h0 base Qf k (.exit id) t h := rfl
theorem RoundH_ret : RoundH P C h0 base Qf k n L bs m Φ F hh j .ret t h = K P C h0 base Qf k .ret t h := rfl
/-- A loop: L the slots that matter at its head; u what they hold in the round j, where it is not what they held at first. -/
theorem K_loopH {b : Code} {f : Nat → PV} (L : List Nat) (bs : List Name) (a m : Nat) (Φ : Nat → Prop) (u : Nat → List (Nat × PV)) (hh : Nat → Heap) (h1 : FgT h0 bs L (toL n f) h) (h2 : EqT L (toL n f) (updl f (u a))) (h3 : h.drop bs = hh a) (ha : a ≤ m) (hΦ : Φ a) (hL : ∀ i ∈ L, i < n)
    (hr : ∀ j, j ≤ m → Φ j → K P C h0 base (RoundH P C h0 base Qf k n L bs m Φ (fun j => updl f (u j)) hh j) [.code b] .normal (toL n (pickF L (updl f (u j)))) (hh j)) : K P C h0 base Qf (.code (.loop b) :: k) .normal (toL n f) h := by
  refine K_loopI (ksOf n L) bs (m - a) (fun r t' h' => ∃ j, r = m - j ∧ j ≤ m ∧ Φ j ∧ t' = toL n (pickF L (updl f (u j))) ∧ h' = hh j) (fgt_forget (toL_len n f) h1) ⟨a, rfl, ha, hΦ, keep_toL (toL_len n f) h2, h3⟩ ?_
  rintro r t' h' ⟨j, hm, hj, hp, rfl, rfl⟩
  refine K_mono (e := .normal) (k := []) (fun e t2 h2 hq => ?_) (hr j hj hp)
  cases e with
  | normal =>
    obtain ⟨g0, g1, g2, g3, g4, g5⟩ : t2.length = n ∧ LtN j m ∧ FgT h0 bs L t2 h2 ∧ Φ (j + 1) ∧ EqT L t2 (updl f (u (j + 1))) ∧ h2.drop bs = hh (j + 1) := hq
    have g1 : j < m := g1
    exact ⟨m - (j + 1), by omega, fgt_forget g0 g2, j + 1, rfl, g1, g3, keep_toL g0 g4, g5⟩
  | exit id => exact hq
  | ret => exact hq
end
section
variable {P : Program} {h0 : Heap} {base : Name} {Qf : Ex → List PV → Heap → Prop} {k : List It} {h : Heap} {t : List PV}
theorem callee_fn (g : FuncId) (as : Array Operand) (ts : Array TypeId) : calleeOf t ⟨.value (.func g), as, ts⟩ = some (g, as.toList.map (St.opnd t)) := by
  simp [calleeOf, St.opnd]
/-- A call of a function by its name. -/
theorem K_call_fn {id : Nat} {ops : Array Oper} {i : Nat} {o : Oper} {os : List Oper} {g : FuncId} {as : Array Operand} {ts : Array TypeId} {largs : List PV} {v : PV} (hs : CallsP P g largs v) (ho : o.op = .call ⟨.value (.func g), as, ts⟩) (he : enterB P g = true)
    (hl : mapO (lowerA h) (as.toList.map (St.opnd t)) = some largs)
    (hk : K P (CallR P) h0 base Qf (.ops id ops (i + 1) os :: k) .normal (putT t o.dst v) (h.ups (if scalT v then [] else freezeOf h ((as.toList.map (St.opnd t)).flatMap boxesA)))) :
    K P (CallR P) h0 base Qf (.call id ops i o os :: k) .normal t h :=
  K_call_pure hs ho (callee_fn g as ts) he hl hk
theorem K_dcall_fn {id : Nat} {ops : Array Oper} {i : Nat} {o : Oper} {os : List Oper} {acc : List Keys} {g : FuncId} {as : Array Operand} {ts : Array TypeId} {largs : List PV} {v : PV} (hs : CallsP P g largs v) (ho : o.op = .call ⟨.value (.func g), as, ts⟩) (he : enterB P g = true)
    (hl : mapO (lowerA h) (as.toList.map (St.opnd t)) = some largs)
    (hk : K P (CallR P) h0 base Qf (.dops id ops (i + 1) os ((keysU (if scalT v then [] else freezeOf h ((as.toList.map (St.opnd t)).flatMap boxesA)), keyN ((id, i) :: base) :: (((as.toList.map (St.opnd t)).flatMap boxesA).map keyN ++ keysL ((opnL o.op).map (St.opnd t)))) :: acc) :: k) .normal (putT t o.dst v)
      (h.ups (if scalT v then [] else freezeOf h ((as.toList.map (St.opnd t)).flatMap boxesA)))) :
    K P (CallR P) h0 base Qf (.dcall id ops i o os acc :: k) .normal t h :=
  K_dcall_keys hs ho (callee_fn g as ts) he hl hk
end
def sim6 :=
  And.intro @toL_len <| And.intro @toL_get? <| And.intro @toL_getD <| And.intro @toL_set <| And.intro @upd_at <| And.intro @argsF_at <| And.intro @deadF_at <| And.intro @updl_nil <| And.intro @updl_cons <| And.intro @pickF_nil <| And.intro @pickF_cons <| And.intro @EqT_nil <| And.intro @EqT_cons <| And.intro @RoundH_normal <| And.intro @RoundH_exit <| @RoundH_ret
end Go.Proofs.Ytnnkoghmglpnmaa.TM
