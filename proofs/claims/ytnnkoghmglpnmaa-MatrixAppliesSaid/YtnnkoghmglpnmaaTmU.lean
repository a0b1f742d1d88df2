/- TM: more rules for walks: loops told by what changes, rows that grow, heaps. Conditions: none; lemmas. -/
import Derived.Test.YtnnkoghmglpnmaaTmT
namespace Go.Proofs.Ytnnkoghmglpnmaa.TM
open Go
set_option linter.unusedVariables false
set_option linter.defProp false
set_option linter.unusedSimpArgs false

theorem keepT_t (ks : List Bool) (x : PV) (xs : List PV) : keepT (true :: ks) (x :: xs) = x :: keepT ks xs := rfl
theorem keepT_f (ks : List Bool) (x : PV) (xs : List PV) : keepT (false :: ks) (x :: xs) = .dead :: keepT ks xs := rfl
theorem keepT_nil (xs : List PV) : keepT [] xs = [] := by cases xs <;> rfl
/-- Slots, some of them set anew. -/
def sets : List PV → List (Nat × PV) → List PV
  | t, [] => t
  | t, (i, v) :: r => sets (t.set i v) r
theorem sets_nil (t : List PV) : sets t [] = t := rfl
theorem sets_cons (t : List PV) (i : Nat) (v : PV) (r : List (Nat × PV)) : sets t ((i, v) :: r) = sets (t.set i v) r := rfl
theorem Heap.put_at (h : Heap) (b c : Name) (x : Box) : h.put b x c = if c = b then some x else h c := rfl
theorem Heap.none_at (c : Name) : Heap.none c = Option.none := rfl
theorem Heap.put_put (h : Heap) (b : Name) (x y : Box) : (h.put b x).put b y = h.put b y := by
  funext c; simp only [Heap.put_at]; split <;> rfl

/-- An operation's operands, as a list. -/
def opnL : Op → List Operand
  | .alloc _ => []
  | .move x | .assign x | .box _ x | .load _ x | .nilCheck x | .unOp _ _ x | .convert _ _ x | .fieldAddr _ x _ | .field _ x _ | .extract x _ | .panic x | .makeInterface _ x => [x]
  | .pick c a b => [c, a, b]
  | .build _ ps | .buildSlice _ _ ps => ps.toList.map (·.2)
  | .store _ a v | .binOp _ _ a v _ | .makeSlice _ a v | .indexAddr _ a v | .index _ a v => [a, v]
  | .slice _ x l h m => x :: (l.toList ++ h.toList ++ m.toList)
  | .call { callee := .value f, args := as, .. } => f :: as.toList
  | .call { callee := .builtin _, args := as, .. } => as.toList
  | op => op.operands.toList
theorem opnL_eq (op : Op) : op.operands.toList = opnL op := by
  cases op <;> try rfl
  case slice t x l h m => cases l <;> cases h <;> cases m <;> simp [opnL, Op.operands]
  case call c => obtain ⟨f, as, ts⟩ := c; cases f <;> simp [opnL, Op.operands, Call.operands]
/-- What an operation may have looked at, and what it wrote: the names' parts. -/
def keysU (us : List (Name × Box)) : List (Nat × Nat) := us.map fun u => keyN u.1
def keysT (s : Name) (ps : List PV) : List (Nat × Nat) := keyN s :: (refsL ps).map keyN
theorem keyN_cons (x : Nat × Nat) (b : Name) : keyN (x :: b) = x := rfl
theorem keysU_nil : keysU [] = [] := rfl
theorem keysU_cons (b : Name) (x : Box) (us : List (Name × Box)) : keysU ((b, x) :: us) = keyN b :: keysU us := rfl
def keysL (ps : List PV) : List (Nat × Nat) := (refsL ps).map keyN
theorem keysT_eq (x : Nat × Nat) (b : Name) (ps : List PV) : keysT (x :: b) ps = x :: keysL ps := rfl
theorem keysL_nil : keysL [] = [] := rfl
theorem keysL_i (x : IV) (ps : List PV) : keysL (.i x :: ps) = keysL ps := rfl
theorem keysL_dead (ps : List PV) : keysL (.dead :: ps) = keysL ps := rfl
theorem keysL_iref (cs : List IV) (o : Nat) (ps : List PV) : keysL (.iref cs o :: ps) = keysL ps := rfl
theorem keysL_view (b : Name) (o z n p : Nat) (ps : List PV) : keysL (.view b o z n p :: ps) = keyN b :: keysL ps := rfl
theorem keysL_ref (b : Name) (o p : Nat) (ps : List PV) : keysL (.ref b o p :: ps) = keyN b :: keysL ps := rfl
theorem keysL_agg (cs ps : List PV) : keysL (.agg cs :: ps) = keysL cs ++ keysL ps := by simp [keysL, refsL, refsP]
theorem keysL_tup (cs ps : List PV) : keysL (.tup cs :: ps) = keysL cs ++ keysL ps := by simp [keysL, refsL, refsP]
theorem keysL_clo (f : FuncId) (cs ps : List PV) : keysL (.clo f cs :: ps) = keysL cs ++ keysL ps := by simp [keysL, refsL, refsP]
def sim5 :=
  And.intro @keyN_cons <| And.intro @keysU_nil <| And.intro @keysU_cons <| And.intro @keysT_eq <| And.intro @keysL_nil <| And.intro @keysL_i <| And.intro @keysL_dead <| And.intro @keysL_iref <| And.intro @keysL_view <| And.intro @keysL_ref <| And.intro @keysL_agg <| And.intro @keysL_tup <| @keysL_clo
section
variable {P : Program} {C : CallRel} {h0 : Heap} {base : Name} {Qf : Ex → List PV → Heap → Prop} {k : List It} {t : List PV} {h : Heap}
theorem Kdres_keys (v : PV) (us : List (Name × Box)) (id : Nat) (ops : Array Oper) (i : Nat) (o : Oper) (os : List Oper) (acc : List Keys) : Kdres P C h0 base Qf (some ⟨v, us⟩) id ops i o os acc k t h =
    K P C h0 base Qf (.dops id ops (i + 1) os ((keysU us, keysT ((id, i) :: base) ((opnL o.op).map (St.opnd t))) :: acc) :: k) .normal (putT t o.dst v) (h.ups us) := by
  rw [Kdres_some, opndsP, opnL_eq]; rfl
/-- A call in a region whose order is open. -/
theorem K_dcall_keys {id : Nat} {ops : Array Oper} {i : Nat} {o : Oper} {os : List Oper} {acc : List Keys} {c : Call} {g : FuncId} {args largs : List PV} {v : PV} (hs : CallsP P g largs v) (ho : o.op = .call c) (hcal : calleeOf t c = some (g, args)) (he : enterB P g = true)
    (hl : mapO (lowerA h) args = some largs)
    (hk : K P (CallR P) h0 base Qf (.dops id ops (i + 1) os ((keysU (if scalT v then [] else freezeOf h (args.flatMap boxesA)), keyN ((id, i) :: base) :: ((args.flatMap boxesA).map keyN ++ keysL ((opnL o.op).map (St.opnd t)))) :: acc) :: k) .normal (putT t o.dst v)
      (h.ups (if scalT v then [] else freezeOf h (args.flatMap boxesA)))) :
    K P (CallR P) h0 base Qf (.dcall id ops i o os acc :: k) .normal t h := by
  refine K_dcall_pure hs ho hcal he hl ?_
  rw [opndsP, opnL_eq, List.map_cons, List.map_append]
  exact hk
end

section
variable {P : Program} {C : CallRel} {h0 : Heap} {base : Name} {Qf : Ex → List PV → Heap → Prop} {k : List It} {t : List PV} {h : Heap}
theorem K_loopF {b : Code} (ks : List Bool) (bs : List Name) (n : Nat) (u : Nat → List (Nat × PV)) (hh : Nat → Heap) (h1 : Forget h0 t h ks bs) (h2 : keepT ks t = sets (keepT ks t) (u 0)) (h3 : h.drop bs = hh 0)
    (hr : ∀ j, j ≤ n → K P C h0 base (Round P C h0 base Qf k ks bs n (fun j => (sets (keepT ks t) (u j), hh j)) j) [.code b] .normal (sets (keepT ks t) (u j)) (hh j)) : K P C h0 base Qf (.code (.loop b) :: k) .normal t h :=
  K_loop ks bs n (fun j => (sets (keepT ks t) (u j), hh j)) h1 h2 h3 hr
/-- A round's end, of a loop whose head holds Φ. -/
def AgainG (h0 : Heap) (ks : List Bool) (bs : List Name) (n : Nat) (Φ : Nat → Prop) (T : Nat → List PV) (hh : Nat → Heap) (j : Nat) (t : List PV) (h : Heap) : Prop :=
  j < n ∧ Forget h0 t h ks bs ∧ Φ (j + 1) ∧ keepT ks t = T (j + 1) ∧ h.drop bs = hh (j + 1)
def RoundG (P : Program) (C : CallRel) (h0 : Heap) (base : Name) (Qf : Ex → List PV → Heap → Prop) (k : List It) (ks : List Bool) (bs : List Name) (n : Nat) (Φ : Nat → Prop) (T : Nat → List PV) (hh : Nat → Heap) (j : Nat) : Ex → List PV → Heap → Prop
  | .normal, t, h => AgainG h0 ks bs n Φ T hh j t h
  | e, t, h => K P C h0 base Qf k e t h
/-- Below, not to be simplified. -/
def LtN (j n : Nat) : Prop := j < n
theorem RoundG_normal {ks : List Bool} {bs : List Name} {n : Nat} {Φ : Nat → Prop} {T : Nat → List PV} {hh : Nat → Heap} {j : Nat} : RoundG P C h0 base Qf k ks bs n Φ T hh j .normal t h = (LtN j n ∧ Forget h0 t h ks bs ∧ Φ (j + 1) ∧ keepT ks t = T (j + 1) ∧ h.drop bs = hh (j + 1)) := rfl
theorem RoundG_exit {ks : List Bool} {bs : List Name} {n : Nat} {Φ : Nat → Prop} {T : Nat → List PV} {hh : Nat → Heap} {j id : Nat} : RoundG P C h0 base Qf k ks bs n Φ T hh j (.exit id) t h = K P C h0 base Qf k (.exit id) t h := rfl
theorem RoundG_ret {ks : List Bool} {bs : List Name} {n : Nat} {Φ : Nat → Prop} {T : Nat → List PV} {hh : Nat → Heap} {j : Nat} : RoundG P C h0 base Qf k ks bs n Φ T hh j .ret t h = K P C h0 base Qf k .ret t h := rfl
theorem K_loopG {b : Code} (ks : List Bool) (bs : List Name) (a n : Nat) (Φ : Nat → Prop) (u : Nat → List (Nat × PV)) (hh : Nat → Heap) (h1 : Forget h0 t h ks bs) (h2 : keepT ks t = sets (keepT ks t) (u a)) (h3 : h.drop bs = hh a) (ha : a ≤ n) (hΦ : Φ a)
    (hr : ∀ j, j ≤ n → Φ j → K P C h0 base (RoundG P C h0 base Qf k ks bs n Φ (fun j => sets (keepT ks t) (u j)) hh j) [.code b] .normal (sets (keepT ks t) (u j)) (hh j)) : K P C h0 base Qf (.code (.loop b) :: k) .normal t h := by
  refine K_loopI ks bs (n - a) (fun m t' h' => ∃ j, m = n - j ∧ j ≤ n ∧ Φ j ∧ t' = sets (keepT ks t) (u j) ∧ h' = hh j) h1 ⟨a, rfl, ha, hΦ, h2, h3⟩ ?_
  rintro m t' h' ⟨j, hm, hj, hp, rfl, rfl⟩
  refine K_mono (e := .normal) (k := []) (fun e t2 h2 hq => ?_) (hr j hj hp)
  cases e with
  | normal =>
    obtain ⟨g1, g2, g3, g4, g5⟩ : AgainG h0 ks bs n Φ (fun j => sets (keepT ks t) (u j)) hh j t2 h2 := hq
    exact ⟨n - (j + 1), by omega, g2, j + 1, rfl, g1, g3, g4, g5⟩
  | exit id => exact hq
  | ret => exact hq
end

/-- A row that grows from nothing: n elements of z cells. -/
def rowP (s : Name) (z n : Nat) (cs : List IV) : PV := if n = 0 then .i (.v (.slice none 0 0)) else .view s 0 z n cs.length
def rowH (h : Heap) (s : Name) (n : Nat) (cs : List IV) : Heap := if n = 0 then h else h.put s (.row false cs)
theorem rowP_zero (s : Name) (z : Nat) (cs : List IV) : rowP s z 0 cs = .i (.v (.slice none 0 0)) := rfl
theorem rowH_zero (h : Heap) (s : Name) (cs : List IV) : rowH h s 0 cs = h := rfl
theorem rowP_succ (s : Name) (z n : Nat) (cs : List IV) : rowP s z (n + 1) cs = .view s 0 z (n + 1) cs.length := rfl
theorem rowH_succ (h : Heap) (s : Name) (n : Nat) (cs : List IV) : rowH h s (n + 1) cs = h.put s (.row false cs) := rfl
theorem rowH_ne (h : Heap) {s c : Name} (n : Nat) (cs : List IV) (hc : c ≠ s) : rowH h s n cs c = h c := by
  unfold rowH; split
  · rfl
  · exact Heap.put_ne _ _ hc
theorem rowH_at (h : Heap) (s : Name) (n : Nat) (cs : List IV) (hs : h s = none) : rowH h s n cs s = if n = 0 then none else some (.row false cs) := by
  unfold rowH; split
  · exact hs
  · exact Heap.put_same _ _ _
theorem rowP_sk (s : Name) (z n : Nat) (cs : List IV) : ∃ k, (rowP s z n cs).sk = some k ∧ k.len = n ∧ k.pv = rowP s z n cs := by
  unfold rowP; split
  · rename_i h; subst h; exact ⟨.nil, rfl, rfl, rfl⟩
  · exact ⟨.own s 0 z n cs.length, rfl, rfl, rfl⟩
/-- Append to a row that grows. -/
theorem append_row {P : Program} {h : Heap} {s : Name} {t e : TypeId} {zs : List Value} {n z m : Nat} {cs xs : List IV} {y : PV} {k2 : SK} (he : elemB P t = some e) (hz : zeroB P e = some zs) (hzl : zs.length = z) (hz0 : 0 < z)
    (hn : cs.length = n * z) (hs : h s = if n = 0 then none else some (.row false cs)) (hy : y.sk = some k2) (hm : k2.len = m) (hm0 : 0 < m) (hx : k2.cells h z = some xs)
    (hb : (n + m) * P.bytesOf e ≤ 140737488355328) (hl : n + m ≤ maxLen) :
    opAppend P h s t (rowP s z n cs) y = some ⟨rowP s z (n + m) (cs ++ xs), [(s, .row false (cs ++ xs))]⟩ := by
  subst hzl
  unfold opAppend
  rw [he]
  simp only [hz]
  unfold rowP
  by_cases h0 : n = 0
  · subst h0
    have : cs = [] := List.eq_nil_of_length_eq_zero (by simpa using hn)
    subst this
    rw [if_pos rfl] at hs ⊢
    simp only [show (PV.i (.v (.slice none 0 0))).sk = some SK.nil from rfl, hy, hx, show SK.nil.len = 0 from rfl, hm]
    rw [if_pos ⟨hz0, hb, hl⟩, if_neg (by omega), if_neg (by omega)]
    simp only [newBox, hs, Nat.zero_add, List.nil_append]
  · rw [if_neg h0] at hs ⊢
    simp only [show (PV.view s 0 zs.length n cs.length).sk = some (SK.own s 0 zs.length n cs.length) from rfl, hy, hx, show (SK.own s 0 zs.length n cs.length).len = n from rfl, hm]
    rw [if_pos ⟨hz0, hb, hl⟩, if_neg (by omega), if_neg (by omega), hs]
    simp only [hn, and_self, if_true, true_and]
/-- What a row that grows is, as data. -/
theorem lower_row {h : Heap} {s : Name} {z n : Nat} {cs : List IV} (hn : cs.length = n * z) (hs : n ≠ 0 → h s = some (.row false cs)) : lowerC h (rowP s z n cs) = some (.i (.l n cs)) := by
  unfold rowP
  by_cases h0 : n = 0
  · subst h0
    have : cs = [] := List.eq_nil_of_length_eq_zero (by simpa using hn)
    subst this
    rfl
  · rw [if_neg h0]
    simp only [lowerC, hs h0, Nat.zero_add, hn, Nat.le_refl, and_self, if_true, List.drop_zero]
    rw [← hn, List.take_length]
theorem boxes_row (s : Name) (z n : Nat) (cs : List IV) : boxesC (rowP s z n cs) = if n = 0 then [] else [s] := by
  unfold rowP; split <;> rfl
/-- A loop's end: what was made in the round is forgotten, the row has grown. -/
theorem row_next {h : Heap} {s b : Name} {n m : Nat} {cs ds : List IV} {x : Box} (hb : b ≠ s) (h0 : h b = none) (hm : m ≠ 0) : (((rowH h s n cs).put b x).put s (.row false ds)).drop [b] = rowH h s m ds := by
  funext c
  simp only [Heap.drop, List.mem_singleton, Heap.put_at]
  unfold rowH
  rw [if_neg hm]
  by_cases hc : c = b
  · subst hc; rw [if_pos rfl, Heap.put_ne _ _ hb, h0]
  · rw [if_neg hc, if_neg hc, Heap.put_at]
    split
    · rfl
    · rename_i hs
      split
      · rfl
      · rw [Heap.put_ne _ _ hs]
theorem row_next0 {h : Heap} {s : Name} {n m : Nat} {cs ds : List IV} (hm : m ≠ 0) : (rowH h s n cs).put s (.row false ds) = rowH h s m ds := by
  funext c
  unfold rowH
  rw [if_neg hm]
  split
  · rfl
  · rw [Heap.put_put]
theorem rowH_app (h : Heap) (s c : Name) (n : Nat) (cs : List IV) : rowH h s n cs c = if n = 0 then h c else if c = s then some (.row false cs) else h c := by
  unfold rowH; split <;> rfl
theorem Heap.drop_at (h : Heap) (bs : List Name) (c : Name) : h.drop bs c = if c ∈ bs then Option.none else h c := rfl
theorem drop_one (h : Heap) (b c : Name) : h.drop [b] c = if c = b then Option.none else h c := by simp [Heap.drop]
theorem mem_refs_rowP {b s : Name} {z n : Nat} {cs : List IV} : b ∈ refsP (rowP s z n cs) ↔ n ≠ 0 ∧ b = s := by
  unfold rowP; split
  · rename_i h; simp [refsP, h]
  · rename_i h; simp [refsP, h]
/-- No variable looks at this box. -/
def noVar (b : Name) (h : Heap) : Prop := ∀ c cs, h c = some (.var cs) → b ∉ refsL cs
theorem noVar_none (b : Name) : noVar b Heap.none := fun c cs h => by cases h
theorem noVar_var {b c : Name} {cs : List PV} {h : Heap} (h1 : noVar b h) (h2 : b ∉ refsL cs) : noVar b (h.put c (.var cs)) := fun d ds hd => by
  rw [Heap.put_at] at hd
  split at hd
  · cases hd; exact h2
  · exact h1 d ds hd
theorem noVar_row {b c : Name} {fz : Bool} {cs : List IV} {h : Heap} (h1 : noVar b h) : noVar b (h.put c (.row fz cs)) := fun d ds hd => by
  rw [Heap.put_at] at hd
  split at hd
  · cases hd
  · exact h1 d ds hd
theorem noVar_rowH {b c : Name} {n : Nat} {cs : List IV} {h : Heap} (h1 : noVar b h) : noVar b (rowH h c n cs) := by
  unfold rowH; split
  · exact h1
  · exact noVar_row h1
def FgAll (h0 : Heap) (t : List PV) (h : Heap) (ks : List Bool) (bs : List Name) : Prop := ∀ b ∈ bs, h0 b = none ∧ b ∉ refsL (keepT ks t) ∧ noVar b h
theorem fg_nil (h0 : Heap) (t : List PV) (h : Heap) (ks : List Bool) : FgAll h0 t h ks [] := fun b hb => by simp at hb
theorem fg_cons {h0 : Heap} {t : List PV} {h : Heap} {ks : List Bool} {b : Name} {bs : List Name} (h1 : h0 b = none) (h2 : b ∉ refsL (keepT ks t)) (h3 : noVar b h) (h4 : FgAll h0 t h ks bs) : FgAll h0 t h ks (b :: bs) := fun c hc => by
  rcases List.mem_cons.1 hc with rfl | hc
  · exact ⟨h1, h2, h3⟩
  · exact h4 c hc
theorem forget_of {h0 : Heap} {t : List PV} {h : Heap} {ks : List Bool} {bs : List Name} (hl : ks.length = t.length) (hf : FgAll h0 t h ks bs) : Forget h0 t h ks bs :=
  ⟨hl, fun b hb => (hf b hb).1, fun b hb => (hf b hb).2.1, fun c cs hc b hb => (hf b hb).2.2 c cs (by
    rw [Heap.drop_at] at hc; split at hc
    · cases hc
    · exact hc)⟩
theorem Kres_eq {P : Program} {C : CallRel} {h0 : Heap} {base : Name} {Qf : Ex → List PV → Heap → Prop} {k : List It} {t : List PV} {h : Heap} {r : Option Out} {out : Out} {id : Nat} {ops : Array Oper} {i : Nat} {o : Oper} {os : List Oper} (hr : r = some out)
    (hk : K P C h0 base Qf (.ops id ops (i + 1) os :: k) .normal (putT t o.dst out.val) (h.ups out.ups)) : Kres P C h0 base Qf r id ops i o os k t h := by
  subst hr; exact hk
/-- Append to a row that grows, in a walk: one element, just built, or a whole list. -/
theorem K_append_one {P : Program} {C : CallRel} {h0 : Heap} {base : Name} {Qf : Ex → List PV → Heap → Prop} {k : List It} {t : List PV} {h : Heap} {id : Nat} {ops : Array Oper} {i : Nat} {o : Oper} {os : List Oper} {s b : Name} {ty : TypeId} (e : TypeId) (zs : List Value) {n z : Nat} {cs : List IV} (xs : List IV) {fz : Bool}
    (he : elemB P ty = some e) (hz : zeroB P e = some zs) (hzl : zs.length = z) (hz0 : 0 < z) (hn : cs.length = n * z) (hs : h s = if n = 0 then none else some (.row false cs)) (hb : h b = some (.row fz xs)) (hx : xs.length = z)
    (hby : (n + 1) * P.bytesOf e ≤ 140737488355328) (hl : n + 1 ≤ maxLen)
    (hk : K P C h0 base Qf (.ops id ops (i + 1) os :: k) .normal (putT t o.dst (rowP s z (n + 1) (cs ++ xs))) (h.put s (.row false (cs ++ xs)))) :
    Kres P C h0 base Qf (opAppend P h s ty (rowP s z n cs) (.view b 0 z 1 z)) id ops i o os k t h := by
  refine Kres_eq (append_row he hz hzl hz0 hn hs rfl (m := 1) rfl (by decide) (xs := xs) ?_ hby hl) hk
  simp only [SK.cells, hb, hx, Nat.zero_add, Nat.one_mul, Nat.le_refl, and_self, if_true, List.drop_zero]
  rw [← hx, List.take_length]
theorem K_append_list {P : Program} {C : CallRel} {h0 : Heap} {base : Name} {Qf : Ex → List PV → Heap → Prop} {k : List It} {t : List PV} {h : Heap} {id : Nat} {ops : Array Oper} {i : Nat} {o : Oper} {os : List Oper} {s : Name} {ty : TypeId} (e : TypeId) (zs : List Value) {n z m : Nat} {cs : List IV} (xs : List IV)
    (he : elemB P ty = some e) (hz : zeroB P e = some zs) (hzl : zs.length = z) (hz0 : 0 < z) (hn : cs.length = n * z) (hs : h s = if n = 0 then none else some (.row false cs)) (hm : 0 < m) (hx : xs.length = m * z)
    (hby : (n + m) * P.bytesOf e ≤ 140737488355328) (hl : n + m ≤ maxLen)
    (hk : K P C h0 base Qf (.ops id ops (i + 1) os :: k) .normal (putT t o.dst (rowP s z (n + m) (cs ++ xs))) (h.put s (.row false (cs ++ xs)))) :
    Kres P C h0 base Qf (opAppend P h s ty (rowP s z n cs) (.i (.l m xs))) id ops i o os k t h := by
  refine Kres_eq (append_row he hz hzl hz0 hn hs (k2 := .imm m xs) (by
    unfold PV.sk; rfl) (m := m) rfl hm (xs := xs) ?_ hby hl) hk
  simp only [SK.cells, hx, if_true]
theorem zeroRow_zero (zs : List Value) : zeroRow zs 0 = [] := rfl
theorem zeroRow_succ (zs : List Value) (n : Nat) : zeroRow zs (n + 1) = zs ++ zeroRow zs n := by simp [zeroRow, List.replicate_succ]
/-! ### the machine's small functions, told by what they are handed: simp must not open them unapplied -/
theorem opnd_tmp (t : List PV) (k : Tmp) : St.opnd t (.tmp k) = t.getD k undefP := rfl
theorem opnd_const (t : List PV) (v : Value) : St.opnd t (.const v) = ofVal v := rfl
theorem opnd_func (t : List PV) (f : FuncId) : St.opnd t (.func f) = .i (.v (.func (.func f) #[] #[])) := rfl
theorem lowC_nil (h : Heap) : lowerC h (.i (.v (.slice none 0 0))) = some (.i (.l 0 [])) := rfl
theorem lowC_int (h : Heap) (k : IntKind) (n : Int) : lowerC h (.i (.v (.int k n))) = some (.i (.v (.int k n))) := rfl
theorem lowC_bool (h : Heap) (b : Bool) : lowerC h (.i (.v (.bool b))) = some (.i (.v (.bool b))) := rfl
theorem lowC_string (h : Heap) (b : ByteArray) : lowerC h (.i (.v (.string b))) = some (.i (.v (.string b))) := rfl
theorem lowC_func (h : Heap) (f : Fn) (a b : Array Value) : lowerC h (.i (.v (.func f a b))) = some (.i (.v (.func f a b))) := rfl
theorem lowC_l (h : Heap) (n : Nat) (cs : List IV) : lowerC h (.i (.l n cs)) = some (.i (.l n cs)) := rfl
theorem lowC_iref (h : Heap) (cs : List IV) (o : Nat) : lowerC h (.iref cs o) = some (.iref cs o) := rfl
def lowV (x : Option Box) (off z n top : Nat) : Option PV := match x with
  | some (.row _ cs) => if cs.length = top ∧ off + n * z ≤ cs.length then some (.i (.l n ((cs.drop off).take (n * z)))) else none
  | _ => none
theorem lowV_row (fz : Bool) (cs : List IV) (off z n top : Nat) : lowV (some (.row fz cs)) off z n top = if cs.length = top ∧ off + n * z ≤ cs.length then some (.i (.l n ((cs.drop off).take (n * z)))) else none := rfl
theorem lowC_view (h : Heap) (b : Name) (off z n top : Nat) : lowerC h (.view b off z n top) = lowV (h b) off z n top := rfl
theorem lowA_agg (h : Heap) (cs : List PV) : lowerA h (.agg cs) = (mapO (lowerC h) cs).map .agg := rfl
theorem lowA_i (h : Heap) (x : IV) : lowerA h (.i x) = lowerC h (.i x) := rfl
theorem lowA_iref (h : Heap) (cs : List IV) (o : Nat) : lowerA h (.iref cs o) = lowerC h (.iref cs o) := rfl
theorem lowA_view (h : Heap) (b : Name) (off z n top : Nat) : lowerA h (.view b off z n top) = lowerC h (.view b off z n top) := rfl
theorem lowT_tup (h : Heap) (cs : List PV) : lowerT h (.tup cs) = (mapO (lowerA h) cs).map .tup := rfl
theorem lowT_agg (h : Heap) (cs : List PV) : lowerT h (.agg cs) = lowerA h (.agg cs) := rfl
theorem lowT_i (h : Heap) (x : IV) : lowerT h (.i x) = lowerA h (.i x) := rfl
theorem lowT_view (h : Heap) (b : Name) (off z n top : Nat) : lowerT h (.view b off z n top) = lowerA h (.view b off z n top) := rfl
def consO {γ : Type} (y : Option γ) (ys : Option (List γ)) : Option (List γ) := match y, ys with
  | some y, some ys => some (y :: ys)
  | _, _ => none
theorem consO_some {γ : Type} (y : γ) (ys : List γ) : consO (some y) (some ys) = some (y :: ys) := rfl
theorem mapO_nil {α γ : Type} (f : α → Option γ) : mapO f [] = some [] := rfl
theorem mapO_cons {α γ : Type} (f : α → Option γ) (x : α) (xs : List α) : mapO f (x :: xs) = consO (f x) (mapO f xs) := rfl
theorem resV_tmp (P : Program) (t : List PV) (h : Heap) (k : Tmp) : resVar P t h (.tmp k) = some (t.getD k undefP) := rfl
theorem resV_cell (P : Program) (t : List PV) (h : Heap) (a : Tmp) (ty : TypeId) : resVar P t h (.cell a ty) = if undB P ty = true then opLoad P h ty (t.getD a undefP) else none := rfl
def resO (xs : Option (List PV)) : Option PV := match xs with
  | some [x] => some x
  | some xs => some (.tup xs)
  | none => none
theorem resO_one (x : PV) : resO (some [x]) = some x := rfl
theorem resO_two (x y : PV) (xs : List PV) : resO (some (x :: y :: xs)) = some (.tup (x :: y :: xs)) := rfl
theorem resB_eq (P : Program) (rs : List ResultVar) (t : List PV) (h : Heap) : resB P rs t h = resO (mapO (resVar P t h) rs) := rfl
def sim7 :=
  And.intro @opnd_tmp <| And.intro @opnd_const <| @opnd_func
def simr :=
  And.intro @lowC_nil <| And.intro @lowC_int <| And.intro @lowC_bool <| And.intro @lowC_string <| And.intro @lowC_func <| And.intro @lowC_l <| And.intro @lowC_iref <| And.intro @lowV_row <| And.intro @lowC_view <| And.intro @lowA_agg <| And.intro @lowA_i <| And.intro @lowA_iref <| And.intro @lowA_view <| And.intro @lowT_tup <| And.intro @lowT_agg <| And.intro @lowT_i <| And.intro @lowT_view <| And.intro @consO_some <| And.intro @mapO_nil <| And.intro @mapO_cons <| And.intro @resV_tmp <| And.intro @resV_cell <| And.intro @resO_one <| And.intro @resO_two <| @resB_eq
theorem refsL_nil' : refsL [] = [] := by simp [refsL]
theorem refsL_cons' (p : PV) (ps : List PV) : refsL (p :: ps) = refsP p ++ refsL ps := by simp [refsL]
end Go.Proofs.Ytnnkoghmglpnmaa.TM
