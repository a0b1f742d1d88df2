/- TM: regions, loops and calls: what a function's run comes to, by predicate transformers. Conditions: none; definitions and simple laws. -/
import Derived.Test.YtnnkoghmglpnmaaTmK
import Derived.LoopN
namespace Go.Proofs.Ytnnkoghmglpnmaa.TM
open Go
set_option linter.unusedVariables false
set_option linter.defProp false
set_option linter.unusedSimpArgs false

inductive Ex where
  | normal
  | exit (id : Nat)
  | ret
  deriving DecidableEq
def Ex.real : Ex → Exit
  | .normal => .normal
  | .exit i => .exit i
  | .ret => .ret

abbrev CallRel := Name → FuncId → List PV → Heap → PV → Heap → Prop

def enterB (P : Program) (g : FuncId) : Bool :=
  match P.funcs[g]? with
  | some fn => !(fn.name == "runtime.NumGoroutine") && fn.body.isSome
  | none => false
def calleeOf (t : List PV) (c : Call) : Option (FuncId × List PV) :=
  match c.callee with
  | .value f => match St.opnd t f with
    | .i (.v (.func (.func g) first captured)) => if first.size = 0 ∧ captured.size = 0 then some (g, c.args.toList.map (St.opnd t)) else none
    | .clo g caps => some (g, c.args.toList.map (St.opnd t) ++ caps)
    | _ => none
  | _ => none

def mapO {α γ : Type} (f : α → Option γ) : List α → Option (List γ)
  | [] => some []
  | x :: xs => match f x, mapO f xs with
    | some y, some ys => some (y :: ys)
    | _, _ => none
def lowerC (h : Heap) : PV → Option PV
  | .i (.v (.slice none 0 0)) => some (.i (.l 0 []))
  | .i x => some (.i x)
  | .iref cs off => some (.iref cs off)
  | .view b off z n top => match h b with
    | some (.row _ cs) => if cs.length = top ∧ off + n * z ≤ cs.length then some (.i (.l n ((cs.drop off).take (n * z)))) else none
    | _ => none
  | _ => none
def lowerA (h : Heap) : PV → Option PV
  | .agg cs => (mapO (lowerC h) cs).map .agg
  | p => lowerC h p
def lowerT (h : Heap) : PV → Option PV
  | .tup cs => (mapO (lowerA h) cs).map .tup
  | p => lowerA h p
def scalC : PV → Bool
  | .i (.v _) => true
  | _ => false
def scalA : PV → Bool
  | .agg cs => cs.all scalC
  | p => scalC p
def scalT : PV → Bool
  | .tup cs => cs.all scalA
  | p => scalA p
def boxesC : PV → List Name
  | .view b _ _ _ _ => [b]
  | _ => []
def boxesA : PV → List Name
  | .agg cs => cs.flatMap boxesC
  | p => boxesC p
def freezeOf (h : Heap) (bs : List Name) : List (Name × Box) :=
  bs.filterMap fun b => match h b with
    | some (.row _ cs) => some (b, .row true cs)
    | _ => none

/-- A call that is handed data alone, and whose answer is taken as data. -/
def PureCall (C : CallRel) (s : Name) (g : FuncId) (args : List PV) (h : Heap) (v : PV) (us : List (Name × Box)) : Prop :=
  ∃ largs u hu, mapO (lowerA h) args = some largs ∧ C s g largs Heap.none u hu ∧ lowerT hu u = some v ∧ us = if scalT v then [] else freezeOf h (args.flatMap boxesA)

mutual
def refsP : PV → List Name
  | .view b _ _ _ _ => [b]
  | .ref b _ _ => [b]
  | .agg cs => refsL cs
  | .tup cs => refsL cs
  | .clo _ cs => refsL cs
  | _ => []
def refsL : List PV → List Name
  | [] => []
  | p :: ps => refsP p ++ refsL ps
end
/-- One operation that is done. -/
def StepR (P : Program) (C : CallRel) (s : Name) (t : List PV) (h : Heap) (op : Op) (v : PV) (h' : Heap) : Prop :=
  (∃ out, stepOp P h s (St.opnd t) op = some out ∧ v = out.val ∧ h' = h.ups out.ups) ∨
  (∃ c g args, op = .call c ∧ calleeOf t c = some (g, args) ∧ enterB P g = true ∧ (C s g args h v h' ∨ ∃ us, PureCall C s g args h v us ∧ h' = h.ups us))

def guardB (ops : Array Oper) (t : List PV) (o : Oper) : Option Bool :=
  match o.guard with
  | none => some true
  | some (j, want) => match ((ops[j]?).bind (·.dst)).bind (t[·]?) with
    | some (.i (.v (.bool b))) => some (b == want)
    | some (.tup []) => some false
    | _ => none

def WOps (P : Program) (C : CallRel) (base : Name) (id : Nat) (ops : Array Oper) : Nat → List Oper → List PV → Heap → (List PV → Heap → Prop) → Prop
  | _, [], t, h, Q => Q t h
  | i, o :: os, t, h, Q => match guardB ops t o with
    | none => False
    | some false => WOps P C base id ops (i + 1) os (putT t o.dst undefP) h Q
    | some true => ∃ v h', StepR P C ((id, i) :: base) t h o.op v h' ∧ WOps P C base id ops (i + 1) os (putT t o.dst v) h' Q

/-- What one operation did: its value, the boxes that it wrote, the boxes that it may have looked at. -/
structure Eff where
  val : PV
  ups : List (Name × Box)
  touch : List Name

def opndsP (t : List PV) (op : Op) : List PV := op.operands.toList.map (St.opnd t)
def LocalR (P : Program) (C : CallRel) (s : Name) (t : List PV) (h : Heap) (op : Op) (e : Eff) : Prop :=
  (∃ out, stepOp P h s (St.opnd t) op = some out ∧ e = ⟨out.val, out.ups, s :: refsL (opndsP t op)⟩) ∨
  (∃ c g args v us, op = .call c ∧ calleeOf t c = some (g, args) ∧ enterB P g = true ∧ PureCall C s g args h v us ∧ e = ⟨v, us, s :: (args.flatMap boxesA ++ refsL (opndsP t op))⟩)

def EffR (P : Program) (C : CallRel) (base : Name) (id : Nat) (ops : Array Oper) (i : Nat) (t : List PV) (h : Heap) (o : Oper) (e : Eff) : Prop :=
  match guardB ops t o with
  | none => False
  | some false => e = ⟨undefP, [], []⟩
  | some true => LocalR P C ((id, i) :: base) t h o.op e
/-- The effects of a region's operations, in the text's order. -/
def Effs (P : Program) (C : CallRel) (base : Name) (id : Nat) (ops : Array Oper) : Nat → List Oper → List Eff → List PV → Heap → (List PV → Heap → Prop) → Prop
  | _, [], [], t, h, Q => Q t h
  | i, o :: os, e :: es, t, h, Q => EffR P C base id ops i t h o e ∧ Effs P C base id ops (i + 1) os es (putT t o.dst e.val) (h.ups e.ups) Q
  | _, _, _, _, _, _ => False
/-- A name's newest part: names that part there are not one. -/
def keyN : Name → Nat × Nat
  | x :: _ => x
  | [] => (0, 0)
def dirs (o : Oper) : List Nat := (o.after.toList.filter fun e => Region.binds .any e).map (·.on)
def beforeL : List Oper → List Nat → List Nat
  | [], acc => acc
  | o :: os, acc => beforeL os (acc ++ [(dirs o).foldl (fun s d => s ||| 2 ^ d ||| acc.getD d 0) 0])
def apartE (ops : Array Oper) (oi : Oper) (ei : Eff) (oj : Oper) (ej : Eff) : Bool :=
  oi.apart ops oj && (ei.ups.all fun u => !(ej.touch.any fun b => keyN b == keyN u.1) && !(ej.ups.any fun v => keyN v.1 == keyN u.1)) && (ej.ups.all fun u => !(ei.touch.any fun b => keyN b == keyN u.1))
/-- Operations whose order is open write nothing that the other one looks at. -/
def drawOK (ops : Array Oper) (effs : List Eff) : Bool :=
  (ops.toList.zipIdx.all fun q => (dirs q.1).all fun d => d < q.2) &&
  ((ops.toList.zip effs).zipIdx.all fun qj => (((ops.toList.zip effs).take qj.2).zipIdx).all fun qi =>
    ((beforeL ops.toList []).getD qj.2 0).testBit qi.2 || apartE ops qi.1.1 qi.1.2 qj.1.1 qj.1.2)

def keepT : List Bool → List PV → List PV
  | k :: ks, x :: xs => (if k then x else .dead) :: keepT ks xs
  | _, _ => []
def Heap.drop (h : Heap) (bs : List Name) : Heap := fun c => if c ∈ bs then Option.none else h c
/-- What is looked at no more is forgotten: at a loop's head. -/
def Forget (h0 : Heap) (t : List PV) (h : Heap) (ks : List Bool) (bs : List Name) : Prop :=
  ks.length = t.length ∧ (∀ b ∈ bs, h0 b = none) ∧ (∀ b ∈ bs, b ∉ refsL (keepT ks t)) ∧ ∀ c cs, h.drop bs c = some (.var cs) → ∀ b ∈ bs, b ∉ refsL cs

def WLoop (h0 : Heap) (B : List PV → Heap → (Ex → List PV → Heap → Prop) → Prop) (ks : List Bool) (bs : List Name) : Nat → List PV → Heap → (Ex → List PV → Heap → Prop) → Prop
  | 0, _, _, _ => False
  | n + 1, t, h, Q => Forget h0 t h ks bs ∧ B (keepT ks t) (h.drop bs) fun e t' h' => match e with
    | .normal => WLoop h0 B ks bs n t' h' Q
    | e => Q e t' h'

def W (P : Program) (C : CallRel) (h0 : Heap) (base : Name) : Code → List PV → Heap → (Ex → List PV → Heap → Prop) → Prop
  | .skip, t, h, Q => Q .normal t h
  | .region id ops draw, t, h, Q => if draw then ∃ effs, drawOK ops effs = true ∧ Effs P C base id ops 0 ops.toList effs t h (Q .normal) else WOps P C base id ops 0 ops.toList t h (Q .normal)
  | .seq a b, t, h, Q => W P C h0 base a t h fun e t' h' => match e with
    | .normal => W P C h0 base b t' h' Q
    | e => Q e t' h'
  | .cond c x y, t, h, Q => match St.opnd t c with
    | .i (.v (.bool b)) => if b then W P C h0 base x t h Q else W P C h0 base y t h Q
    | _ => False
  | .block id b, t, h, Q => W P C h0 base b t h fun e t' h' => if e = .exit id then Q .normal t' h' else Q e t' h'
  | .loop b, t, h, Q => ∃ n ks bs, WLoop h0 (W P C h0 base b) ks bs n t h Q
  | .exit id, t, h, Q => Q (.exit id) t h
  | .ret, t, h, Q => Q .ret t h
  | _, _, _, _ => False

def resVar (P : Program) (t : List PV) (h : Heap) : ResultVar → Option PV
  | .tmp k => some (t.getD k undefP)
  | .cell a ty => if undB P ty then opLoad P h ty (t.getD a undefP) else none
def resultsB (P : Program) (fn : Func) (t : List PV) (h : Heap) : Option PV :=
  match mapO (resVar P t h) fn.results.toList with
  | some [x] => some x
  | some xs => some (.tup xs)
  | none => none
def initT (fn : Func) (args : List PV) : List PV := args ++ List.replicate (fn.ntmps - args.length) undefP
/-- A function's body comes to this. -/
def Body (P : Program) (C : CallRel) (base : Name) (fn : Func) (c : Code) (args : List PV) (h : Heap) (v : PV) (h' : Heap) : Prop :=
  W P C h base c (initT fn args) h fun e t hh => (e = .normal ∨ e = .ret) ∧ resultsB P fn t hh = some v ∧ hh = h'
def ClosedR (P : Program) (C : CallRel) : Prop :=
  ∀ base f fn c args h v h', P.funcs[f]? = some fn → fn.body = some c → Body P C base fn c args h v h' → C base f args h v h'
/-- The calls that come to an end: the least relation that is closed. -/
def CallR (P : Program) : CallRel := fun base f args h v h' => ∀ C : CallRel, ClosedR P C → C base f args h v h'

/-! ### more answers, more calls -/
theorem WOps_mono {P : Program} {C C' : CallRel} (hC : ∀ b f a h v h', C b f a h v h' → C' b f a h v h') {base : Name} {id : Nat} {ops : Array Oper} :
    ∀ (os : List Oper) (i : Nat) (t : List PV) (h : Heap) {Q Q' : List PV → Heap → Prop}, (∀ t h, Q t h → Q' t h) → WOps P C base id ops i os t h Q → WOps P C' base id ops i os t h Q'
  | [], i, t, h, Q, Q', hQ, hw => hQ _ _ hw
  | o :: os, i, t, h, Q, Q', hQ, hw => by
    unfold WOps at hw ⊢
    split at hw
    · exact hw.elim
    · rename_i hg; exact WOps_mono hC os (i + 1) _ _ hQ hw
    · rename_i hg
      obtain ⟨v, h', hs, hw⟩ := hw
      refine ⟨v, h', ?_, WOps_mono hC os (i + 1) _ _ hQ hw⟩
      rcases hs with hs | ⟨c, g, args, h1, h2, h3, h4⟩
      · exact .inl hs
      · refine .inr ⟨c, g, args, h1, h2, h3, ?_⟩
        rcases h4 with h4 | ⟨us, ⟨largs, u, hu, h5, h6, h7, h8⟩, h9⟩
        · exact .inl (hC _ _ _ _ _ _ h4)
        · exact .inr ⟨us, ⟨largs, u, hu, h5, hC _ _ _ _ _ _ h6, h7, h8⟩, h9⟩

theorem PureCall.mono {C C' : CallRel} (hC : ∀ b f a h v h', C b f a h v h' → C' b f a h v h') {s : Name} {g : FuncId} {args : List PV} {h : Heap} {v : PV} {us : List (Name × Box)} (hp : PureCall C s g args h v us) : PureCall C' s g args h v us := by
  obtain ⟨largs, u, hu, h5, h6, h7, h8⟩ := hp
  exact ⟨largs, u, hu, h5, hC _ _ _ _ _ _ h6, h7, h8⟩
theorem Effs_mono {P : Program} {C C' : CallRel} (hC : ∀ b f a h v h', C b f a h v h' → C' b f a h v h') {base : Name} {id : Nat} {ops : Array Oper} :
    ∀ (os : List Oper) (es : List Eff) (i : Nat) (t : List PV) (h : Heap) {Q Q' : List PV → Heap → Prop}, (∀ t h, Q t h → Q' t h) → Effs P C base id ops i os es t h Q → Effs P C' base id ops i os es t h Q'
  | [], [], i, t, h, Q, Q', hQ, hw => hQ _ _ hw
  | o :: os, e :: es, i, t, h, Q, Q', hQ, hw => by
    refine ⟨?_, Effs_mono hC os es (i + 1) _ _ hQ hw.2⟩
    have h1 := hw.1
    unfold EffR at h1 ⊢
    split at h1
    · exact h1.elim
    · exact h1
    · rcases h1 with h1 | ⟨c, g, args, v, us, h1, h2, h3, h4, h5⟩
      · exact .inl h1
      · exact .inr ⟨c, g, args, v, us, h1, h2, h3, h4.mono hC, h5⟩
  | [], _ :: _, _, _, _, _, _, _, hw => hw.elim
  | _ :: _, [], _, _, _, _, _, _, hw => hw.elim

theorem W_mono {P : Program} {C C' : CallRel} (hC : ∀ b f a h v h', C b f a h v h' → C' b f a h v h') {h0 : Heap} {base : Name} :
    ∀ (c : Code) (t : List PV) (h : Heap) {Q Q' : Ex → List PV → Heap → Prop}, (∀ e t h, Q e t h → Q' e t h) → W P C h0 base c t h Q → W P C' h0 base c t h Q' := by
  intro c
  induction c with
  | skip => intro t h Q Q' hQ hw; exact hQ _ _ _ hw
  | region id ops draw =>
    intro t h Q Q' hQ hw
    unfold W at hw ⊢
    split at hw
    · rename_i hd
      rw [if_pos hd]
      obtain ⟨effs, h1, h2⟩ := hw
      exact ⟨effs, h1, Effs_mono hC _ _ _ _ _ (hQ .normal) h2⟩
    · rename_i hd
      rw [if_neg hd]
      exact WOps_mono hC _ _ _ _ (hQ .normal) hw
  | seq a b iha ihb =>
    intro t h Q Q' hQ hw
    refine iha t h (fun e t' h' hq => ?_) hw
    cases e with
    | normal => exact ihb t' h' hQ hq
    | exit id => exact hQ _ _ _ hq
    | ret => exact hQ _ _ _ hq
  | cond c x y ihx ihy =>
    intro t h Q Q' hQ hw
    unfold W at hw ⊢
    split at hw
    · rename_i b hb
      split at hw
      · rename_i hbt; rw [if_pos hbt]; exact ihx t h hQ hw
      · rename_i hbt; rw [if_neg hbt]; exact ihy t h hQ hw
    · exact hw.elim
  | block id b ih =>
    intro t h Q Q' hQ hw
    refine ih t h (fun e t' h' hq => ?_) hw
    split at hq
    · rename_i he; rw [if_pos he]; exact hQ _ _ _ hq
    · rename_i he; rw [if_neg he]; exact hQ _ _ _ hq
  | loop b ih =>
    intro t h Q Q' hQ hw
    obtain ⟨n, ks, bs, hw⟩ := hw
    refine ⟨n, ks, bs, ?_⟩
    induction n generalizing t h with
    | zero => exact hw.elim
    | succ n ihn =>
      obtain ⟨h1, h2⟩ := hw
      refine ⟨h1, ih _ _ (fun e t' h' hq => ?_) h2⟩
      cases e with
      | normal => exact ihn t' h' hq
      | exit id => exact hQ _ _ _ hq
      | ret => exact hQ _ _ _ hq
  | exit id => intro t h Q Q' hQ hw; exact hQ _ _ _ hw
  | ret => intro t h Q Q' hQ hw; exact hQ _ _ _ hw
  | _ => intro t h Q Q' hQ hw; exact hw.elim

/-- A call is what its body comes to. -/
theorem CallR.intro {P : Program} {base : Name} {f : FuncId} {fn : Func} {c : Code} {args : List PV} {h : Heap} {v : PV} {h' : Heap} (hf : P.funcs[f]? = some fn) (hb : fn.body = some c)
    (hw : Body P (CallR P) base fn c args h v h') : CallR P base f args h v h' := by
  intro C hC
  exact hC base f fn c args h v h' hf hb (W_mono (fun b f a h v h' hc => hc C hC) c _ _ (fun _ _ _ hq => hq) hw)
end Go.Proofs.Ytnnkoghmglpnmaa.TM
