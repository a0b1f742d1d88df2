/- TM: walking a function step by step, the rest of it as a list of what is still to do. Conditions: none; definitions and laws. -/
import Derived.Test.YtnnkoghmglpnmaaTmR
import Derived.KernelRfl
namespace Go.Proofs.Ytnnkoghmglpnmaa.TM
open Go
set_option linter.unusedVariables false
set_option linter.defProp false
set_option linter.unusedSimpArgs false

abbrev Keys := List (Nat × Nat) × List (Nat × Nat)
def Eff.keys (e : Eff) : Keys := (e.ups.map fun u => keyN u.1, e.touch.map keyN)
def apartK (ops : Array Oper) (oi : Oper) (ei : Keys) (oj : Oper) (ej : Keys) : Bool :=
  oi.apart ops oj && (ei.1.all fun u => !(ej.2.any fun b => b == u) && !(ej.1.any fun v => v == u)) && (ej.1.all fun u => !(ei.2.any fun b => b == u))
def drawK (ops : Array Oper) (ks : List Keys) : Bool :=
  (ops.toList.zipIdx.all fun q => (dirs q.1).all fun d => d < q.2) &&
  ((ops.toList.zip ks).zipIdx.all fun qj => (((ops.toList.zip ks).take qj.2).zipIdx).all fun qi =>
    ((beforeL ops.toList []).getD qj.2 0).testBit qi.2 || apartK ops qi.1.1 qi.1.2 qj.1.1 qj.1.2)

theorem apartK_eq (ops : Array Oper) (oi : Oper) (ei : Eff) (oj : Oper) (ej : Eff) : apartK ops oi ei.keys oj ej.keys = apartE ops oi ei oj ej := by
  simp only [apartK, apartE, Eff.keys, List.all_map, List.any_map]
  rfl
theorem zip_keys (os : List Oper) (es : List Eff) : os.zip (es.map Eff.keys) = (os.zip es).map fun q => (q.1, q.2.keys) := by
  rw [List.zip_map_right]; rfl
theorem drawK_eq (ops : Array Oper) (effs : List Eff) : drawK ops (effs.map Eff.keys) = drawOK ops effs := by
  unfold drawK drawOK
  rw [zip_keys]
  congr 1
  rw [Bool.eq_iff_iff, List.all_eq_true, List.all_eq_true]
  have hz : ∀ (l : List (Oper × Eff)) (n : Nat) (q : (Oper × Keys) × Nat), q ∈ ((l.map fun q => (q.1, q.2.keys)).zipIdx n) ↔ ∃ p ∈ l.zipIdx n, q = ((p.1.1, p.1.2.keys), p.2) := by
    intro l n q
    rw [List.zipIdx_map, List.mem_map]
    constructor
    · rintro ⟨p, hp, rfl⟩; exact ⟨p, hp, rfl⟩
    · rintro ⟨p, hp, rfl⟩; exact ⟨p, hp, rfl⟩
  constructor
  · intro hh p hp
    have h1 := hh _ ((hz _ 0 _).2 ⟨p, hp, rfl⟩)
    rw [List.all_eq_true] at h1 ⊢
    intro q hq
    have h2 := h1 ((q.1.1, q.1.2.keys), q.2) (by rw [← List.map_take]; exact (hz _ 0 _).2 ⟨q, hq, rfl⟩)
    simpa only [apartK_eq] using h2
  · intro hh p hp
    obtain ⟨p', hp', rfl⟩ := (hz _ 0 _).1 hp
    have h1 := hh _ hp'
    rw [List.all_eq_true] at h1 ⊢
    intro q hq
    simp only at hq
    rw [← List.map_take] at hq
    obtain ⟨q', hq', rfl⟩ := (hz _ 0 _).1 hq
    simpa only [apartK_eq] using h1 _ hq'

/-- These keep what they name from being looked into by simp. -/
inductive Dep (c : Code) : Type where
  | mk
inductive DepA (ops : Array Oper) : Type where
  | mk
def XInv (ops : Array Oper) (ds : List (Option Tmp)) (i : Nat) (os : List Oper) : Prop := ops.toList.drop i = os ∧ ds.reverse = (ops.toList.take i).map (·.dst)
structure XPf (ops : Array Oper) (ds : List (Option Tmp)) (i : Nat) (os : List Oper) : Type where
  h : XInv ops ds i os
inductive It where
  | lk (c : Code) (d : Dep c)
  | xops (id : Nat) (ops : Array Oper) (ds : List (Option Tmp)) (i : Nat) (os : List Oper) (pf : XPf ops ds i os)
  | xcall (id : Nat) (ops : Array Oper) (ds : List (Option Tmp)) (i : Nat) (o : Oper) (os : List Oper) (pf : XPf ops ds i (o :: os))
  | xdops (id : Nat) (ops : Array Oper) (ds : List (Option Tmp)) (i : Nat) (os : List Oper) (pf : XPf ops ds i os) (acc : List Keys)
  | xdcall (id : Nat) (ops : Array Oper) (ds : List (Option Tmp)) (i : Nat) (o : Oper) (os : List Oper) (pf : XPf ops ds i (o :: os)) (acc : List Keys)
  | code (c : Code)
  | ops (id : Nat) (ops : Array Oper) (i : Nat) (os : List Oper)
  | one (id : Nat) (ops : Array Oper) (i : Nat) (o : Oper) (os : List Oper)
  | dops (id : Nat) (ops : Array Oper) (i : Nat) (os : List Oper) (acc : List Keys)
  | done (id : Nat) (ops : Array Oper) (i : Nat) (o : Oper) (os : List Oper) (acc : List Keys)
  | inB (id : Nat)
  | call (id : Nat) (ops : Array Oper) (i : Nat) (o : Oper) (os : List Oper)
  | dcall (id : Nat) (ops : Array Oper) (i : Nat) (o : Oper) (os : List Oper) (acc : List Keys)

/-- What is still to do, and how the code ahead of it ended. -/
def K (P : Program) (C : CallRel) (h0 : Heap) (base : Name) (Qf : Ex → List PV → Heap → Prop) : List It → Ex → List PV → Heap → Prop
  | [], e, t, h => Qf e t h
  | .inB _ :: k, .normal, t, h => K P C h0 base Qf k .normal t h
  | .inB id :: k, .exit j, t, h => if j = id then K P C h0 base Qf k .normal t h else K P C h0 base Qf k (.exit j) t h
  | .code c :: k, .normal, t, h => W P C h0 base c t h (K P C h0 base Qf k)
  | .lk c _ :: k, .normal, t, h => W P C h0 base c t h (K P C h0 base Qf k)
  | .xops id ops _ i os _ :: k, .normal, t, h => WOps P C base id ops i os t h (K P C h0 base Qf k .normal)
  | .xcall id ops _ i o os _ :: k, .normal, t, h => ∃ v h', StepR P C ((id, i) :: base) t h o.op v h' ∧ WOps P C base id ops (i + 1) os (putT t o.dst v) h' (K P C h0 base Qf k .normal)
  | .xdops id ops _ i os _ acc :: k, .normal, t, h => ∃ effs, drawK ops (acc.reverse ++ effs.map Eff.keys) = true ∧ Effs P C base id ops i os effs t h (K P C h0 base Qf k .normal)
  | .xdcall id ops _ i o os _ acc :: k, .normal, t, h => ∃ e effs, LocalR P C ((id, i) :: base) t h o.op e ∧ drawK ops (acc.reverse ++ e.keys :: effs.map Eff.keys) = true ∧
      Effs P C base id ops (i + 1) os effs (putT t o.dst e.val) (h.ups e.ups) (K P C h0 base Qf k .normal)
  | .ops id ops i os :: k, .normal, t, h => WOps P C base id ops i os t h (K P C h0 base Qf k .normal)
  | .one id ops i o os :: k, .normal, t, h => ∃ v h', StepR P C ((id, i) :: base) t h o.op v h' ∧ WOps P C base id ops (i + 1) os (putT t o.dst v) h' (K P C h0 base Qf k .normal)
  | .dops id ops i os acc :: k, .normal, t, h => ∃ effs, drawK ops (acc.reverse ++ effs.map Eff.keys) = true ∧ Effs P C base id ops i os effs t h (K P C h0 base Qf k .normal)
  | .done id ops i o os acc :: k, .normal, t, h => ∃ e effs, LocalR P C ((id, i) :: base) t h o.op e ∧ drawK ops (acc.reverse ++ e.keys :: effs.map Eff.keys) = true ∧
      Effs P C base id ops (i + 1) os effs (putT t o.dst e.val) (h.ups e.ups) (K P C h0 base Qf k .normal)
  | .call id ops i o os :: k, .normal, t, h => ∃ v h', StepR P C ((id, i) :: base) t h o.op v h' ∧ WOps P C base id ops (i + 1) os (putT t o.dst v) h' (K P C h0 base Qf k .normal)
  | .dcall id ops i o os acc :: k, .normal, t, h => ∃ e effs, LocalR P C ((id, i) :: base) t h o.op e ∧ drawK ops (acc.reverse ++ e.keys :: effs.map Eff.keys) = true ∧
      Effs P C base id ops (i + 1) os effs (putT t o.dst e.val) (h.ups e.ups) (K P C h0 base Qf k .normal)
  | _ :: k, e, t, h => K P C h0 base Qf k e t h

section
variable {P : Program} {C : CallRel} {h0 : Heap} {base : Name} {Qf : Ex → List PV → Heap → Prop} {k : List It} {t : List PV} {h : Heap}

theorem K_nil (e : Ex) : K P C h0 base Qf [] e t h = Qf e t h := rfl
theorem K_ret (it : It) : K P C h0 base Qf (it :: k) .ret t h = K P C h0 base Qf k .ret t h := by cases it <;> rfl
theorem K_inB (id : Nat) : K P C h0 base Qf (.inB id :: k) .normal t h = K P C h0 base Qf k .normal t h := rfl
theorem K_exit_inB (id j : Nat) : K P C h0 base Qf (.inB id :: k) (.exit j) t h = if j = id then K P C h0 base Qf k .normal t h else K P C h0 base Qf k (.exit j) t h := rfl
theorem K_exit_code (c : Code) (j : Nat) : K P C h0 base Qf (.code c :: k) (.exit j) t h = K P C h0 base Qf k (.exit j) t h := rfl
theorem K_skip : K P C h0 base Qf (.code .skip :: k) .normal t h = K P C h0 base Qf k .normal t h := rfl
theorem K_seq (a b : Code) : K P C h0 base Qf (.code (.seq a b) :: k) .normal t h = K P C h0 base Qf (.code a :: .code b :: k) .normal t h := by
  show W P C h0 base a t h _ = W P C h0 base a t h _
  congr 1
  funext e t' h'
  cases e <;> rfl
variable (P C h0 base Qf) in
/-- A way that is to be chosen. -/
def Kif (p : PV) (x y : Code) (k : List It) (t : List PV) (h : Heap) : Prop :=
  match p with
  | .i (.v (.bool b)) => if b = true then K P C h0 base Qf (.code x :: k) .normal t h else K P C h0 base Qf (.code y :: k) .normal t h
  | _ => False
theorem Kif_true (x y : Code) : Kif P C h0 base Qf (.i (.v (.bool true))) x y k t h = K P C h0 base Qf (.code x :: k) .normal t h := rfl
theorem Kif_false (x y : Code) : Kif P C h0 base Qf (.i (.v (.bool false))) x y k t h = K P C h0 base Qf (.code y :: k) .normal t h := rfl
theorem Kif_bool {b : Bool} {x y : Code} (h1 : b = true → K P C h0 base Qf (.code x :: k) .normal t h) (h2 : b = false → K P C h0 base Qf (.code y :: k) .normal t h) : Kif P C h0 base Qf (.i (.v (.bool b))) x y k t h := by
  cases b
  · exact h2 rfl
  · exact h1 rfl
theorem K_cond (c : Operand) (x y : Code) : K P C h0 base Qf (.code (.cond c x y) :: k) .normal t h = Kif P C h0 base Qf (St.opnd t c) x y k t h := rfl
theorem K_block (id : Nat) (b : Code) : K P C h0 base Qf (.code (.block id b) :: k) .normal t h = K P C h0 base Qf (.code b :: .inB id :: k) .normal t h := by
  show W P C h0 base b t h _ = W P C h0 base b t h _
  congr 1
  funext e t' h'
  cases e with
  | normal => rfl
  | ret => rfl
  | exit j =>
    rw [K_exit_inB]
    by_cases hj : j = id
    · rw [if_pos hj, if_pos (by rw [hj])]
    · rw [if_neg hj, if_neg (by simpa using hj)]
theorem K_exit (id : Nat) : K P C h0 base Qf (.code (.exit id) :: k) .normal t h = K P C h0 base Qf k (.exit id) t h := rfl
theorem K_retc : K P C h0 base Qf (.code .ret :: k) .normal t h = K P C h0 base Qf k .ret t h := rfl
theorem K_region (id : Nat) (ops : Array Oper) : K P C h0 base Qf (.code (.region id ops false) :: k) .normal t h = K P C h0 base Qf (.ops id ops 0 ops.toList :: k) .normal t h := rfl
theorem K_draw (id : Nat) (ops : Array Oper) : K P C h0 base Qf (.code (.region id ops true) :: k) .normal t h = K P C h0 base Qf (.dops id ops 0 ops.toList [] :: k) .normal t h := by
  show (∃ effs, _ ∧ _) = (∃ effs, _ ∧ _)
  congr 1
  funext effs
  rw [← drawK_eq]; rfl
theorem K_ops_nil (id : Nat) (ops : Array Oper) (i : Nat) : K P C h0 base Qf (.ops id ops i [] :: k) .normal t h = K P C h0 base Qf k .normal t h := rfl
variable (P C h0 base Qf) in
/-- An operation that may be passed by. -/
def Kgrd (g : Option Bool) (id : Nat) (ops : Array Oper) (i : Nat) (o : Oper) (os : List Oper) (k : List It) (t : List PV) (h : Heap) : Prop :=
  match g with
  | none => False
  | some g => if g = true then K P C h0 base Qf (.one id ops i o os :: k) .normal t h else K P C h0 base Qf (.ops id ops (i + 1) os :: k) .normal (putT t o.dst undefP) h
theorem Kgrd_true (id : Nat) (ops : Array Oper) (i : Nat) (o : Oper) (os : List Oper) : Kgrd P C h0 base Qf (some true) id ops i o os k t h = K P C h0 base Qf (.one id ops i o os :: k) .normal t h := rfl
theorem Kgrd_false (id : Nat) (ops : Array Oper) (i : Nat) (o : Oper) (os : List Oper) : Kgrd P C h0 base Qf (some false) id ops i o os k t h = K P C h0 base Qf (.ops id ops (i + 1) os :: k) .normal (putT t o.dst undefP) h := rfl
theorem K_ops (id : Nat) (ops : Array Oper) (i : Nat) (o : Oper) (os : List Oper) : K P C h0 base Qf (.ops id ops i (o :: os) :: k) .normal t h = Kgrd P C h0 base Qf (guardB ops t o) id ops i o os k t h := by
  show WOps P C base id ops i (o :: os) t h _ = _
  unfold WOps Kgrd
  cases guardB ops t o with
  | none => rfl
  | some g => cases g <;> rfl
variable (P C h0 base Qf) in
/-- What an operation came to. -/
def Kres (r : Option Out) (id : Nat) (ops : Array Oper) (i : Nat) (o : Oper) (os : List Oper) (k : List It) (t : List PV) (h : Heap) : Prop :=
  match r with
  | some out => K P C h0 base Qf (.ops id ops (i + 1) os :: k) .normal (putT t o.dst out.val) (h.ups out.ups)
  | none => False
theorem Kres_some (v : PV) (us : List (Name × Box)) (id : Nat) (ops : Array Oper) (i : Nat) (o : Oper) (os : List Oper) : Kres P C h0 base Qf (some ⟨v, us⟩) id ops i o os k t h = K P C h0 base Qf (.ops id ops (i + 1) os :: k) .normal (putT t o.dst v) (h.ups us) := rfl
def callB : Op → Bool
  | .call { callee := .value _, .. } => true
  | _ => false
theorem calleeOf_none {c : Call} (hc : callB (.call c) = false) (t : List PV) : calleeOf t c = none := by
  obtain ⟨callee, args, ts⟩ := c
  cases callee <;> first | rfl | simp [callB] at hc
theorem K_one_op (id : Nat) (ops : Array Oper) (i : Nat) (o : Oper) (os : List Oper) (hc : callB o.op = false) : K P C h0 base Qf (.one id ops i o os :: k) .normal t h =
    match stepOp P h ((id, i) :: base) (St.opnd t) o.op with
    | some out => K P C h0 base Qf (.ops id ops (i + 1) os :: k) .normal (putT t o.dst out.val) (h.ups out.ups)
    | none => False := by
  show (∃ v h', _ ∧ _) = _
  apply propext
  constructor
  · rintro ⟨v, h', hs | ⟨c, g, args, ho, hcal, _⟩, hw⟩
    · obtain ⟨out, hs, rfl, rfl⟩ := hs
      rw [hs]; exact hw
    · rw [ho] at hc
      rw [calleeOf_none hc] at hcal; cases hcal
  · intro hw
    split at hw
    · rename_i out hs
      exact ⟨_, _, .inl ⟨out, hs, rfl, rfl⟩, hw⟩
    · exact hw.elim
theorem K_dops_nil (id : Nat) (ops : Array Oper) (i : Nat) (acc : List Keys) : K P C h0 base Qf (.dops id ops i [] acc :: k) .normal t h = (drawK ops acc.reverse = true ∧ K P C h0 base Qf k .normal t h) := by
  show (∃ effs, _ ∧ _) = _
  apply propext
  constructor
  · rintro ⟨effs, h1, h2⟩
    cases effs with
    | nil => simp only [List.map_nil, List.append_nil] at h1; exact ⟨h1, h2⟩
    | cons e es => exact h2.elim
  · rintro ⟨h1, h2⟩
    exact ⟨[], by simpa using h1, h2⟩
variable (P C h0 base Qf) in
def Kdgrd (g : Option Bool) (id : Nat) (ops : Array Oper) (i : Nat) (o : Oper) (os : List Oper) (acc : List Keys) (k : List It) (t : List PV) (h : Heap) : Prop :=
  match g with
  | none => False
  | some g => if g = true then K P C h0 base Qf (.done id ops i o os acc :: k) .normal t h else K P C h0 base Qf (.dops id ops (i + 1) os (([], []) :: acc) :: k) .normal (putT t o.dst undefP) h
theorem Kdgrd_true (id : Nat) (ops : Array Oper) (i : Nat) (o : Oper) (os : List Oper) (acc : List Keys) : Kdgrd P C h0 base Qf (some true) id ops i o os acc k t h = K P C h0 base Qf (.done id ops i o os acc :: k) .normal t h := rfl
theorem Kdgrd_false (id : Nat) (ops : Array Oper) (i : Nat) (o : Oper) (os : List Oper) (acc : List Keys) : Kdgrd P C h0 base Qf (some false) id ops i o os acc k t h = K P C h0 base Qf (.dops id ops (i + 1) os (([], []) :: acc) :: k) .normal (putT t o.dst undefP) h := rfl
theorem K_dops (id : Nat) (ops : Array Oper) (i : Nat) (o : Oper) (os : List Oper) (acc : List Keys) : K P C h0 base Qf (.dops id ops i (o :: os) acc :: k) .normal t h =
    Kdgrd P C h0 base Qf (guardB ops t o) id ops i o os acc k t h := by
  show (∃ effs, _ ∧ _) = _
  unfold Kdgrd
  apply propext
  constructor
  · rintro ⟨effs, h1, h2⟩
    cases effs with
    | nil => exact h2.elim
    | cons e es =>
      obtain ⟨h2, h3⟩ := h2
      unfold EffR at h2
      cases hg : guardB ops t o with
      | none => rw [hg] at h2; exact h2
      | some g =>
        rw [hg] at h2
        cases g with
        | true => simp only [if_true]; exact ⟨e, es, h2, by simpa using h1, h3⟩
        | false =>
          simp only [Bool.false_eq_true, if_false]
          subst h2
          exact ⟨es, by simpa [Eff.keys] using h1, h3⟩
  · intro hw
    cases hg : guardB ops t o with
    | none => rw [hg] at hw; exact hw.elim
    | some g =>
      rw [hg] at hw
      cases g with
      | true =>
        simp only [if_true] at hw
        obtain ⟨e, es, h1, h2, h3⟩ := hw
        exact ⟨e :: es, by simpa using h2, by unfold EffR; rw [hg]; exact h1, h3⟩
      | false =>
        simp only [Bool.false_eq_true, if_false] at hw
        obtain ⟨es, h1, h2⟩ := hw
        exact ⟨⟨undefP, [], []⟩ :: es, by simpa [Eff.keys] using h1, by unfold EffR; rw [hg], h2⟩
variable (P C h0 base Qf) in
def Kdres (r : Option Out) (id : Nat) (ops : Array Oper) (i : Nat) (o : Oper) (os : List Oper) (acc : List Keys) (k : List It) (t : List PV) (h : Heap) : Prop :=
  match r with
  | some out => K P C h0 base Qf (.dops id ops (i + 1) os ((out.ups.map fun u => keyN u.1, (((id, i) :: base) :: refsL (opndsP t o.op)).map keyN) :: acc) :: k) .normal (putT t o.dst out.val) (h.ups out.ups)
  | none => False
theorem Kdres_some (v : PV) (us : List (Name × Box)) (id : Nat) (ops : Array Oper) (i : Nat) (o : Oper) (os : List Oper) (acc : List Keys) : Kdres P C h0 base Qf (some ⟨v, us⟩) id ops i o os acc k t h =
    K P C h0 base Qf (.dops id ops (i + 1) os ((us.map fun u => keyN u.1, (((id, i) :: base) :: refsL (opndsP t o.op)).map keyN) :: acc) :: k) .normal (putT t o.dst v) (h.ups us) := rfl
theorem K_done_op (id : Nat) (ops : Array Oper) (i : Nat) (o : Oper) (os : List Oper) (acc : List Keys) (hc : callB o.op = false) : K P C h0 base Qf (.done id ops i o os acc :: k) .normal t h =
    match stepOp P h ((id, i) :: base) (St.opnd t) o.op with
    | some out => K P C h0 base Qf (.dops id ops (i + 1) os ((out.ups.map fun u => keyN u.1, (((id, i) :: base) :: refsL (opndsP t o.op)).map keyN) :: acc) :: k) .normal (putT t o.dst out.val) (h.ups out.ups)
    | none => False := by
  show (∃ e effs, _ ∧ _ ∧ _) = _
  apply propext
  constructor
  · rintro ⟨e, effs, hs | ⟨c, g, args, v, us, ho, hcal, _⟩, h1, h2⟩
    · obtain ⟨out, hs, rfl⟩ := hs
      rw [hs]
      exact ⟨effs, by simpa [Eff.keys] using h1, h2⟩
    · rw [ho] at hc
      rw [calleeOf_none hc] at hcal; cases hcal
  · intro hw
    split at hw
    · rename_i out hs
      obtain ⟨effs, h1, h2⟩ := hw
      exact ⟨⟨out.val, out.ups, _⟩, effs, .inl ⟨out, hs, rfl⟩, by simpa [Eff.keys] using h1, h2⟩
    · exact hw.elim

variable (P C h0 base Qf) in
def Kone (b : Bool) (id : Nat) (ops : Array Oper) (i : Nat) (o : Oper) (os : List Oper) (k : List It) (t : List PV) (h : Heap) : Prop :=
  if b = true then K P C h0 base Qf (.call id ops i o os :: k) .normal t h else Kres P C h0 base Qf (stepOp P h ((id, i) :: base) (St.opnd t) o.op) id ops i o os k t h
theorem Kone_call (id : Nat) (ops : Array Oper) (i : Nat) (o : Oper) (os : List Oper) : Kone P C h0 base Qf true id ops i o os k t h = K P C h0 base Qf (.call id ops i o os :: k) .normal t h := rfl
theorem Kone_op (id : Nat) (ops : Array Oper) (i : Nat) (o : Oper) (os : List Oper) : Kone P C h0 base Qf false id ops i o os k t h = Kres P C h0 base Qf (stepOp P h ((id, i) :: base) (St.opnd t) o.op) id ops i o os k t h := rfl
theorem K_one (id : Nat) (ops : Array Oper) (i : Nat) (o : Oper) (os : List Oper) : K P C h0 base Qf (.one id ops i o os :: k) .normal t h = Kone P C h0 base Qf (callB o.op) id ops i o os k t h := by
  unfold Kone
  by_cases hc : callB o.op = true
  · rw [if_pos hc]; rfl
  · rw [if_neg hc, K_one_op _ _ _ _ _ (by simpa using hc)]; rfl
variable (P C h0 base Qf) in
def Kdone (b : Bool) (id : Nat) (ops : Array Oper) (i : Nat) (o : Oper) (os : List Oper) (acc : List Keys) (k : List It) (t : List PV) (h : Heap) : Prop :=
  if b = true then K P C h0 base Qf (.dcall id ops i o os acc :: k) .normal t h else Kdres P C h0 base Qf (stepOp P h ((id, i) :: base) (St.opnd t) o.op) id ops i o os acc k t h
theorem Kdone_call (id : Nat) (ops : Array Oper) (i : Nat) (o : Oper) (os : List Oper) (acc : List Keys) : Kdone P C h0 base Qf true id ops i o os acc k t h = K P C h0 base Qf (.dcall id ops i o os acc :: k) .normal t h := rfl
theorem Kdone_op (id : Nat) (ops : Array Oper) (i : Nat) (o : Oper) (os : List Oper) (acc : List Keys) : Kdone P C h0 base Qf false id ops i o os acc k t h = Kdres P C h0 base Qf (stepOp P h ((id, i) :: base) (St.opnd t) o.op) id ops i o os acc k t h := rfl
theorem K_done (id : Nat) (ops : Array Oper) (i : Nat) (o : Oper) (os : List Oper) (acc : List Keys) : K P C h0 base Qf (.done id ops i o os acc :: k) .normal t h = Kdone P C h0 base Qf (callB o.op) id ops i o os acc k t h := by
  unfold Kdone
  by_cases hc : callB o.op = true
  · rw [if_pos hc]; rfl
  · rw [if_neg hc, K_done_op _ _ _ _ _ _ (by simpa using hc)]; rfl

/-- A call that is handed data, and whose answer is data. -/
def CallsP (P : Program) (g : FuncId) (args : List PV) (v : PV) : Prop := ∀ base, ∃ u hu, CallR P base g args Heap.none u hu ∧ lowerT hu u = some v

theorem K_call_pure {id : Nat} {ops : Array Oper} {i : Nat} {o : Oper} {os : List Oper} {c : Call} {g : FuncId} {args largs : List PV} {v : PV} (hs : CallsP P g largs v) (ho : o.op = .call c) (hcal : calleeOf t c = some (g, args)) (he : enterB P g = true)
    (hl : mapO (lowerA h) args = some largs)
    (hk : K P (CallR P) h0 base Qf (.ops id ops (i + 1) os :: k) .normal (putT t o.dst v) (h.ups (if scalT v then [] else freezeOf h (args.flatMap boxesA)))) :
    K P (CallR P) h0 base Qf (.call id ops i o os :: k) .normal t h := by
  obtain ⟨u, hu, h1, h2⟩ := hs ((id, i) :: base)
  exact ⟨v, _, .inr ⟨c, g, args, ho, hcal, he, .inr ⟨_, ⟨largs, u, hu, hl, h1, h2, rfl⟩, rfl⟩⟩, hk⟩
theorem K_call_shared {id : Nat} {ops : Array Oper} {i : Nat} {o : Oper} {os : List Oper} {c : Call} {g : FuncId} {args : List PV} {v : PV} {h' : Heap} (hs : CallR P ((id, i) :: base) g args h v h') (ho : o.op = .call c) (hcal : calleeOf t c = some (g, args)) (he : enterB P g = true)
    (hk : K P (CallR P) h0 base Qf (.ops id ops (i + 1) os :: k) .normal (putT t o.dst v) h') :
    K P (CallR P) h0 base Qf (.call id ops i o os :: k) .normal t h :=
  ⟨v, _, .inr ⟨c, g, args, ho, hcal, he, .inl hs⟩, hk⟩
theorem K_dcall_pure {id : Nat} {ops : Array Oper} {i : Nat} {o : Oper} {os : List Oper} {acc : List Keys} {c : Call} {g : FuncId} {args largs : List PV} {v : PV} (hs : CallsP P g largs v) (ho : o.op = .call c) (hcal : calleeOf t c = some (g, args)) (he : enterB P g = true)
    (hl : mapO (lowerA h) args = some largs)
    (hk : K P (CallR P) h0 base Qf (.dops id ops (i + 1) os (((if scalT v then [] else freezeOf h (args.flatMap boxesA)).map fun u => keyN u.1, (((id, i) :: base) :: (args.flatMap boxesA ++ refsL (opndsP t o.op))).map keyN) :: acc) :: k) .normal (putT t o.dst v)
      (h.ups (if scalT v then [] else freezeOf h (args.flatMap boxesA)))) :
    K P (CallR P) h0 base Qf (.dcall id ops i o os acc :: k) .normal t h := by
  obtain ⟨u, hu, h1, h2⟩ := hs ((id, i) :: base)
  obtain ⟨effs, h3, h4⟩ := hk
  refine ⟨⟨v, _, _⟩, effs, .inr ⟨c, g, args, v, _, ho, hcal, he, ⟨largs, u, hu, hl, h1, h2, rfl⟩, rfl⟩, ?_, h4⟩
  simpa [Eff.keys] using h3

theorem forget_nil {ks : List Bool} (hl : ks.length = t.length) : Forget h0 t h ks [] := ⟨hl, fun b hb => by simp at hb, fun b hb => by simp at hb, fun c cs _ b hb => by simp at hb⟩
theorem drop_nil (h : Heap) : h.drop [] = h := by funext c; simp [Heap.drop]
/-- A round's end: the next round begins. -/
def Again (h0 : Heap) (ks : List Bool) (bs : List Name) (n : Nat) (It : Nat → List PV × Heap) (j : Nat) (t : List PV) (h : Heap) : Prop :=
  j < n ∧ Forget h0 t h ks bs ∧ keepT ks t = (It (j + 1)).1 ∧ h.drop bs = (It (j + 1)).2
/-- How a round goes on: back to the head, or out of the loop. -/
def Round (P : Program) (C : CallRel) (h0 : Heap) (base : Name) (Qf : Ex → List PV → Heap → Prop) (k : List It) (ks : List Bool) (bs : List Name) (n : Nat) (It : Nat → List PV × Heap) (j : Nat) : Ex → List PV → Heap → Prop
  | .normal, t, h => Again h0 ks bs n It j t h
  | e, t, h => K P C h0 base Qf k e t h
theorem Round_normal {ks : List Bool} {bs : List Name} {n : Nat} {It : Nat → List PV × Heap} {j : Nat} : Round P C h0 base Qf k ks bs n It j .normal t h = Again h0 ks bs n It j t h := rfl
theorem Round_exit {ks : List Bool} {bs : List Name} {n : Nat} {It : Nat → List PV × Heap} {j id : Nat} : Round P C h0 base Qf k ks bs n It j (.exit id) t h = K P C h0 base Qf k (.exit id) t h := rfl
theorem Round_ret {ks : List Bool} {bs : List Name} {n : Nat} {It : Nat → List PV × Heap} {j : Nat} : Round P C h0 base Qf k ks bs n It j .ret t h = K P C h0 base Qf k .ret t h := rfl
theorem wmono (c : Code) {t : List PV} {h : Heap} {Q Q' : Ex → List PV → Heap → Prop} (hw : W P C h0 base c t h Q) (hq : ∀ e t h, Q e t h → Q' e t h) : W P C h0 base c t h Q' :=
  W_mono (fun _ _ _ _ _ _ h => h) c t h hq hw
/-- A loop: what holds at its head in the round j, and a bound for the rounds. -/
theorem K_loop {b : Code} (ks : List Bool) (bs : List Name) (n : Nat) (It : Nat → List PV × Heap) (h1 : Forget h0 t h ks bs) (h2 : keepT ks t = (It 0).1) (h3 : h.drop bs = (It 0).2)
    (hr : ∀ j, j ≤ n → K P C h0 base (Round P C h0 base Qf k ks bs n It j) [.code b] .normal (It j).1 (It j).2) : K P C h0 base Qf (.code (.loop b) :: k) .normal t h := by
  have key : ∀ d j t h, n - j = d → j ≤ n → Forget h0 t h ks bs → keepT ks t = (It j).1 → h.drop bs = (It j).2 → WLoop h0 (W P C h0 base b) ks bs (d + 1) t h (K P C h0 base Qf k) := by
    intro d
    induction d with
    | zero =>
      intro j t h hd hj hf ht hh
      refine ⟨hf, ?_⟩
      have := hr j hj
      rw [ht, hh]
      refine wmono _ this fun e t' h' hq => ?_
      cases e with
      | normal => exact absurd (show Again h0 ks bs n It j t' h' from hq).1 (by omega)
      | exit id => exact hq
      | ret => exact hq
    | succ d ih =>
      intro j t h hd hj hf ht hh
      refine ⟨hf, ?_⟩
      have := hr j hj
      rw [ht, hh]
      refine wmono _ this fun e t' h' hq => ?_
      cases e with
      | normal =>
        have hq : Again h0 ks bs n It j t' h' := hq
        exact ih (j + 1) t' h' (by omega) (by omega) hq.2.1 hq.2.2.1 hq.2.2.2
      | exit id => exact hq
      | ret => exact hq
  exact ⟨n + 1, ks, bs, key n 0 t h rfl (Nat.zero_le _) h1 h2 h3⟩
/-- A round's end, of a loop with an invariant: one round less to go. -/
def AgainI (h0 : Heap) (ks : List Bool) (bs : List Name) (I : Nat → List PV → Heap → Prop) (j : Nat) (t : List PV) (h : Heap) : Prop :=
  ∃ i, j = i + 1 ∧ Forget h0 t h ks bs ∧ I i (keepT ks t) (h.drop bs)
def RoundI (P : Program) (C : CallRel) (h0 : Heap) (base : Name) (Qf : Ex → List PV → Heap → Prop) (k : List It) (ks : List Bool) (bs : List Name) (I : Nat → List PV → Heap → Prop) (j : Nat) : Ex → List PV → Heap → Prop
  | .normal, t, h => AgainI h0 ks bs I j t h
  | e, t, h => K P C h0 base Qf k e t h
theorem RoundI_normal {ks : List Bool} {bs : List Name} {I : Nat → List PV → Heap → Prop} {j : Nat} : RoundI P C h0 base Qf k ks bs I j .normal t h = AgainI h0 ks bs I j t h := rfl
theorem RoundI_exit {ks : List Bool} {bs : List Name} {I : Nat → List PV → Heap → Prop} {j id : Nat} : RoundI P C h0 base Qf k ks bs I j (.exit id) t h = K P C h0 base Qf k (.exit id) t h := rfl
theorem RoundI_ret {ks : List Bool} {bs : List Name} {I : Nat → List PV → Heap → Prop} {j : Nat} : RoundI P C h0 base Qf k ks bs I j .ret t h = K P C h0 base Qf k .ret t h := rfl
/-- A loop with an invariant: what holds at its head while so many rounds are still to go. -/
theorem K_loopI {b : Code} (ks : List Bool) (bs : List Name) (n : Nat) (I : Nat → List PV → Heap → Prop) (h1 : Forget h0 t h ks bs) (h2 : I n (keepT ks t) (h.drop bs))
    (hr : ∀ j t h, I j t h → K P C h0 base (RoundI P C h0 base Qf k ks bs I j) [.code b] .normal t h) : K P C h0 base Qf (.code (.loop b) :: k) .normal t h := by
  have key : ∀ j t h, Forget h0 t h ks bs → I j (keepT ks t) (h.drop bs) → WLoop h0 (W P C h0 base b) ks bs (j + 1) t h (K P C h0 base Qf k) := by
    intro d
    induction d with
    | zero =>
      intro t h hf hi
      refine ⟨hf, ?_⟩
      refine wmono _ (hr 0 _ _ hi) fun e t' h' hq => ?_
      cases e with
      | normal => obtain ⟨i, hi, _⟩ : AgainI h0 ks bs I 0 t' h' := hq; omega
      | exit id => exact hq
      | ret => exact hq
    | succ d ih =>
      intro t h hf hi
      refine ⟨hf, ?_⟩
      refine wmono _ (hr (d + 1) _ _ hi) fun e t' h' hq => ?_
      cases e with
      | normal =>
        obtain ⟨i, hi, hf', hn⟩ : AgainI h0 ks bs I (d + 1) t' h' := hq
        have : d = i := by omega
        subst this
        exact ih t' h' hf' hn
      | exit id => exact hq
      | ret => exact hq
  exact ⟨n + 1, ks, bs, key n t h h1 h2⟩
/-- A loop with an invariant, and with what holds where it is left. -/
def RoundX (P : Program) (C : CallRel) (h0 : Heap) (base : Name) (Qf : Ex → List PV → Heap → Prop) (k : List It) (ks : List Bool) (bs : List Name) (I : Nat → List PV → Heap → Prop) (x : Nat) (E : List PV → Heap → Prop) (j : Nat) : Ex → List PV → Heap → Prop
  | .normal, t, h => AgainI h0 ks bs I j t h
  | .exit id, t, h => if id = x then E t h else K P C h0 base Qf k (.exit id) t h
  | e, t, h => K P C h0 base Qf k e t h
theorem RoundX_normal {ks : List Bool} {bs : List Name} {I : Nat → List PV → Heap → Prop} {x : Nat} {E : List PV → Heap → Prop} {j : Nat} : RoundX P C h0 base Qf k ks bs I x E j .normal t h = AgainI h0 ks bs I j t h := rfl
theorem RoundX_exit {ks : List Bool} {bs : List Name} {I : Nat → List PV → Heap → Prop} {x : Nat} {E : List PV → Heap → Prop} {j id : Nat} : RoundX P C h0 base Qf k ks bs I x E j (.exit id) t h = if id = x then E t h else K P C h0 base Qf k (.exit id) t h := rfl
theorem RoundX_ret {ks : List Bool} {bs : List Name} {I : Nat → List PV → Heap → Prop} {x : Nat} {E : List PV → Heap → Prop} {j : Nat} : RoundX P C h0 base Qf k ks bs I x E j .ret t h = K P C h0 base Qf k .ret t h := rfl
theorem K_mono {k : List It} {e : Ex} {t : List PV} {h : Heap} {Q Q' : Ex → List PV → Heap → Prop} {b : Code} (hq : ∀ e t h, Q e t h → Q' e t h) (hk : K P C h0 base Q [.code b] .normal t h) : K P C h0 base Q' [.code b] .normal t h :=
  wmono b hk hq
theorem K_loopX {b : Code} (ks : List Bool) (bs : List Name) (n : Nat) (I : Nat → List PV → Heap → Prop) (x : Nat) (E : List PV → Heap → Prop) (h1 : Forget h0 t h ks bs) (h2 : I n (keepT ks t) (h.drop bs))
    (hr : ∀ j t h, I j t h → K P C h0 base (RoundX P C h0 base Qf k ks bs I x E j) [.code b] .normal t h) (hx : ∀ t h, E t h → K P C h0 base Qf k (.exit x) t h) : K P C h0 base Qf (.code (.loop b) :: k) .normal t h := by
  refine K_loopI ks bs n I h1 h2 fun j t h hi => K_mono (e := .normal) (k := []) (fun e t h hq => ?_) (hr j t h hi)
  cases e with
  | normal => exact hq
  | ret => exact hq
  | exit id =>
    rw [RoundX_exit] at hq
    show K P C h0 base Qf k (.exit id) t h
    by_cases e : id = x
    · rw [if_pos e] at hq; subst e; exact hx t h hq
    · rw [if_neg e] at hq; exact hq
/-- What several ways come to, told once. -/
theorem K_join {a : Code} (E : List PV → Heap → Prop) (ha : K P C h0 base (fun e t h => e = .normal ∧ E t h ∨ e ≠ .normal ∧ K P C h0 base Qf k e t h) [.code a] .normal t h) (hx : ∀ t h, E t h → K P C h0 base Qf k .normal t h) : K P C h0 base Qf (.code a :: k) .normal t h := by
  refine wmono a ha fun e t' h' hq => ?_
  rcases hq with ⟨rfl, hq⟩ | ⟨hn, hq⟩
  · exact hx _ _ hq
  · cases e with
    | normal => exact absurd rfl hn
    | ret => exact hq
    | exit id => exact hq
/-- Slots of a known shape: the others are what they are. -/
def Shape (T : (Nat → PV) → List PV) (t : List PV) : Prop := ∃ f, t = T f
theorem Shape.of {T : (Nat → PV) → List PV} {t : List PV} (h : t = T (fun i => t.getD i undefP)) : Shape T t := ⟨_, h⟩
end

/-! ### where a run ends -/
section
variable {P : Program} {C : CallRel} {h0 : Heap} {base : Name}
theorem WOps_point {id : Nat} {ops : Array Oper} : ∀ (os : List Oper) (i : Nat) (t : List PV) (h : Heap) {Q : List PV → Heap → Prop}, WOps P C base id ops i os t h Q → ∃ t' h', Q t' h' ∧ WOps P C base id ops i os t h fun t2 h2 => t2 = t' ∧ h2 = h'
  | [], i, t, h, Q, hw => ⟨t, h, hw, rfl, rfl⟩
  | o :: os, i, t, h, Q, hw => by
    unfold WOps at hw ⊢
    split at hw
    · exact hw.elim
    · exact WOps_point os (i + 1) _ _ hw
    · obtain ⟨v, h', hs, hw⟩ := hw
      obtain ⟨t', h2, hq, hw'⟩ := WOps_point os (i + 1) _ _ hw
      exact ⟨t', h2, hq, v, h', hs, hw'⟩
theorem Effs_point {id : Nat} {ops : Array Oper} : ∀ (os : List Oper) (es : List Eff) (i : Nat) (t : List PV) (h : Heap) {Q : List PV → Heap → Prop}, Effs P C base id ops i os es t h Q → ∃ t' h', Q t' h' ∧ Effs P C base id ops i os es t h fun t2 h2 => t2 = t' ∧ h2 = h'
  | [], [], i, t, h, Q, hw => ⟨t, h, hw, rfl, rfl⟩
  | o :: os, e :: es, i, t, h, Q, hw => by
    obtain ⟨t', h2, hq, hw'⟩ := Effs_point os es (i + 1) _ _ hw.2
    exact ⟨t', h2, hq, hw.1, hw'⟩
  | [], _ :: _, _, _, _, _, hw => hw.elim
  | _ :: _, [], _, _, _, _, hw => hw.elim
theorem W_point : ∀ (c : Code) (t : List PV) (h : Heap) {Q : Ex → List PV → Heap → Prop}, W P C h0 base c t h Q → ∃ e t' h', Q e t' h' ∧ W P C h0 base c t h fun e2 t2 h2 => e2 = e ∧ t2 = t' ∧ h2 = h' := by
  intro c
  induction c with
  | skip => intro t h Q hw; exact ⟨_, _, _, hw, rfl, rfl, rfl⟩
  | exit id => intro t h Q hw; exact ⟨_, _, _, hw, rfl, rfl, rfl⟩
  | ret => intro t h Q hw; exact ⟨_, _, _, hw, rfl, rfl, rfl⟩
  | region id ops draw =>
    intro t h Q hw
    unfold W at hw ⊢
    split at hw
    · rename_i hd
      obtain ⟨effs, h1, h2⟩ := hw
      obtain ⟨t', h', hq, h3⟩ := Effs_point _ _ _ _ _ h2
      refine ⟨.normal, t', h', hq, ?_⟩
      rw [if_pos hd]
      exact ⟨effs, h1, Effs_mono (fun _ _ _ _ _ _ h => h) _ _ _ _ _ (fun t2 h2 he => ⟨rfl, he⟩) h3⟩
    · rename_i hd
      obtain ⟨t', h', hq, h3⟩ := WOps_point _ _ _ _ hw
      refine ⟨.normal, t', h', hq, ?_⟩
      rw [if_neg hd]
      exact WOps_mono (fun _ _ _ _ _ _ h => h) _ _ _ _ (fun t2 h2 he => ⟨rfl, he⟩) h3
  | seq a b iha ihb =>
    intro t h Q hw
    obtain ⟨e, t', h', hq, hw'⟩ := iha t h hw
    cases e with
    | normal =>
      obtain ⟨e2, t2, h2, hq2, hw2⟩ := ihb t' h' hq
      refine ⟨e2, t2, h2, hq2, W_mono (fun _ _ _ _ _ _ h => h) a _ _ (fun e3 t3 h3 he => ?_) hw'⟩
      obtain ⟨rfl, rfl, rfl⟩ := he
      exact hw2
    | exit id =>
      refine ⟨.exit id, t', h', hq, W_mono (fun _ _ _ _ _ _ h => h) a _ _ (fun e3 t3 h3 he => ?_) hw'⟩
      obtain ⟨rfl, rfl, rfl⟩ := he
      exact ⟨rfl, rfl, rfl⟩
    | ret =>
      refine ⟨.ret, t', h', hq, W_mono (fun _ _ _ _ _ _ h => h) a _ _ (fun e3 t3 h3 he => ?_) hw'⟩
      obtain ⟨rfl, rfl, rfl⟩ := he
      exact ⟨rfl, rfl, rfl⟩
  | cond c x y ihx ihy =>
    intro t h Q hw
    unfold W at hw ⊢
    split at hw
    · rename_i b hb
      split at hw
      · rename_i hbt
        obtain ⟨e, t', h', hq, hw'⟩ := ihx t h hw
        exact ⟨e, t', h', hq, by rw [if_pos hbt]; exact hw'⟩
      · rename_i hbt
        obtain ⟨e, t', h', hq, hw'⟩ := ihy t h hw
        exact ⟨e, t', h', hq, by rw [if_neg hbt]; exact hw'⟩
    · exact hw.elim
  | block id b ih =>
    intro t h Q hw
    obtain ⟨e, t', h', hq, hw'⟩ := ih t h hw
    by_cases he : e = .exit id
    · rw [if_pos he] at hq
      refine ⟨.normal, t', h', hq, W_mono (fun _ _ _ _ _ _ h => h) b _ _ (fun e3 t3 h3 hh => ?_) hw'⟩
      obtain ⟨rfl, rfl, rfl⟩ := hh
      rw [if_pos he]; exact ⟨rfl, rfl, rfl⟩
    · rw [if_neg he] at hq
      refine ⟨e, t', h', hq, W_mono (fun _ _ _ _ _ _ h => h) b _ _ (fun e3 t3 h3 hh => ?_) hw'⟩
      obtain ⟨rfl, rfl, rfl⟩ := hh
      rw [if_neg he]; exact ⟨rfl, rfl, rfl⟩
  | loop b ih =>
    intro t h Q hw
    obtain ⟨n, ks, bs, hw⟩ := hw
    have key : ∀ (n : Nat) (t : List PV) (h : Heap), WLoop h0 (W P C h0 base b) ks bs n t h Q → ∃ e t' h', Q e t' h' ∧ WLoop h0 (W P C h0 base b) ks bs n t h fun e2 t2 h2 => e2 = e ∧ t2 = t' ∧ h2 = h' := by
      intro n
      induction n with
      | zero => intro t h hw; exact hw.elim
      | succ n ihn =>
        intro t h hw
        obtain ⟨hf, hw⟩ := hw
        obtain ⟨e, t', h', hq, hw'⟩ := ih _ _ hw
        cases e with
        | normal =>
          obtain ⟨e2, t2, h2, hq2, hw2⟩ := ihn t' h' hq
          refine ⟨e2, t2, h2, hq2, hf, W_mono (fun _ _ _ _ _ _ h => h) b _ _ (fun e3 t3 h3 hh => ?_) hw'⟩
          obtain ⟨rfl, rfl, rfl⟩ := hh
          exact hw2
        | exit id =>
          refine ⟨.exit id, t', h', hq, hf, W_mono (fun _ _ _ _ _ _ h => h) b _ _ (fun e3 t3 h3 hh => ?_) hw'⟩
          obtain ⟨rfl, rfl, rfl⟩ := hh
          exact ⟨rfl, rfl, rfl⟩
        | ret =>
          refine ⟨.ret, t', h', hq, hf, W_mono (fun _ _ _ _ _ _ h => h) b _ _ (fun e3 t3 h3 hh => ?_) hw'⟩
          obtain ⟨rfl, rfl, rfl⟩ := hh
          exact ⟨rfl, rfl, rfl⟩
    obtain ⟨e, t', h', hq, hw'⟩ := key n t h hw
    exact ⟨e, t', h', hq, n, ks, bs, hw'⟩
  | _ => intro t h Q hw; exact hw.elim
end

/-- A function, from its start. -/
theorem CallR.walk {P : Program} {base : Name} {f : FuncId} {fn : Func} {c : Code} {args : List PV} {h : Heap} {v : PV} {h' : Heap} (hf : P.funcs[f]? = some fn) (hb : fn.body = some c)
    (hw : K P (CallR P) h base (fun e t hh => (e = .normal ∨ e = .ret) ∧ resultsB P fn t hh = some v ∧ hh = h') [.code c] .normal (initT fn args) h) : CallR P base f args h v h' :=
  CallR.intro hf hb (W_mono (fun _ _ _ _ _ _ h => h) c _ _ (fun _ _ _ hq => hq) hw)
def resB (P : Program) (rs : List ResultVar) (t : List PV) (h : Heap) : Option PV :=
  match mapO (resVar P t h) rs with
  | some [x] => some x
  | some xs => some (.tup xs)
  | none => none
/-- A function that is handed data, from its start: what becomes of its memory is of no matter. -/
theorem CallsP.walk {P : Program} {f : FuncId} {fn : Func} {c : Code} {args : List PV} {v : PV} (hf : P.funcs[f]? = some fn) (hb : fn.body = some c)
    (hw : ∀ base, K P (CallR P) Heap.none base (fun e t hh => (e = .normal ∨ e = .ret) ∧ (resultsB P fn t hh).bind (lowerT hh) = some v) [.code c] .normal (initT fn args) Heap.none) : CallsP P f args v := by
  intro base
  obtain ⟨e, t', h', ⟨he, hr⟩, hw'⟩ := W_point c _ _ (hw base)
  cases hu : resultsB P fn t' h' with
  | none => rw [hu] at hr; cases hr
  | some u =>
    rw [hu] at hr
    refine ⟨u, h', CallR.intro hf hb (W_mono (fun _ _ _ _ _ _ h => h) c _ _ (fun e2 t2 h2 hh => ?_) hw'), hr⟩
    obtain ⟨rfl, rfl, rfl⟩ := hh
    exact ⟨he, hu, rfl⟩
/-- The same, with the function's parts told one by one. -/
theorem CallsP.start {P : Program} {f : FuncId} {fn : Func} {c : Code} {args : List PV} {v : PV} {n : Nat} {rs : List ResultVar} (hf : P.funcs[f]? = some fn) (hb : fn.body = some c) (hn : fn.ntmps = n) (hrs : fn.results.toList = rs)
    (hw : ∀ base, K P (CallR P) Heap.none base (fun e t hh => (e = .normal ∨ e = .ret) ∧ (resB P rs t hh).bind (lowerT hh) = some v) [.code c] .normal (args ++ List.replicate (n - args.length) undefP) Heap.none) : CallsP P f args v := by
  subst hn; subst hrs
  exact CallsP.walk hf hb hw
theorem CallR.start {P : Program} {base : Name} {f : FuncId} {fn : Func} {c : Code} {args : List PV} {h : Heap} {v : PV} {h' : Heap} {n : Nat} {rs : List ResultVar} (hf : P.funcs[f]? = some fn) (hb : fn.body = some c) (hn : fn.ntmps = n) (hrs : fn.results.toList = rs)
    (hw : K P (CallR P) h base (fun e t hh => (e = .normal ∨ e = .ret) ∧ resB P rs t hh = some v ∧ hh = h') [.code c] .normal (args ++ List.replicate (n - args.length) undefP) h) : CallR P base f args h v h' := by
  subst hn; subst hrs
  exact CallR.walk hf hb hw

/-! ### the rules of the walk, in bundles -/
def sim0 :=
  And.intro @List.getElem?_toArray.{0} <| And.intro @RoundX_normal <| And.intro @RoundX_exit <| And.intro @RoundX_ret <| And.intro @RoundI_normal <| And.intro @RoundI_exit <| And.intro @RoundI_ret <| And.intro @Round_normal <| And.intro @Round_exit <| And.intro @Round_ret <| And.intro @K_seq <| And.intro @K_region <| And.intro @K_draw <| And.intro @K_skip <| And.intro @K_cond <| And.intro @Kif_true <| And.intro @Kif_false <| And.intro @K_block <| And.intro @K_exit <| And.intro @K_exit_inB <| And.intro @K_exit_code <| And.intro @K_retc <| And.intro @K_ret <| @K_inB
def sim1 :=
  And.intro @K_nil <| And.intro @K_ops <| And.intro @Kgrd_true <| And.intro @Kgrd_false <| And.intro @K_one <| And.intro @Kone_call <| And.intro @Kone_op <| And.intro @Kres_some <| And.intro @K_ops_nil <| And.intro @K_dops <| And.intro @K_dops_nil <| And.intro @Kdgrd_true <| And.intro @Kdgrd_false <| And.intro @K_done <| And.intro @Kdone_call <| And.intro @Kdone_op <| And.intro @List.getD_cons_succ.{0} <| And.intro @List.getD_cons_zero.{0} <| And.intro @List.set_cons_succ.{0} <| And.intro @List.set_cons_zero.{0} <| And.intro @List.getElem?_cons_succ.{0} <| And.intro @List.getElem?_cons_zero.{0} <| @List.getElem?_nil.{0}
def sim2 :=
  And.intro @Option.bind_some.{0, 0} <| And.intro @Option.map_some.{0, 0} <| And.intro @if_true.{1} <| And.intro @if_false.{1} <| And.intro @Heap.ups_nil <| And.intro @Heap.ups_cons <| And.intro @List.map_cons.{0, 0} <| And.intro @List.map_nil.{0, 0} <| And.intro @gt_iff_lt.{0} <| And.intro @ge_iff_le.{0} <| And.intro @decide_true <| And.intro @decide_false <| And.intro @Bool.false_eq_true <| And.intro @Bool.not_true <| And.intro @Bool.not_false <| And.intro @Int.natCast_nonneg <| And.intro @Int.toNat_natCast <| And.intro @Option.isSome_some.{0} <| And.intro @List.getElem?_map.{0, 0} <| And.intro @and_true <| And.intro @true_and <| And.intro @and_self <| And.intro @Nat.mul_one <| @Nat.zero_add
def sim3 :=
  And.intro @Nat.add_zero <| And.intro @Nat.one_mul <| And.intro @List.all_cons.{0} <| And.intro @List.all_nil.{0} <| And.intro @Bool.and_self <| And.intro @Bool.and_true <| And.intro @Bool.true_and <| And.intro @List.length_cons.{0} <| And.intro @List.length_nil.{0} <| And.intro @List.nil_append.{0} <| And.intro @List.cons_append.{0} <| And.intro @List.take_zero.{0} <| And.intro @List.take_succ_cons.{0} <| And.intro @List.drop_zero.{0} <| And.intro @List.drop_succ_cons.{0} <| And.intro @List.take_nil.{0} <| And.intro @List.drop_nil.{0} <| And.intro @beq_self_eq_true.{0} <| And.intro @beq_true <| And.intro @beq_false <| And.intro @ne_eq.{1} <| And.intro @not_false_eq_true <| And.intro @not_true_eq_false <| @List.size_toArray.{0}
def sim4 :=
  And.intro @List.toList_toArray.{0} <| And.intro @ite_true.{1} <| And.intro @ite_false.{1} <| And.intro @List.append_nil.{0} <| And.intro @Option.any_some.{0} <| And.intro @Option.map_none.{0, 0} <| And.intro @Option.isSome_none.{0} <| And.intro @List.flatMap_cons.{0, 0} <| And.intro @List.flatMap_nil.{0, 0} <| @List.filterMap_nil.{0, 0}
def sims :=
  And.intro @sim0 <| And.intro @sim1 <| And.intro @sim2 <| And.intro @sim3 <| @sim4
end Go.Proofs.Ytnnkoghmglpnmaa.TM
