/- TM: the walk's rules again, so told that simp looks at the next step alone. Conditions: none; lemmas. -/
import Derived.Test.YtnnkoghmglpnmaaTmW
namespace Go.Proofs.Ytnnkoghmglpnmaa.TM
open Go
set_option linter.unusedVariables false
set_option linter.defProp false
set_option linter.unusedSimpArgs false

theorem XInv.start (ops : Array Oper) : XInv ops [] 0 ops.toList := ⟨rfl, rfl⟩
theorem XInv.at {ops : Array Oper} {ds : List (Option Tmp)} {i : Nat} {o : Oper} {os : List Oper} (h : XInv ops ds i (o :: os)) : i < ops.toList.length ∧ ops.toList[i]? = some o := by
  have h1 := congrArg (·[0]?) h.1
  simp only [List.getElem?_drop, List.getElem?_cons_zero, Nat.add_zero] at h1
  exact ⟨(List.getElem?_eq_some_iff.1 h1).1, h1⟩
theorem XInv.step {ops : Array Oper} {ds : List (Option Tmp)} {i : Nat} {o : Oper} {os : List Oper} (h : XInv ops ds i (o :: os)) : XInv ops (o.dst :: ds) (i + 1) os := by
  obtain ⟨h1, h2⟩ := h.at
  refine ⟨?_, ?_⟩
  · rw [← List.drop_drop, h.1]; rfl
  · rw [List.reverse_cons, h.2, List.take_succ_eq_append_getElem h1, List.map_append, List.map_cons, List.map_nil]
    have : ops.toList[i] = o := by
      have := List.getElem?_eq_getElem h1
      rw [h2] at this
      exact (Option.some.inj this).symm
    rw [this]
theorem XInv.dst {ops : Array Oper} {ds : List (Option Tmp)} {i : Nat} {os : List Oper} (h : XInv ops ds i os) (hi : i ≤ ops.toList.length) {j : Nat} (hj : j < i) : (ops[j]?).bind (·.dst) = (ds[i - 1 - j]?).join := by
  have hlen : ds.length = i := by
    have := congrArg List.length h.2
    simp only [List.length_reverse, List.length_map, List.length_take] at this
    omega
  have h3 : ds[i - 1 - j]? = ds.reverse[j]? := by
    rw [List.getElem?_reverse (by omega), hlen]
  rw [h3, h.2, List.getElem?_map, List.getElem?_take, if_pos hj, ← Array.getElem?_toList]
  cases ops.toList[j]? <;> rfl

def guardV : Option PV → Bool → Option Bool
  | some (.i (.v (.bool b))), want => some (b == want)
  | some (.tup []), _ => some false
  | _, _ => none
def guardF (ops : Array Oper) (_ : DepA ops) (t : List PV) (j : Nat) (want : Bool) : Option Bool := guardV (((ops[j]?).bind (·.dst)).bind (t[·]?)) want
def slotO (t : List PV) : Option Tmp → Option PV
  | some k => t[k]?
  | none => none
theorem slotO_some (t : List PV) (k : Tmp) : slotO t (some k) = t[k]? := rfl
theorem slotO_none (t : List PV) : slotO t none = none := rfl
theorem slotO_eq (t : List PV) (o : Option Tmp) : o.bind (t[·]?) = slotO t o := by cases o <;> rfl
/-- A guard, found by what the operations ahead of it wrote. -/
def guardD (ops : Array Oper) (a : DepA ops) (i : Nat) (ds : List (Option Tmp)) (t : List PV) : Option (Nat × Bool) → Option Bool
  | none => some true
  | some (j, want) => if j < i then guardV (slotO t (ds[i - 1 - j]?).join) want else guardF ops a t j want
theorem guardB_some {ops : Array Oper} {o : Oper} {j : Nat} {want : Bool} (hgg : o.guard = some (j, want)) (t : List PV) : guardB ops t o = guardV (((ops[j]?).bind (·.dst)).bind (t[·]?)) want := by
  unfold guardB
  rw [hgg]
  simp only
  generalize ((ops[j]?).bind (·.dst)).bind (t[·]?) = x
  unfold guardV
  split
  · rfl
  · rfl
  · split <;> simp_all
theorem guardD_eq {ops : Array Oper} {ds : List (Option Tmp)} {i : Nat} {o : Oper} {os : List Oper} (h : XInv ops ds i (o :: os)) (t : List PV) : guardB ops t o = guardD ops .mk i ds t o.guard := by
  cases hgg : o.guard with
  | none => unfold guardB; rw [hgg]; rfl
  | some q =>
    obtain ⟨j, want⟩ := q
    rw [guardB_some hgg]
    show _ = if j < i then guardV (slotO t (ds[i - 1 - j]?).join) want else guardF ops .mk t j want
    by_cases hj : j < i
    · rw [if_pos hj, h.dst (Nat.le_of_lt h.at.1) hj, slotO_eq]
    · rw [if_neg hj]; rfl
theorem guardD_none (ops : Array Oper) (a : DepA ops) (i : Nat) (ds : List (Option Tmp)) (t : List PV) : guardD ops a i ds t none = some true := rfl
theorem guardD_some (ops : Array Oper) (a : DepA ops) (i : Nat) (ds : List (Option Tmp)) (t : List PV) (j : Nat) (want : Bool) : guardD ops a i ds t (some (j, want)) = if j < i then guardV (slotO t (ds[i - 1 - j]?).join) want else guardF ops a t j want := rfl
theorem guardV_bool (b want : Bool) : guardV (some (.i (.v (.bool b)))) want = some (b == want) := rfl
theorem guardV_tup (want : Bool) : guardV (some (.tup [])) want = some false := rfl
theorem join_some (d : Option Tmp) : Option.join (some d) = d := rfl

def lkQ (q : Ex → List PV → Heap → Prop) : Ex → List PV → Heap → Prop := q
section
variable {P : Program} {C : CallRel} {h0 : Heap} {base : Name} {Qf : Ex → List PV → Heap → Prop} {k : List It} {t : List PV} {h : Heap}
theorem X_lk (c : Code) : K P C h0 base Qf (.code c :: k) .normal t h = K P C h0 base Qf (.lk c .mk :: k) .normal t h := rfl
theorem X_seq (a b : Code) (d : Dep (.seq a b)) : K P C h0 base Qf (.lk (.seq a b) d :: k) .normal t h = K P C h0 base Qf (.lk a .mk :: .lk b .mk :: k) .normal t h := by
  show W P C h0 base a t h _ = W P C h0 base a t h _
  congr 1
  funext e t' h'
  cases e <;> rfl
theorem X_skip (d : Dep .skip) : K P C h0 base Qf (.lk .skip d :: k) .normal t h = K P C h0 base Qf k .normal t h := rfl
theorem X_exit (id : Nat) (d : Dep (.exit id)) : K P C h0 base Qf (.lk (.exit id) d :: k) .normal t h = K P C h0 base Qf k (.exit id) t h := rfl
theorem X_retc (d : Dep .ret) : K P C h0 base Qf (.lk .ret d :: k) .normal t h = K P C h0 base Qf k .ret t h := rfl
theorem X_exit_lk (c : Code) (d : Dep c) (j : Nat) : K P C h0 base Qf (.lk c d :: k) (.exit j) t h = K P C h0 base Qf k (.exit j) t h := rfl
theorem X_block (id : Nat) (b : Code) (d : Dep (.block id b)) : K P C h0 base Qf (.lk (.block id b) d :: k) .normal t h = K P C h0 base Qf (.lk b .mk :: .inB id :: k) .normal t h :=
  K_block id b
variable (P C h0 base Qf) in
def Xif (p : PV) (x y : Code) (dx : Dep x) (dy : Dep y) (k : List It) (t : List PV) (h : Heap) : Prop :=
  match p with
  | .i (.v (.bool b)) => if b = true then K P C h0 base Qf (.lk x dx :: k) .normal t h else K P C h0 base Qf (.lk y dy :: k) .normal t h
  | _ => False
theorem Xif_true (x y : Code) (dx : Dep x) (dy : Dep y) : Xif P C h0 base Qf (.i (.v (.bool true))) x y dx dy k t h = K P C h0 base Qf (.lk x .mk :: k) .normal t h := rfl
theorem Xif_false (x y : Code) (dx : Dep x) (dy : Dep y) : Xif P C h0 base Qf (.i (.v (.bool false))) x y dx dy k t h = K P C h0 base Qf (.lk y .mk :: k) .normal t h := rfl
theorem Xif_bool {b : Bool} {x y : Code} {dx : Dep x} {dy : Dep y} (h1 : b = true → K P C h0 base Qf (.lk x .mk :: k) .normal t h) (h2 : b = false → K P C h0 base Qf (.lk y .mk :: k) .normal t h) : Xif P C h0 base Qf (.i (.v (.bool b))) x y dx dy k t h := by
  cases b
  · exact h2 rfl
  · exact h1 rfl
theorem X_cond (c : Operand) (x y : Code) (d : Dep (.cond c x y)) : K P C h0 base Qf (.lk (.cond c x y) d :: k) .normal t h = Xif P C h0 base Qf (St.opnd t c) x y .mk .mk k t h := rfl
theorem X_region (id : Nat) (ops : Array Oper) (d : Dep (.region id ops false)) : K P C h0 base Qf (.lk (.region id ops false) d :: k) .normal t h = K P C h0 base Qf (.xops id ops [] 0 ops.toList ⟨XInv.start ops⟩ :: k) .normal t h := rfl
theorem X_regionL (id : Nat) (l : List Oper) (d : Dep (.region id l.toArray false)) : K P C h0 base Qf (.lk (.region id l.toArray false) d :: k) .normal t h = K P C h0 base Qf (.xops id l.toArray [] 0 l ⟨XInv.start l.toArray⟩ :: k) .normal t h := rfl
theorem X_drawL (id : Nat) (l : List Oper) (d : Dep (.region id l.toArray true)) : K P C h0 base Qf (.lk (.region id l.toArray true) d :: k) .normal t h = K P C h0 base Qf (.xdops id l.toArray [] 0 l ⟨XInv.start l.toArray⟩ [] :: k) .normal t h := K_draw id l.toArray
theorem X_nil (id : Nat) (ops : Array Oper) (ds : List (Option Tmp)) (i : Nat) (pf : XPf ops ds i []) : K P C h0 base Qf (.xops id ops ds i [] pf :: k) .normal t h = K P C h0 base Qf k .normal t h := rfl
variable (P C h0 base Qf) in
def Xg (g : Option Bool) (d : Option Tmp) (p : Op) (nm : Name) (R Rc : It) (k : List It) (t : List PV) (h : Heap) : Prop :=
  match g with
  | none => False
  | some g => if g = true then (if callB p = true then K P C h0 base Qf (Rc :: k) .normal t h else (match stepOp P h nm (St.opnd t) p with
      | some out => K P C h0 base Qf (R :: k) .normal (putT t d out.val) (h.ups out.ups)
      | none => False)) else K P C h0 base Qf (R :: k) .normal (putT t d undefP) h
variable (P C h0 base Qf) in
def Xo (b : Bool) (d : Option Tmp) (p : Op) (nm : Name) (R Rc : It) (k : List It) (t : List PV) (h : Heap) : Prop :=
  if b = true then K P C h0 base Qf (Rc :: k) .normal t h else (match stepOp P h nm (St.opnd t) p with
      | some out => K P C h0 base Qf (R :: k) .normal (putT t d out.val) (h.ups out.ups)
      | none => False)
variable (P C h0 base Qf) in
def Xr (r : Option Out) (d : Option Tmp) (R : It) (k : List It) (t : List PV) (h : Heap) : Prop :=
  match r with
  | some out => K P C h0 base Qf (R :: k) .normal (putT t d out.val) (h.ups out.ups)
  | none => False
theorem Xg_true (d : Option Tmp) (p : Op) (nm : Name) (R Rc : It) : Xg P C h0 base Qf (some true) d p nm R Rc k t h = Xo P C h0 base Qf (callB p) d p nm R Rc k t h := rfl
theorem Xg_false (d : Option Tmp) (p : Op) (nm : Name) (R Rc : It) : Xg P C h0 base Qf (some false) d p nm R Rc k t h = K P C h0 base Qf (R :: k) .normal (putT t d undefP) h := rfl
theorem Xo_true (d : Option Tmp) (p : Op) (nm : Name) (R Rc : It) : Xo P C h0 base Qf true d p nm R Rc k t h = K P C h0 base Qf (Rc :: k) .normal t h := rfl
theorem Xo_false (d : Option Tmp) (p : Op) (nm : Name) (R Rc : It) : Xo P C h0 base Qf false d p nm R Rc k t h = Xr P C h0 base Qf (stepOp P h nm (St.opnd t) p) d R k t h := rfl
theorem Xr_some (v : PV) (us : List (Name × Box)) (d : Option Tmp) (R : It) : Xr P C h0 base Qf (some ⟨v, us⟩) d R k t h = K P C h0 base Qf (R :: k) .normal (putT t d v) (h.ups us) := rfl
end
section
variable {P : Program} {C : CallRel} {h0 : Heap} {base : Name} {Qf : Ex → List PV → Heap → Prop} {k : List It} {t : List PV} {h : Heap}
theorem X_ops0 (id : Nat) (ops : Array Oper) (ds : List (Option Tmp)) (i : Nat) (o : Oper) (os : List Oper) (pf : XPf ops ds i (o :: os)) :
    K P C h0 base Qf (.xops id ops ds i (o :: os) pf :: k) .normal t h = Xg P C h0 base Qf (guardD ops .mk i ds t o.guard) o.dst o.op ((id, i) :: base) (.xops id ops (o.dst :: ds) (i + 1) os ⟨pf.h.step⟩) (.xcall id ops ds i o os pf) k t h := by
  show K P C h0 base Qf (.ops id ops i (o :: os) :: k) .normal t h = _
  rw [K_ops, guardD_eq pf.h]
  unfold Kgrd Xg
  cases guardD ops .mk i ds t o.guard with
  | none => rfl
  | some g =>
    cases g with
    | false => rfl
    | true =>
      simp only [if_true]
      rw [K_one]
      unfold Kone
      rfl
theorem X_ops (id : Nat) (ops : Array Oper) (ds : List (Option Tmp)) (i : Nat) (d : Option Tmp) (p : Op) (ty : TypeId) (ps : String) (af : Array Edge) (g : Option (Nat × Bool)) (os : List Oper) (pf : XPf ops ds i ({ dst := d, op := p, type := ty, pos := ps, after := af, guard := g } :: os)) :
    K P C h0 base Qf (.xops id ops ds i ({ dst := d, op := p, type := ty, pos := ps, after := af, guard := g } :: os) pf :: k) .normal t h =
    Xg P C h0 base Qf (guardD ops .mk i ds t g) d p ((id, i) :: base) (.xops id ops (d :: ds) (i + 1) os ⟨pf.h.step⟩) (.xcall id ops ds i { dst := d, op := p, type := ty, pos := ps, after := af, guard := g } os pf) k t h :=
  X_ops0 id ops ds i _ os pf
variable (P C h0 base Qf) in
def Xdg (g : Option Bool) (d : Option Tmp) (p : Op) (nm : Name) (R : List Keys → It) (Rc : It) (acc : List Keys) (k : List It) (t : List PV) (h : Heap) : Prop :=
  match g with
  | none => False
  | some g => if g = true then (if callB p = true then K P C h0 base Qf (Rc :: k) .normal t h else (match stepOp P h nm (St.opnd t) p with
      | some out => K P C h0 base Qf (R ((keysU out.ups, keysT nm ((opnL p).map (St.opnd t))) :: acc) :: k) .normal (putT t d out.val) (h.ups out.ups)
      | none => False)) else K P C h0 base Qf (R (([], []) :: acc) :: k) .normal (putT t d undefP) h
/-- The rest of a region whose order is open. -/
def mkD (id : Nat) (ops : Array Oper) (ds : List (Option Tmp)) (i : Nat) (os : List Oper) (pf : XPf ops ds i os) : List Keys → It := fun acc => .xdops id ops ds i os pf acc
variable (P C h0 base Qf) in
def Xdo (b : Bool) (d : Option Tmp) (p : Op) (nm : Name) (R : List Keys → It) (Rc : It) (acc : List Keys) (k : List It) (t : List PV) (h : Heap) : Prop :=
  if b = true then K P C h0 base Qf (Rc :: k) .normal t h else (match stepOp P h nm (St.opnd t) p with
      | some out => K P C h0 base Qf (R ((keysU out.ups, keysT nm ((opnL p).map (St.opnd t))) :: acc) :: k) .normal (putT t d out.val) (h.ups out.ups)
      | none => False)
variable (P C h0 base Qf) in
def Xdr (r : Option Out) (d : Option Tmp) (p : Op) (nm : Name) (R : List Keys → It) (acc : List Keys) (k : List It) (t : List PV) (h : Heap) : Prop :=
  match r with
  | some out => K P C h0 base Qf (R ((keysU out.ups, keysT nm ((opnL p).map (St.opnd t))) :: acc) :: k) .normal (putT t d out.val) (h.ups out.ups)
  | none => False
theorem Xdg_true (d : Option Tmp) (p : Op) (nm : Name) (R : List Keys → It) (Rc : It) (acc : List Keys) : Xdg P C h0 base Qf (some true) d p nm R Rc acc k t h = Xdo P C h0 base Qf (callB p) d p nm R Rc acc k t h := rfl
theorem Xdg_false (d : Option Tmp) (p : Op) (nm : Name) (id : Nat) (ops : Array Oper) (ds : List (Option Tmp)) (i : Nat) (os : List Oper) (pf : XPf ops ds i os) (Rc : It) (acc : List Keys) : Xdg P C h0 base Qf (some false) d p nm (mkD id ops ds i os pf) Rc acc k t h = K P C h0 base Qf (.xdops id ops ds i os pf (([], []) :: acc) :: k) .normal (putT t d undefP) h := rfl
theorem Xdo_true (d : Option Tmp) (p : Op) (nm : Name) (R : List Keys → It) (Rc : It) (acc : List Keys) : Xdo P C h0 base Qf true d p nm R Rc acc k t h = K P C h0 base Qf (Rc :: k) .normal t h := rfl
theorem Xdo_false (d : Option Tmp) (p : Op) (nm : Name) (R : List Keys → It) (Rc : It) (acc : List Keys) : Xdo P C h0 base Qf false d p nm R Rc acc k t h = Xdr P C h0 base Qf (stepOp P h nm (St.opnd t) p) d p nm R acc k t h := rfl
theorem Xdr_some (v : PV) (us : List (Name × Box)) (d : Option Tmp) (p : Op) (nm : Name) (id : Nat) (ops : Array Oper) (ds : List (Option Tmp)) (i : Nat) (os : List Oper) (pf : XPf ops ds i os) (acc : List Keys) : Xdr P C h0 base Qf (some ⟨v, us⟩) d p nm (mkD id ops ds i os pf) acc k t h =
    K P C h0 base Qf (.xdops id ops ds i os pf ((keysU us, keysT nm ((opnL p).map (St.opnd t))) :: acc) :: k) .normal (putT t d v) (h.ups us) := rfl
theorem X_dops0 (id : Nat) (ops : Array Oper) (ds : List (Option Tmp)) (i : Nat) (o : Oper) (os : List Oper) (pf : XPf ops ds i (o :: os)) (acc : List Keys) :
    K P C h0 base Qf (.xdops id ops ds i (o :: os) pf acc :: k) .normal t h = Xdg P C h0 base Qf (guardD ops .mk i ds t o.guard) o.dst o.op ((id, i) :: base) (mkD id ops (o.dst :: ds) (i + 1) os ⟨pf.h.step⟩) (.xdcall id ops ds i o os pf acc) acc k t h := by
  show K P C h0 base Qf (.dops id ops i (o :: os) acc :: k) .normal t h = _
  rw [K_dops, guardD_eq pf.h]
  unfold Kdgrd Xdg
  cases guardD ops .mk i ds t o.guard with
  | none => rfl
  | some g =>
    cases g with
    | false => rfl
    | true =>
      simp only [if_true]
      rw [K_done]
      unfold Kdone
      split
      · rfl
      · unfold Kdres
        cases stepOp P h ((id, i) :: base) (St.opnd t) o.op with
        | none => rfl
        | some out =>
          simp only
          rw [opndsP, opnL_eq]
          rfl
theorem X_dops (id : Nat) (ops : Array Oper) (ds : List (Option Tmp)) (i : Nat) (d : Option Tmp) (p : Op) (ty : TypeId) (ps : String) (af : Array Edge) (g : Option (Nat × Bool)) (os : List Oper) (pf : XPf ops ds i ({ dst := d, op := p, type := ty, pos := ps, after := af, guard := g } :: os)) (acc : List Keys) :
    K P C h0 base Qf (.xdops id ops ds i ({ dst := d, op := p, type := ty, pos := ps, after := af, guard := g } :: os) pf acc :: k) .normal t h =
    Xdg P C h0 base Qf (guardD ops .mk i ds t g) d p ((id, i) :: base) (mkD id ops (d :: ds) (i + 1) os ⟨pf.h.step⟩) (.xdcall id ops ds i { dst := d, op := p, type := ty, pos := ps, after := af, guard := g } os pf acc) acc k t h :=
  X_dops0 id ops ds i _ os pf acc
def drawX (ops : Array Oper) (_ : DepA ops) (acc : List Keys) : Prop := drawK ops acc.reverse = true
theorem X_dnil (id : Nat) (ops : Array Oper) (ds : List (Option Tmp)) (i : Nat) (pf : XPf ops ds i []) (acc : List Keys) : K P C h0 base Qf (.xdops id ops ds i [] pf acc :: k) .normal t h = (drawX ops .mk acc ∧ K P C h0 base Qf k .normal t h) := K_dops_nil id ops i acc
/-- A call of a function by its name. -/
theorem X_call_fn {id : Nat} {ops : Array Oper} {ds : List (Option Tmp)} {i : Nat} {d : Option Tmp} {p : Op} {ty : TypeId} {ps : String} {af : Array Edge} {g0 : Option (Nat × Bool)} {os : List Oper} {pf : XPf ops ds i ({ dst := d, op := p, type := ty, pos := ps, after := af, guard := g0 } :: os)} {g : FuncId} {as : Array Operand} {ts : Array TypeId} {largs : List PV} {v : PV} (ho : p = .call ⟨.value (.func g), as, ts⟩)
    (hl : mapO (lowerA h) (as.toList.map (St.opnd t)) = some largs) (hs : CallsP P g largs v) (he : enterB P g = true)
    (hk : K P (CallR P) h0 base Qf (.xops id ops (d :: ds) (i + 1) os ⟨pf.h.step⟩ :: k) .normal (putT t d v) (h.ups (if scalT v then [] else freezeOf h ((as.toList.map (St.opnd t)).flatMap boxesA)))) :
    K P (CallR P) h0 base Qf (.xcall id ops ds i { dst := d, op := p, type := ty, pos := ps, after := af, guard := g0 } os pf :: k) .normal t h :=
  K_call_fn (i := i) (ops := ops) (id := id) (os := os) (o := { dst := d, op := p, type := ty, pos := ps, after := af, guard := g0 }) hs ho he hl hk
theorem X_call_fn2 {id : Nat} {ops : Array Oper} {ds : List (Option Tmp)} {i : Nat} {d : Option Tmp} {p : Op} {ty : TypeId} {ps : String} {af : Array Edge} {g0 : Option (Nat × Bool)} {os : List Oper} {pf : XPf ops ds i ({ dst := d, op := p, type := ty, pos := ps, after := af, guard := g0 } :: os)} {g : FuncId} {as : Array Operand} {ts : Array TypeId} (ho : p = .call ⟨.value (.func g), as, ts⟩) (he : enterB P g = true)
    (hk : ∃ largs, mapO (lowerA h) (as.toList.map (St.opnd t)) = some largs ∧ ∃ v, CallsP P g largs v ∧ K P (CallR P) h0 base Qf (.xops id ops (d :: ds) (i + 1) os ⟨pf.h.step⟩ :: k) .normal (putT t d v) (h.ups (if scalT v then [] else freezeOf h ((as.toList.map (St.opnd t)).flatMap boxesA)))) :
    K P (CallR P) h0 base Qf (.xcall id ops ds i { dst := d, op := p, type := ty, pos := ps, after := af, guard := g0 } os pf :: k) .normal t h := by
  obtain ⟨largs, hl, v, hs, hk⟩ := hk
  exact X_call_fn ho hl hs he hk
theorem X_dcall_fn {id : Nat} {ops : Array Oper} {ds : List (Option Tmp)} {i : Nat} {d : Option Tmp} {p : Op} {ty : TypeId} {ps : String} {af : Array Edge} {g0 : Option (Nat × Bool)} {os : List Oper} {pf : XPf ops ds i ({ dst := d, op := p, type := ty, pos := ps, after := af, guard := g0 } :: os)} {acc : List Keys} {g : FuncId} {as : Array Operand} {ts : Array TypeId} {largs : List PV} {v : PV} (ho : p = .call ⟨.value (.func g), as, ts⟩)
    (hl : mapO (lowerA h) (as.toList.map (St.opnd t)) = some largs) (hs : CallsP P g largs v) (he : enterB P g = true)
    (hk : K P (CallR P) h0 base Qf (.xdops id ops (d :: ds) (i + 1) os ⟨pf.h.step⟩ ((keysU (if scalT v then [] else freezeOf h ((as.toList.map (St.opnd t)).flatMap boxesA)), keyN ((id, i) :: base) :: (((as.toList.map (St.opnd t)).flatMap boxesA).map keyN ++ keysL ((opnL p).map (St.opnd t)))) :: acc) :: k) .normal (putT t d v)
      (h.ups (if scalT v then [] else freezeOf h ((as.toList.map (St.opnd t)).flatMap boxesA)))) :
    K P (CallR P) h0 base Qf (.xdcall id ops ds i { dst := d, op := p, type := ty, pos := ps, after := af, guard := g0 } os pf acc :: k) .normal t h :=
  K_dcall_fn (i := i) (ops := ops) (id := id) (os := os) (o := { dst := d, op := p, type := ty, pos := ps, after := af, guard := g0 }) hs ho he hl hk
theorem X_dcall_fn2 {id : Nat} {ops : Array Oper} {ds : List (Option Tmp)} {i : Nat} {d : Option Tmp} {p : Op} {ty : TypeId} {ps : String} {af : Array Edge} {g0 : Option (Nat × Bool)} {os : List Oper} {pf : XPf ops ds i ({ dst := d, op := p, type := ty, pos := ps, after := af, guard := g0 } :: os)} {acc : List Keys} {g : FuncId} {as : Array Operand} {ts : Array TypeId} (ho : p = .call ⟨.value (.func g), as, ts⟩) (he : enterB P g = true)
    (hk : ∃ largs, mapO (lowerA h) (as.toList.map (St.opnd t)) = some largs ∧ ∃ v, CallsP P g largs v ∧ K P (CallR P) h0 base Qf (.xdops id ops (d :: ds) (i + 1) os ⟨pf.h.step⟩ ((keysU (if scalT v then [] else freezeOf h ((as.toList.map (St.opnd t)).flatMap boxesA)), keyN ((id, i) :: base) :: (((as.toList.map (St.opnd t)).flatMap boxesA).map keyN ++ keysL ((opnL p).map (St.opnd t)))) :: acc) :: k) .normal (putT t d v)
      (h.ups (if scalT v then [] else freezeOf h ((as.toList.map (St.opnd t)).flatMap boxesA)))) :
    K P (CallR P) h0 base Qf (.xdcall id ops ds i { dst := d, op := p, type := ty, pos := ps, after := af, guard := g0 } os pf acc :: k) .normal t h := by
  obtain ⟨largs, hl, v, hs, hk⟩ := hk
  exact X_dcall_fn ho hl hs he hk
theorem X_call_pure {id : Nat} {ops : Array Oper} {ds : List (Option Tmp)} {i : Nat} {d : Option Tmp} {p : Op} {ty : TypeId} {ps : String} {af : Array Edge} {g0 : Option (Nat × Bool)} {os : List Oper} {pf : XPf ops ds i ({ dst := d, op := p, type := ty, pos := ps, after := af, guard := g0 } :: os)} {c : Call} {g : FuncId} {args largs : List PV} {v : PV} (hs : CallsP P g largs v) (ho : p = .call c) (hcal : calleeOf t c = some (g, args)) (he : enterB P g = true)
    (hl : mapO (lowerA h) args = some largs)
    (hk : K P (CallR P) h0 base Qf (.xops id ops (d :: ds) (i + 1) os ⟨pf.h.step⟩ :: k) .normal (putT t d v) (h.ups (if scalT v then [] else freezeOf h (args.flatMap boxesA)))) :
    K P (CallR P) h0 base Qf (.xcall id ops ds i { dst := d, op := p, type := ty, pos := ps, after := af, guard := g0 } os pf :: k) .normal t h :=
  K_call_pure (i := i) (ops := ops) (id := id) (os := os) (o := { dst := d, op := p, type := ty, pos := ps, after := af, guard := g0 }) hs ho hcal he hl hk
/-- A call of a function value. -/
theorem X_call_val2 {id : Nat} {ops : Array Oper} {ds : List (Option Tmp)} {i : Nat} {d : Option Tmp} {p : Op} {ty : TypeId} {ps : String} {af : Array Edge} {g0 : Option (Nat × Bool)} {os : List Oper} {pf : XPf ops ds i ({ dst := d, op := p, type := ty, pos := ps, after := af, guard := g0 } :: os)} {f : Operand} {as : Array Operand} {ts : Array TypeId} (ho : p = .call ⟨.value f, as, ts⟩)
    (hk : ∃ g, St.opnd t f = .i (.v (.func (.func g) #[] #[])) ∧ enterB P g = true ∧ ∃ largs, mapO (lowerA h) (as.toList.map (St.opnd t)) = some largs ∧ ∃ v, CallsP P g largs v ∧ K P (CallR P) h0 base Qf (.xops id ops (d :: ds) (i + 1) os ⟨pf.h.step⟩ :: k) .normal (putT t d v) (h.ups (if scalT v then [] else freezeOf h ((as.toList.map (St.opnd t)).flatMap boxesA)))) :
    K P (CallR P) h0 base Qf (.xcall id ops ds i { dst := d, op := p, type := ty, pos := ps, after := af, guard := g0 } os pf :: k) .normal t h := by
  obtain ⟨g, hv, he, largs, hl, v, hs, hk⟩ := hk
  refine K_call_pure (i := i) (ops := ops) (id := id) (os := os) (o := { dst := d, op := p, type := ty, pos := ps, after := af, guard := g0 }) hs ho ?_ he hl hk
  simp only [calleeOf, hv]
  rfl
theorem Xr_eq {r : Option Out} {out : Out} {d : Option Tmp} {R : It} (hr : r = some out) (hk : K P C h0 base Qf (R :: k) .normal (putT t d out.val) (h.ups out.ups)) : Xr P C h0 base Qf r d R k t h := by
  subst hr; exact hk
theorem X_append_one {R : It} {d : Option Tmp} {s b : Name} {ty : TypeId} (e : TypeId) (zs : List Value) {n z : Nat} {cs : List IV} (xs : List IV) {fz : Bool}
    (he : elemB P ty = some e) (hz : zeroB P e = some zs) (hzl : zs.length = z) (hz0 : 0 < z) (hn : cs.length = n * z) (hs : h s = if n = 0 then none else some (.row false cs)) (hb : h b = some (.row fz xs)) (hx : xs.length = z)
    (hby : (n + 1) * P.bytesOf e ≤ 140737488355328) (hl : n + 1 ≤ maxLen)
    (hk : K P C h0 base Qf (R :: k) .normal (putT t d (rowP s z (n + 1) (cs ++ xs))) (h.put s (.row false (cs ++ xs)))) :
    Xr P C h0 base Qf (opAppend P h s ty (rowP s z n cs) (.view b 0 z 1 z)) d R k t h := by
  refine Xr_eq (append_row he hz hzl hz0 hn hs rfl (m := 1) rfl (by decide) (xs := xs) ?_ hby hl) hk
  simp only [SK.cells, hb, hx, Nat.zero_add, Nat.one_mul, Nat.le_refl, and_self, if_true, List.drop_zero]
  rw [← hx, List.take_length]
theorem X_append_list {R : It} {d : Option Tmp} {s : Name} {ty : TypeId} (e : TypeId) (zs : List Value) {n z m : Nat} {cs : List IV} (xs : List IV)
    (he : elemB P ty = some e) (hz : zeroB P e = some zs) (hzl : zs.length = z) (hz0 : 0 < z) (hn : cs.length = n * z) (hs : h s = if n = 0 then none else some (.row false cs)) (hm : 0 < m) (hx : xs.length = m * z)
    (hby : (n + m) * P.bytesOf e ≤ 140737488355328) (hl : n + m ≤ maxLen)
    (hk : K P C h0 base Qf (R :: k) .normal (putT t d (rowP s z (n + m) (cs ++ xs))) (h.put s (.row false (cs ++ xs)))) :
    Xr P C h0 base Qf (opAppend P h s ty (rowP s z n cs) (.i (.l m xs))) d R k t h := by
  refine Xr_eq (append_row he hz hzl hz0 hn hs (k2 := .imm m xs) (by
    unfold PV.sk; rfl) (m := m) rfl hm (xs := xs) ?_ hby hl) hk
  simp only [SK.cells, hx, if_true]
/-- What a run is for, kept from being looked into. -/
inductive DepQ (q : Ex → List PV → Heap → Prop) : Type where
  | mk
def LkQ (q : Ex → List PV → Heap → Prop) (_ : DepQ q) : Ex → List PV → Heap → Prop := q
theorem LkQ_at (q : Ex → List PV → Heap → Prop) (d : DepQ q) (e : Ex) : LkQ q d e t h = q e t h := rfl
theorem X_lockQ {c : Code} {e : Ex} (hk : K P C h0 base (LkQ Qf .mk) [.lk c .mk] e t h) : K P C h0 base Qf [.code c] e t h := by
  cases e <;> exact hk
end
section
variable {P : Program} {C : CallRel} {h0 : Heap} {base : Name} {Qf : Ex → List PV → Heap → Prop} {k : List It} {h : Heap}
theorem X_loopH {b : Code} {d : Dep (.loop b)} {n : Nat} {f : Nat → PV} (L : List Nat) (bs : List Name) (a m : Nat) (Φ : Nat → Prop) (u : Nat → List (Nat × PV)) (hh : Nat → Heap) (h1 : FgT h0 bs L (toL n f) h) (h2 : EqT L (toL n f) (updl f (u a))) (h3 : h.drop bs = hh a) (ha : a ≤ m) (hΦ : Φ a) (hL : ∀ i ∈ L, i < n)
    (hr : ∀ j, j ≤ m → Φ j → K P C h0 base (LkQ (RoundH P C h0 base Qf k n L bs m Φ (fun j => updl f (u j)) hh j) .mk) [.lk b .mk] .normal (toL n (pickF L (updl f (u j)))) (hh j)) : K P C h0 base Qf (.lk (.loop b) d :: k) .normal (toL n f) h :=
  K_loopH L bs a m Φ u hh h1 h2 h3 ha hΦ hL hr
theorem X_startP {f : FuncId} {fn : Func} {c : Code} {args : List PV} {v : PV} {n m : Nat} {rs : List ResultVar} (hf : P.funcs[f]? = some fn) (hb : fn.body = some c) (hn : fn.ntmps = n) (hrs : fn.results.toList = rs) (hm : args.length = m) (hmn : m ≤ n)
    (hw : ∀ base, K P (CallR P) Heap.none base (LkQ (fun e t hh => (e = .normal ∨ e = .ret) ∧ (resB P rs t hh).bind (lowerT hh) = some v) .mk) [.lk c .mk] .normal (toL n (argsF args)) Heap.none) : CallsP P f args v :=
  CallsP.startF hf hb hn hrs hm hmn hw
end
def frz : Option Box → Name → List (Name × Box)
  | some (.row _ cs), b => [(b, .row true cs)]
  | _, _ => []
theorem frz_row (fz : Bool) (cs : List IV) (b : Name) : frz (some (.row fz cs)) b = [(b, .row true cs)] := rfl
theorem freezeOf_nil (h : Heap) : freezeOf h [] = [] := rfl
theorem freezeOf_row (h : Heap) (b : Name) (bs : List Name) : freezeOf h (b :: bs) = frz (h b) b ++ freezeOf h bs := by
  unfold freezeOf
  rw [List.filterMap_cons]
  cases h b with
  | none => rfl
  | some x => cases x <;> rfl
theorem cellsP_row (s : Name) (z n : Nat) (cs : List IV) : cellsP (rowP s z n cs) = [rowP s z n cs] := by unfold rowP; split <;> rfl
theorem oneP_row (s : Name) (z n : Nat) (cs : List IV) : oneP (rowP s z n cs) = true := by unfold rowP; split <;> rfl
def simx :=
  And.intro @X_seq <| And.intro @X_skip <| And.intro @X_exit <| And.intro @X_retc <| And.intro @X_exit_lk <| And.intro @X_block <| And.intro @Xif_true <| And.intro @Xif_false <| And.intro @X_cond <| And.intro @X_regionL <| And.intro @X_drawL <| And.intro @X_nil <| And.intro @Xg_true <| And.intro @Xg_false <| And.intro @Xo_true <| And.intro @Xo_false <| And.intro @Xr_some <| And.intro @X_ops <| And.intro @Xdg_true <| And.intro @Xdg_false <| And.intro @Xdo_true <| And.intro @Xdo_false <| And.intro @Xdr_some <| And.intro @X_dops <| And.intro @X_dnil <| And.intro @cellsP_row <| And.intro @oneP_row <| And.intro @slotO_some <| And.intro @slotO_none <| And.intro @freezeOf_nil <| And.intro @freezeOf_row <| And.intro @frz_row <| And.intro @guardD_none <| And.intro @guardD_some <| And.intro @guardV_bool <| And.intro @guardV_tup <| And.intro @join_some <| @LkQ_at
end Go.Proofs.Ytnnkoghmglpnmaa.TM
